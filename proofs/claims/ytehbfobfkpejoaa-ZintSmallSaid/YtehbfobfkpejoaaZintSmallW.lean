/-
  Contracts of the walk of the statement ZintSmall.
-/
import Derived.Test.YtehbfobfkpejoaaIntH
namespace Go.Proofs.Ytehbfobfkpejoaa
open Go.RowKit

set_option maxRecDepth 100000 in
set_option maxHeartbeats 4000000 in
theorem zintSmall_walk (N : Int) (s : Bool) (ao : Option Addr) (c : Nat) (zs : List Nat) (w : World) (hN : -9223372036854775808 ≤ N ∧ N ≤ 9223372036854775807) (h : Rd w ao c zs) :
    Calls Try.prog 5 #[.int .i64 N, .agg #[.bool s, .slice ao zs.length c]] w (GotP (.bool true) w) := by
  obtain ⟨⟨v, ok⟩, hs⟩ : ∃ p, smallZ (iv s zs) = p := ⟨_, rfl⟩
  replace hs := Lib.hid hs
  by_cases hbig : 60 < zs.length
  · go_enter Try.func5, Try.ntmps5
    go_wp2_with fail
    refine (counting_any _).mono ?_
    rintro e w1 ⟨rfl, xx⟩
    have hE : Ext w w1 := Ext.trans ((Ext.refl _).alloc _) xx
    have hz1 : w.heap.size + 1 ≤ w1.heap.size := (by have hq := Ext.size xx; (try simp at hq); omega)
    have hb0 : w.heap.size < w1.heap.size := (by omega)
    have q0_1 := Ext.cell (p := ⟨w.heap.size, 1, none⟩) (v := .slice ao zs.length c) xx (by first | exact True | go_simp | (repeat (first | assumption | (refine (World.cell?_setCell_far _ _ _ _ (by simp <;> omega)).trans ?_) | (refine (World.cell?_alloc_lt _ _ _ (World.block_lt_of_cell? _ _ (by assumption))).trans ?_) | go_simp)))
    clear xx
    go_wp2_with fail
    go_ret
    exact ⟨rfl, hE⟩
  · go_enter Try.func5, Try.ntmps5
    go_wp2_with fail
    refine (counting_any _).mono ?_
    rintro e w1 ⟨rfl, xx⟩
    have hE : Ext w w1 := Ext.trans ((Ext.refl _).alloc _) xx
    have hz1 : w.heap.size + 1 ≤ w1.heap.size := (by have hq := Ext.size xx; (try simp at hq); omega)
    have hb0 : w.heap.size < w1.heap.size := (by omega)
    have q0_0 := Ext.cell (p := ⟨w.heap.size, 0, none⟩) (v := .bool s) xx (by first | exact True | go_simp | (repeat (first | assumption | (refine (World.cell?_setCell_far _ _ _ _ (by simp <;> omega)).trans ?_) | (refine (World.cell?_alloc_lt _ _ _ (World.block_lt_of_cell? _ _ (by assumption))).trans ?_) | go_simp)))
    have q0_1 := Ext.cell (p := ⟨w.heap.size, 1, none⟩) (v := .slice ao zs.length c) xx (by first | exact True | go_simp | (repeat (first | assumption | (refine (World.cell?_setCell_far _ _ _ _ (by simp <;> omega)).trans ?_) | (refine (World.cell?_alloc_lt _ _ _ (World.block_lt_of_cell? _ _ (by assumption))).trans ?_) | go_simp)))
    clear xx
    go_wp2_with fail
    refine (ZSmall_any s _ _ _ zs _ v ok rfl (h.ext hE) (by first | omega | (simp; done) | (simp; omega)) hs.out).mono ?_
    rintro e w2 ⟨rfl, xx⟩
    replace hE := Ext.trans hE xx
    have hz2 : w1.heap.size ≤ w2.heap.size := (by have hq := Ext.size xx; (try simp at hq); omega)
    have hb0 : w.heap.size < w2.heap.size := (by omega)
    have q0_0 := Ext.cell (p := ⟨w.heap.size, 0, none⟩) (v := .bool s) xx q0_0
    have q0_1 := Ext.cell (p := ⟨w.heap.size, 1, none⟩) (v := .slice ao zs.length c) xx q0_1
    clear xx
    go_wp2_with fail
    refine (RSmall_any s _ _ _ zs _ v ok rfl (h.ext hE) (by first | omega | (simp; done) | (simp; omega)) hs.out).mono ?_
    rintro e w3 ⟨rfl, xx⟩
    replace hE := Ext.trans hE xx
    have hz3 : w2.heap.size ≤ w3.heap.size := (by have hq := Ext.size xx; (try simp at hq); omega)
    have hb0 : w.heap.size < w3.heap.size := (by omega)
    have q0_0 := Ext.cell (p := ⟨w.heap.size, 0, none⟩) (v := .bool s) xx q0_0
    have q0_1 := Ext.cell (p := ⟨w.heap.size, 1, none⟩) (v := .slice ao zs.length c) xx q0_1
    clear xx
    go_wp2_with fail
    refine (ZOf_any N _ ⟨by omega, by omega⟩).mono ?_
    rintro e w4 ⟨r4s, r4a, r4c, r4z, r4B, rfl, r4b, r4o, r4k, r4v, r4l, xx⟩
    try simp at r4b
    try simp only [List.length_cons, List.length_nil] at r4l
    replace hE := Ext.trans hE xx
    have hz4 : w3.heap.size ≤ w4.heap.size := (by have hq := Ext.size xx; (try simp at hq); omega)
    have hb0 : w.heap.size < w4.heap.size := (by omega)
    have q0_0 := Ext.cell (p := ⟨w.heap.size, 0, none⟩) (v := .bool s) xx q0_0
    have q0_1 := Ext.cell (p := ⟨w.heap.size, 1, none⟩) (v := .slice ao zs.length c) xx q0_1
    clear xx
    go_wp2_with fail
    refine (ZSmall_any r4s _ _ _ r4z _ N true rfl r4o.rd (by first | omega | (simp; done) | (simp; omega)) (by rw [r4v.out]; exact small_yes rfl (by omega) (by omega))).mono ?_
    rintro e w5 ⟨rfl, xx⟩
    replace hE := Ext.trans hE xx
    have hz5 : w4.heap.size ≤ w5.heap.size := (by have hq := Ext.size xx; (try simp at hq); omega)
    have hb0 : w.heap.size < w5.heap.size := (by omega)
    have q0_0 := Ext.cell (p := ⟨w.heap.size, 0, none⟩) (v := .bool s) xx q0_0
    have q0_1 := Ext.cell (p := ⟨w.heap.size, 1, none⟩) (v := .slice ao zs.length c) xx q0_1
    clear xx
    go_wp2_with fail
    go_region_held3 (fun w' => w'.cell? ⟨w.heap.size, 0, none⟩ = some (.bool s) ∧ w'.cell? ⟨w.heap.size, 1, none⟩ = some (.slice ao zs.length c)) (first | exact ⟨q0_0, q0_1⟩ | (go_keep; done) | ((try dsimp only); (repeat' apply And.intro) <;> (repeat (first | assumption | (refine (World.cell?_setCell_far _ _ _ _ (by simp <;> omega)).trans ?_) | (refine (World.cell?_alloc_lt _ _ _ (World.block_lt_of_cell? _ _ (by assumption))).trans ?_) | go_simp))))
      (first
            | (go_at_call 40; (with_reducible refine (ZOf_any N _ ⟨by omega, by omega⟩).mono ?_); rintro e w6 ⟨r6s, r6a, r6c, r6z, r6B, rfl, r6b, r6o, r6k, r6v, r6l, xx⟩; (try simp at r6b); (try simp only [List.length_cons, List.length_nil] at r6l); replace hE := Ext.trans hE.drew xx; have hz6 : w5.heap.size ≤ w6.heap.size := (by have hq := Ext.size xx; (try simp at hq); omega); have hb0 : w.heap.size < w6.heap.size := (by omega); have q0_0 := Ext.cell (p := ⟨w.heap.size, 0, none⟩) (v := .bool s) xx (by first | exact q0_0 | go_simp | (repeat (first | assumption | (refine (World.cell?_setCell_far _ _ _ _ (by simp <;> omega)).trans ?_) | (refine (World.cell?_alloc_lt _ _ _ (World.block_lt_of_cell? _ _ (by assumption))).trans ?_) | go_simp))); have q0_1 := Ext.cell (p := ⟨w.heap.size, 1, none⟩) (v := .slice ao zs.length c) xx (by first | exact q0_1 | go_simp | (repeat (first | assumption | (refine (World.cell?_setCell_far _ _ _ _ (by simp <;> omega)).trans ?_) | (refine (World.cell?_alloc_lt _ _ _ (World.block_lt_of_cell? _ _ (by assumption))).trans ?_) | go_simp))); clear xx)
            | (go_at_call 41; (with_reducible refine (ROf_any N _ ⟨by omega, by omega⟩).mono ?_); rintro e w7 ⟨r7s, r7a, r7c, r7z, r7B, rfl, r7b, r7o, r7k, r7v, r7l, xx⟩; (try simp at r7b); (try simp only [List.length_cons, List.length_nil] at r7l); replace hE := Ext.trans hE xx; have hz7 : w6.heap.size ≤ w7.heap.size := (by have hq := Ext.size xx; (try simp at hq); omega); replace r6o := Own.ext r6o xx; have hb0 : w.heap.size < w7.heap.size := (by omega); have q0_0 := Ext.cell (p := ⟨w.heap.size, 0, none⟩) (v := .bool s) xx q0_0; have q0_1 := Ext.cell (p := ⟨w.heap.size, 1, none⟩) (v := .slice ao zs.length c) xx q0_1; clear xx)
            | (go_at_call 16; (with_reducible refine (same2_yes r6s _ _ _ r6z r7s _ _ _ r7z _ rfl rfl r6o.rd r7o.rd (by first | omega | (simp; done) | (simp; omega)) (by first | omega | (simp; done) | (simp; omega)) r6k.out r7k.out (r6v.out.trans r7v.out.symm)).mono ?_); rintro e w8 ⟨rfl, xx⟩; replace hE := Ext.trans hE xx; have hz8 : w7.heap.size ≤ w8.heap.size := (by have hq := Ext.size xx; (try simp at hq); omega); have hb0 : w.heap.size < w8.heap.size := (by omega); have q0_0 := Ext.cell (p := ⟨w.heap.size, 0, none⟩) (v := .bool s) xx q0_0; have q0_1 := Ext.cell (p := ⟨w.heap.size, 1, none⟩) (v := .slice ao zs.length c) xx q0_1; clear xx)
            | (go_at_call 42; (with_reducible refine (From_any s _ _ _ zs _ rfl (h.ext hE) (by first | omega | (simp; done) | (simp; omega))).mono ?_); rintro e w9 ⟨r9s, r9a, r9c, r9z, r9B, rfl, r9b, r9o, r9k, r9v, r9l, xx⟩; (try simp at r9b); (try simp only [List.length_cons, List.length_nil] at r9l); replace hE := Ext.trans hE xx; have hz9 : w8.heap.size ≤ w9.heap.size := (by have hq := Ext.size xx; (try simp at hq); omega); have hb0 : w.heap.size < w9.heap.size := (by omega); have q0_0 := Ext.cell (p := ⟨w.heap.size, 0, none⟩) (v := .bool s) xx q0_0; have q0_1 := Ext.cell (p := ⟨w.heap.size, 1, none⟩) (v := .slice ao zs.length c) xx q0_1; clear xx)
            | (go_at_call 21; (with_reducible refine (RClean_any s _ _ _ zs _ rfl (h.ext hE) (by first | omega | (simp; done) | (simp; omega))).mono ?_); rintro e w10 ⟨r10s, r10a, r10c, r10z, r10B, rfl, r10b, r10o, r10k, r10v, r10l, xx⟩; (try simp at r10b); (try simp only [List.length_cons, List.length_nil] at r10l); replace hE := Ext.trans hE xx; have hz10 : w9.heap.size ≤ w10.heap.size := (by have hq := Ext.size xx; (try simp at hq); omega); replace r9o := Own.ext r9o xx; have hb0 : w.heap.size < w10.heap.size := (by omega); have q0_0 := Ext.cell (p := ⟨w.heap.size, 0, none⟩) (v := .bool s) xx q0_0; have q0_1 := Ext.cell (p := ⟨w.heap.size, 1, none⟩) (v := .slice ao zs.length c) xx q0_1; clear xx)
            | (go_at_call 16; (with_reducible refine (same2_yes r9s _ _ _ r9z r10s _ _ _ r10z _ rfl rfl r9o.rd r10o.rd (by first | omega | (simp; done) | (simp; omega)) (by first | omega | (simp; done) | (simp; omega)) r9k.out r10k.out (r9v.out.trans r10v.out.symm)).mono ?_); rintro e w11 ⟨rfl, xx⟩; replace hE := Ext.trans hE xx; have hz11 : w10.heap.size ≤ w11.heap.size := (by have hq := Ext.size xx; (try simp at hq); omega); have hb0 : w.heap.size < w11.heap.size := (by omega); have q0_0 := Ext.cell (p := ⟨w.heap.size, 0, none⟩) (v := .bool s) xx q0_0; have q0_1 := Ext.cell (p := ⟨w.heap.size, 1, none⟩) (v := .slice ao zs.length c) xx q0_1; clear xx))
    go_wp2_with fail
    go_ret
    exact ⟨rfl, hE⟩
end Go.Proofs.Ytehbfobfkpejoaa
