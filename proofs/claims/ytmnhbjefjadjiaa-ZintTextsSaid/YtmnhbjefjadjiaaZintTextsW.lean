/-
  Contracts of the walk of the statement ZintTexts.
-/
import Derived.Test.YtmnhbjefjadjiaaIntV
namespace Go.Proofs.Ytmnhbjefjadjiaa
open Go.RowKit

set_option maxRecDepth 100000 in
set_option maxHeartbeats 4000000 in
theorem zintTexts_walk (s0 : ByteArray) (s : Bool) (ao : Option Addr) (c : Nat) (zs : List Nat) (w : World) (hs0 : s0.size ≤ maxLen) (h : Rd w ao c zs) :
    Calls Try.prog 12 #[.string s0, .agg #[.bool s, .slice ao zs.length c]] w (GotP (.bool true) w) := by
  obtain ⟨⟨er, z⟩, hp⟩ : ∃ p, parseZ s0 = p := ⟨_, rfl⟩
  replace hp := Lib.hid hp
  clear hs0
  obtain ⟨T, hT⟩ := exT (iv s zs).natAbs
  obtain ⟨U, hU⟩ : ∃ U, textZ (iv s zs) T = U := ⟨_, rfl⟩
  replace hU := Lib.hid hU
  replace hT := Lib.hid hT
  by_cases h1 : 20 < zs.length
  · have g1 : decide ((20 : Int) < (zs.length : Int)) = true := decide_eq_true (by omega)
    go_enter Try.func12, Try.ntmps12
    go_wp2_with fail
    refine (telling_any _).mono ?_
    rintro e w1 ⟨rfl, xx⟩
    have hE : Ext w w1 := Ext.trans ((Ext.refl _).alloc _) xx
    have hz1 : w.heap.size + 1 ≤ w1.heap.size := (by have hq := Ext.size xx; (try simp at hq); omega)
    have hb0 : w.heap.size < w1.heap.size := (by omega)
    have q0_1 := Ext.cell (p := ⟨w.heap.size, 1, none⟩) (v := .slice ao zs.length c) xx (by first | exact True | (go_simp; done) | (repeat (first | assumption | (refine (World.cell?_setCell_far _ _ _ _ (by simp <;> omega)).trans ?_) | (refine (World.cell?_alloc_lt _ _ _ (World.block_lt_of_cell? _ _ (by assumption))).trans ?_) | (go_simp; done))))
    clear xx
    go_wp2_with fail
    go_ret
    exact ⟨rfl, hE⟩
  have g1 : decide ((20 : Int) < (zs.length : Int)) = false := decide_eq_false (by omega)
  by_cases h2 : 300 < s0.size ∧ s0.size ≤ 4001
  · have g2 : decide ((300 : Int) < (s0.size : Int)) = true := decide_eq_true (by omega)
    have g3 : decide ((s0.size : Int) ≤ 4001) = true := decide_eq_true (by omega)
    go_enter Try.func12, Try.ntmps12
    go_wp2_with fail
    refine (telling_any _).mono ?_
    rintro e w1 ⟨rfl, xx⟩
    have hE : Ext w w1 := Ext.trans ((Ext.refl _).alloc _) xx
    have hz1 : w.heap.size + 1 ≤ w1.heap.size := (by have hq := Ext.size xx; (try simp at hq); omega)
    have hb0 : w.heap.size < w1.heap.size := (by omega)
    have q0_1 := Ext.cell (p := ⟨w.heap.size, 1, none⟩) (v := .slice ao zs.length c) xx (by first | exact True | (go_simp; done) | (repeat (first | assumption | (refine (World.cell?_setCell_far _ _ _ _ (by simp <;> omega)).trans ?_) | (refine (World.cell?_alloc_lt _ _ _ (World.block_lt_of_cell? _ _ (by assumption))).trans ?_) | (go_simp; done))))
    clear xx
    go_wp2_with fail
    go_ret
    exact ⟨rfl, hE⟩
  by_cases h3 : 300 < s0.size
  · have g2 : decide ((300 : Int) < (s0.size : Int)) = true := decide_eq_true (by omega)
    have g3 : decide ((s0.size : Int) ≤ 4001) = false := decide_eq_false (by omega)
    go_enter Try.func12, Try.ntmps12
    go_wp2_with fail
    refine (telling_any _).mono ?_
    rintro e w1 ⟨rfl, xx⟩
    have hE : Ext w w1 := Ext.trans ((Ext.refl _).alloc _) xx
    have hz1 : w.heap.size + 1 ≤ w1.heap.size := (by have hq := Ext.size xx; (try simp at hq); omega)
    have hb0 : w.heap.size < w1.heap.size := (by omega)
    have q0_0 := Ext.cell (p := ⟨w.heap.size, 0, none⟩) (v := .bool s) xx (by first | exact True | (go_simp; done) | (repeat (first | assumption | (refine (World.cell?_setCell_far _ _ _ _ (by simp <;> omega)).trans ?_) | (refine (World.cell?_alloc_lt _ _ _ (World.block_lt_of_cell? _ _ (by assumption))).trans ?_) | (go_simp; done))))
    have q0_1 := Ext.cell (p := ⟨w.heap.size, 1, none⟩) (v := .slice ao zs.length c) xx (by first | exact True | (go_simp; done) | (repeat (first | assumption | (refine (World.cell?_setCell_far _ _ _ _ (by simp <;> omega)).trans ?_) | (refine (World.cell?_alloc_lt _ _ _ (World.block_lt_of_cell? _ _ (by assumption))).trans ?_) | (go_simp; done))))
    clear xx
    go_wp2_with fail
    refine (ZParse_any s0 _ er z hp.out).mono ?_
    rintro e w2 ⟨r2s, r2a, r2c, r2z, r2B, rfl, r2b, r2o, r2k, r2v, r2l, xx⟩
    try simp at r2b
    try simp only [List.length_cons, List.length_nil] at r2l
    replace hE := Ext.trans hE xx
    have hz2 : w1.heap.size ≤ w2.heap.size := (by have hq := Ext.size xx; (try simp at hq); omega)
    have hb0 : w.heap.size < w2.heap.size := (by omega)
    have q0_0 := Ext.cell (p := ⟨w.heap.size, 0, none⟩) (v := .bool s) xx q0_0
    have q0_1 := Ext.cell (p := ⟨w.heap.size, 1, none⟩) (v := .slice ao zs.length c) xx q0_1
    clear xx
    go_wp2_with fail
    refine (RZParse_any s0 _ er z hp.out).mono ?_
    rintro e w3 ⟨r3s, r3a, r3c, r3z, r3B, rfl, r3b, r3o, r3k, r3v, r3l, xx⟩
    try simp at r3b
    try simp only [List.length_cons, List.length_nil] at r3l
    replace hE := Ext.trans (hE.alloc _) xx
    have hz3 : w2.heap.size + 1 ≤ w3.heap.size := (by have hq := Ext.size xx; (try simp at hq); omega)
    replace r2o := Own.ext (r2o.alloc _) xx
    have hb0 : w.heap.size < w3.heap.size := (by omega)
    have q0_0 := Ext.cell (p := ⟨w.heap.size, 0, none⟩) (v := .bool s) xx (by first | exact q0_0 | (go_simp; done) | (repeat (first | assumption | (refine (World.cell?_setCell_far _ _ _ _ (by simp <;> omega)).trans ?_) | (refine (World.cell?_alloc_lt _ _ _ (World.block_lt_of_cell? _ _ (by assumption))).trans ?_) | (go_simp; done))))
    have q0_1 := Ext.cell (p := ⟨w.heap.size, 1, none⟩) (v := .slice ao zs.length c) xx (by first | exact q0_1 | (go_simp; done) | (repeat (first | assumption | (refine (World.cell?_setCell_far _ _ _ _ (by simp <;> omega)).trans ?_) | (refine (World.cell?_alloc_lt _ _ _ (World.block_lt_of_cell? _ _ (by assumption))).trans ?_) | (go_simp; done))))
    have hb1 : w2.heap.size < w3.heap.size := (by omega)
    have q1_0 := Ext.cell (p := ⟨w2.heap.size, 0, none⟩) (v := .bool r2s) xx (by first | exact True | (go_simp; done) | (repeat (first | assumption | (refine (World.cell?_setCell_far _ _ _ _ (by simp <;> omega)).trans ?_) | (refine (World.cell?_alloc_lt _ _ _ (World.block_lt_of_cell? _ _ (by assumption))).trans ?_) | (go_simp; done))))
    have q1_1 := Ext.cell (p := ⟨w2.heap.size, 1, none⟩) (v := .slice r2a r2z.length r2c) xx (by first | exact True | (go_simp; done) | (repeat (first | assumption | (refine (World.cell?_setCell_far _ _ _ _ (by simp <;> omega)).trans ?_) | (refine (World.cell?_alloc_lt _ _ _ (World.block_lt_of_cell? _ _ (by assumption))).trans ?_) | (go_simp; done))))
    clear xx
    go_wp2_with fail
    go_region_held3 (fun w' => w'.cell? ⟨w2.heap.size, 0, none⟩ = some (.bool r2s) ∧ w'.cell? ⟨w2.heap.size, 1, none⟩ = some (.slice r2a r2z.length r2c) ∧ w'.cell? ⟨w3.heap.size, 0, none⟩ = some (.bool r3s) ∧ w'.cell? ⟨w3.heap.size, 1, none⟩ = some (.slice r3a r3z.length r3c) ∧ w'.cell? ⟨w.heap.size, 0, none⟩ = some (.bool s) ∧ w'.cell? ⟨w.heap.size, 1, none⟩ = some (.slice ao zs.length c)) (first | exact ⟨q1_0, q1_1, q2_0, q2_1, q0_0, q0_1⟩ | (go_keep; done) | ((try dsimp only); (repeat' apply And.intro) <;> (repeat (first | assumption | (refine (World.cell?_setCell_far _ _ _ _ (by simp <;> omega)).trans ?_) | (refine (World.cell?_alloc_lt _ _ _ (World.block_lt_of_cell? _ _ (by assumption))).trans ?_) | (go_simp; done)))))
      (first
            | (go_at_call 33; (with_reducible refine (same2_yes r2s _ _ _ r2z r3s _ _ _ r3z _ rfl rfl (r2o.alloc _).drew.rd (r3o.alloc _).drew.rd (by first | omega | (simp; done) | (simp; omega)) (by first | omega | (simp; done) | (simp; omega)) r2k.out r3k.out (r2v.out.trans r3v.out.symm)).mono ?_); rintro e w4 ⟨rfl, xx⟩; replace hE := Ext.trans (hE.alloc _).drew xx; (have hz4 : w3.heap.size + 1 ≤ w4.heap.size := (by have hq := Ext.size xx; (try simp at hq); omega)); (have hb0 : w.heap.size < w4.heap.size := (by omega)); (have q0_0 := Ext.cell (p := ⟨w.heap.size, 0, none⟩) (v := .bool s) xx (by first | exact q0_0 | (go_simp; done) | (repeat (first | assumption | (refine (World.cell?_setCell_far _ _ _ _ (by simp <;> omega)).trans ?_) | (refine (World.cell?_alloc_lt _ _ _ (World.block_lt_of_cell? _ _ (by assumption))).trans ?_) | (go_simp; done))))); (have q0_1 := Ext.cell (p := ⟨w.heap.size, 1, none⟩) (v := .slice ao zs.length c) xx (by first | exact q0_1 | (go_simp; done) | (repeat (first | assumption | (refine (World.cell?_setCell_far _ _ _ _ (by simp <;> omega)).trans ?_) | (refine (World.cell?_alloc_lt _ _ _ (World.block_lt_of_cell? _ _ (by assumption))).trans ?_) | (go_simp; done))))); (have hb1 : w2.heap.size < w4.heap.size := (by omega)); (have q1_0 := Ext.cell (p := ⟨w2.heap.size, 0, none⟩) (v := .bool r2s) xx (by first | exact q1_0 | (go_simp; done) | (repeat (first | assumption | (refine (World.cell?_setCell_far _ _ _ _ (by simp <;> omega)).trans ?_) | (refine (World.cell?_alloc_lt _ _ _ (World.block_lt_of_cell? _ _ (by assumption))).trans ?_) | (go_simp; done))))); (have q1_1 := Ext.cell (p := ⟨w2.heap.size, 1, none⟩) (v := .slice r2a r2z.length r2c) xx (by first | exact q1_1 | (go_simp; done) | (repeat (first | assumption | (refine (World.cell?_setCell_far _ _ _ _ (by simp <;> omega)).trans ?_) | (refine (World.cell?_alloc_lt _ _ _ (World.block_lt_of_cell? _ _ (by assumption))).trans ?_) | (go_simp; done))))); (have hb2 : w3.heap.size < w4.heap.size := (by omega)); (have q2_0 := Ext.cell (p := ⟨w3.heap.size, 0, none⟩) (v := .bool r3s) xx (by first | exact True | (go_simp; done) | (repeat (first | assumption | (refine (World.cell?_setCell_far _ _ _ _ (by simp <;> omega)).trans ?_) | (refine (World.cell?_alloc_lt _ _ _ (World.block_lt_of_cell? _ _ (by assumption))).trans ?_) | (go_simp; done))))); (have q2_1 := Ext.cell (p := ⟨w3.heap.size, 1, none⟩) (v := .slice r3a r3z.length r3c) xx (by first | exact True | (go_simp; done) | (repeat (first | assumption | (refine (World.cell?_setCell_far _ _ _ _ (by simp <;> omega)).trans ?_) | (refine (World.cell?_alloc_lt _ _ _ (World.block_lt_of_cell? _ _ (by assumption))).trans ?_) | (go_simp; done))))); clear xx)
            | (go_at_call 41; (with_reducible refine (ZTextP s _ _ _ zs _ (iv s zs) T U rfl (h.ext hE) (by first | omega | (simp; done) | (simp; omega)) (by rfl) hT.out hU.out).mono ?_); rintro e w5 ⟨rfl, xx⟩; replace hE := Ext.trans hE xx; (have hz5 : w4.heap.size ≤ w5.heap.size := (by have hq := Ext.size xx; (try simp at hq); omega)); (have hb0 : w.heap.size < w5.heap.size := (by omega)); (have q0_0 := Ext.cell (p := ⟨w.heap.size, 0, none⟩) (v := .bool s) xx q0_0); (have q0_1 := Ext.cell (p := ⟨w.heap.size, 1, none⟩) (v := .slice ao zs.length c) xx q0_1); (have hb1 : w2.heap.size < w5.heap.size := (by omega)); (have q1_0 := Ext.cell (p := ⟨w2.heap.size, 0, none⟩) (v := .bool r2s) xx q1_0); (have q1_1 := Ext.cell (p := ⟨w2.heap.size, 1, none⟩) (v := .slice r2a r2z.length r2c) xx q1_1); (have hb2 : w3.heap.size < w5.heap.size := (by omega)); (have q2_0 := Ext.cell (p := ⟨w3.heap.size, 0, none⟩) (v := .bool r3s) xx q2_0); (have q2_1 := Ext.cell (p := ⟨w3.heap.size, 1, none⟩) (v := .slice r3a r3z.length r3c) xx q2_1); clear xx)
            | (go_at_call 61; (with_reducible refine (RZTextP s _ _ _ zs _ (iv s zs) T U rfl (h.ext hE) (by first | omega | (simp; done) | (simp; omega)) (by rfl) hT.out hU.out).mono ?_); rintro e w6 ⟨rfl, xx⟩; replace hE := Ext.trans hE xx; (have hz6 : w5.heap.size ≤ w6.heap.size := (by have hq := Ext.size xx; (try simp at hq); omega)); (have hb0 : w.heap.size < w6.heap.size := (by omega)); (have q0_0 := Ext.cell (p := ⟨w.heap.size, 0, none⟩) (v := .bool s) xx q0_0); (have q0_1 := Ext.cell (p := ⟨w.heap.size, 1, none⟩) (v := .slice ao zs.length c) xx q0_1); (have hb1 : w2.heap.size < w6.heap.size := (by omega)); (have q1_0 := Ext.cell (p := ⟨w2.heap.size, 0, none⟩) (v := .bool r2s) xx q1_0); (have q1_1 := Ext.cell (p := ⟨w2.heap.size, 1, none⟩) (v := .slice r2a r2z.length r2c) xx q1_1); (have hb2 : w3.heap.size < w6.heap.size := (by omega)); (have q2_0 := Ext.cell (p := ⟨w3.heap.size, 0, none⟩) (v := .bool r3s) xx q2_0); (have q2_1 := Ext.cell (p := ⟨w3.heap.size, 1, none⟩) (v := .slice r3a r3z.length r3c) xx q2_1); clear xx))
    go_wp2_with fail
    go_ret
    exact ⟨rfl, hE⟩
  · have g2 : decide ((300 : Int) < (s0.size : Int)) = false := decide_eq_false (by omega)
    go_enter Try.func12, Try.ntmps12
    go_wp2_with fail
    refine (telling_any _).mono ?_
    rintro e w1 ⟨rfl, xx⟩
    have hE : Ext w w1 := Ext.trans ((Ext.refl _).alloc _) xx
    have hz1 : w.heap.size + 1 ≤ w1.heap.size := (by have hq := Ext.size xx; (try simp at hq); omega)
    have hb0 : w.heap.size < w1.heap.size := (by omega)
    have q0_0 := Ext.cell (p := ⟨w.heap.size, 0, none⟩) (v := .bool s) xx (by first | exact True | (go_simp; done) | (repeat (first | assumption | (refine (World.cell?_setCell_far _ _ _ _ (by simp <;> omega)).trans ?_) | (refine (World.cell?_alloc_lt _ _ _ (World.block_lt_of_cell? _ _ (by assumption))).trans ?_) | (go_simp; done))))
    have q0_1 := Ext.cell (p := ⟨w.heap.size, 1, none⟩) (v := .slice ao zs.length c) xx (by first | exact True | (go_simp; done) | (repeat (first | assumption | (refine (World.cell?_setCell_far _ _ _ _ (by simp <;> omega)).trans ?_) | (refine (World.cell?_alloc_lt _ _ _ (World.block_lt_of_cell? _ _ (by assumption))).trans ?_) | (go_simp; done))))
    clear xx
    go_wp2_with fail
    refine (ZParse_any s0 _ er z hp.out).mono ?_
    rintro e w2 ⟨r2s, r2a, r2c, r2z, r2B, rfl, r2b, r2o, r2k, r2v, r2l, xx⟩
    try simp at r2b
    try simp only [List.length_cons, List.length_nil] at r2l
    replace hE := Ext.trans hE xx
    have hz2 : w1.heap.size ≤ w2.heap.size := (by have hq := Ext.size xx; (try simp at hq); omega)
    have hb0 : w.heap.size < w2.heap.size := (by omega)
    have q0_0 := Ext.cell (p := ⟨w.heap.size, 0, none⟩) (v := .bool s) xx q0_0
    have q0_1 := Ext.cell (p := ⟨w.heap.size, 1, none⟩) (v := .slice ao zs.length c) xx q0_1
    clear xx
    go_wp2_with fail
    refine (RZParse_any s0 _ er z hp.out).mono ?_
    rintro e w3 ⟨r3s, r3a, r3c, r3z, r3B, rfl, r3b, r3o, r3k, r3v, r3l, xx⟩
    try simp at r3b
    try simp only [List.length_cons, List.length_nil] at r3l
    replace hE := Ext.trans (hE.alloc _) xx
    have hz3 : w2.heap.size + 1 ≤ w3.heap.size := (by have hq := Ext.size xx; (try simp at hq); omega)
    replace r2o := Own.ext (r2o.alloc _) xx
    have hb0 : w.heap.size < w3.heap.size := (by omega)
    have q0_0 := Ext.cell (p := ⟨w.heap.size, 0, none⟩) (v := .bool s) xx (by first | exact q0_0 | (go_simp; done) | (repeat (first | assumption | (refine (World.cell?_setCell_far _ _ _ _ (by simp <;> omega)).trans ?_) | (refine (World.cell?_alloc_lt _ _ _ (World.block_lt_of_cell? _ _ (by assumption))).trans ?_) | (go_simp; done))))
    have q0_1 := Ext.cell (p := ⟨w.heap.size, 1, none⟩) (v := .slice ao zs.length c) xx (by first | exact q0_1 | (go_simp; done) | (repeat (first | assumption | (refine (World.cell?_setCell_far _ _ _ _ (by simp <;> omega)).trans ?_) | (refine (World.cell?_alloc_lt _ _ _ (World.block_lt_of_cell? _ _ (by assumption))).trans ?_) | (go_simp; done))))
    have hb1 : w2.heap.size < w3.heap.size := (by omega)
    have q1_0 := Ext.cell (p := ⟨w2.heap.size, 0, none⟩) (v := .bool r2s) xx (by first | exact True | (go_simp; done) | (repeat (first | assumption | (refine (World.cell?_setCell_far _ _ _ _ (by simp <;> omega)).trans ?_) | (refine (World.cell?_alloc_lt _ _ _ (World.block_lt_of_cell? _ _ (by assumption))).trans ?_) | (go_simp; done))))
    have q1_1 := Ext.cell (p := ⟨w2.heap.size, 1, none⟩) (v := .slice r2a r2z.length r2c) xx (by first | exact True | (go_simp; done) | (repeat (first | assumption | (refine (World.cell?_setCell_far _ _ _ _ (by simp <;> omega)).trans ?_) | (refine (World.cell?_alloc_lt _ _ _ (World.block_lt_of_cell? _ _ (by assumption))).trans ?_) | (go_simp; done))))
    clear xx
    go_wp2_with fail
    go_region_held3 (fun w' => w'.cell? ⟨w2.heap.size, 0, none⟩ = some (.bool r2s) ∧ w'.cell? ⟨w2.heap.size, 1, none⟩ = some (.slice r2a r2z.length r2c) ∧ w'.cell? ⟨w3.heap.size, 0, none⟩ = some (.bool r3s) ∧ w'.cell? ⟨w3.heap.size, 1, none⟩ = some (.slice r3a r3z.length r3c) ∧ w'.cell? ⟨w.heap.size, 0, none⟩ = some (.bool s) ∧ w'.cell? ⟨w.heap.size, 1, none⟩ = some (.slice ao zs.length c)) (first | exact ⟨q1_0, q1_1, q2_0, q2_1, q0_0, q0_1⟩ | (go_keep; done) | ((try dsimp only); (repeat' apply And.intro) <;> (repeat (first | assumption | (refine (World.cell?_setCell_far _ _ _ _ (by simp <;> omega)).trans ?_) | (refine (World.cell?_alloc_lt _ _ _ (World.block_lt_of_cell? _ _ (by assumption))).trans ?_) | (go_simp; done)))))
      (first
            | (go_at_call 33; (with_reducible refine (same2_yes r2s _ _ _ r2z r3s _ _ _ r3z _ rfl rfl (r2o.alloc _).drew.rd (r3o.alloc _).drew.rd (by first | omega | (simp; done) | (simp; omega)) (by first | omega | (simp; done) | (simp; omega)) r2k.out r3k.out (r2v.out.trans r3v.out.symm)).mono ?_); rintro e w4 ⟨rfl, xx⟩; replace hE := Ext.trans (hE.alloc _).drew xx; (have hz4 : w3.heap.size + 1 ≤ w4.heap.size := (by have hq := Ext.size xx; (try simp at hq); omega)); (have hb0 : w.heap.size < w4.heap.size := (by omega)); (have q0_0 := Ext.cell (p := ⟨w.heap.size, 0, none⟩) (v := .bool s) xx (by first | exact q0_0 | (go_simp; done) | (repeat (first | assumption | (refine (World.cell?_setCell_far _ _ _ _ (by simp <;> omega)).trans ?_) | (refine (World.cell?_alloc_lt _ _ _ (World.block_lt_of_cell? _ _ (by assumption))).trans ?_) | (go_simp; done))))); (have q0_1 := Ext.cell (p := ⟨w.heap.size, 1, none⟩) (v := .slice ao zs.length c) xx (by first | exact q0_1 | (go_simp; done) | (repeat (first | assumption | (refine (World.cell?_setCell_far _ _ _ _ (by simp <;> omega)).trans ?_) | (refine (World.cell?_alloc_lt _ _ _ (World.block_lt_of_cell? _ _ (by assumption))).trans ?_) | (go_simp; done))))); (have hb1 : w2.heap.size < w4.heap.size := (by omega)); (have q1_0 := Ext.cell (p := ⟨w2.heap.size, 0, none⟩) (v := .bool r2s) xx (by first | exact q1_0 | (go_simp; done) | (repeat (first | assumption | (refine (World.cell?_setCell_far _ _ _ _ (by simp <;> omega)).trans ?_) | (refine (World.cell?_alloc_lt _ _ _ (World.block_lt_of_cell? _ _ (by assumption))).trans ?_) | (go_simp; done))))); (have q1_1 := Ext.cell (p := ⟨w2.heap.size, 1, none⟩) (v := .slice r2a r2z.length r2c) xx (by first | exact q1_1 | (go_simp; done) | (repeat (first | assumption | (refine (World.cell?_setCell_far _ _ _ _ (by simp <;> omega)).trans ?_) | (refine (World.cell?_alloc_lt _ _ _ (World.block_lt_of_cell? _ _ (by assumption))).trans ?_) | (go_simp; done))))); (have hb2 : w3.heap.size < w4.heap.size := (by omega)); (have q2_0 := Ext.cell (p := ⟨w3.heap.size, 0, none⟩) (v := .bool r3s) xx (by first | exact True | (go_simp; done) | (repeat (first | assumption | (refine (World.cell?_setCell_far _ _ _ _ (by simp <;> omega)).trans ?_) | (refine (World.cell?_alloc_lt _ _ _ (World.block_lt_of_cell? _ _ (by assumption))).trans ?_) | (go_simp; done))))); (have q2_1 := Ext.cell (p := ⟨w3.heap.size, 1, none⟩) (v := .slice r3a r3z.length r3c) xx (by first | exact True | (go_simp; done) | (repeat (first | assumption | (refine (World.cell?_setCell_far _ _ _ _ (by simp <;> omega)).trans ?_) | (refine (World.cell?_alloc_lt _ _ _ (World.block_lt_of_cell? _ _ (by assumption))).trans ?_) | (go_simp; done))))); clear xx)
            | (go_at_call 41; (with_reducible refine (ZTextP s _ _ _ zs _ (iv s zs) T U rfl (h.ext hE) (by first | omega | (simp; done) | (simp; omega)) (by rfl) hT.out hU.out).mono ?_); rintro e w5 ⟨rfl, xx⟩; replace hE := Ext.trans hE xx; (have hz5 : w4.heap.size ≤ w5.heap.size := (by have hq := Ext.size xx; (try simp at hq); omega)); (have hb0 : w.heap.size < w5.heap.size := (by omega)); (have q0_0 := Ext.cell (p := ⟨w.heap.size, 0, none⟩) (v := .bool s) xx q0_0); (have q0_1 := Ext.cell (p := ⟨w.heap.size, 1, none⟩) (v := .slice ao zs.length c) xx q0_1); (have hb1 : w2.heap.size < w5.heap.size := (by omega)); (have q1_0 := Ext.cell (p := ⟨w2.heap.size, 0, none⟩) (v := .bool r2s) xx q1_0); (have q1_1 := Ext.cell (p := ⟨w2.heap.size, 1, none⟩) (v := .slice r2a r2z.length r2c) xx q1_1); (have hb2 : w3.heap.size < w5.heap.size := (by omega)); (have q2_0 := Ext.cell (p := ⟨w3.heap.size, 0, none⟩) (v := .bool r3s) xx q2_0); (have q2_1 := Ext.cell (p := ⟨w3.heap.size, 1, none⟩) (v := .slice r3a r3z.length r3c) xx q2_1); clear xx)
            | (go_at_call 61; (with_reducible refine (RZTextP s _ _ _ zs _ (iv s zs) T U rfl (h.ext hE) (by first | omega | (simp; done) | (simp; omega)) (by rfl) hT.out hU.out).mono ?_); rintro e w6 ⟨rfl, xx⟩; replace hE := Ext.trans hE xx; (have hz6 : w5.heap.size ≤ w6.heap.size := (by have hq := Ext.size xx; (try simp at hq); omega)); (have hb0 : w.heap.size < w6.heap.size := (by omega)); (have q0_0 := Ext.cell (p := ⟨w.heap.size, 0, none⟩) (v := .bool s) xx q0_0); (have q0_1 := Ext.cell (p := ⟨w.heap.size, 1, none⟩) (v := .slice ao zs.length c) xx q0_1); (have hb1 : w2.heap.size < w6.heap.size := (by omega)); (have q1_0 := Ext.cell (p := ⟨w2.heap.size, 0, none⟩) (v := .bool r2s) xx q1_0); (have q1_1 := Ext.cell (p := ⟨w2.heap.size, 1, none⟩) (v := .slice r2a r2z.length r2c) xx q1_1); (have hb2 : w3.heap.size < w6.heap.size := (by omega)); (have q2_0 := Ext.cell (p := ⟨w3.heap.size, 0, none⟩) (v := .bool r3s) xx q2_0); (have q2_1 := Ext.cell (p := ⟨w3.heap.size, 1, none⟩) (v := .slice r3a r3z.length r3c) xx q2_1); clear xx))
    go_wp2_with fail
    go_ret
    exact ⟨rfl, hE⟩
end Go.Proofs.Ytmnhbjefjadjiaa
