/-
  Contracts of the texts of zint by their value, and the statements' helper telling.
-/
import Derived.Test.YtmnhbjefjadjiaaIntU
namespace Go.Proofs.Ytmnhbjefjadjiaa
open Go.RowKit


theorem exL (n : Nat) : ∃ l : List Nat, isT l n := by
  induction n using Nat.strongRecOn with
  | ind n ih =>
    by_cases h : n < 10
    · exact ⟨[48 + n], by simp, by intro c hc; simp at hc; omega, by simp [dvl], by simp⟩
    · obtain ⟨l, h1, h2, h3, h4⟩ := ih (n / 10) (by omega)
      refine ⟨l ++ [48 + n % 10], by simp, ?_, ?_, ?_⟩
      · intro c hc
        rcases List.mem_append.1 hc with hc | hc
        · exact h2 c hc
        · simp at hc; omega
      · rw [dvl_snoc, h3]; omega
      · intro _
        cases l with
        | nil => simp at h1
        | cons a l =>
          show a ≠ 48
          cases l with
          | nil =>
            intro e
            subst e
            simp [dvl] at h3
            omega
          | cons b l => exact h4 (by simp)
theorem exT (n : Nat) : ∃ t : ByteArray, isT (bytes t) n := by
  obtain ⟨l, h⟩ := exL n
  exact ⟨strN l, by rw [bytes_strN (fun c hc => by have := h.2.1 c hc; omega)]; exact h⟩

theorem ZTextP (s : Bool) (ao : Option Addr) (n c : Nat) (zs : List Nat) (w : World) (z : Int) (t u : ByteArray) (hn : n = zs.length) (h : Rd w ao c zs) (hl : zs.length ≤ 10000) (hz : iv s zs = z) (ht : isT (bytes t) z.natAbs) (hu : textZ z t = u) :
    Calls Try.prog 41 #[.agg #[.bool s, .slice ao n c]] w (GotP (.string u) w) :=
  (ZText_any s ao n c zs w hn h hl).mono fun _ _ ⟨t2, h1, h2, h3⟩ => ⟨by
    rw [h1]
    rw [hz] at h2 ⊢
    rw [isT_str h2 ht, hu], h3⟩
theorem RZTextP (s : Bool) (ao : Option Addr) (n c : Nat) (zs : List Nat) (w : World) (z : Int) (t u : ByteArray) (hn : n = zs.length) (h : Rd w ao c zs) (hl : zs.length ≤ 10000) (hz : iv s zs = z) (ht : isT (bytes t) z.natAbs) (hu : textZ z t = u) :
    Calls Try.prog 61 #[.agg #[.bool s, .slice ao n c]] w (GotP (.string u) w) :=
  (RZText_any s ao n c zs w hn h hl).mono fun _ _ ⟨t2, h1, h2, h3⟩ => ⟨by
    rw [h1]
    rw [hz] at h2 ⊢
    rw [isT_str h2 ht, hu], h3⟩
set_option maxRecDepth 100000 in
set_option maxHeartbeats 4000000 in
theorem telling_any (w : World) : Calls Try.prog 40 #[] w (GotP (.bool true) w) := by
  have e1 : Hid (parseZ ⟨#[45, 49, 50]⟩ = (0, -12)) := by unfold Hid; decide +kernel
  have e2 : Hid (parseZ ⟨#[45, 45, 49]⟩ = (20, 0)) := by unfold Hid; decide +kernel
  go_enter Try.func40, Try.ntmps40
  go_wp2_with fail
  refine (ZParse_any (⟨#[45, 49, 50]⟩) _ 0 (-12) e1.out).mono ?_
  rintro e w1 ⟨r1s, r1a, r1c, r1z, r1B, rfl, r1b, r1o, r1k, r1v, r1l, xx⟩
  try simp at r1b
  try simp only [List.length_cons, List.length_nil] at r1l
  have hE : Ext w w1 := Ext.trans (Ext.refl _) xx
  have hz1 : w.heap.size ≤ w1.heap.size := (by have hq := Ext.size xx; (try simp at hq); omega)
  clear xx
  go_wp2_with fail
  refine (ZParse_any (⟨#[45, 45, 49]⟩) _ 20 0 e2.out).mono ?_
  rintro e w2 ⟨r2s, r2a, r2c, r2z, r2B, rfl, r2b, r2o, r2k, r2v, r2l, xx⟩
  try simp at r2b
  try simp only [List.length_cons, List.length_nil] at r2l
  replace hE := Ext.trans (hE.alloc _) xx
  have hz2 : w1.heap.size + 1 ≤ w2.heap.size := (by have hq := Ext.size xx; (try simp at hq); omega)
  replace r1o := Own.ext (r1o.alloc _) xx
  have hb0 : w1.heap.size < w2.heap.size := (by omega)
  have q0_0 := Ext.cell (p := ⟨w1.heap.size, 0, none⟩) (v := .bool r1s) xx (by first | exact True | (go_simp; done) | (repeat (first | assumption | (refine (World.cell?_setCell_far _ _ _ _ (by simp <;> omega)).trans ?_) | (refine (World.cell?_alloc_lt _ _ _ (World.block_lt_of_cell? _ _ (by assumption))).trans ?_) | (go_simp; done))))
  have q0_1 := Ext.cell (p := ⟨w1.heap.size, 1, none⟩) (v := .slice r1a r1z.length r1c) xx (by first | exact True | (go_simp; done) | (repeat (first | assumption | (refine (World.cell?_setCell_far _ _ _ _ (by simp <;> omega)).trans ?_) | (refine (World.cell?_alloc_lt _ _ _ (World.block_lt_of_cell? _ _ (by assumption))).trans ?_) | (go_simp; done))))
  clear xx
  go_wp2_with fail
  refine (is_yes r1s _ _ _ r1z (-12) _ rfl (r1o.alloc _).rd (by first | omega | (simp; done) | (simp; omega)) r1k.out r1v.out ⟨by omega, by omega⟩).mono ?_
  rintro e w3 ⟨rfl, xx⟩
  replace hE := Ext.trans (hE.alloc _) xx
  have hz3 : w2.heap.size + 1 ≤ w3.heap.size := (by have hq := Ext.size xx; (try simp at hq); omega)
  replace r1o := Own.ext (r1o.alloc _) xx
  have hb0 : w1.heap.size < w3.heap.size := (by omega)
  have q0_0 := Ext.cell (p := ⟨w1.heap.size, 0, none⟩) (v := .bool r1s) xx (by first | exact q0_0 | (go_simp; done) | (repeat (first | assumption | (refine (World.cell?_setCell_far _ _ _ _ (by simp <;> omega)).trans ?_) | (refine (World.cell?_alloc_lt _ _ _ (World.block_lt_of_cell? _ _ (by assumption))).trans ?_) | (go_simp; done))))
  have q0_1 := Ext.cell (p := ⟨w1.heap.size, 1, none⟩) (v := .slice r1a r1z.length r1c) xx (by first | exact q0_1 | (go_simp; done) | (repeat (first | assumption | (refine (World.cell?_setCell_far _ _ _ _ (by simp <;> omega)).trans ?_) | (refine (World.cell?_alloc_lt _ _ _ (World.block_lt_of_cell? _ _ (by assumption))).trans ?_) | (go_simp; done))))
  clear xx
  go_wp2_with fail
  refine (ZTextP r1s _ _ _ r1z _ (-12) (⟨#[49, 50]⟩) (⟨#[45, 49, 50]⟩) rfl r1o.rd (by first | omega | (simp; done) | (simp; omega)) r1v.out (isT_lit (by decide +kernel)) (by rfl)).mono ?_
  rintro e w4 ⟨rfl, xx⟩
  replace hE := Ext.trans hE xx
  have hz4 : w3.heap.size ≤ w4.heap.size := (by have hq := Ext.size xx; (try simp at hq); omega)
  clear xx
  go_wp2_with fail
  refine (ZTextP true _ _ _ [] _ 0 (⟨#[48]⟩) (⟨#[48]⟩) rfl (Rd.nil _) (by first | omega | (simp; done) | (simp; omega)) (by rfl) (isT_lit (by decide +kernel)) (by rfl)).mono ?_
  rintro e w5 ⟨rfl, xx⟩
  replace hE := Ext.trans hE xx
  have hz5 : w4.heap.size ≤ w5.heap.size := (by have hq := Ext.size xx; (try simp at hq); omega)
  clear xx
  go_wp2_with fail
  go_ret
  exact ⟨rfl, hE⟩
end Go.Proofs.Ytmnhbjefjadjiaa
