/-
  Contracts of the reference's Add, Sub, Mul, Cmp and of Of.
-/
import Derived.Test.YtehbfobfkpejoaaIntD
namespace Go.Proofs.Ytehbfobfkpejoaa
open Go.RowKit


theorem sgn_mul_range {x y : Int} (hx : -1 ≤ x ∧ x ≤ 1) (hy : -1 ≤ y ∧ y ≤ 1) : -1 ≤ x * y ∧ x * y ≤ 1 := by
  have h1 : x = -1 ∨ x = 0 ∨ x = 1 := by omega
  rcases h1 with rfl | rfl | rfl <;> omega
theorem iv_sgn (s : Bool) (zs : List Nat) : iv s zs = sgn (iv s zs) * (val zs : Int) := by
  have h := iv_abs s zs
  obtain ⟨z, hz⟩ : ∃ z, z = iv s zs := ⟨_, rfl⟩
  rw [← hz] at h ⊢
  unfold sgn
  split
  · omega
  · split <;> omega
theorem iv_sgn_mul {s t : Bool} {zs us rs : List Nat} {p : Int} (hp : sgn (iv s zs) * sgn (iv t us) = p) (hr : val rs = val zs * val us) : iv (decide (p < 0)) rs = iv s zs * iv t us := by
  have e : iv s zs * iv t us = p * ((val zs : Int) * (val us : Int)) := by
    have h1 := iv_sgn s zs
    have h2 := iv_sgn t us
    obtain ⟨x, hx⟩ : ∃ x, x = sgn (iv s zs) := ⟨_, rfl⟩
    obtain ⟨y, hy⟩ : ∃ y, y = sgn (iv t us) := ⟨_, rfl⟩
    rw [← hx] at h1 hp
    rw [← hy] at h2 hp
    rw [h1, h2, ← hp]
    simp only [Int.mul_assoc, Int.mul_left_comm]
  have hb := sgn_mul_range (sgn_range (iv s zs)) (sgn_range (iv t us))
  rw [hp] at hb
  rw [e]
  unfold iv
  rw [hr, Int.natCast_mul]
  have h3 : p = -1 ∨ p = 0 ∨ p = 1 := by omega
  rcases h3 with h | h | h
  · subst h; simp
  · subst h
    have h0 : iv s zs * iv t us = 0 := by rw [e, Int.zero_mul]
    rcases Int.mul_eq_zero.1 h0 with z | z
    · have := iv_abs s zs; rw [z] at this; have h4 : val zs = 0 := by omega
      simp [h4]
    · have := iv_abs t us; rw [z] at this; have h4 : val us = 0 := by omega
      simp [h4]
  · subst h; simp
theorem RCmpZ_of {x y g : Int} (hg : cmpZ x y = g) : sgn (x - y) = g := (cmpZ_sgn x y).trans hg

set_option maxRecDepth 100000 in
set_option maxHeartbeats 1000000 in
theorem RZAdd_pn (s : Bool) (ao : Option Addr) (n c : Nat) (zs : List Nat) (t : Bool) (bo : Option Addr) (m d : Nat) (us : List Nat) (w : World) (hn : n = zs.length) (hm : m = us.length) (h : Rd w ao c zs) (k : Rd w bo d us) (hl : zs.length ≤ 100000) (hl2 : us.length ≤ 100000) (h0 : 0 ≤ sgn (iv s zs)) (h1 : sgn (iv t us) < 0) :
    Calls Try.prog 24 #[.agg #[.bool s, .slice ao n c], .agg #[.bool t, .slice bo m d]] w (GotZ w (iv s zs + iv t us) (zs.length + us.length + 1)) := by
  subst hn hm
  obtain ⟨x, hx⟩ : ∃ x, sgn (iv s zs) = x := ⟨_, rfl⟩
  obtain ⟨y, hy⟩ : ∃ y, sgn (iv t us) = y := ⟨_, rfl⟩
  replace hx := Lib.hid hx
  replace hy := Lib.hid hy
  have hs : Hid (0 ≤ iv s zs ∧ iv t us < 0) := ⟨by unfold sgn at h0; split at h0 <;> (try split at h0) <;> omega, sgn_lt_zero.1 h1⟩
  rw [hx.out] at h0
  rw [hy.out] at h1
  have n0 : ¬ x < 0 := by omega
  have n1 : ¬ 0 ≤ y := by omega
  by_cases hle : val us ≤ val zs
  · replace hle := Lib.hid hle
    go_enter Try.func24, Try.ntmps24
    go_wp2_with fail
    refine (RSign_any s _ _ _ zs _ x rfl (h.ext ((((Ext.refl _).alloc _).alloc _).alloc _)) (by first | omega | (simp; done) | (simp; omega)) hx.out).mono ?_
    rintro e w1 ⟨rfl, xx⟩
    have hE : Ext w w1 := Ext.trans ((((Ext.refl _).alloc _).alloc _).alloc _) xx
    have hz1 : w.heap.size + 3 ≤ w1.heap.size := (by have hq := Ext.size xx; (try simp at hq); omega)
    have hb0 : w.heap.size < w1.heap.size := (by omega)
    have q0_0 := Ext.cell (p := ⟨w.heap.size, 0, none⟩) (v := .bool s) xx (by first | exact True | go_simp | (repeat (first | assumption | (refine (World.cell?_setCell_far _ _ _ _ (by simp <;> omega)).trans ?_) | (refine (World.cell?_alloc_lt _ _ _ (World.block_lt_of_cell? _ _ (by assumption))).trans ?_) | go_simp)))
    have q0_1 := Ext.cell (p := ⟨w.heap.size, 1, none⟩) (v := .slice ao zs.length c) xx (by first | exact True | go_simp | (repeat (first | assumption | (refine (World.cell?_setCell_far _ _ _ _ (by simp <;> omega)).trans ?_) | (refine (World.cell?_alloc_lt _ _ _ (World.block_lt_of_cell? _ _ (by assumption))).trans ?_) | go_simp)))
    have hb1 : w.heap.size + 1 < w1.heap.size := (by omega)
    have q1_0 := Ext.cell (p := ⟨w.heap.size + 1, 0, none⟩) (v := .bool t) xx (by first | exact True | go_simp | (repeat (first | assumption | (refine (World.cell?_setCell_far _ _ _ _ (by simp <;> omega)).trans ?_) | (refine (World.cell?_alloc_lt _ _ _ (World.block_lt_of_cell? _ _ (by assumption))).trans ?_) | go_simp)))
    have q1_1 := Ext.cell (p := ⟨w.heap.size + 1, 1, none⟩) (v := .slice bo us.length d) xx (by first | exact True | go_simp | (repeat (first | assumption | (refine (World.cell?_setCell_far _ _ _ _ (by simp <;> omega)).trans ?_) | (refine (World.cell?_alloc_lt _ _ _ (World.block_lt_of_cell? _ _ (by assumption))).trans ?_) | go_simp)))
    have hb2 : w.heap.size + 1 + 1 < w1.heap.size := (by omega)
    have fq2_0 := Ext.free (p := ⟨w.heap.size + 1 + 1, 0, none⟩) (v := .bool false) xx (by first | exact True | go_simp | (repeat (first | assumption | (refine (World.cell?_setCell_far _ _ _ _ (by simp <;> omega)).trans ?_) | (refine (World.cell?_alloc_lt _ _ _ (World.block_lt_of_cell? _ _ (by assumption))).trans ?_) | go_simp))) (by first | assumption | go_simp)
    have q2_0 := Ext.cell (p := ⟨w.heap.size + 1 + 1, 0, none⟩) (v := .bool false) xx (by first | exact True | go_simp | (repeat (first | assumption | (refine (World.cell?_setCell_far _ _ _ _ (by simp <;> omega)).trans ?_) | (refine (World.cell?_alloc_lt _ _ _ (World.block_lt_of_cell? _ _ (by assumption))).trans ?_) | go_simp)))
    have fq2_1 := Ext.free (p := ⟨w.heap.size + 1 + 1, 1, none⟩) (v := .slice none 0 0) xx (by first | exact True | go_simp | (repeat (first | assumption | (refine (World.cell?_setCell_far _ _ _ _ (by simp <;> omega)).trans ?_) | (refine (World.cell?_alloc_lt _ _ _ (World.block_lt_of_cell? _ _ (by assumption))).trans ?_) | go_simp))) (by first | assumption | go_simp)
    have q2_1 := Ext.cell (p := ⟨w.heap.size + 1 + 1, 1, none⟩) (v := .slice none 0 0) xx (by first | exact True | go_simp | (repeat (first | assumption | (refine (World.cell?_setCell_far _ _ _ _ (by simp <;> omega)).trans ?_) | (refine (World.cell?_alloc_lt _ _ _ (World.block_lt_of_cell? _ _ (by assumption))).trans ?_) | go_simp)))
    clear xx
    go_wp2_with fail
    refine (RSign_any s _ _ _ zs _ x rfl (h.ext hE) (by first | omega | (simp; done) | (simp; omega)) hx.out).mono ?_
    rintro e w2 ⟨rfl, xx⟩
    replace hE := Ext.trans hE xx
    have hz2 : w1.heap.size ≤ w2.heap.size := (by have hq := Ext.size xx; (try simp at hq); omega)
    have hb0 : w.heap.size < w2.heap.size := (by omega)
    have q0_0 := Ext.cell (p := ⟨w.heap.size, 0, none⟩) (v := .bool s) xx q0_0
    have q0_1 := Ext.cell (p := ⟨w.heap.size, 1, none⟩) (v := .slice ao zs.length c) xx q0_1
    have hb1 : w.heap.size + 1 < w2.heap.size := (by omega)
    have q1_0 := Ext.cell (p := ⟨w.heap.size + 1, 0, none⟩) (v := .bool t) xx q1_0
    have q1_1 := Ext.cell (p := ⟨w.heap.size + 1, 1, none⟩) (v := .slice bo us.length d) xx q1_1
    have hb2 : w.heap.size + 1 + 1 < w2.heap.size := (by omega)
    have fq2_0 := Ext.free (p := ⟨w.heap.size + 1 + 1, 0, none⟩) (v := .bool false) xx q2_0 fq2_0
    have q2_0 := Ext.cell (p := ⟨w.heap.size + 1 + 1, 0, none⟩) (v := .bool false) xx q2_0
    have fq2_1 := Ext.free (p := ⟨w.heap.size + 1 + 1, 1, none⟩) (v := .slice none 0 0) xx q2_1 fq2_1
    have q2_1 := Ext.cell (p := ⟨w.heap.size + 1 + 1, 1, none⟩) (v := .slice none 0 0) xx q2_1
    clear xx
    go_wp2_with fail
    refine (RSign_any t _ _ _ us _ y rfl (k.ext hE) (by first | omega | (simp; done) | (simp; omega)) hy.out).mono ?_
    rintro e w3 ⟨rfl, xx⟩
    replace hE := Ext.trans hE xx
    have hz3 : w2.heap.size ≤ w3.heap.size := (by have hq := Ext.size xx; (try simp at hq); omega)
    have hb0 : w.heap.size < w3.heap.size := (by omega)
    have q0_0 := Ext.cell (p := ⟨w.heap.size, 0, none⟩) (v := .bool s) xx q0_0
    have q0_1 := Ext.cell (p := ⟨w.heap.size, 1, none⟩) (v := .slice ao zs.length c) xx q0_1
    have hb1 : w.heap.size + 1 < w3.heap.size := (by omega)
    have q1_1 := Ext.cell (p := ⟨w.heap.size + 1, 1, none⟩) (v := .slice bo us.length d) xx q1_1
    have hb2 : w.heap.size + 1 + 1 < w3.heap.size := (by omega)
    have fq2_0 := Ext.free (p := ⟨w.heap.size + 1 + 1, 0, none⟩) (v := .bool false) xx q2_0 fq2_0
    have q2_0 := Ext.cell (p := ⟨w.heap.size + 1 + 1, 0, none⟩) (v := .bool false) xx q2_0
    have fq2_1 := Ext.free (p := ⟨w.heap.size + 1 + 1, 1, none⟩) (v := .slice none 0 0) xx q2_1 fq2_1
    have q2_1 := Ext.cell (p := ⟨w.heap.size + 1 + 1, 1, none⟩) (v := .slice none 0 0) xx q2_1
    clear xx
    go_wp2_with fail
    refine (RSign_any s _ _ _ zs _ x rfl (h.ext hE) (by first | omega | (simp; done) | (simp; omega)) hx.out).mono ?_
    rintro e w4 ⟨rfl, xx⟩
    replace hE := Ext.trans hE xx
    have hz4 : w3.heap.size ≤ w4.heap.size := (by have hq := Ext.size xx; (try simp at hq); omega)
    have hb0 : w.heap.size < w4.heap.size := (by omega)
    have q0_1 := Ext.cell (p := ⟨w.heap.size, 1, none⟩) (v := .slice ao zs.length c) xx q0_1
    have hb1 : w.heap.size + 1 < w4.heap.size := (by omega)
    have q1_1 := Ext.cell (p := ⟨w.heap.size + 1, 1, none⟩) (v := .slice bo us.length d) xx q1_1
    have hb2 : w.heap.size + 1 + 1 < w4.heap.size := (by omega)
    have fq2_0 := Ext.free (p := ⟨w.heap.size + 1 + 1, 0, none⟩) (v := .bool false) xx q2_0 fq2_0
    have q2_0 := Ext.cell (p := ⟨w.heap.size + 1 + 1, 0, none⟩) (v := .bool false) xx q2_0
    have fq2_1 := Ext.free (p := ⟨w.heap.size + 1 + 1, 1, none⟩) (v := .slice none 0 0) xx q2_1 fq2_1
    have q2_1 := Ext.cell (p := ⟨w.heap.size + 1 + 1, 1, none⟩) (v := .slice none 0 0) xx q2_1
    clear xx
    go_wp2_with fail
    refine (RSubM _ _ _ zs _ _ _ us _ true rfl rfl (h.ext hE) (k.ext hE) (by first | omega | (simp; done) | (simp; omega)) (by first | omega | (simp; done) | (simp; omega)) (decide_eq_true hle.out)).mono ?_
    rintro e w5 ⟨r5a, r5c, r5z, r5B, rfl, r5b, r5o, r5k, r5v, r5l, xx⟩
    try simp at r5b
    try simp only [List.length_cons, List.length_nil] at r5l
    replace hE := Ext.trans hE xx
    have hz5 : w4.heap.size ≤ w5.heap.size := (by have hq := Ext.size xx; (try simp at hq); omega)
    have hb2 : w.heap.size + 1 + 1 < w5.heap.size := (by omega)
    have fq2_0 := Ext.free (p := ⟨w.heap.size + 1 + 1, 0, none⟩) (v := .bool false) xx q2_0 fq2_0
    have q2_0 := Ext.cell (p := ⟨w.heap.size + 1 + 1, 0, none⟩) (v := .bool false) xx q2_0
    have fq2_1 := Ext.free (p := ⟨w.heap.size + 1 + 1, 1, none⟩) (v := .slice none 0 0) xx q2_1 fq2_1
    have q2_1 := Ext.cell (p := ⟨w.heap.size + 1 + 1, 1, none⟩) (v := .slice none 0 0) xx q2_1
    clear xx
    go_wp2_with fail
    refine (RFrom_any false _ _ _ r5z _ rfl r5o.rd (by first | omega | (simp; done) | (simp; omega))).mono ?_
    rintro e w6 ⟨r6s, r6a, r6c, r6z, r6B, rfl, r6b, r6o, r6k, r6v, r6l, xx⟩
    try simp at r6b
    try simp only [List.length_cons, List.length_nil] at r6l
    replace hE := Ext.trans hE xx
    have hz6 : w5.heap.size ≤ w6.heap.size := (by have hq := Ext.size xx; (try simp at hq); omega)
    have hb2 : w.heap.size + 1 + 1 < w6.heap.size := (by omega)
    have fq2_0 := Ext.free (p := ⟨w.heap.size + 1 + 1, 0, none⟩) (v := .bool false) xx q2_0 fq2_0
    have q2_0 := Ext.cell (p := ⟨w.heap.size + 1 + 1, 0, none⟩) (v := .bool false) xx q2_0
    have fq2_1 := Ext.free (p := ⟨w.heap.size + 1 + 1, 1, none⟩) (v := .slice none 0 0) xx q2_1 fq2_1
    have q2_1 := Ext.cell (p := ⟨w.heap.size + 1 + 1, 1, none⟩) (v := .slice none 0 0) xx q2_1
    clear xx
    go_wp2_with fail
    refine bodyPost_ret (v := .agg #[.bool r6s, .slice r6a r6z.length r6c]) (by simp [results, Try.results24, go_sem, q2_0, q2_1]) rfl ?_
    exact ⟨r6s, r6a, r6c, r6z, r6B, rfl, (by omega), (Own.st (Own.st r6o (b := w.heap.size + 1 + 1) (by omega) _ _) (b := w.heap.size + 1 + 1) (by omega) _ _), r6k, (by unfold Hid; rw [r6v.out, iv_false, r5v.out]; have a := iv_abs s zs; have b := iv_abs t us;  have := hs.out; have := hle.out; omega), (by first | omega | (simp; done) | (simp; omega)), (Ext.st (Ext.st hE (b := w.heap.size + 1 + 1) (by omega) _ _) (b := w.heap.size + 1 + 1) (by omega) _ _)⟩
  · replace hle := Lib.hid hle
    go_enter Try.func24, Try.ntmps24
    go_wp2_with fail
    refine (RSign_any s _ _ _ zs _ x rfl (h.ext ((((Ext.refl _).alloc _).alloc _).alloc _)) (by first | omega | (simp; done) | (simp; omega)) hx.out).mono ?_
    rintro e w1 ⟨rfl, xx⟩
    have hE : Ext w w1 := Ext.trans ((((Ext.refl _).alloc _).alloc _).alloc _) xx
    have hz1 : w.heap.size + 3 ≤ w1.heap.size := (by have hq := Ext.size xx; (try simp at hq); omega)
    have hb0 : w.heap.size < w1.heap.size := (by omega)
    have q0_0 := Ext.cell (p := ⟨w.heap.size, 0, none⟩) (v := .bool s) xx (by first | exact True | go_simp | (repeat (first | assumption | (refine (World.cell?_setCell_far _ _ _ _ (by simp <;> omega)).trans ?_) | (refine (World.cell?_alloc_lt _ _ _ (World.block_lt_of_cell? _ _ (by assumption))).trans ?_) | go_simp)))
    have q0_1 := Ext.cell (p := ⟨w.heap.size, 1, none⟩) (v := .slice ao zs.length c) xx (by first | exact True | go_simp | (repeat (first | assumption | (refine (World.cell?_setCell_far _ _ _ _ (by simp <;> omega)).trans ?_) | (refine (World.cell?_alloc_lt _ _ _ (World.block_lt_of_cell? _ _ (by assumption))).trans ?_) | go_simp)))
    have hb1 : w.heap.size + 1 < w1.heap.size := (by omega)
    have q1_0 := Ext.cell (p := ⟨w.heap.size + 1, 0, none⟩) (v := .bool t) xx (by first | exact True | go_simp | (repeat (first | assumption | (refine (World.cell?_setCell_far _ _ _ _ (by simp <;> omega)).trans ?_) | (refine (World.cell?_alloc_lt _ _ _ (World.block_lt_of_cell? _ _ (by assumption))).trans ?_) | go_simp)))
    have q1_1 := Ext.cell (p := ⟨w.heap.size + 1, 1, none⟩) (v := .slice bo us.length d) xx (by first | exact True | go_simp | (repeat (first | assumption | (refine (World.cell?_setCell_far _ _ _ _ (by simp <;> omega)).trans ?_) | (refine (World.cell?_alloc_lt _ _ _ (World.block_lt_of_cell? _ _ (by assumption))).trans ?_) | go_simp)))
    have hb2 : w.heap.size + 1 + 1 < w1.heap.size := (by omega)
    have fq2_0 := Ext.free (p := ⟨w.heap.size + 1 + 1, 0, none⟩) (v := .bool false) xx (by first | exact True | go_simp | (repeat (first | assumption | (refine (World.cell?_setCell_far _ _ _ _ (by simp <;> omega)).trans ?_) | (refine (World.cell?_alloc_lt _ _ _ (World.block_lt_of_cell? _ _ (by assumption))).trans ?_) | go_simp))) (by first | assumption | go_simp)
    have q2_0 := Ext.cell (p := ⟨w.heap.size + 1 + 1, 0, none⟩) (v := .bool false) xx (by first | exact True | go_simp | (repeat (first | assumption | (refine (World.cell?_setCell_far _ _ _ _ (by simp <;> omega)).trans ?_) | (refine (World.cell?_alloc_lt _ _ _ (World.block_lt_of_cell? _ _ (by assumption))).trans ?_) | go_simp)))
    have fq2_1 := Ext.free (p := ⟨w.heap.size + 1 + 1, 1, none⟩) (v := .slice none 0 0) xx (by first | exact True | go_simp | (repeat (first | assumption | (refine (World.cell?_setCell_far _ _ _ _ (by simp <;> omega)).trans ?_) | (refine (World.cell?_alloc_lt _ _ _ (World.block_lt_of_cell? _ _ (by assumption))).trans ?_) | go_simp))) (by first | assumption | go_simp)
    have q2_1 := Ext.cell (p := ⟨w.heap.size + 1 + 1, 1, none⟩) (v := .slice none 0 0) xx (by first | exact True | go_simp | (repeat (first | assumption | (refine (World.cell?_setCell_far _ _ _ _ (by simp <;> omega)).trans ?_) | (refine (World.cell?_alloc_lt _ _ _ (World.block_lt_of_cell? _ _ (by assumption))).trans ?_) | go_simp)))
    clear xx
    go_wp2_with fail
    refine (RSign_any s _ _ _ zs _ x rfl (h.ext hE) (by first | omega | (simp; done) | (simp; omega)) hx.out).mono ?_
    rintro e w2 ⟨rfl, xx⟩
    replace hE := Ext.trans hE xx
    have hz2 : w1.heap.size ≤ w2.heap.size := (by have hq := Ext.size xx; (try simp at hq); omega)
    have hb0 : w.heap.size < w2.heap.size := (by omega)
    have q0_0 := Ext.cell (p := ⟨w.heap.size, 0, none⟩) (v := .bool s) xx q0_0
    have q0_1 := Ext.cell (p := ⟨w.heap.size, 1, none⟩) (v := .slice ao zs.length c) xx q0_1
    have hb1 : w.heap.size + 1 < w2.heap.size := (by omega)
    have q1_0 := Ext.cell (p := ⟨w.heap.size + 1, 0, none⟩) (v := .bool t) xx q1_0
    have q1_1 := Ext.cell (p := ⟨w.heap.size + 1, 1, none⟩) (v := .slice bo us.length d) xx q1_1
    have hb2 : w.heap.size + 1 + 1 < w2.heap.size := (by omega)
    have fq2_0 := Ext.free (p := ⟨w.heap.size + 1 + 1, 0, none⟩) (v := .bool false) xx q2_0 fq2_0
    have q2_0 := Ext.cell (p := ⟨w.heap.size + 1 + 1, 0, none⟩) (v := .bool false) xx q2_0
    have fq2_1 := Ext.free (p := ⟨w.heap.size + 1 + 1, 1, none⟩) (v := .slice none 0 0) xx q2_1 fq2_1
    have q2_1 := Ext.cell (p := ⟨w.heap.size + 1 + 1, 1, none⟩) (v := .slice none 0 0) xx q2_1
    clear xx
    go_wp2_with fail
    refine (RSign_any t _ _ _ us _ y rfl (k.ext hE) (by first | omega | (simp; done) | (simp; omega)) hy.out).mono ?_
    rintro e w3 ⟨rfl, xx⟩
    replace hE := Ext.trans hE xx
    have hz3 : w2.heap.size ≤ w3.heap.size := (by have hq := Ext.size xx; (try simp at hq); omega)
    have hb0 : w.heap.size < w3.heap.size := (by omega)
    have q0_0 := Ext.cell (p := ⟨w.heap.size, 0, none⟩) (v := .bool s) xx q0_0
    have q0_1 := Ext.cell (p := ⟨w.heap.size, 1, none⟩) (v := .slice ao zs.length c) xx q0_1
    have hb1 : w.heap.size + 1 < w3.heap.size := (by omega)
    have q1_1 := Ext.cell (p := ⟨w.heap.size + 1, 1, none⟩) (v := .slice bo us.length d) xx q1_1
    have hb2 : w.heap.size + 1 + 1 < w3.heap.size := (by omega)
    have fq2_0 := Ext.free (p := ⟨w.heap.size + 1 + 1, 0, none⟩) (v := .bool false) xx q2_0 fq2_0
    have q2_0 := Ext.cell (p := ⟨w.heap.size + 1 + 1, 0, none⟩) (v := .bool false) xx q2_0
    have fq2_1 := Ext.free (p := ⟨w.heap.size + 1 + 1, 1, none⟩) (v := .slice none 0 0) xx q2_1 fq2_1
    have q2_1 := Ext.cell (p := ⟨w.heap.size + 1 + 1, 1, none⟩) (v := .slice none 0 0) xx q2_1
    clear xx
    go_wp2_with fail
    refine (RSign_any s _ _ _ zs _ x rfl (h.ext hE) (by first | omega | (simp; done) | (simp; omega)) hx.out).mono ?_
    rintro e w4 ⟨rfl, xx⟩
    replace hE := Ext.trans hE xx
    have hz4 : w3.heap.size ≤ w4.heap.size := (by have hq := Ext.size xx; (try simp at hq); omega)
    have hb0 : w.heap.size < w4.heap.size := (by omega)
    have q0_1 := Ext.cell (p := ⟨w.heap.size, 1, none⟩) (v := .slice ao zs.length c) xx q0_1
    have hb1 : w.heap.size + 1 < w4.heap.size := (by omega)
    have q1_1 := Ext.cell (p := ⟨w.heap.size + 1, 1, none⟩) (v := .slice bo us.length d) xx q1_1
    have hb2 : w.heap.size + 1 + 1 < w4.heap.size := (by omega)
    have fq2_0 := Ext.free (p := ⟨w.heap.size + 1 + 1, 0, none⟩) (v := .bool false) xx q2_0 fq2_0
    have q2_0 := Ext.cell (p := ⟨w.heap.size + 1 + 1, 0, none⟩) (v := .bool false) xx q2_0
    have fq2_1 := Ext.free (p := ⟨w.heap.size + 1 + 1, 1, none⟩) (v := .slice none 0 0) xx q2_1 fq2_1
    have q2_1 := Ext.cell (p := ⟨w.heap.size + 1 + 1, 1, none⟩) (v := .slice none 0 0) xx q2_1
    clear xx
    go_wp2_with fail
    refine (RSubM _ _ _ zs _ _ _ us _ false rfl rfl (h.ext hE) (k.ext hE) (by first | omega | (simp; done) | (simp; omega)) (by first | omega | (simp; done) | (simp; omega)) (decide_eq_false hle.out)).mono ?_
    rintro e w5 ⟨r5a, r5c, r5z, r5B, rfl, r5b, r5o, r5k, r5v, r5l, xx⟩
    try simp at r5b
    try simp only [List.length_cons, List.length_nil] at r5l
    replace hE := Ext.trans hE xx
    have hz5 : w4.heap.size ≤ w5.heap.size := (by have hq := Ext.size xx; (try simp at hq); omega)
    have hb0 : w.heap.size < w5.heap.size := (by omega)
    have q0_1 := Ext.cell (p := ⟨w.heap.size, 1, none⟩) (v := .slice ao zs.length c) xx q0_1
    have hb1 : w.heap.size + 1 < w5.heap.size := (by omega)
    have q1_1 := Ext.cell (p := ⟨w.heap.size + 1, 1, none⟩) (v := .slice bo us.length d) xx q1_1
    have hb2 : w.heap.size + 1 + 1 < w5.heap.size := (by omega)
    have fq2_0 := Ext.free (p := ⟨w.heap.size + 1 + 1, 0, none⟩) (v := .bool false) xx q2_0 fq2_0
    have q2_0 := Ext.cell (p := ⟨w.heap.size + 1 + 1, 0, none⟩) (v := .bool false) xx q2_0
    have fq2_1 := Ext.free (p := ⟨w.heap.size + 1 + 1, 1, none⟩) (v := .slice none 0 0) xx q2_1 fq2_1
    have q2_1 := Ext.cell (p := ⟨w.heap.size + 1 + 1, 1, none⟩) (v := .slice none 0 0) xx q2_1
    clear xx
    go_wp2_with fail
    refine (RSubM _ _ _ us _ _ _ zs _ true rfl rfl (k.ext hE) (h.ext hE) (by first | omega | (simp; done) | (simp; omega)) (by first | omega | (simp; done) | (simp; omega)) (decide_eq_true (Nat.le_of_lt (Nat.lt_of_not_le hle.out)))).mono ?_
    rintro e w6 ⟨r6a, r6c, r6z, r6B, rfl, r6b, r6o, r6k, r6v, r6l, xx⟩
    try simp at r6b
    try simp only [List.length_cons, List.length_nil] at r6l
    replace hE := Ext.trans hE xx
    have hz6 : w5.heap.size ≤ w6.heap.size := (by have hq := Ext.size xx; (try simp at hq); omega)
    have hb2 : w.heap.size + 1 + 1 < w6.heap.size := (by omega)
    have fq2_0 := Ext.free (p := ⟨w.heap.size + 1 + 1, 0, none⟩) (v := .bool false) xx q2_0 fq2_0
    have q2_0 := Ext.cell (p := ⟨w.heap.size + 1 + 1, 0, none⟩) (v := .bool false) xx q2_0
    have fq2_1 := Ext.free (p := ⟨w.heap.size + 1 + 1, 1, none⟩) (v := .slice none 0 0) xx q2_1 fq2_1
    have q2_1 := Ext.cell (p := ⟨w.heap.size + 1 + 1, 1, none⟩) (v := .slice none 0 0) xx q2_1
    clear xx
    go_wp2_with fail
    refine (RFrom_any true _ _ _ r6z _ rfl r6o.rd (by first | omega | (simp; done) | (simp; omega))).mono ?_
    rintro e w7 ⟨r7s, r7a, r7c, r7z, r7B, rfl, r7b, r7o, r7k, r7v, r7l, xx⟩
    try simp at r7b
    try simp only [List.length_cons, List.length_nil] at r7l
    replace hE := Ext.trans hE xx
    have hz7 : w6.heap.size ≤ w7.heap.size := (by have hq := Ext.size xx; (try simp at hq); omega)
    have hb2 : w.heap.size + 1 + 1 < w7.heap.size := (by omega)
    have fq2_0 := Ext.free (p := ⟨w.heap.size + 1 + 1, 0, none⟩) (v := .bool false) xx q2_0 fq2_0
    have q2_0 := Ext.cell (p := ⟨w.heap.size + 1 + 1, 0, none⟩) (v := .bool false) xx q2_0
    have fq2_1 := Ext.free (p := ⟨w.heap.size + 1 + 1, 1, none⟩) (v := .slice none 0 0) xx q2_1 fq2_1
    have q2_1 := Ext.cell (p := ⟨w.heap.size + 1 + 1, 1, none⟩) (v := .slice none 0 0) xx q2_1
    clear xx
    go_wp2_with fail
    refine bodyPost_ret (v := .agg #[.bool r7s, .slice r7a r7z.length r7c]) (by simp [results, Try.results24, go_sem, q2_0, q2_1]) rfl ?_
    exact ⟨r7s, r7a, r7c, r7z, r7B, rfl, (by omega), (Own.st (Own.st r7o (b := w.heap.size + 1 + 1) (by omega) _ _) (b := w.heap.size + 1 + 1) (by omega) _ _), r7k, (by unfold Hid; rw [r7v.out, iv_true, r6v.out]; have a := iv_abs s zs; have b := iv_abs t us;  have := hs.out; have := hle.out; omega), (by first | omega | (simp; done) | (simp; omega)), (Ext.st (Ext.st hE (b := w.heap.size + 1 + 1) (by omega) _ _) (b := w.heap.size + 1 + 1) (by omega) _ _)⟩
set_option maxRecDepth 100000 in
set_option maxHeartbeats 1000000 in
theorem RZAdd_any (s : Bool) (ao : Option Addr) (n c : Nat) (zs : List Nat) (t : Bool) (bo : Option Addr) (m d : Nat) (us : List Nat) (w : World) (hn : n = zs.length) (hm : m = us.length) (h : Rd w ao c zs) (k : Rd w bo d us) (hl : zs.length ≤ 100000) (hl2 : us.length ≤ 100000) :
    Calls Try.prog 24 #[.agg #[.bool s, .slice ao n c], .agg #[.bool t, .slice bo m d]] w (GotZ w (iv s zs + iv t us) (zs.length + us.length + 1)) := by
  subst hn hm
  obtain ⟨x, hx⟩ : ∃ x, sgn (iv s zs) = x := ⟨_, rfl⟩
  obtain ⟨y, hy⟩ : ∃ y, sgn (iv t us) = y := ⟨_, rfl⟩
  replace hx := Lib.hid hx
  replace hy := Lib.hid hy
  by_cases h0 : x < 0
  · have hs : Hid (iv s zs < 0) := sgn_lt_zero.1 (by rw [hx.out]; exact h0)
    have n0 : ¬ 0 ≤ x := by omega
    by_cases h1 : y < 0
    · have ht : Hid (iv t us < 0) := sgn_lt_zero.1 (by rw [hy.out]; exact h1)
      go_enter Try.func24, Try.ntmps24
      go_wp2_with fail
      refine (RSign_any s _ _ _ zs _ x rfl (h.ext ((((Ext.refl _).alloc _).alloc _).alloc _)) (by first | omega | (simp; done) | (simp; omega)) hx.out).mono ?_
      rintro e w1 ⟨rfl, xx⟩
      have hE : Ext w w1 := Ext.trans ((((Ext.refl _).alloc _).alloc _).alloc _) xx
      have hz1 : w.heap.size + 3 ≤ w1.heap.size := (by have hq := Ext.size xx; (try simp at hq); omega)
      have hb0 : w.heap.size < w1.heap.size := (by omega)
      have q0_1 := Ext.cell (p := ⟨w.heap.size, 1, none⟩) (v := .slice ao zs.length c) xx (by first | exact True | go_simp | (repeat (first | assumption | (refine (World.cell?_setCell_far _ _ _ _ (by simp <;> omega)).trans ?_) | (refine (World.cell?_alloc_lt _ _ _ (World.block_lt_of_cell? _ _ (by assumption))).trans ?_) | go_simp)))
      have hb1 : w.heap.size + 1 < w1.heap.size := (by omega)
      have q1_0 := Ext.cell (p := ⟨w.heap.size + 1, 0, none⟩) (v := .bool t) xx (by first | exact True | go_simp | (repeat (first | assumption | (refine (World.cell?_setCell_far _ _ _ _ (by simp <;> omega)).trans ?_) | (refine (World.cell?_alloc_lt _ _ _ (World.block_lt_of_cell? _ _ (by assumption))).trans ?_) | go_simp)))
      have q1_1 := Ext.cell (p := ⟨w.heap.size + 1, 1, none⟩) (v := .slice bo us.length d) xx (by first | exact True | go_simp | (repeat (first | assumption | (refine (World.cell?_setCell_far _ _ _ _ (by simp <;> omega)).trans ?_) | (refine (World.cell?_alloc_lt _ _ _ (World.block_lt_of_cell? _ _ (by assumption))).trans ?_) | go_simp)))
      have hb2 : w.heap.size + 1 + 1 < w1.heap.size := (by omega)
      have fq2_0 := Ext.free (p := ⟨w.heap.size + 1 + 1, 0, none⟩) (v := .bool false) xx (by first | exact True | go_simp | (repeat (first | assumption | (refine (World.cell?_setCell_far _ _ _ _ (by simp <;> omega)).trans ?_) | (refine (World.cell?_alloc_lt _ _ _ (World.block_lt_of_cell? _ _ (by assumption))).trans ?_) | go_simp))) (by first | assumption | go_simp)
      have q2_0 := Ext.cell (p := ⟨w.heap.size + 1 + 1, 0, none⟩) (v := .bool false) xx (by first | exact True | go_simp | (repeat (first | assumption | (refine (World.cell?_setCell_far _ _ _ _ (by simp <;> omega)).trans ?_) | (refine (World.cell?_alloc_lt _ _ _ (World.block_lt_of_cell? _ _ (by assumption))).trans ?_) | go_simp)))
      have fq2_1 := Ext.free (p := ⟨w.heap.size + 1 + 1, 1, none⟩) (v := .slice none 0 0) xx (by first | exact True | go_simp | (repeat (first | assumption | (refine (World.cell?_setCell_far _ _ _ _ (by simp <;> omega)).trans ?_) | (refine (World.cell?_alloc_lt _ _ _ (World.block_lt_of_cell? _ _ (by assumption))).trans ?_) | go_simp))) (by first | assumption | go_simp)
      have q2_1 := Ext.cell (p := ⟨w.heap.size + 1 + 1, 1, none⟩) (v := .slice none 0 0) xx (by first | exact True | go_simp | (repeat (first | assumption | (refine (World.cell?_setCell_far _ _ _ _ (by simp <;> omega)).trans ?_) | (refine (World.cell?_alloc_lt _ _ _ (World.block_lt_of_cell? _ _ (by assumption))).trans ?_) | go_simp)))
      clear xx
      go_wp2_with fail
      refine (RSign_any t _ _ _ us _ y rfl (k.ext hE) (by first | omega | (simp; done) | (simp; omega)) hy.out).mono ?_
      rintro e w2 ⟨rfl, xx⟩
      replace hE := Ext.trans hE xx
      have hz2 : w1.heap.size ≤ w2.heap.size := (by have hq := Ext.size xx; (try simp at hq); omega)
      have hb0 : w.heap.size < w2.heap.size := (by omega)
      have q0_1 := Ext.cell (p := ⟨w.heap.size, 1, none⟩) (v := .slice ao zs.length c) xx q0_1
      have hb1 : w.heap.size + 1 < w2.heap.size := (by omega)
      have q1_1 := Ext.cell (p := ⟨w.heap.size + 1, 1, none⟩) (v := .slice bo us.length d) xx q1_1
      have hb2 : w.heap.size + 1 + 1 < w2.heap.size := (by omega)
      have fq2_0 := Ext.free (p := ⟨w.heap.size + 1 + 1, 0, none⟩) (v := .bool false) xx q2_0 fq2_0
      have q2_0 := Ext.cell (p := ⟨w.heap.size + 1 + 1, 0, none⟩) (v := .bool false) xx q2_0
      have fq2_1 := Ext.free (p := ⟨w.heap.size + 1 + 1, 1, none⟩) (v := .slice none 0 0) xx q2_1 fq2_1
      have q2_1 := Ext.cell (p := ⟨w.heap.size + 1 + 1, 1, none⟩) (v := .slice none 0 0) xx q2_1
      clear xx
      go_wp2_with fail
      refine (RAddM _ _ _ zs _ _ _ us _ rfl rfl (h.ext hE) (k.ext hE) (by first | omega | (simp; done) | (simp; omega)) (by first | omega | (simp; done) | (simp; omega))).mono ?_
      rintro e w3 ⟨r3a, r3c, r3z, r3B, rfl, r3b, r3o, r3k, r3v, r3l, xx⟩
      try simp at r3b
      try simp only [List.length_cons, List.length_nil] at r3l
      replace hE := Ext.trans hE xx
      have hz3 : w2.heap.size ≤ w3.heap.size := (by have hq := Ext.size xx; (try simp at hq); omega)
      have hb2 : w.heap.size + 1 + 1 < w3.heap.size := (by omega)
      have fq2_0 := Ext.free (p := ⟨w.heap.size + 1 + 1, 0, none⟩) (v := .bool false) xx q2_0 fq2_0
      have q2_0 := Ext.cell (p := ⟨w.heap.size + 1 + 1, 0, none⟩) (v := .bool false) xx q2_0
      have fq2_1 := Ext.free (p := ⟨w.heap.size + 1 + 1, 1, none⟩) (v := .slice none 0 0) xx q2_1 fq2_1
      have q2_1 := Ext.cell (p := ⟨w.heap.size + 1 + 1, 1, none⟩) (v := .slice none 0 0) xx q2_1
      clear xx
      go_wp2_with fail
      refine (RFrom_any true _ _ _ r3z _ rfl r3o.rd (by first | omega | (simp; done) | (simp; omega))).mono ?_
      rintro e w4 ⟨r4s, r4a, r4c, r4z, r4B, rfl, r4b, r4o, r4k, r4v, r4l, xx⟩
      try simp at r4b
      try simp only [List.length_cons, List.length_nil] at r4l
      replace hE := Ext.trans hE xx
      have hz4 : w3.heap.size ≤ w4.heap.size := (by have hq := Ext.size xx; (try simp at hq); omega)
      have hb2 : w.heap.size + 1 + 1 < w4.heap.size := (by omega)
      have fq2_0 := Ext.free (p := ⟨w.heap.size + 1 + 1, 0, none⟩) (v := .bool false) xx q2_0 fq2_0
      have q2_0 := Ext.cell (p := ⟨w.heap.size + 1 + 1, 0, none⟩) (v := .bool false) xx q2_0
      have fq2_1 := Ext.free (p := ⟨w.heap.size + 1 + 1, 1, none⟩) (v := .slice none 0 0) xx q2_1 fq2_1
      have q2_1 := Ext.cell (p := ⟨w.heap.size + 1 + 1, 1, none⟩) (v := .slice none 0 0) xx q2_1
      clear xx
      go_wp2_with fail
      refine bodyPost_ret (v := .agg #[.bool r4s, .slice r4a r4z.length r4c]) (by simp [results, Try.results24, go_sem, q2_0, q2_1]) rfl ?_
      exact ⟨r4s, r4a, r4c, r4z, r4B, rfl, (by omega), (Own.st (Own.st r4o (b := w.heap.size + 1 + 1) (by omega) _ _) (b := w.heap.size + 1 + 1) (by omega) _ _), r4k, (by unfold Hid; rw [r4v.out, iv_true, r3v.out]; have a := iv_abs s zs; have b := iv_abs t us;  have := hs.out; have := ht.out; omega), (by first | omega | (simp; done) | (simp; omega)), (Ext.st (Ext.st hE (b := w.heap.size + 1 + 1) (by omega) _ _) (b := w.heap.size + 1 + 1) (by omega) _ _)⟩
    · have n1 : 0 ≤ y := by omega
      go_enter Try.func24, Try.ntmps24
      go_wp2_with fail
      refine (RSign_any s _ _ _ zs _ x rfl (h.ext ((((Ext.refl _).alloc _).alloc _).alloc _)) (by first | omega | (simp; done) | (simp; omega)) hx.out).mono ?_
      rintro e w1 ⟨rfl, xx⟩
      have hE : Ext w w1 := Ext.trans ((((Ext.refl _).alloc _).alloc _).alloc _) xx
      have hz1 : w.heap.size + 3 ≤ w1.heap.size := (by have hq := Ext.size xx; (try simp at hq); omega)
      have hb0 : w.heap.size < w1.heap.size := (by omega)
      have q0_0 := Ext.cell (p := ⟨w.heap.size, 0, none⟩) (v := .bool s) xx (by first | exact True | go_simp | (repeat (first | assumption | (refine (World.cell?_setCell_far _ _ _ _ (by simp <;> omega)).trans ?_) | (refine (World.cell?_alloc_lt _ _ _ (World.block_lt_of_cell? _ _ (by assumption))).trans ?_) | go_simp)))
      have q0_1 := Ext.cell (p := ⟨w.heap.size, 1, none⟩) (v := .slice ao zs.length c) xx (by first | exact True | go_simp | (repeat (first | assumption | (refine (World.cell?_setCell_far _ _ _ _ (by simp <;> omega)).trans ?_) | (refine (World.cell?_alloc_lt _ _ _ (World.block_lt_of_cell? _ _ (by assumption))).trans ?_) | go_simp)))
      have hb1 : w.heap.size + 1 < w1.heap.size := (by omega)
      have q1_0 := Ext.cell (p := ⟨w.heap.size + 1, 0, none⟩) (v := .bool t) xx (by first | exact True | go_simp | (repeat (first | assumption | (refine (World.cell?_setCell_far _ _ _ _ (by simp <;> omega)).trans ?_) | (refine (World.cell?_alloc_lt _ _ _ (World.block_lt_of_cell? _ _ (by assumption))).trans ?_) | go_simp)))
      have q1_1 := Ext.cell (p := ⟨w.heap.size + 1, 1, none⟩) (v := .slice bo us.length d) xx (by first | exact True | go_simp | (repeat (first | assumption | (refine (World.cell?_setCell_far _ _ _ _ (by simp <;> omega)).trans ?_) | (refine (World.cell?_alloc_lt _ _ _ (World.block_lt_of_cell? _ _ (by assumption))).trans ?_) | go_simp)))
      have hb2 : w.heap.size + 1 + 1 < w1.heap.size := (by omega)
      have fq2_0 := Ext.free (p := ⟨w.heap.size + 1 + 1, 0, none⟩) (v := .bool false) xx (by first | exact True | go_simp | (repeat (first | assumption | (refine (World.cell?_setCell_far _ _ _ _ (by simp <;> omega)).trans ?_) | (refine (World.cell?_alloc_lt _ _ _ (World.block_lt_of_cell? _ _ (by assumption))).trans ?_) | go_simp))) (by first | assumption | go_simp)
      have q2_0 := Ext.cell (p := ⟨w.heap.size + 1 + 1, 0, none⟩) (v := .bool false) xx (by first | exact True | go_simp | (repeat (first | assumption | (refine (World.cell?_setCell_far _ _ _ _ (by simp <;> omega)).trans ?_) | (refine (World.cell?_alloc_lt _ _ _ (World.block_lt_of_cell? _ _ (by assumption))).trans ?_) | go_simp)))
      have fq2_1 := Ext.free (p := ⟨w.heap.size + 1 + 1, 1, none⟩) (v := .slice none 0 0) xx (by first | exact True | go_simp | (repeat (first | assumption | (refine (World.cell?_setCell_far _ _ _ _ (by simp <;> omega)).trans ?_) | (refine (World.cell?_alloc_lt _ _ _ (World.block_lt_of_cell? _ _ (by assumption))).trans ?_) | go_simp))) (by first | assumption | go_simp)
      have q2_1 := Ext.cell (p := ⟨w.heap.size + 1 + 1, 1, none⟩) (v := .slice none 0 0) xx (by first | exact True | go_simp | (repeat (first | assumption | (refine (World.cell?_setCell_far _ _ _ _ (by simp <;> omega)).trans ?_) | (refine (World.cell?_alloc_lt _ _ _ (World.block_lt_of_cell? _ _ (by assumption))).trans ?_) | go_simp)))
      clear xx
      go_wp2_with fail
      refine (RSign_any t _ _ _ us _ y rfl (k.ext hE) (by first | omega | (simp; done) | (simp; omega)) hy.out).mono ?_
      rintro e w2 ⟨rfl, xx⟩
      replace hE := Ext.trans hE xx
      have hz2 : w1.heap.size ≤ w2.heap.size := (by have hq := Ext.size xx; (try simp at hq); omega)
      have hb0 : w.heap.size < w2.heap.size := (by omega)
      have q0_0 := Ext.cell (p := ⟨w.heap.size, 0, none⟩) (v := .bool s) xx q0_0
      have q0_1 := Ext.cell (p := ⟨w.heap.size, 1, none⟩) (v := .slice ao zs.length c) xx q0_1
      have hb1 : w.heap.size + 1 < w2.heap.size := (by omega)
      have q1_0 := Ext.cell (p := ⟨w.heap.size + 1, 0, none⟩) (v := .bool t) xx q1_0
      have q1_1 := Ext.cell (p := ⟨w.heap.size + 1, 1, none⟩) (v := .slice bo us.length d) xx q1_1
      have hb2 : w.heap.size + 1 + 1 < w2.heap.size := (by omega)
      have fq2_0 := Ext.free (p := ⟨w.heap.size + 1 + 1, 0, none⟩) (v := .bool false) xx q2_0 fq2_0
      have q2_0 := Ext.cell (p := ⟨w.heap.size + 1 + 1, 0, none⟩) (v := .bool false) xx q2_0
      have fq2_1 := Ext.free (p := ⟨w.heap.size + 1 + 1, 1, none⟩) (v := .slice none 0 0) xx q2_1 fq2_1
      have q2_1 := Ext.cell (p := ⟨w.heap.size + 1 + 1, 1, none⟩) (v := .slice none 0 0) xx q2_1
      clear xx
      go_wp2_with fail
      refine (RSign_any s _ _ _ zs _ x rfl (h.ext hE) (by first | omega | (simp; done) | (simp; omega)) hx.out).mono ?_
      rintro e w3 ⟨rfl, xx⟩
      replace hE := Ext.trans hE xx
      have hz3 : w2.heap.size ≤ w3.heap.size := (by have hq := Ext.size xx; (try simp at hq); omega)
      have hb0 : w.heap.size < w3.heap.size := (by omega)
      have q0_0 := Ext.cell (p := ⟨w.heap.size, 0, none⟩) (v := .bool s) xx q0_0
      have q0_1 := Ext.cell (p := ⟨w.heap.size, 1, none⟩) (v := .slice ao zs.length c) xx q0_1
      have hb1 : w.heap.size + 1 < w3.heap.size := (by omega)
      have q1_0 := Ext.cell (p := ⟨w.heap.size + 1, 0, none⟩) (v := .bool t) xx q1_0
      have q1_1 := Ext.cell (p := ⟨w.heap.size + 1, 1, none⟩) (v := .slice bo us.length d) xx q1_1
      have hb2 : w.heap.size + 1 + 1 < w3.heap.size := (by omega)
      have fq2_0 := Ext.free (p := ⟨w.heap.size + 1 + 1, 0, none⟩) (v := .bool false) xx q2_0 fq2_0
      have q2_0 := Ext.cell (p := ⟨w.heap.size + 1 + 1, 0, none⟩) (v := .bool false) xx q2_0
      have fq2_1 := Ext.free (p := ⟨w.heap.size + 1 + 1, 1, none⟩) (v := .slice none 0 0) xx q2_1 fq2_1
      have q2_1 := Ext.cell (p := ⟨w.heap.size + 1 + 1, 1, none⟩) (v := .slice none 0 0) xx q2_1
      clear xx
      go_wp2_with fail
      refine (RSign_any s _ _ _ zs _ x rfl (h.ext hE) (by first | omega | (simp; done) | (simp; omega)) hx.out).mono ?_
      rintro e w4 ⟨rfl, xx⟩
      replace hE := Ext.trans hE xx
      have hz4 : w3.heap.size ≤ w4.heap.size := (by have hq := Ext.size xx; (try simp at hq); omega)
      have hb0 : w.heap.size < w4.heap.size := (by omega)
      have q0_0 := Ext.cell (p := ⟨w.heap.size, 0, none⟩) (v := .bool s) xx q0_0
      have q0_1 := Ext.cell (p := ⟨w.heap.size, 1, none⟩) (v := .slice ao zs.length c) xx q0_1
      have hb1 : w.heap.size + 1 < w4.heap.size := (by omega)
      have q1_0 := Ext.cell (p := ⟨w.heap.size + 1, 0, none⟩) (v := .bool t) xx q1_0
      have q1_1 := Ext.cell (p := ⟨w.heap.size + 1, 1, none⟩) (v := .slice bo us.length d) xx q1_1
      have hb2 : w.heap.size + 1 + 1 < w4.heap.size := (by omega)
      have fq2_0 := Ext.free (p := ⟨w.heap.size + 1 + 1, 0, none⟩) (v := .bool false) xx q2_0 fq2_0
      have q2_0 := Ext.cell (p := ⟨w.heap.size + 1 + 1, 0, none⟩) (v := .bool false) xx q2_0
      have fq2_1 := Ext.free (p := ⟨w.heap.size + 1 + 1, 1, none⟩) (v := .slice none 0 0) xx q2_1 fq2_1
      have q2_1 := Ext.cell (p := ⟨w.heap.size + 1 + 1, 1, none⟩) (v := .slice none 0 0) xx q2_1
      clear xx
      go_wp2_with fail
      refine (RZAdd_pn t _ _ _ us s _ _ _ zs _ rfl rfl (k.ext hE) (h.ext hE) (by omega) (by omega) (by rw [hy.out]; omega) (by rw [hx.out]; omega)).mono ?_
      rintro e w5 ⟨r5s, r5a, r5c, r5z, r5B, rfl, r5b, r5o, r5k, r5v, r5l, xx⟩
      try simp at r5b
      try simp only [List.length_cons, List.length_nil] at r5l
      replace hE := Ext.trans hE xx
      have hz5 : w4.heap.size ≤ w5.heap.size := (by have hq := Ext.size xx; (try simp at hq); omega)
      have hb2 : w.heap.size + 1 + 1 < w5.heap.size := (by omega)
      have fq2_0 := Ext.free (p := ⟨w.heap.size + 1 + 1, 0, none⟩) (v := .bool false) xx q2_0 fq2_0
      have q2_0 := Ext.cell (p := ⟨w.heap.size + 1 + 1, 0, none⟩) (v := .bool false) xx q2_0
      have fq2_1 := Ext.free (p := ⟨w.heap.size + 1 + 1, 1, none⟩) (v := .slice none 0 0) xx q2_1 fq2_1
      have q2_1 := Ext.cell (p := ⟨w.heap.size + 1 + 1, 1, none⟩) (v := .slice none 0 0) xx q2_1
      clear xx
      go_wp2_with fail
      refine bodyPost_ret (v := .agg #[.bool r5s, .slice r5a r5z.length r5c]) (by simp [results, Try.results24, go_sem, q2_0, q2_1]) rfl ?_
      exact ⟨r5s, r5a, r5c, r5z, r5B, rfl, (by omega), (Own.st (Own.st r5o (b := w.heap.size + 1 + 1) (by omega) _ _) (b := w.heap.size + 1 + 1) (by omega) _ _), r5k, (by unfold Hid; rw [r5v.out]; exact Int.add_comm _ _), (by first | omega | (simp; done) | (simp; omega)), (Ext.st (Ext.st hE (b := w.heap.size + 1 + 1) (by omega) _ _) (b := w.heap.size + 1 + 1) (by omega) _ _)⟩
  · have n0 : 0 ≤ x := by omega
    have hs : Hid (0 ≤ iv s zs) := by have a := hx.out; unfold Hid; unfold sgn at a; split at a <;> (try split at a) <;> omega
    by_cases h1 : y < 0
    · exact RZAdd_pn s ao _ c zs t bo _ d us w rfl rfl h k hl hl2 (by rw [hx.out]; exact n0) (by rw [hy.out]; exact h1)
    · have n1 : 0 ≤ y := by omega
      have ht : Hid (0 ≤ iv t us) := by have a := hy.out; unfold Hid; unfold sgn at a; split at a <;> (try split at a) <;> omega
      go_enter Try.func24, Try.ntmps24
      go_wp2_with fail
      refine (RSign_any s _ _ _ zs _ x rfl (h.ext ((((Ext.refl _).alloc _).alloc _).alloc _)) (by first | omega | (simp; done) | (simp; omega)) hx.out).mono ?_
      rintro e w1 ⟨rfl, xx⟩
      have hE : Ext w w1 := Ext.trans ((((Ext.refl _).alloc _).alloc _).alloc _) xx
      have hz1 : w.heap.size + 3 ≤ w1.heap.size := (by have hq := Ext.size xx; (try simp at hq); omega)
      have hb0 : w.heap.size < w1.heap.size := (by omega)
      have q0_0 := Ext.cell (p := ⟨w.heap.size, 0, none⟩) (v := .bool s) xx (by first | exact True | go_simp | (repeat (first | assumption | (refine (World.cell?_setCell_far _ _ _ _ (by simp <;> omega)).trans ?_) | (refine (World.cell?_alloc_lt _ _ _ (World.block_lt_of_cell? _ _ (by assumption))).trans ?_) | go_simp)))
      have q0_1 := Ext.cell (p := ⟨w.heap.size, 1, none⟩) (v := .slice ao zs.length c) xx (by first | exact True | go_simp | (repeat (first | assumption | (refine (World.cell?_setCell_far _ _ _ _ (by simp <;> omega)).trans ?_) | (refine (World.cell?_alloc_lt _ _ _ (World.block_lt_of_cell? _ _ (by assumption))).trans ?_) | go_simp)))
      have hb1 : w.heap.size + 1 < w1.heap.size := (by omega)
      have q1_0 := Ext.cell (p := ⟨w.heap.size + 1, 0, none⟩) (v := .bool t) xx (by first | exact True | go_simp | (repeat (first | assumption | (refine (World.cell?_setCell_far _ _ _ _ (by simp <;> omega)).trans ?_) | (refine (World.cell?_alloc_lt _ _ _ (World.block_lt_of_cell? _ _ (by assumption))).trans ?_) | go_simp)))
      have q1_1 := Ext.cell (p := ⟨w.heap.size + 1, 1, none⟩) (v := .slice bo us.length d) xx (by first | exact True | go_simp | (repeat (first | assumption | (refine (World.cell?_setCell_far _ _ _ _ (by simp <;> omega)).trans ?_) | (refine (World.cell?_alloc_lt _ _ _ (World.block_lt_of_cell? _ _ (by assumption))).trans ?_) | go_simp)))
      have hb2 : w.heap.size + 1 + 1 < w1.heap.size := (by omega)
      have fq2_0 := Ext.free (p := ⟨w.heap.size + 1 + 1, 0, none⟩) (v := .bool false) xx (by first | exact True | go_simp | (repeat (first | assumption | (refine (World.cell?_setCell_far _ _ _ _ (by simp <;> omega)).trans ?_) | (refine (World.cell?_alloc_lt _ _ _ (World.block_lt_of_cell? _ _ (by assumption))).trans ?_) | go_simp))) (by first | assumption | go_simp)
      have q2_0 := Ext.cell (p := ⟨w.heap.size + 1 + 1, 0, none⟩) (v := .bool false) xx (by first | exact True | go_simp | (repeat (first | assumption | (refine (World.cell?_setCell_far _ _ _ _ (by simp <;> omega)).trans ?_) | (refine (World.cell?_alloc_lt _ _ _ (World.block_lt_of_cell? _ _ (by assumption))).trans ?_) | go_simp)))
      have fq2_1 := Ext.free (p := ⟨w.heap.size + 1 + 1, 1, none⟩) (v := .slice none 0 0) xx (by first | exact True | go_simp | (repeat (first | assumption | (refine (World.cell?_setCell_far _ _ _ _ (by simp <;> omega)).trans ?_) | (refine (World.cell?_alloc_lt _ _ _ (World.block_lt_of_cell? _ _ (by assumption))).trans ?_) | go_simp))) (by first | assumption | go_simp)
      have q2_1 := Ext.cell (p := ⟨w.heap.size + 1 + 1, 1, none⟩) (v := .slice none 0 0) xx (by first | exact True | go_simp | (repeat (first | assumption | (refine (World.cell?_setCell_far _ _ _ _ (by simp <;> omega)).trans ?_) | (refine (World.cell?_alloc_lt _ _ _ (World.block_lt_of_cell? _ _ (by assumption))).trans ?_) | go_simp)))
      clear xx
      go_wp2_with fail
      refine (RSign_any s _ _ _ zs _ x rfl (h.ext hE) (by first | omega | (simp; done) | (simp; omega)) hx.out).mono ?_
      rintro e w2 ⟨rfl, xx⟩
      replace hE := Ext.trans hE xx
      have hz2 : w1.heap.size ≤ w2.heap.size := (by have hq := Ext.size xx; (try simp at hq); omega)
      have hb0 : w.heap.size < w2.heap.size := (by omega)
      have q0_1 := Ext.cell (p := ⟨w.heap.size, 1, none⟩) (v := .slice ao zs.length c) xx q0_1
      have hb1 : w.heap.size + 1 < w2.heap.size := (by omega)
      have q1_0 := Ext.cell (p := ⟨w.heap.size + 1, 0, none⟩) (v := .bool t) xx q1_0
      have q1_1 := Ext.cell (p := ⟨w.heap.size + 1, 1, none⟩) (v := .slice bo us.length d) xx q1_1
      have hb2 : w.heap.size + 1 + 1 < w2.heap.size := (by omega)
      have fq2_0 := Ext.free (p := ⟨w.heap.size + 1 + 1, 0, none⟩) (v := .bool false) xx q2_0 fq2_0
      have q2_0 := Ext.cell (p := ⟨w.heap.size + 1 + 1, 0, none⟩) (v := .bool false) xx q2_0
      have fq2_1 := Ext.free (p := ⟨w.heap.size + 1 + 1, 1, none⟩) (v := .slice none 0 0) xx q2_1 fq2_1
      have q2_1 := Ext.cell (p := ⟨w.heap.size + 1 + 1, 1, none⟩) (v := .slice none 0 0) xx q2_1
      clear xx
      go_wp2_with fail
      refine (RSign_any t _ _ _ us _ y rfl (k.ext hE) (by first | omega | (simp; done) | (simp; omega)) hy.out).mono ?_
      rintro e w3 ⟨rfl, xx⟩
      replace hE := Ext.trans hE xx
      have hz3 : w2.heap.size ≤ w3.heap.size := (by have hq := Ext.size xx; (try simp at hq); omega)
      have hb0 : w.heap.size < w3.heap.size := (by omega)
      have q0_1 := Ext.cell (p := ⟨w.heap.size, 1, none⟩) (v := .slice ao zs.length c) xx q0_1
      have hb1 : w.heap.size + 1 < w3.heap.size := (by omega)
      have q1_1 := Ext.cell (p := ⟨w.heap.size + 1, 1, none⟩) (v := .slice bo us.length d) xx q1_1
      have hb2 : w.heap.size + 1 + 1 < w3.heap.size := (by omega)
      have fq2_0 := Ext.free (p := ⟨w.heap.size + 1 + 1, 0, none⟩) (v := .bool false) xx q2_0 fq2_0
      have q2_0 := Ext.cell (p := ⟨w.heap.size + 1 + 1, 0, none⟩) (v := .bool false) xx q2_0
      have fq2_1 := Ext.free (p := ⟨w.heap.size + 1 + 1, 1, none⟩) (v := .slice none 0 0) xx q2_1 fq2_1
      have q2_1 := Ext.cell (p := ⟨w.heap.size + 1 + 1, 1, none⟩) (v := .slice none 0 0) xx q2_1
      clear xx
      go_wp2_with fail
      refine (RAddM _ _ _ zs _ _ _ us _ rfl rfl (h.ext hE) (k.ext hE) (by first | omega | (simp; done) | (simp; omega)) (by first | omega | (simp; done) | (simp; omega))).mono ?_
      rintro e w4 ⟨r4a, r4c, r4z, r4B, rfl, r4b, r4o, r4k, r4v, r4l, xx⟩
      try simp at r4b
      try simp only [List.length_cons, List.length_nil] at r4l
      replace hE := Ext.trans hE xx
      have hz4 : w3.heap.size ≤ w4.heap.size := (by have hq := Ext.size xx; (try simp at hq); omega)
      have hb2 : w.heap.size + 1 + 1 < w4.heap.size := (by omega)
      have fq2_0 := Ext.free (p := ⟨w.heap.size + 1 + 1, 0, none⟩) (v := .bool false) xx q2_0 fq2_0
      have q2_0 := Ext.cell (p := ⟨w.heap.size + 1 + 1, 0, none⟩) (v := .bool false) xx q2_0
      have fq2_1 := Ext.free (p := ⟨w.heap.size + 1 + 1, 1, none⟩) (v := .slice none 0 0) xx q2_1 fq2_1
      have q2_1 := Ext.cell (p := ⟨w.heap.size + 1 + 1, 1, none⟩) (v := .slice none 0 0) xx q2_1
      clear xx
      go_wp2_with fail
      refine (RFrom_any false _ _ _ r4z _ rfl r4o.rd (by first | omega | (simp; done) | (simp; omega))).mono ?_
      rintro e w5 ⟨r5s, r5a, r5c, r5z, r5B, rfl, r5b, r5o, r5k, r5v, r5l, xx⟩
      try simp at r5b
      try simp only [List.length_cons, List.length_nil] at r5l
      replace hE := Ext.trans hE xx
      have hz5 : w4.heap.size ≤ w5.heap.size := (by have hq := Ext.size xx; (try simp at hq); omega)
      have hb2 : w.heap.size + 1 + 1 < w5.heap.size := (by omega)
      have fq2_0 := Ext.free (p := ⟨w.heap.size + 1 + 1, 0, none⟩) (v := .bool false) xx q2_0 fq2_0
      have q2_0 := Ext.cell (p := ⟨w.heap.size + 1 + 1, 0, none⟩) (v := .bool false) xx q2_0
      have fq2_1 := Ext.free (p := ⟨w.heap.size + 1 + 1, 1, none⟩) (v := .slice none 0 0) xx q2_1 fq2_1
      have q2_1 := Ext.cell (p := ⟨w.heap.size + 1 + 1, 1, none⟩) (v := .slice none 0 0) xx q2_1
      clear xx
      go_wp2_with fail
      refine bodyPost_ret (v := .agg #[.bool r5s, .slice r5a r5z.length r5c]) (by simp [results, Try.results24, go_sem, q2_0, q2_1]) rfl ?_
      exact ⟨r5s, r5a, r5c, r5z, r5B, rfl, (by omega), (Own.st (Own.st r5o (b := w.heap.size + 1 + 1) (by omega) _ _) (b := w.heap.size + 1 + 1) (by omega) _ _), r5k, (by unfold Hid; rw [r5v.out, iv_false, r4v.out]; have a := iv_abs s zs; have b := iv_abs t us;  have := hs.out; have := ht.out; omega), (by first | omega | (simp; done) | (simp; omega)), (Ext.st (Ext.st hE (b := w.heap.size + 1 + 1) (by omega) _ _) (b := w.heap.size + 1 + 1) (by omega) _ _)⟩
set_option maxRecDepth 100000 in
set_option maxHeartbeats 1000000 in
theorem RZSub_any (s : Bool) (ao : Option Addr) (n c : Nat) (zs : List Nat) (t : Bool) (bo : Option Addr) (m d : Nat) (us : List Nat) (w : World) (hn : n = zs.length) (hm : m = us.length) (h : Rd w ao c zs) (k : Rd w bo d us) (hl : zs.length ≤ 100000) (hl2 : us.length ≤ 100000) :
    Calls Try.prog 26 #[.agg #[.bool s, .slice ao n c], .agg #[.bool t, .slice bo m d]] w (GotZ w (iv s zs - iv t us) (zs.length + us.length + 1)) := by
  subst hn hm
  go_enter Try.func26, Try.ntmps26
  go_wp2_with fail
  go_region_held3 (fun w' => w'.cell? ⟨w.heap.size, 0, none⟩ = some (.bool s) ∧ w'.cell? ⟨w.heap.size, 1, none⟩ = some (.slice ao zs.length c) ∧ w'.cell? ⟨w.heap.size + 1, 0, none⟩ = some (.bool t) ∧ w'.cell? ⟨w.heap.size + 1, 1, none⟩ = some (.slice bo us.length d)) (first | exact ⟨q0_0, q0_1, q1_0, q1_1⟩ | (go_keep; done) | ((try dsimp only); (repeat' apply And.intro) <;> (repeat (first | assumption | (refine (World.cell?_setCell_far _ _ _ _ (by simp <;> omega)).trans ?_) | (refine (World.cell?_alloc_lt _ _ _ (World.block_lt_of_cell? _ _ (by assumption))).trans ?_) | go_simp))))
    (first
        | (go_at_call 33; (with_reducible refine (RNeg_any t _ _ _ us _ rfl (k.ext ((((Ext.refl _).alloc _).alloc _).alloc _).drew) (by first | omega | (simp; done) | (simp; omega))).mono ?_); rintro e w1 ⟨r1s, r1a, r1c, r1z, r1B, rfl, r1b, r1o, r1k, r1v, r1l, xx⟩; (try simp at r1b); (try simp only [List.length_cons, List.length_nil] at r1l); have hE : Ext w w1 := Ext.trans ((((Ext.refl _).alloc _).alloc _).alloc _).drew xx; have hz1 : w.heap.size + 3 ≤ w1.heap.size := (by have hq := Ext.size xx; (try simp at hq); omega); have hb0 : w.heap.size < w1.heap.size := (by omega); have q0_0 := Ext.cell (p := ⟨w.heap.size, 0, none⟩) (v := .bool s) xx (by first | exact True | go_simp | (repeat (first | assumption | (refine (World.cell?_setCell_far _ _ _ _ (by simp <;> omega)).trans ?_) | (refine (World.cell?_alloc_lt _ _ _ (World.block_lt_of_cell? _ _ (by assumption))).trans ?_) | go_simp))); have q0_1 := Ext.cell (p := ⟨w.heap.size, 1, none⟩) (v := .slice ao zs.length c) xx (by first | exact True | go_simp | (repeat (first | assumption | (refine (World.cell?_setCell_far _ _ _ _ (by simp <;> omega)).trans ?_) | (refine (World.cell?_alloc_lt _ _ _ (World.block_lt_of_cell? _ _ (by assumption))).trans ?_) | go_simp))); have hb1 : w.heap.size + 1 < w1.heap.size := (by omega); have q1_0 := Ext.cell (p := ⟨w.heap.size + 1, 0, none⟩) (v := .bool t) xx (by first | exact True | go_simp | (repeat (first | assumption | (refine (World.cell?_setCell_far _ _ _ _ (by simp <;> omega)).trans ?_) | (refine (World.cell?_alloc_lt _ _ _ (World.block_lt_of_cell? _ _ (by assumption))).trans ?_) | go_simp))); have q1_1 := Ext.cell (p := ⟨w.heap.size + 1, 1, none⟩) (v := .slice bo us.length d) xx (by first | exact True | go_simp | (repeat (first | assumption | (refine (World.cell?_setCell_far _ _ _ _ (by simp <;> omega)).trans ?_) | (refine (World.cell?_alloc_lt _ _ _ (World.block_lt_of_cell? _ _ (by assumption))).trans ?_) | go_simp))); have hb2 : w.heap.size + 1 + 1 < w1.heap.size := (by omega); have fq2_0 := Ext.free (p := ⟨w.heap.size + 1 + 1, 0, none⟩) (v := .bool false) xx (by first | exact True | go_simp | (repeat (first | assumption | (refine (World.cell?_setCell_far _ _ _ _ (by simp <;> omega)).trans ?_) | (refine (World.cell?_alloc_lt _ _ _ (World.block_lt_of_cell? _ _ (by assumption))).trans ?_) | go_simp))) (by first | assumption | go_simp); have q2_0 := Ext.cell (p := ⟨w.heap.size + 1 + 1, 0, none⟩) (v := .bool false) xx (by first | exact True | go_simp | (repeat (first | assumption | (refine (World.cell?_setCell_far _ _ _ _ (by simp <;> omega)).trans ?_) | (refine (World.cell?_alloc_lt _ _ _ (World.block_lt_of_cell? _ _ (by assumption))).trans ?_) | go_simp))); have fq2_1 := Ext.free (p := ⟨w.heap.size + 1 + 1, 1, none⟩) (v := .slice none 0 0) xx (by first | exact True | go_simp | (repeat (first | assumption | (refine (World.cell?_setCell_far _ _ _ _ (by simp <;> omega)).trans ?_) | (refine (World.cell?_alloc_lt _ _ _ (World.block_lt_of_cell? _ _ (by assumption))).trans ?_) | go_simp))) (by first | assumption | go_simp); have q2_1 := Ext.cell (p := ⟨w.heap.size + 1 + 1, 1, none⟩) (v := .slice none 0 0) xx (by first | exact True | go_simp | (repeat (first | assumption | (refine (World.cell?_setCell_far _ _ _ _ (by simp <;> omega)).trans ?_) | (refine (World.cell?_alloc_lt _ _ _ (World.block_lt_of_cell? _ _ (by assumption))).trans ?_) | go_simp))); clear xx)
        | (go_at_call 24; (with_reducible refine (RZAdd_any s _ _ _ zs r1s _ _ _ r1z _ rfl rfl (h.ext hE) r1o.rd (by first | omega | (simp; done) | (simp; omega)) (by first | omega | (simp; done) | (simp; omega))).mono ?_); rintro e w2 ⟨r2s, r2a, r2c, r2z, r2B, rfl, r2b, r2o, r2k, r2v, r2l, xx⟩; (try simp at r2b); (try simp only [List.length_cons, List.length_nil] at r2l); replace hE := Ext.trans hE xx; have hz2 : w1.heap.size ≤ w2.heap.size := (by have hq := Ext.size xx; (try simp at hq); omega); have hb0 : w.heap.size < w2.heap.size := (by omega); have q0_0 := Ext.cell (p := ⟨w.heap.size, 0, none⟩) (v := .bool s) xx q0_0; have q0_1 := Ext.cell (p := ⟨w.heap.size, 1, none⟩) (v := .slice ao zs.length c) xx q0_1; have hb1 : w.heap.size + 1 < w2.heap.size := (by omega); have q1_0 := Ext.cell (p := ⟨w.heap.size + 1, 0, none⟩) (v := .bool t) xx q1_0; have q1_1 := Ext.cell (p := ⟨w.heap.size + 1, 1, none⟩) (v := .slice bo us.length d) xx q1_1; have hb2 : w.heap.size + 1 + 1 < w2.heap.size := (by omega); have fq2_0 := Ext.free (p := ⟨w.heap.size + 1 + 1, 0, none⟩) (v := .bool false) xx q2_0 fq2_0; have q2_0 := Ext.cell (p := ⟨w.heap.size + 1 + 1, 0, none⟩) (v := .bool false) xx q2_0; have fq2_1 := Ext.free (p := ⟨w.heap.size + 1 + 1, 1, none⟩) (v := .slice none 0 0) xx q2_1 fq2_1; have q2_1 := Ext.cell (p := ⟨w.heap.size + 1 + 1, 1, none⟩) (v := .slice none 0 0) xx q2_1; clear xx))
  go_wp2_with fail
  refine bodyPost_ret (v := .agg #[.bool r2s, .slice r2a r2z.length r2c]) (by simp [results, Try.results26, go_sem, q2_0, q2_1]) rfl ?_
  exact ⟨r2s, r2a, r2c, r2z, r2B, rfl, (by omega), (Own.st (Own.st r2o (b := w.heap.size + 1 + 1) (by omega) _ _) (b := w.heap.size + 1 + 1) (by omega) _ _), r2k, (by unfold Hid; rw [r2v.out, r1v.out]; exact (Int.sub_eq_add_neg).symm), (by first | omega | (simp; done) | (simp; omega)), (Ext.st (Ext.st hE (b := w.heap.size + 1 + 1) (by omega) _ _) (b := w.heap.size + 1 + 1) (by omega) _ _)⟩
set_option maxRecDepth 100000 in
set_option maxHeartbeats 1000000 in
theorem RZMul_any (s : Bool) (ao : Option Addr) (n c : Nat) (zs : List Nat) (t : Bool) (bo : Option Addr) (m d : Nat) (us : List Nat) (w : World) (hn : n = zs.length) (hm : m = us.length) (h : Rd w ao c zs) (k : Rd w bo d us) (hl : zs.length ≤ 100000) (hl2 : us.length ≤ 100000) :
    Calls Try.prog 28 #[.agg #[.bool s, .slice ao n c], .agg #[.bool t, .slice bo m d]] w (GotZ w (iv s zs * iv t us) (zs.length + us.length)) := by
  subst hn hm
  obtain ⟨x, hx⟩ : ∃ x, sgn (iv s zs) = x := ⟨_, rfl⟩
  obtain ⟨y, hy⟩ : ∃ y, sgn (iv t us) = y := ⟨_, rfl⟩
  replace hx := Lib.hid hx
  replace hy := Lib.hid hy
  have hr := sgn_mul_range (sgn_range (iv s zs)) (sgn_range (iv t us))
  obtain ⟨p, hp⟩ : ∃ p, sgn (iv s zs) * sgn (iv t us) = p := ⟨_, rfl⟩
  rw [hp] at hr
  have hw : IntKind.i64.wrap (x * y) = p := by rw [← hx.out, ← hy.out, hp]; exact IntWalk.i64_in _ (by omega)
  obtain ⟨bb, hbb⟩ : ∃ bb, decide (p < 0) = bb := ⟨_, rfl⟩
  have Hbb := Lib.hid hbb
  have Hp := Lib.hid hp
  clear hp
  go_enter Try.func28, Try.ntmps28
  go_wp2_with fail
  go_region_held3 (fun w' => w'.cell? ⟨w.heap.size, 0, none⟩ = some (.bool s) ∧ w'.cell? ⟨w.heap.size, 1, none⟩ = some (.slice ao zs.length c) ∧ w'.cell? ⟨w.heap.size + 1, 0, none⟩ = some (.bool t) ∧ w'.cell? ⟨w.heap.size + 1, 1, none⟩ = some (.slice bo us.length d)) (first | exact ⟨q0_0, q0_1, q1_0, q1_1⟩ | (go_keep; done) | ((try dsimp only); (repeat' apply And.intro) <;> (repeat (first | assumption | (refine (World.cell?_setCell_far _ _ _ _ (by simp <;> omega)).trans ?_) | (refine (World.cell?_alloc_lt _ _ _ (World.block_lt_of_cell? _ _ (by assumption))).trans ?_) | go_simp))))
    (first
        | (go_at_call 31; (with_reducible refine (RSign_any s _ _ _ zs _ x rfl (h.ext ((((Ext.refl _).alloc _).alloc _).alloc _).drew) (by first | omega | (simp; done) | (simp; omega)) hx.out).mono ?_); rintro e w1 ⟨rfl, xx⟩; have hE : Ext w w1 := Ext.trans ((((Ext.refl _).alloc _).alloc _).alloc _).drew xx; have hz1 : w.heap.size + 3 ≤ w1.heap.size := (by have hq := Ext.size xx; (try simp at hq); omega); have hb0 : w.heap.size < w1.heap.size := (by omega); have q0_0 := Ext.cell (p := ⟨w.heap.size, 0, none⟩) (v := .bool s) xx (by first | exact True | go_simp | (repeat (first | assumption | (refine (World.cell?_setCell_far _ _ _ _ (by simp <;> omega)).trans ?_) | (refine (World.cell?_alloc_lt _ _ _ (World.block_lt_of_cell? _ _ (by assumption))).trans ?_) | go_simp))); have q0_1 := Ext.cell (p := ⟨w.heap.size, 1, none⟩) (v := .slice ao zs.length c) xx (by first | exact True | go_simp | (repeat (first | assumption | (refine (World.cell?_setCell_far _ _ _ _ (by simp <;> omega)).trans ?_) | (refine (World.cell?_alloc_lt _ _ _ (World.block_lt_of_cell? _ _ (by assumption))).trans ?_) | go_simp))); have hb1 : w.heap.size + 1 < w1.heap.size := (by omega); have q1_0 := Ext.cell (p := ⟨w.heap.size + 1, 0, none⟩) (v := .bool t) xx (by first | exact True | go_simp | (repeat (first | assumption | (refine (World.cell?_setCell_far _ _ _ _ (by simp <;> omega)).trans ?_) | (refine (World.cell?_alloc_lt _ _ _ (World.block_lt_of_cell? _ _ (by assumption))).trans ?_) | go_simp))); have q1_1 := Ext.cell (p := ⟨w.heap.size + 1, 1, none⟩) (v := .slice bo us.length d) xx (by first | exact True | go_simp | (repeat (first | assumption | (refine (World.cell?_setCell_far _ _ _ _ (by simp <;> omega)).trans ?_) | (refine (World.cell?_alloc_lt _ _ _ (World.block_lt_of_cell? _ _ (by assumption))).trans ?_) | go_simp))); have hb2 : w.heap.size + 1 + 1 < w1.heap.size := (by omega); have fq2_0 := Ext.free (p := ⟨w.heap.size + 1 + 1, 0, none⟩) (v := .bool false) xx (by first | exact True | go_simp | (repeat (first | assumption | (refine (World.cell?_setCell_far _ _ _ _ (by simp <;> omega)).trans ?_) | (refine (World.cell?_alloc_lt _ _ _ (World.block_lt_of_cell? _ _ (by assumption))).trans ?_) | go_simp))) (by first | assumption | go_simp); have q2_0 := Ext.cell (p := ⟨w.heap.size + 1 + 1, 0, none⟩) (v := .bool false) xx (by first | exact True | go_simp | (repeat (first | assumption | (refine (World.cell?_setCell_far _ _ _ _ (by simp <;> omega)).trans ?_) | (refine (World.cell?_alloc_lt _ _ _ (World.block_lt_of_cell? _ _ (by assumption))).trans ?_) | go_simp))); have fq2_1 := Ext.free (p := ⟨w.heap.size + 1 + 1, 1, none⟩) (v := .slice none 0 0) xx (by first | exact True | go_simp | (repeat (first | assumption | (refine (World.cell?_setCell_far _ _ _ _ (by simp <;> omega)).trans ?_) | (refine (World.cell?_alloc_lt _ _ _ (World.block_lt_of_cell? _ _ (by assumption))).trans ?_) | go_simp))) (by first | assumption | go_simp); have q2_1 := Ext.cell (p := ⟨w.heap.size + 1 + 1, 1, none⟩) (v := .slice none 0 0) xx (by first | exact True | go_simp | (repeat (first | assumption | (refine (World.cell?_setCell_far _ _ _ _ (by simp <;> omega)).trans ?_) | (refine (World.cell?_alloc_lt _ _ _ (World.block_lt_of_cell? _ _ (by assumption))).trans ?_) | go_simp))); clear xx)
        | (go_at_call 31; (with_reducible refine (RSign_any t _ _ _ us _ y rfl (k.ext hE) (by first | omega | (simp; done) | (simp; omega)) hy.out).mono ?_); rintro e w2 ⟨rfl, xx⟩; replace hE := Ext.trans hE xx; have hz2 : w1.heap.size ≤ w2.heap.size := (by have hq := Ext.size xx; (try simp at hq); omega); have hb0 : w.heap.size < w2.heap.size := (by omega); have q0_0 := Ext.cell (p := ⟨w.heap.size, 0, none⟩) (v := .bool s) xx q0_0; have q0_1 := Ext.cell (p := ⟨w.heap.size, 1, none⟩) (v := .slice ao zs.length c) xx q0_1; have hb1 : w.heap.size + 1 < w2.heap.size := (by omega); have q1_0 := Ext.cell (p := ⟨w.heap.size + 1, 0, none⟩) (v := .bool t) xx q1_0; have q1_1 := Ext.cell (p := ⟨w.heap.size + 1, 1, none⟩) (v := .slice bo us.length d) xx q1_1; have hb2 : w.heap.size + 1 + 1 < w2.heap.size := (by omega); have fq2_0 := Ext.free (p := ⟨w.heap.size + 1 + 1, 0, none⟩) (v := .bool false) xx q2_0 fq2_0; have q2_0 := Ext.cell (p := ⟨w.heap.size + 1 + 1, 0, none⟩) (v := .bool false) xx q2_0; have fq2_1 := Ext.free (p := ⟨w.heap.size + 1 + 1, 1, none⟩) (v := .slice none 0 0) xx q2_1 fq2_1; have q2_1 := Ext.cell (p := ⟨w.heap.size + 1 + 1, 1, none⟩) (v := .slice none 0 0) xx q2_1; clear xx)
        | (go_at_call 73; (with_reducible refine (RMulM _ _ _ zs _ _ _ us _ rfl rfl (h.ext hE) (k.ext hE) (by first | omega | (simp; done) | (simp; omega)) (by first | omega | (simp; done) | (simp; omega))).mono ?_); rintro e w3 ⟨r3a, r3c, r3z, r3B, rfl, r3b, r3o, r3k, r3v, r3l, xx⟩; (try simp at r3b); (try simp only [List.length_cons, List.length_nil] at r3l); replace hE := Ext.trans hE xx; have hz3 : w2.heap.size ≤ w3.heap.size := (by have hq := Ext.size xx; (try simp at hq); omega); have hb0 : w.heap.size < w3.heap.size := (by omega); have q0_0 := Ext.cell (p := ⟨w.heap.size, 0, none⟩) (v := .bool s) xx q0_0; have q0_1 := Ext.cell (p := ⟨w.heap.size, 1, none⟩) (v := .slice ao zs.length c) xx q0_1; have hb1 : w.heap.size + 1 < w3.heap.size := (by omega); have q1_0 := Ext.cell (p := ⟨w.heap.size + 1, 0, none⟩) (v := .bool t) xx q1_0; have q1_1 := Ext.cell (p := ⟨w.heap.size + 1, 1, none⟩) (v := .slice bo us.length d) xx q1_1; have hb2 : w.heap.size + 1 + 1 < w3.heap.size := (by omega); have fq2_0 := Ext.free (p := ⟨w.heap.size + 1 + 1, 0, none⟩) (v := .bool false) xx q2_0 fq2_0; have q2_0 := Ext.cell (p := ⟨w.heap.size + 1 + 1, 0, none⟩) (v := .bool false) xx q2_0; have fq2_1 := Ext.free (p := ⟨w.heap.size + 1 + 1, 1, none⟩) (v := .slice none 0 0) xx q2_1 fq2_1; have q2_1 := Ext.cell (p := ⟨w.heap.size + 1 + 1, 1, none⟩) (v := .slice none 0 0) xx q2_1; clear xx)
        | (go_at_call 65; (with_reducible refine (RFrom_any bb _ _ _ r3z _ rfl r3o.rd (by first | omega | (simp; done) | (simp; omega))).mono ?_); rintro e w4 ⟨r4s, r4a, r4c, r4z, r4B, rfl, r4b, r4o, r4k, r4v, r4l, xx⟩; (try simp at r4b); (try simp only [List.length_cons, List.length_nil] at r4l); replace hE := Ext.trans hE xx; have hz4 : w3.heap.size ≤ w4.heap.size := (by have hq := Ext.size xx; (try simp at hq); omega); have hb0 : w.heap.size < w4.heap.size := (by omega); have q0_0 := Ext.cell (p := ⟨w.heap.size, 0, none⟩) (v := .bool s) xx q0_0; have q0_1 := Ext.cell (p := ⟨w.heap.size, 1, none⟩) (v := .slice ao zs.length c) xx q0_1; have hb1 : w.heap.size + 1 < w4.heap.size := (by omega); have q1_0 := Ext.cell (p := ⟨w.heap.size + 1, 0, none⟩) (v := .bool t) xx q1_0; have q1_1 := Ext.cell (p := ⟨w.heap.size + 1, 1, none⟩) (v := .slice bo us.length d) xx q1_1; have hb2 : w.heap.size + 1 + 1 < w4.heap.size := (by omega); have fq2_0 := Ext.free (p := ⟨w.heap.size + 1 + 1, 0, none⟩) (v := .bool false) xx q2_0 fq2_0; have q2_0 := Ext.cell (p := ⟨w.heap.size + 1 + 1, 0, none⟩) (v := .bool false) xx q2_0; have fq2_1 := Ext.free (p := ⟨w.heap.size + 1 + 1, 1, none⟩) (v := .slice none 0 0) xx q2_1 fq2_1; have q2_1 := Ext.cell (p := ⟨w.heap.size + 1 + 1, 1, none⟩) (v := .slice none 0 0) xx q2_1; clear xx))
  go_wp2_with fail
  refine bodyPost_ret (v := .agg #[.bool r4s, .slice r4a r4z.length r4c]) (by simp [results, Try.results28, go_sem, q2_0, q2_1]) rfl ?_
  exact ⟨r4s, r4a, r4c, r4z, r4B, rfl, (by omega), (Own.st (Own.st r4o (b := w.heap.size + 1 + 1) (by omega) _ _) (b := w.heap.size + 1 + 1) (by omega) _ _), r4k, (by unfold Hid; rw [r4v.out, ← Hbb.out]; exact iv_sgn_mul Hp.out r3v.out), (by first | omega | (simp; done) | (simp; omega)), (Ext.st (Ext.st hE (b := w.heap.size + 1 + 1) (by omega) _ _) (b := w.heap.size + 1 + 1) (by omega) _ _)⟩
set_option maxRecDepth 100000 in
set_option maxHeartbeats 1000000 in
theorem RZCmp_any (s : Bool) (ao : Option Addr) (n c : Nat) (zs : List Nat) (t : Bool) (bo : Option Addr) (m d : Nat) (us : List Nat) (w : World) (g : Int) (hn : n = zs.length) (hm : m = us.length) (h : Rd w ao c zs) (k : Rd w bo d us) (hl : zs.length ≤ 100000) (hl2 : us.length ≤ 100000) (hg : cmpZ (iv s zs) (iv t us) = g) :
    Calls Try.prog 22 #[.agg #[.bool s, .slice ao n c], .agg #[.bool t, .slice bo m d]] w (GotP (.int .i64 g) w) := by
  subst hn hm
  replace hg := Lib.hid hg
  go_enter Try.func22, Try.ntmps22
  go_wp2_with fail
  refine (RZSub_any s _ _ _ zs t _ _ _ us _ rfl rfl (h.ext (((Ext.refl _).alloc _).alloc _)) (k.ext (((Ext.refl _).alloc _).alloc _)) (by first | omega | (simp; done) | (simp; omega)) (by first | omega | (simp; done) | (simp; omega))).mono ?_
  rintro e w1 ⟨r1s, r1a, r1c, r1z, r1B, rfl, r1b, r1o, r1k, r1v, r1l, xx⟩
  try simp at r1b
  try simp only [List.length_cons, List.length_nil] at r1l
  have hE : Ext w w1 := Ext.trans (((Ext.refl _).alloc _).alloc _) xx
  have hz1 : w.heap.size + 2 ≤ w1.heap.size := (by have hq := Ext.size xx; (try simp at hq); omega)
  clear xx
  go_wp2_with fail
  refine (RSign_any r1s _ _ _ r1z _ g rfl r1o.rd (by first | omega | (simp; done) | (simp; omega)) (by rw [r1v.out]; exact RCmpZ_of hg.out)).mono ?_
  rintro e w2 ⟨rfl, xx⟩
  replace hE := Ext.trans hE xx
  have hz2 : w1.heap.size ≤ w2.heap.size := (by have hq := Ext.size xx; (try simp at hq); omega)
  clear xx
  go_wp2_with fail
  go_ret
  exact ⟨rfl, hE⟩
end Go.Proofs.Ytehbfobfkpejoaa
