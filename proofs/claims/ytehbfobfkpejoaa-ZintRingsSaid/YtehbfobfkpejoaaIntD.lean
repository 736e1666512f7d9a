/-
  Contracts of zint.Sign, Cmp, Min, Max and of the reference.
-/
import Derived.Test.YtehbfobfkpejoaaIntC
namespace Go.Proofs.Ytehbfobfkpejoaa
open Go.RowKit


/-- the sign of a number, and how two numbers stand -/
def sgn (z : Int) : Int := if z < 0 then -1 else if 0 < z then 1 else 0
def cmpZ (x y : Int) : Int := if x < y then -1 else if y < x then 1 else 0
theorem sgn_neg {z : Int} (h : z < 0) : sgn z = -1 := by unfold sgn; rw [if_pos h]
theorem sgn_pos {z : Int} (h : 0 < z) : sgn z = 1 := by unfold sgn; rw [if_neg (by omega), if_pos h]
theorem sgn_zero {z : Int} (h : z = 0) : sgn z = 0 := by subst h; rfl
theorem sgn_range (z : Int) : -1 ≤ sgn z ∧ sgn z ≤ 1 := by unfold sgn; split; omega; split <;> omega
theorem sgn_lt_zero {z : Int} : sgn z < 0 ↔ z < 0 := by unfold sgn; split; omega; split <;> omega
theorem sgn_gt_zero {z : Int} : 0 < sgn z ↔ 0 < z := by unfold sgn; split; omega; split <;> omega
theorem sgn_eq_zero {z : Int} : sgn z = 0 ↔ z = 0 := by unfold sgn; split; omega; split <;> omega
theorem cmpZ_sgn (x y : Int) : sgn (x - y) = cmpZ x y := by unfold sgn cmpZ; split <;> split <;> (try split) <;> (try split) <;> omega
theorem cmpZ_lt {x y : Int} (h : x < y) : cmpZ x y = -1 := by unfold cmpZ; rw [if_pos h]
theorem cmpZ_gt {x y : Int} (h : y < x) : cmpZ x y = 1 := by unfold cmpZ; rw [if_neg (by omega), if_pos h]
theorem cmpZ_eq {x y : Int} (h : x = y) : cmpZ x y = 0 := by unfold cmpZ; rw [if_neg (by omega), if_neg (by omega)]
theorem cmpZ_range (x y : Int) : -1 ≤ cmpZ x y ∧ cmpZ x y ≤ 1 := by unfold cmpZ; split; omega; split <;> omega
theorem cmpZ_neg (x y : Int) : cmpZ x y = -cmpZ y x := by unfold cmpZ; split <;> split <;> (try split) <;> omega
theorem iv_pos_of {s : Bool} {zs : List Nat} (hc : CanZ s zs) (hs : s = false) (hp : 0 < zs.length) : 0 < iv s zs := by
  subst hs
  have := canon_ge hc.1 hp
  have := pw_pos (zs.length - 1)
  unfold iv; simp; omega
theorem iv_neg_of {s : Bool} {zs : List Nat} (hc : CanZ s zs) (hs : s = true) : iv s zs < 0 := by
  have := hc.neg_iff
  rw [hs] at this
  subst hs
  exact of_decide_eq_true this.symm
theorem cmpI_cmpZ (a b : Nat) : cmpI a b = cmpZ a b := by unfold cmpI cmpZ; split <;> split <;> (try split) <;> (try split) <;> omega
theorem cmp_pos {s t : Bool} {xs ys : List Nat} (hx : 0 ≤ iv s xs) (hy : 0 ≤ iv t ys) : cmpI (val xs) (val ys) = cmpZ (iv s xs) (iv t ys) := by
  rw [cmpI_cmpZ, ← iv_abs s xs, ← iv_abs t ys, Int.natAbs_of_nonneg hx, Int.natAbs_of_nonneg hy]
theorem cmp_neg {s t : Bool} {xs ys : List Nat} (hx : iv s xs < 0) (hy : iv t ys < 0) : cmpI (val ys) (val xs) = cmpZ (iv s xs) (iv t ys) := by
  have h1 : ((val xs : Nat) : Int) = -iv s xs := by rw [← iv_abs s xs]; omega
  have h2 : ((val ys : Nat) : Int) = -iv t ys := by rw [← iv_abs t ys]; omega
  rw [cmpI_cmpZ, h1, h2]
  unfold cmpZ; split <;> split <;> (try split) <;> (try split) <;> omega
theorem CmpP (ao : Option Addr) (n c : Nat) (xs : List Nat) (bo : Option Addr) (m d : Nat) (ys : List Nat) (w : World) (g : Int) (hn : n = xs.length) (hm : m = ys.length) (ha : Rd w ao c xs) (hb : Rd w bo d ys) (hg : cmpI (val xs) (val ys) = g) :
    Calls Try.prog 74 #[.slice ao n c, .slice bo m d] w (GotP (.int .i64 g) w) :=
  (Cmp_any ao n c xs bo m d ys w hn hm ha hb).mono fun _ _ ⟨he, hq⟩ => ⟨by rw [he, hg], hq.ext⟩
theorem RCmpP (ao : Option Addr) (n c : Nat) (xs : List Nat) (bo : Option Addr) (m d : Nat) (ys : List Nat) (w : World) (g : Int) (hn : n = xs.length) (hm : m = ys.length) (ha : Rd w ao c xs) (hb : Rd w bo d ys) (hg : cmpI (val xs) (val ys) = g) :
    Calls Try.prog 77 #[.slice ao n c, .slice bo m d] w (GotP (.int .i64 g) w) :=
  (RCmp_any ao n c xs bo m d ys w hn hm ha hb).mono fun _ _ ⟨he, hq⟩ => ⟨by rw [he, hg], hq ▸ Ext.refl _⟩

set_option maxRecDepth 100000 in
set_option maxHeartbeats 1000000 in
theorem ZSign_any (s : Bool) (ao : Option Addr) (n c : Nat) (zs : List Nat) (w : World) (g : Int) (hn : n = zs.length) (h : Rd w ao c zs) (hl : zs.length ≤ 300000) (hg : sgn (iv s zs) = g) :
    Calls Try.prog 30 #[.agg #[.bool s, .slice ao n c]] w (GotP (.int .i64 g) w) := by
  subst hn
  replace hg := Lib.hid hg
  go_enter Try.func30, Try.ntmps30
  go_wp2_with fail
  refine (clean_any s _ _ _ zs _ rfl (h.ext ((Ext.refl _).alloc _)) (by first | omega | (simp; done) | (simp; omega))).mono ?_
  rintro e w1 ⟨r1s, r1a, r1c, r1z, r1B, rfl, r1b, r1o, r1k, r1v, r1l, xx⟩
  try simp at r1b
  try simp only [List.length_cons, List.length_nil] at r1l
  have hE : Ext w w1 := Ext.trans ((Ext.refl _).alloc _) xx
  have hz1 : w.heap.size + 1 ≤ w1.heap.size := (by have hq := Ext.size xx; (try simp at hq); omega)
  have hb0 : w.heap.size < w1.heap.size := (by omega)
  have fq0_0 := Ext.free (p := ⟨w.heap.size, 0, none⟩) (v := .bool s) xx (by first | exact True | go_simp | (repeat (first | assumption | (refine (World.cell?_setCell_far _ _ _ _ (by simp <;> omega)).trans ?_) | (refine (World.cell?_alloc_lt _ _ _ (World.block_lt_of_cell? _ _ (by assumption))).trans ?_) | go_simp))) (by first | assumption | go_simp)
  have q0_0 := Ext.cell (p := ⟨w.heap.size, 0, none⟩) (v := .bool s) xx (by first | exact True | go_simp | (repeat (first | assumption | (refine (World.cell?_setCell_far _ _ _ _ (by simp <;> omega)).trans ?_) | (refine (World.cell?_alloc_lt _ _ _ (World.block_lt_of_cell? _ _ (by assumption))).trans ?_) | go_simp)))
  have fq0_1 := Ext.free (p := ⟨w.heap.size, 1, none⟩) (v := .slice ao zs.length c) xx (by first | exact True | go_simp | (repeat (first | assumption | (refine (World.cell?_setCell_far _ _ _ _ (by simp <;> omega)).trans ?_) | (refine (World.cell?_alloc_lt _ _ _ (World.block_lt_of_cell? _ _ (by assumption))).trans ?_) | go_simp))) (by first | assumption | go_simp)
  have q0_1 := Ext.cell (p := ⟨w.heap.size, 1, none⟩) (v := .slice ao zs.length c) xx (by first | exact True | go_simp | (repeat (first | assumption | (refine (World.cell?_setCell_far _ _ _ _ (by simp <;> omega)).trans ?_) | (refine (World.cell?_alloc_lt _ _ _ (World.block_lt_of_cell? _ _ (by assumption))).trans ?_) | go_simp)))
  clear xx
  cases r1s
  · rcases Nat.eq_zero_or_pos r1z.length with h0 | hp
    · have e0 : r1z = [] := List.length_eq_zero_iff.1 h0
      subst e0
      clear h0
      go_wp2_with fail
      go_ret
      exact ⟨by rw [← hg.out, ← r1v.out, sgn_zero (iv_nil _)]; rfl, (Ext.st (Ext.st hE (b := w.heap.size) (by omega) _ _) (b := w.heap.size) (by omega) _ _)⟩
    · have hp1 : decide (0 < r1z.length) = true := decide_eq_true hp
      go_wp2_with fail
      go_ret
      exact ⟨by rw [← hg.out, ← r1v.out, sgn_pos (iv_pos_of r1k.out rfl hp)]; rfl, (Ext.st (Ext.st hE (b := w.heap.size) (by omega) _ _) (b := w.heap.size) (by omega) _ _)⟩
  · go_wp2_with fail
    go_ret
    exact ⟨by rw [← hg.out, ← r1v.out, sgn_neg (iv_neg_of r1k.out rfl)]; rfl, (Ext.st (Ext.st hE (b := w.heap.size) (by omega) _ _) (b := w.heap.size) (by omega) _ _)⟩
set_option maxRecDepth 100000 in
set_option maxHeartbeats 1000000 in
theorem RSign_any (s : Bool) (ao : Option Addr) (n c : Nat) (zs : List Nat) (w : World) (g : Int) (hn : n = zs.length) (h : Rd w ao c zs) (hl : zs.length ≤ 300000) (hg : sgn (iv s zs) = g) :
    Calls Try.prog 31 #[.agg #[.bool s, .slice ao n c]] w (GotP (.int .i64 g) w) := by
  subst hn
  replace hg := Lib.hid hg
  go_enter Try.func31, Try.ntmps31
  go_wp2_with fail
  refine (RTrimM _ _ _ zs _ rfl (h.ext ((Ext.refl _).alloc _)) (by first | omega | (simp; done) | (simp; omega))).mono ?_
  rintro e w1 ⟨r1a, r1c, r1z, r1B, rfl, r1b, r1o, r1k, r1v, r1l, xx⟩
  try simp at r1b
  try simp only [List.length_cons, List.length_nil] at r1l
  have hE : Ext w w1 := Ext.trans ((Ext.refl _).alloc _) xx
  have hz1 : w.heap.size + 1 ≤ w1.heap.size := (by have hq := Ext.size xx; (try simp at hq); omega)
  have hb0 : w.heap.size < w1.heap.size := (by omega)
  have q0_0 := Ext.cell (p := ⟨w.heap.size, 0, none⟩) (v := .bool s) xx (by first | exact True | go_simp | (repeat (first | assumption | (refine (World.cell?_setCell_far _ _ _ _ (by simp <;> omega)).trans ?_) | (refine (World.cell?_alloc_lt _ _ _ (World.block_lt_of_cell? _ _ (by assumption))).trans ?_) | go_simp)))
  clear xx
  rcases Nat.eq_zero_or_pos r1z.length with h0 | hp
  · have e0 : r1z = [] := List.length_eq_zero_iff.1 h0
    subst e0
    clear h0
    go_wp2_with fail
    go_ret
    exact ⟨by rw [← hg.out, sgn_zero (by have e := r1v.out; unfold iv; rw [← e]; cases s <;> rfl)]; rfl, hE⟩
  · have hp1 : ((r1z.length : Int) == 0) = false := beq_eq_false_iff_ne.2 (by omega)
    have hv : Hid (0 < val zs) := by
      have := canon_ge r1k.out hp; have := pw_pos (r1z.length - 1); have := r1v.out; unfold Hid; omega
    cases s
    · go_wp2_with fail
      go_ret
      exact ⟨by rw [← hg.out, sgn_pos (by have := hv.out; unfold iv; simp; omega)]; rfl, hE⟩
    · go_wp2_with fail
      go_ret
      exact ⟨by rw [← hg.out, sgn_neg (by have := hv.out; unfold iv; simp; omega)]; rfl, hE⟩
set_option maxRecDepth 100000 in
set_option maxHeartbeats 1000000 in
theorem ZCmp_any (s : Bool) (ao : Option Addr) (n c : Nat) (zs : List Nat) (t : Bool) (bo : Option Addr) (m d : Nat) (us : List Nat) (w : World) (g : Int) (hn : n = zs.length) (hm : m = us.length) (h : Rd w ao c zs) (k : Rd w bo d us) (hl : zs.length ≤ 300000) (hl2 : us.length ≤ 300000) (hg : cmpZ (iv s zs) (iv t us) = g) :
    Calls Try.prog 29 #[.agg #[.bool s, .slice ao n c], .agg #[.bool t, .slice bo m d]] w (GotP (.int .i64 g) w) := by
  subst hn hm
  replace hg := Lib.hid hg
  obtain ⟨x, hx⟩ : ∃ x, sgn (iv s zs) = x := ⟨_, rfl⟩
  obtain ⟨y, hy⟩ : ∃ y, sgn (iv t us) = y := ⟨_, rfl⟩
  have sx := sgn_range (iv s zs)
  have sy := sgn_range (iv t us)
  rw [hx] at sx
  rw [hy] at sy
  replace hx := Lib.hid hx
  replace hy := Lib.hid hy
  by_cases h1 : x < y
  · go_enter Try.func29, Try.ntmps29
    go_wp2_with fail
    go_region_held3 (fun w' => w'.cell? ⟨w.heap.size, 0, none⟩ = some (.bool s) ∧ w'.cell? ⟨w.heap.size, 1, none⟩ = some (.slice ao zs.length c) ∧ w'.cell? ⟨w.heap.size + 1, 0, none⟩ = some (.bool t) ∧ w'.cell? ⟨w.heap.size + 1, 1, none⟩ = some (.slice bo us.length d)) (first | exact ⟨q0_0, q0_1, q1_0, q1_1⟩ | (go_keep; done) | ((try dsimp only); (repeat' apply And.intro) <;> (repeat (first | assumption | (refine (World.cell?_setCell_far _ _ _ _ (by simp <;> omega)).trans ?_) | (refine (World.cell?_alloc_lt _ _ _ (World.block_lt_of_cell? _ _ (by assumption))).trans ?_) | go_simp))))
      (first
            | (go_at_call 30; (with_reducible refine (ZSign_any s _ _ _ zs _ x rfl (h.ext (((Ext.refl _).alloc _).alloc _).drew) (by first | omega | (simp; done) | (simp; omega)) hx.out).mono ?_); rintro e w1 ⟨rfl, xx⟩; have hE : Ext w w1 := Ext.trans (((Ext.refl _).alloc _).alloc _).drew xx; have hz1 : w.heap.size + 2 ≤ w1.heap.size := (by have hq := Ext.size xx; (try simp at hq); omega); have hb0 : w.heap.size < w1.heap.size := (by omega); have q0_0 := Ext.cell (p := ⟨w.heap.size, 0, none⟩) (v := .bool s) xx (by first | exact True | go_simp | (repeat (first | assumption | (refine (World.cell?_setCell_far _ _ _ _ (by simp <;> omega)).trans ?_) | (refine (World.cell?_alloc_lt _ _ _ (World.block_lt_of_cell? _ _ (by assumption))).trans ?_) | go_simp))); have q0_1 := Ext.cell (p := ⟨w.heap.size, 1, none⟩) (v := .slice ao zs.length c) xx (by first | exact True | go_simp | (repeat (first | assumption | (refine (World.cell?_setCell_far _ _ _ _ (by simp <;> omega)).trans ?_) | (refine (World.cell?_alloc_lt _ _ _ (World.block_lt_of_cell? _ _ (by assumption))).trans ?_) | go_simp))); have hb1 : w.heap.size + 1 < w1.heap.size := (by omega); have q1_0 := Ext.cell (p := ⟨w.heap.size + 1, 0, none⟩) (v := .bool t) xx (by first | exact True | go_simp | (repeat (first | assumption | (refine (World.cell?_setCell_far _ _ _ _ (by simp <;> omega)).trans ?_) | (refine (World.cell?_alloc_lt _ _ _ (World.block_lt_of_cell? _ _ (by assumption))).trans ?_) | go_simp))); have q1_1 := Ext.cell (p := ⟨w.heap.size + 1, 1, none⟩) (v := .slice bo us.length d) xx (by first | exact True | go_simp | (repeat (first | assumption | (refine (World.cell?_setCell_far _ _ _ _ (by simp <;> omega)).trans ?_) | (refine (World.cell?_alloc_lt _ _ _ (World.block_lt_of_cell? _ _ (by assumption))).trans ?_) | go_simp))); clear xx)
            | (go_at_call 30; (with_reducible refine (ZSign_any t _ _ _ us _ y rfl (k.ext hE) (by first | omega | (simp; done) | (simp; omega)) hy.out).mono ?_); rintro e w2 ⟨rfl, xx⟩; replace hE := Ext.trans hE xx; have hz2 : w1.heap.size ≤ w2.heap.size := (by have hq := Ext.size xx; (try simp at hq); omega); have hb0 : w.heap.size < w2.heap.size := (by omega); have q0_0 := Ext.cell (p := ⟨w.heap.size, 0, none⟩) (v := .bool s) xx q0_0; have q0_1 := Ext.cell (p := ⟨w.heap.size, 1, none⟩) (v := .slice ao zs.length c) xx q0_1; have hb1 : w.heap.size + 1 < w2.heap.size := (by omega); have q1_0 := Ext.cell (p := ⟨w.heap.size + 1, 0, none⟩) (v := .bool t) xx q1_0; have q1_1 := Ext.cell (p := ⟨w.heap.size + 1, 1, none⟩) (v := .slice bo us.length d) xx q1_1; clear xx))
    go_wp2_with fail
    go_ret
    exact ⟨by rw [← hg.out, cmpZ_lt (by have a := hx.out; have b := hy.out; unfold sgn at a b; split at a <;> (try split at a) <;> split at b <;> (try split at b) <;> omega)]; rfl, hE⟩
  by_cases h2 : y < x
  · go_enter Try.func29, Try.ntmps29
    go_wp2_with fail
    go_region_held3 (fun w' => w'.cell? ⟨w.heap.size, 0, none⟩ = some (.bool s) ∧ w'.cell? ⟨w.heap.size, 1, none⟩ = some (.slice ao zs.length c) ∧ w'.cell? ⟨w.heap.size + 1, 0, none⟩ = some (.bool t) ∧ w'.cell? ⟨w.heap.size + 1, 1, none⟩ = some (.slice bo us.length d)) (first | exact ⟨q0_0, q0_1, q1_0, q1_1⟩ | (go_keep; done) | ((try dsimp only); (repeat' apply And.intro) <;> (repeat (first | assumption | (refine (World.cell?_setCell_far _ _ _ _ (by simp <;> omega)).trans ?_) | (refine (World.cell?_alloc_lt _ _ _ (World.block_lt_of_cell? _ _ (by assumption))).trans ?_) | go_simp))))
      (first
            | (go_at_call 30; (with_reducible refine (ZSign_any s _ _ _ zs _ x rfl (h.ext (((Ext.refl _).alloc _).alloc _).drew) (by first | omega | (simp; done) | (simp; omega)) hx.out).mono ?_); rintro e w1 ⟨rfl, xx⟩; have hE : Ext w w1 := Ext.trans (((Ext.refl _).alloc _).alloc _).drew xx; have hz1 : w.heap.size + 2 ≤ w1.heap.size := (by have hq := Ext.size xx; (try simp at hq); omega); have hb0 : w.heap.size < w1.heap.size := (by omega); have q0_0 := Ext.cell (p := ⟨w.heap.size, 0, none⟩) (v := .bool s) xx (by first | exact True | go_simp | (repeat (first | assumption | (refine (World.cell?_setCell_far _ _ _ _ (by simp <;> omega)).trans ?_) | (refine (World.cell?_alloc_lt _ _ _ (World.block_lt_of_cell? _ _ (by assumption))).trans ?_) | go_simp))); have q0_1 := Ext.cell (p := ⟨w.heap.size, 1, none⟩) (v := .slice ao zs.length c) xx (by first | exact True | go_simp | (repeat (first | assumption | (refine (World.cell?_setCell_far _ _ _ _ (by simp <;> omega)).trans ?_) | (refine (World.cell?_alloc_lt _ _ _ (World.block_lt_of_cell? _ _ (by assumption))).trans ?_) | go_simp))); have hb1 : w.heap.size + 1 < w1.heap.size := (by omega); have q1_0 := Ext.cell (p := ⟨w.heap.size + 1, 0, none⟩) (v := .bool t) xx (by first | exact True | go_simp | (repeat (first | assumption | (refine (World.cell?_setCell_far _ _ _ _ (by simp <;> omega)).trans ?_) | (refine (World.cell?_alloc_lt _ _ _ (World.block_lt_of_cell? _ _ (by assumption))).trans ?_) | go_simp))); have q1_1 := Ext.cell (p := ⟨w.heap.size + 1, 1, none⟩) (v := .slice bo us.length d) xx (by first | exact True | go_simp | (repeat (first | assumption | (refine (World.cell?_setCell_far _ _ _ _ (by simp <;> omega)).trans ?_) | (refine (World.cell?_alloc_lt _ _ _ (World.block_lt_of_cell? _ _ (by assumption))).trans ?_) | go_simp))); clear xx)
            | (go_at_call 30; (with_reducible refine (ZSign_any t _ _ _ us _ y rfl (k.ext hE) (by first | omega | (simp; done) | (simp; omega)) hy.out).mono ?_); rintro e w2 ⟨rfl, xx⟩; replace hE := Ext.trans hE xx; have hz2 : w1.heap.size ≤ w2.heap.size := (by have hq := Ext.size xx; (try simp at hq); omega); have hb0 : w.heap.size < w2.heap.size := (by omega); have q0_0 := Ext.cell (p := ⟨w.heap.size, 0, none⟩) (v := .bool s) xx q0_0; have q0_1 := Ext.cell (p := ⟨w.heap.size, 1, none⟩) (v := .slice ao zs.length c) xx q0_1; have hb1 : w.heap.size + 1 < w2.heap.size := (by omega); have q1_0 := Ext.cell (p := ⟨w.heap.size + 1, 0, none⟩) (v := .bool t) xx q1_0; have q1_1 := Ext.cell (p := ⟨w.heap.size + 1, 1, none⟩) (v := .slice bo us.length d) xx q1_1; clear xx))
    go_wp2_with fail
    go_ret
    exact ⟨by rw [← hg.out, cmpZ_gt (by have a := hx.out; have b := hy.out; unfold sgn at a b; split at a <;> (try split at a) <;> split at b <;> (try split at b) <;> omega)]; rfl, hE⟩
  have hxy : x = y := by omega
  subst hxy
  by_cases h3 : x < 0
  · have hr : Hid (cmpI (val us) (val zs) = g) := (cmp_neg (sgn_lt_zero.1 (by rw [hx.out]; exact h3)) (sgn_lt_zero.1 (by rw [hy.out]; exact h3))).trans hg.out
    go_enter Try.func29, Try.ntmps29
    go_wp2_with fail
    go_region_held3 (fun w' => w'.cell? ⟨w.heap.size, 0, none⟩ = some (.bool s) ∧ w'.cell? ⟨w.heap.size, 1, none⟩ = some (.slice ao zs.length c) ∧ w'.cell? ⟨w.heap.size + 1, 0, none⟩ = some (.bool t) ∧ w'.cell? ⟨w.heap.size + 1, 1, none⟩ = some (.slice bo us.length d)) (first | exact ⟨q0_0, q0_1, q1_0, q1_1⟩ | (go_keep; done) | ((try dsimp only); (repeat' apply And.intro) <;> (repeat (first | assumption | (refine (World.cell?_setCell_far _ _ _ _ (by simp <;> omega)).trans ?_) | (refine (World.cell?_alloc_lt _ _ _ (World.block_lt_of_cell? _ _ (by assumption))).trans ?_) | go_simp))))
      (first
            | (go_at_call 30; (with_reducible refine (ZSign_any s _ _ _ zs _ x rfl (h.ext (((Ext.refl _).alloc _).alloc _).drew) (by first | omega | (simp; done) | (simp; omega)) hx.out).mono ?_); rintro e w1 ⟨rfl, xx⟩; have hE : Ext w w1 := Ext.trans (((Ext.refl _).alloc _).alloc _).drew xx; have hz1 : w.heap.size + 2 ≤ w1.heap.size := (by have hq := Ext.size xx; (try simp at hq); omega); have hb0 : w.heap.size < w1.heap.size := (by omega); have q0_0 := Ext.cell (p := ⟨w.heap.size, 0, none⟩) (v := .bool s) xx (by first | exact True | go_simp | (repeat (first | assumption | (refine (World.cell?_setCell_far _ _ _ _ (by simp <;> omega)).trans ?_) | (refine (World.cell?_alloc_lt _ _ _ (World.block_lt_of_cell? _ _ (by assumption))).trans ?_) | go_simp))); have q0_1 := Ext.cell (p := ⟨w.heap.size, 1, none⟩) (v := .slice ao zs.length c) xx (by first | exact True | go_simp | (repeat (first | assumption | (refine (World.cell?_setCell_far _ _ _ _ (by simp <;> omega)).trans ?_) | (refine (World.cell?_alloc_lt _ _ _ (World.block_lt_of_cell? _ _ (by assumption))).trans ?_) | go_simp))); have hb1 : w.heap.size + 1 < w1.heap.size := (by omega); have q1_0 := Ext.cell (p := ⟨w.heap.size + 1, 0, none⟩) (v := .bool t) xx (by first | exact True | go_simp | (repeat (first | assumption | (refine (World.cell?_setCell_far _ _ _ _ (by simp <;> omega)).trans ?_) | (refine (World.cell?_alloc_lt _ _ _ (World.block_lt_of_cell? _ _ (by assumption))).trans ?_) | go_simp))); have q1_1 := Ext.cell (p := ⟨w.heap.size + 1, 1, none⟩) (v := .slice bo us.length d) xx (by first | exact True | go_simp | (repeat (first | assumption | (refine (World.cell?_setCell_far _ _ _ _ (by simp <;> omega)).trans ?_) | (refine (World.cell?_alloc_lt _ _ _ (World.block_lt_of_cell? _ _ (by assumption))).trans ?_) | go_simp))); clear xx)
            | (go_at_call 30; (with_reducible refine (ZSign_any t _ _ _ us _ x rfl (k.ext hE) (by first | omega | (simp; done) | (simp; omega)) hy.out).mono ?_); rintro e w2 ⟨rfl, xx⟩; replace hE := Ext.trans hE xx; have hz2 : w1.heap.size ≤ w2.heap.size := (by have hq := Ext.size xx; (try simp at hq); omega); have hb0 : w.heap.size < w2.heap.size := (by omega); have q0_0 := Ext.cell (p := ⟨w.heap.size, 0, none⟩) (v := .bool s) xx q0_0; have q0_1 := Ext.cell (p := ⟨w.heap.size, 1, none⟩) (v := .slice ao zs.length c) xx q0_1; have hb1 : w.heap.size + 1 < w2.heap.size := (by omega); have q1_0 := Ext.cell (p := ⟨w.heap.size + 1, 0, none⟩) (v := .bool t) xx q1_0; have q1_1 := Ext.cell (p := ⟨w.heap.size + 1, 1, none⟩) (v := .slice bo us.length d) xx q1_1; clear xx))
    go_wp2_with fail
    refine (CmpP _ _ _ us _ _ _ zs _ g rfl rfl (k.ext hE) (h.ext hE) hr.out).mono ?_
    rintro e w3 ⟨rfl, xx⟩
    replace hE := Ext.trans hE xx
    have hz3 : w2.heap.size ≤ w3.heap.size := (by have hq := Ext.size xx; (try simp at hq); omega)
    clear xx
    go_wp2_with fail
    go_ret
    exact ⟨rfl, hE⟩
  · have hr : Hid (cmpI (val zs) (val us) = g) := (cmp_pos (s := s) (t := t) (by have a := hx.out; unfold sgn at a; split at a <;> (try split at a) <;> omega) (by have a := hy.out; unfold sgn at a; split at a <;> (try split at a) <;> omega)).trans hg.out
    go_enter Try.func29, Try.ntmps29
    go_wp2_with fail
    go_region_held3 (fun w' => w'.cell? ⟨w.heap.size, 0, none⟩ = some (.bool s) ∧ w'.cell? ⟨w.heap.size, 1, none⟩ = some (.slice ao zs.length c) ∧ w'.cell? ⟨w.heap.size + 1, 0, none⟩ = some (.bool t) ∧ w'.cell? ⟨w.heap.size + 1, 1, none⟩ = some (.slice bo us.length d)) (first | exact ⟨q0_0, q0_1, q1_0, q1_1⟩ | (go_keep; done) | ((try dsimp only); (repeat' apply And.intro) <;> (repeat (first | assumption | (refine (World.cell?_setCell_far _ _ _ _ (by simp <;> omega)).trans ?_) | (refine (World.cell?_alloc_lt _ _ _ (World.block_lt_of_cell? _ _ (by assumption))).trans ?_) | go_simp))))
      (first
            | (go_at_call 30; (with_reducible refine (ZSign_any s _ _ _ zs _ x rfl (h.ext (((Ext.refl _).alloc _).alloc _).drew) (by first | omega | (simp; done) | (simp; omega)) hx.out).mono ?_); rintro e w1 ⟨rfl, xx⟩; have hE : Ext w w1 := Ext.trans (((Ext.refl _).alloc _).alloc _).drew xx; have hz1 : w.heap.size + 2 ≤ w1.heap.size := (by have hq := Ext.size xx; (try simp at hq); omega); have hb0 : w.heap.size < w1.heap.size := (by omega); have q0_0 := Ext.cell (p := ⟨w.heap.size, 0, none⟩) (v := .bool s) xx (by first | exact True | go_simp | (repeat (first | assumption | (refine (World.cell?_setCell_far _ _ _ _ (by simp <;> omega)).trans ?_) | (refine (World.cell?_alloc_lt _ _ _ (World.block_lt_of_cell? _ _ (by assumption))).trans ?_) | go_simp))); have q0_1 := Ext.cell (p := ⟨w.heap.size, 1, none⟩) (v := .slice ao zs.length c) xx (by first | exact True | go_simp | (repeat (first | assumption | (refine (World.cell?_setCell_far _ _ _ _ (by simp <;> omega)).trans ?_) | (refine (World.cell?_alloc_lt _ _ _ (World.block_lt_of_cell? _ _ (by assumption))).trans ?_) | go_simp))); have hb1 : w.heap.size + 1 < w1.heap.size := (by omega); have q1_0 := Ext.cell (p := ⟨w.heap.size + 1, 0, none⟩) (v := .bool t) xx (by first | exact True | go_simp | (repeat (first | assumption | (refine (World.cell?_setCell_far _ _ _ _ (by simp <;> omega)).trans ?_) | (refine (World.cell?_alloc_lt _ _ _ (World.block_lt_of_cell? _ _ (by assumption))).trans ?_) | go_simp))); have q1_1 := Ext.cell (p := ⟨w.heap.size + 1, 1, none⟩) (v := .slice bo us.length d) xx (by first | exact True | go_simp | (repeat (first | assumption | (refine (World.cell?_setCell_far _ _ _ _ (by simp <;> omega)).trans ?_) | (refine (World.cell?_alloc_lt _ _ _ (World.block_lt_of_cell? _ _ (by assumption))).trans ?_) | go_simp))); clear xx)
            | (go_at_call 30; (with_reducible refine (ZSign_any t _ _ _ us _ x rfl (k.ext hE) (by first | omega | (simp; done) | (simp; omega)) hy.out).mono ?_); rintro e w2 ⟨rfl, xx⟩; replace hE := Ext.trans hE xx; have hz2 : w1.heap.size ≤ w2.heap.size := (by have hq := Ext.size xx; (try simp at hq); omega); have hb0 : w.heap.size < w2.heap.size := (by omega); have q0_0 := Ext.cell (p := ⟨w.heap.size, 0, none⟩) (v := .bool s) xx q0_0; have q0_1 := Ext.cell (p := ⟨w.heap.size, 1, none⟩) (v := .slice ao zs.length c) xx q0_1; have hb1 : w.heap.size + 1 < w2.heap.size := (by omega); have q1_0 := Ext.cell (p := ⟨w.heap.size + 1, 0, none⟩) (v := .bool t) xx q1_0; have q1_1 := Ext.cell (p := ⟨w.heap.size + 1, 1, none⟩) (v := .slice bo us.length d) xx q1_1; clear xx))
    go_wp2_with fail
    refine (CmpP _ _ _ zs _ _ _ us _ g rfl rfl (h.ext hE) (k.ext hE) hr.out).mono ?_
    rintro e w3 ⟨rfl, xx⟩
    replace hE := Ext.trans hE xx
    have hz3 : w2.heap.size ≤ w3.heap.size := (by have hq := Ext.size xx; (try simp at hq); omega)
    clear xx
    go_wp2_with fail
    go_ret
    exact ⟨rfl, hE⟩
set_option maxRecDepth 100000 in
set_option maxHeartbeats 1000000 in
theorem ZMin_any (s : Bool) (ao : Option Addr) (n c : Nat) (zs : List Nat) (t : Bool) (bo : Option Addr) (m d : Nat) (us : List Nat) (w : World) (hn : n = zs.length) (hm : m = us.length) (h : Rd w ao c zs) (k : Rd w bo d us) (hl : zs.length ≤ 300000) (hl2 : us.length ≤ 300000) :
    Calls Try.prog 36 #[.agg #[.bool s, .slice ao n c], .agg #[.bool t, .slice bo m d]] w (GotZ w (min (iv s zs) (iv t us)) (zs.length + us.length)) := by
  subst hn hm
  obtain ⟨g, hg⟩ : ∃ g, cmpZ (iv s zs) (iv t us) = g := ⟨_, rfl⟩
  replace hg := Lib.hid hg
  by_cases h1 : g ≤ 0
  · go_enter Try.func36, Try.ntmps36
    go_wp2_with fail
    refine (ZCmp_any s _ _ _ zs t _ _ _ us _ g rfl rfl (h.ext ((((Ext.refl _).alloc _).alloc _).alloc _)) (k.ext ((((Ext.refl _).alloc _).alloc _).alloc _)) (by first | omega | (simp; done) | (simp; omega)) (by first | omega | (simp; done) | (simp; omega)) hg.out).mono ?_
    rintro e w1 ⟨rfl, xx⟩
    have hE : Ext w w1 := Ext.trans ((((Ext.refl _).alloc _).alloc _).alloc _) xx
    have hz1 : w.heap.size + 3 ≤ w1.heap.size := (by have hq := Ext.size xx; (try simp at hq); omega)
    have hb0 : w.heap.size < w1.heap.size := (by omega)
    have q0_0 := Ext.cell (p := ⟨w.heap.size, 0, none⟩) (v := .bool s) xx (by first | exact True | go_simp | (repeat (first | assumption | (refine (World.cell?_setCell_far _ _ _ _ (by simp <;> omega)).trans ?_) | (refine (World.cell?_alloc_lt _ _ _ (World.block_lt_of_cell? _ _ (by assumption))).trans ?_) | go_simp)))
    have q0_1 := Ext.cell (p := ⟨w.heap.size, 1, none⟩) (v := .slice ao zs.length c) xx (by first | exact True | go_simp | (repeat (first | assumption | (refine (World.cell?_setCell_far _ _ _ _ (by simp <;> omega)).trans ?_) | (refine (World.cell?_alloc_lt _ _ _ (World.block_lt_of_cell? _ _ (by assumption))).trans ?_) | go_simp)))
    have hb2 : w.heap.size + 1 + 1 < w1.heap.size := (by omega)
    have fq2_0 := Ext.free (p := ⟨w.heap.size + 1 + 1, 0, none⟩) (v := .bool false) xx (by first | exact True | go_simp | (repeat (first | assumption | (refine (World.cell?_setCell_far _ _ _ _ (by simp <;> omega)).trans ?_) | (refine (World.cell?_alloc_lt _ _ _ (World.block_lt_of_cell? _ _ (by assumption))).trans ?_) | go_simp))) (by first | assumption | go_simp)
    have q2_0 := Ext.cell (p := ⟨w.heap.size + 1 + 1, 0, none⟩) (v := .bool false) xx (by first | exact True | go_simp | (repeat (first | assumption | (refine (World.cell?_setCell_far _ _ _ _ (by simp <;> omega)).trans ?_) | (refine (World.cell?_alloc_lt _ _ _ (World.block_lt_of_cell? _ _ (by assumption))).trans ?_) | go_simp)))
    have fq2_1 := Ext.free (p := ⟨w.heap.size + 1 + 1, 1, none⟩) (v := .slice none 0 0) xx (by first | exact True | go_simp | (repeat (first | assumption | (refine (World.cell?_setCell_far _ _ _ _ (by simp <;> omega)).trans ?_) | (refine (World.cell?_alloc_lt _ _ _ (World.block_lt_of_cell? _ _ (by assumption))).trans ?_) | go_simp))) (by first | assumption | go_simp)
    have q2_1 := Ext.cell (p := ⟨w.heap.size + 1 + 1, 1, none⟩) (v := .slice none 0 0) xx (by first | exact True | go_simp | (repeat (first | assumption | (refine (World.cell?_setCell_far _ _ _ _ (by simp <;> omega)).trans ?_) | (refine (World.cell?_alloc_lt _ _ _ (World.block_lt_of_cell? _ _ (by assumption))).trans ?_) | go_simp)))
    clear xx
    go_wp2_with fail
    refine (clean_any s _ _ _ zs _ rfl (h.ext hE) (by first | omega | (simp; done) | (simp; omega))).mono ?_
    rintro e w2 ⟨r2s, r2a, r2c, r2z, r2B, rfl, r2b, r2o, r2k, r2v, r2l, xx⟩
    try simp at r2b
    try simp only [List.length_cons, List.length_nil] at r2l
    replace hE := Ext.trans hE xx
    have hz2 : w1.heap.size ≤ w2.heap.size := (by have hq := Ext.size xx; (try simp at hq); omega)
    have hb2 : w.heap.size + 1 + 1 < w2.heap.size := (by omega)
    have fq2_0 := Ext.free (p := ⟨w.heap.size + 1 + 1, 0, none⟩) (v := .bool false) xx q2_0 fq2_0
    have q2_0 := Ext.cell (p := ⟨w.heap.size + 1 + 1, 0, none⟩) (v := .bool false) xx q2_0
    have fq2_1 := Ext.free (p := ⟨w.heap.size + 1 + 1, 1, none⟩) (v := .slice none 0 0) xx q2_1 fq2_1
    have q2_1 := Ext.cell (p := ⟨w.heap.size + 1 + 1, 1, none⟩) (v := .slice none 0 0) xx q2_1
    clear xx
    go_wp2_with fail
    refine bodyPost_ret (v := .agg #[.bool r2s, .slice r2a r2z.length r2c]) (by simp [results, Try.results36, go_sem, q2_0, q2_1]) rfl ?_
    exact ⟨r2s, r2a, r2c, r2z, r2B, rfl, (by omega), (Own.st (Own.st r2o (b := w.heap.size + 1 + 1) (by omega) _ _) (b := w.heap.size + 1 + 1) (by omega) _ _), r2k, (by unfold Hid; rw [r2v.out]; have a := hg.out; unfold cmpZ at a; split at a <;> (try split at a) <;> omega), (by first | omega | (simp; done) | (simp; omega)), (Ext.st (Ext.st hE (b := w.heap.size + 1 + 1) (by omega) _ _) (b := w.heap.size + 1 + 1) (by omega) _ _)⟩
  · go_enter Try.func36, Try.ntmps36
    go_wp2_with fail
    refine (ZCmp_any s _ _ _ zs t _ _ _ us _ g rfl rfl (h.ext ((((Ext.refl _).alloc _).alloc _).alloc _)) (k.ext ((((Ext.refl _).alloc _).alloc _).alloc _)) (by first | omega | (simp; done) | (simp; omega)) (by first | omega | (simp; done) | (simp; omega)) hg.out).mono ?_
    rintro e w1 ⟨rfl, xx⟩
    have hE : Ext w w1 := Ext.trans ((((Ext.refl _).alloc _).alloc _).alloc _) xx
    have hz1 : w.heap.size + 3 ≤ w1.heap.size := (by have hq := Ext.size xx; (try simp at hq); omega)
    have hb1 : w.heap.size + 1 < w1.heap.size := (by omega)
    have q1_0 := Ext.cell (p := ⟨w.heap.size + 1, 0, none⟩) (v := .bool t) xx (by first | exact True | go_simp | (repeat (first | assumption | (refine (World.cell?_setCell_far _ _ _ _ (by simp <;> omega)).trans ?_) | (refine (World.cell?_alloc_lt _ _ _ (World.block_lt_of_cell? _ _ (by assumption))).trans ?_) | go_simp)))
    have q1_1 := Ext.cell (p := ⟨w.heap.size + 1, 1, none⟩) (v := .slice bo us.length d) xx (by first | exact True | go_simp | (repeat (first | assumption | (refine (World.cell?_setCell_far _ _ _ _ (by simp <;> omega)).trans ?_) | (refine (World.cell?_alloc_lt _ _ _ (World.block_lt_of_cell? _ _ (by assumption))).trans ?_) | go_simp)))
    have hb2 : w.heap.size + 1 + 1 < w1.heap.size := (by omega)
    have fq2_0 := Ext.free (p := ⟨w.heap.size + 1 + 1, 0, none⟩) (v := .bool false) xx (by first | exact True | go_simp | (repeat (first | assumption | (refine (World.cell?_setCell_far _ _ _ _ (by simp <;> omega)).trans ?_) | (refine (World.cell?_alloc_lt _ _ _ (World.block_lt_of_cell? _ _ (by assumption))).trans ?_) | go_simp))) (by first | assumption | go_simp)
    have q2_0 := Ext.cell (p := ⟨w.heap.size + 1 + 1, 0, none⟩) (v := .bool false) xx (by first | exact True | go_simp | (repeat (first | assumption | (refine (World.cell?_setCell_far _ _ _ _ (by simp <;> omega)).trans ?_) | (refine (World.cell?_alloc_lt _ _ _ (World.block_lt_of_cell? _ _ (by assumption))).trans ?_) | go_simp)))
    have fq2_1 := Ext.free (p := ⟨w.heap.size + 1 + 1, 1, none⟩) (v := .slice none 0 0) xx (by first | exact True | go_simp | (repeat (first | assumption | (refine (World.cell?_setCell_far _ _ _ _ (by simp <;> omega)).trans ?_) | (refine (World.cell?_alloc_lt _ _ _ (World.block_lt_of_cell? _ _ (by assumption))).trans ?_) | go_simp))) (by first | assumption | go_simp)
    have q2_1 := Ext.cell (p := ⟨w.heap.size + 1 + 1, 1, none⟩) (v := .slice none 0 0) xx (by first | exact True | go_simp | (repeat (first | assumption | (refine (World.cell?_setCell_far _ _ _ _ (by simp <;> omega)).trans ?_) | (refine (World.cell?_alloc_lt _ _ _ (World.block_lt_of_cell? _ _ (by assumption))).trans ?_) | go_simp)))
    clear xx
    go_wp2_with fail
    refine (clean_any t _ _ _ us _ rfl (k.ext hE) (by first | omega | (simp; done) | (simp; omega))).mono ?_
    rintro e w2 ⟨r2s, r2a, r2c, r2z, r2B, rfl, r2b, r2o, r2k, r2v, r2l, xx⟩
    try simp at r2b
    try simp only [List.length_cons, List.length_nil] at r2l
    replace hE := Ext.trans hE xx
    have hz2 : w1.heap.size ≤ w2.heap.size := (by have hq := Ext.size xx; (try simp at hq); omega)
    have hb2 : w.heap.size + 1 + 1 < w2.heap.size := (by omega)
    have fq2_0 := Ext.free (p := ⟨w.heap.size + 1 + 1, 0, none⟩) (v := .bool false) xx q2_0 fq2_0
    have q2_0 := Ext.cell (p := ⟨w.heap.size + 1 + 1, 0, none⟩) (v := .bool false) xx q2_0
    have fq2_1 := Ext.free (p := ⟨w.heap.size + 1 + 1, 1, none⟩) (v := .slice none 0 0) xx q2_1 fq2_1
    have q2_1 := Ext.cell (p := ⟨w.heap.size + 1 + 1, 1, none⟩) (v := .slice none 0 0) xx q2_1
    clear xx
    go_wp2_with fail
    refine bodyPost_ret (v := .agg #[.bool r2s, .slice r2a r2z.length r2c]) (by simp [results, Try.results36, go_sem, q2_0, q2_1]) rfl ?_
    exact ⟨r2s, r2a, r2c, r2z, r2B, rfl, (by omega), (Own.st (Own.st r2o (b := w.heap.size + 1 + 1) (by omega) _ _) (b := w.heap.size + 1 + 1) (by omega) _ _), r2k, (by unfold Hid; rw [r2v.out]; have a := hg.out; unfold cmpZ at a; split at a <;> (try split at a) <;> omega), (by first | omega | (simp; done) | (simp; omega)), (Ext.st (Ext.st hE (b := w.heap.size + 1 + 1) (by omega) _ _) (b := w.heap.size + 1 + 1) (by omega) _ _)⟩
set_option maxRecDepth 100000 in
set_option maxHeartbeats 1000000 in
theorem ZMax_any (s : Bool) (ao : Option Addr) (n c : Nat) (zs : List Nat) (t : Bool) (bo : Option Addr) (m d : Nat) (us : List Nat) (w : World) (hn : n = zs.length) (hm : m = us.length) (h : Rd w ao c zs) (k : Rd w bo d us) (hl : zs.length ≤ 300000) (hl2 : us.length ≤ 300000) :
    Calls Try.prog 37 #[.agg #[.bool s, .slice ao n c], .agg #[.bool t, .slice bo m d]] w (GotZ w (max (iv s zs) (iv t us)) (zs.length + us.length)) := by
  subst hn hm
  obtain ⟨g, hg⟩ : ∃ g, cmpZ (iv s zs) (iv t us) = g := ⟨_, rfl⟩
  replace hg := Lib.hid hg
  by_cases h1 : 0 ≤ g
  · go_enter Try.func37, Try.ntmps37
    go_wp2_with fail
    refine (ZCmp_any s _ _ _ zs t _ _ _ us _ g rfl rfl (h.ext ((((Ext.refl _).alloc _).alloc _).alloc _)) (k.ext ((((Ext.refl _).alloc _).alloc _).alloc _)) (by first | omega | (simp; done) | (simp; omega)) (by first | omega | (simp; done) | (simp; omega)) hg.out).mono ?_
    rintro e w1 ⟨rfl, xx⟩
    have hE : Ext w w1 := Ext.trans ((((Ext.refl _).alloc _).alloc _).alloc _) xx
    have hz1 : w.heap.size + 3 ≤ w1.heap.size := (by have hq := Ext.size xx; (try simp at hq); omega)
    have hb0 : w.heap.size < w1.heap.size := (by omega)
    have q0_0 := Ext.cell (p := ⟨w.heap.size, 0, none⟩) (v := .bool s) xx (by first | exact True | go_simp | (repeat (first | assumption | (refine (World.cell?_setCell_far _ _ _ _ (by simp <;> omega)).trans ?_) | (refine (World.cell?_alloc_lt _ _ _ (World.block_lt_of_cell? _ _ (by assumption))).trans ?_) | go_simp)))
    have q0_1 := Ext.cell (p := ⟨w.heap.size, 1, none⟩) (v := .slice ao zs.length c) xx (by first | exact True | go_simp | (repeat (first | assumption | (refine (World.cell?_setCell_far _ _ _ _ (by simp <;> omega)).trans ?_) | (refine (World.cell?_alloc_lt _ _ _ (World.block_lt_of_cell? _ _ (by assumption))).trans ?_) | go_simp)))
    have hb2 : w.heap.size + 1 + 1 < w1.heap.size := (by omega)
    have fq2_0 := Ext.free (p := ⟨w.heap.size + 1 + 1, 0, none⟩) (v := .bool false) xx (by first | exact True | go_simp | (repeat (first | assumption | (refine (World.cell?_setCell_far _ _ _ _ (by simp <;> omega)).trans ?_) | (refine (World.cell?_alloc_lt _ _ _ (World.block_lt_of_cell? _ _ (by assumption))).trans ?_) | go_simp))) (by first | assumption | go_simp)
    have q2_0 := Ext.cell (p := ⟨w.heap.size + 1 + 1, 0, none⟩) (v := .bool false) xx (by first | exact True | go_simp | (repeat (first | assumption | (refine (World.cell?_setCell_far _ _ _ _ (by simp <;> omega)).trans ?_) | (refine (World.cell?_alloc_lt _ _ _ (World.block_lt_of_cell? _ _ (by assumption))).trans ?_) | go_simp)))
    have fq2_1 := Ext.free (p := ⟨w.heap.size + 1 + 1, 1, none⟩) (v := .slice none 0 0) xx (by first | exact True | go_simp | (repeat (first | assumption | (refine (World.cell?_setCell_far _ _ _ _ (by simp <;> omega)).trans ?_) | (refine (World.cell?_alloc_lt _ _ _ (World.block_lt_of_cell? _ _ (by assumption))).trans ?_) | go_simp))) (by first | assumption | go_simp)
    have q2_1 := Ext.cell (p := ⟨w.heap.size + 1 + 1, 1, none⟩) (v := .slice none 0 0) xx (by first | exact True | go_simp | (repeat (first | assumption | (refine (World.cell?_setCell_far _ _ _ _ (by simp <;> omega)).trans ?_) | (refine (World.cell?_alloc_lt _ _ _ (World.block_lt_of_cell? _ _ (by assumption))).trans ?_) | go_simp)))
    clear xx
    go_wp2_with fail
    refine (clean_any s _ _ _ zs _ rfl (h.ext hE) (by first | omega | (simp; done) | (simp; omega))).mono ?_
    rintro e w2 ⟨r2s, r2a, r2c, r2z, r2B, rfl, r2b, r2o, r2k, r2v, r2l, xx⟩
    try simp at r2b
    try simp only [List.length_cons, List.length_nil] at r2l
    replace hE := Ext.trans hE xx
    have hz2 : w1.heap.size ≤ w2.heap.size := (by have hq := Ext.size xx; (try simp at hq); omega)
    have hb2 : w.heap.size + 1 + 1 < w2.heap.size := (by omega)
    have fq2_0 := Ext.free (p := ⟨w.heap.size + 1 + 1, 0, none⟩) (v := .bool false) xx q2_0 fq2_0
    have q2_0 := Ext.cell (p := ⟨w.heap.size + 1 + 1, 0, none⟩) (v := .bool false) xx q2_0
    have fq2_1 := Ext.free (p := ⟨w.heap.size + 1 + 1, 1, none⟩) (v := .slice none 0 0) xx q2_1 fq2_1
    have q2_1 := Ext.cell (p := ⟨w.heap.size + 1 + 1, 1, none⟩) (v := .slice none 0 0) xx q2_1
    clear xx
    go_wp2_with fail
    refine bodyPost_ret (v := .agg #[.bool r2s, .slice r2a r2z.length r2c]) (by simp [results, Try.results37, go_sem, q2_0, q2_1]) rfl ?_
    exact ⟨r2s, r2a, r2c, r2z, r2B, rfl, (by omega), (Own.st (Own.st r2o (b := w.heap.size + 1 + 1) (by omega) _ _) (b := w.heap.size + 1 + 1) (by omega) _ _), r2k, (by unfold Hid; rw [r2v.out]; have a := hg.out; unfold cmpZ at a; split at a <;> (try split at a) <;> omega), (by first | omega | (simp; done) | (simp; omega)), (Ext.st (Ext.st hE (b := w.heap.size + 1 + 1) (by omega) _ _) (b := w.heap.size + 1 + 1) (by omega) _ _)⟩
  · go_enter Try.func37, Try.ntmps37
    go_wp2_with fail
    refine (ZCmp_any s _ _ _ zs t _ _ _ us _ g rfl rfl (h.ext ((((Ext.refl _).alloc _).alloc _).alloc _)) (k.ext ((((Ext.refl _).alloc _).alloc _).alloc _)) (by first | omega | (simp; done) | (simp; omega)) (by first | omega | (simp; done) | (simp; omega)) hg.out).mono ?_
    rintro e w1 ⟨rfl, xx⟩
    have hE : Ext w w1 := Ext.trans ((((Ext.refl _).alloc _).alloc _).alloc _) xx
    have hz1 : w.heap.size + 3 ≤ w1.heap.size := (by have hq := Ext.size xx; (try simp at hq); omega)
    have hb1 : w.heap.size + 1 < w1.heap.size := (by omega)
    have q1_0 := Ext.cell (p := ⟨w.heap.size + 1, 0, none⟩) (v := .bool t) xx (by first | exact True | go_simp | (repeat (first | assumption | (refine (World.cell?_setCell_far _ _ _ _ (by simp <;> omega)).trans ?_) | (refine (World.cell?_alloc_lt _ _ _ (World.block_lt_of_cell? _ _ (by assumption))).trans ?_) | go_simp)))
    have q1_1 := Ext.cell (p := ⟨w.heap.size + 1, 1, none⟩) (v := .slice bo us.length d) xx (by first | exact True | go_simp | (repeat (first | assumption | (refine (World.cell?_setCell_far _ _ _ _ (by simp <;> omega)).trans ?_) | (refine (World.cell?_alloc_lt _ _ _ (World.block_lt_of_cell? _ _ (by assumption))).trans ?_) | go_simp)))
    have hb2 : w.heap.size + 1 + 1 < w1.heap.size := (by omega)
    have fq2_0 := Ext.free (p := ⟨w.heap.size + 1 + 1, 0, none⟩) (v := .bool false) xx (by first | exact True | go_simp | (repeat (first | assumption | (refine (World.cell?_setCell_far _ _ _ _ (by simp <;> omega)).trans ?_) | (refine (World.cell?_alloc_lt _ _ _ (World.block_lt_of_cell? _ _ (by assumption))).trans ?_) | go_simp))) (by first | assumption | go_simp)
    have q2_0 := Ext.cell (p := ⟨w.heap.size + 1 + 1, 0, none⟩) (v := .bool false) xx (by first | exact True | go_simp | (repeat (first | assumption | (refine (World.cell?_setCell_far _ _ _ _ (by simp <;> omega)).trans ?_) | (refine (World.cell?_alloc_lt _ _ _ (World.block_lt_of_cell? _ _ (by assumption))).trans ?_) | go_simp)))
    have fq2_1 := Ext.free (p := ⟨w.heap.size + 1 + 1, 1, none⟩) (v := .slice none 0 0) xx (by first | exact True | go_simp | (repeat (first | assumption | (refine (World.cell?_setCell_far _ _ _ _ (by simp <;> omega)).trans ?_) | (refine (World.cell?_alloc_lt _ _ _ (World.block_lt_of_cell? _ _ (by assumption))).trans ?_) | go_simp))) (by first | assumption | go_simp)
    have q2_1 := Ext.cell (p := ⟨w.heap.size + 1 + 1, 1, none⟩) (v := .slice none 0 0) xx (by first | exact True | go_simp | (repeat (first | assumption | (refine (World.cell?_setCell_far _ _ _ _ (by simp <;> omega)).trans ?_) | (refine (World.cell?_alloc_lt _ _ _ (World.block_lt_of_cell? _ _ (by assumption))).trans ?_) | go_simp)))
    clear xx
    go_wp2_with fail
    refine (clean_any t _ _ _ us _ rfl (k.ext hE) (by first | omega | (simp; done) | (simp; omega))).mono ?_
    rintro e w2 ⟨r2s, r2a, r2c, r2z, r2B, rfl, r2b, r2o, r2k, r2v, r2l, xx⟩
    try simp at r2b
    try simp only [List.length_cons, List.length_nil] at r2l
    replace hE := Ext.trans hE xx
    have hz2 : w1.heap.size ≤ w2.heap.size := (by have hq := Ext.size xx; (try simp at hq); omega)
    have hb2 : w.heap.size + 1 + 1 < w2.heap.size := (by omega)
    have fq2_0 := Ext.free (p := ⟨w.heap.size + 1 + 1, 0, none⟩) (v := .bool false) xx q2_0 fq2_0
    have q2_0 := Ext.cell (p := ⟨w.heap.size + 1 + 1, 0, none⟩) (v := .bool false) xx q2_0
    have fq2_1 := Ext.free (p := ⟨w.heap.size + 1 + 1, 1, none⟩) (v := .slice none 0 0) xx q2_1 fq2_1
    have q2_1 := Ext.cell (p := ⟨w.heap.size + 1 + 1, 1, none⟩) (v := .slice none 0 0) xx q2_1
    clear xx
    go_wp2_with fail
    refine bodyPost_ret (v := .agg #[.bool r2s, .slice r2a r2z.length r2c]) (by simp [results, Try.results37, go_sem, q2_0, q2_1]) rfl ?_
    exact ⟨r2s, r2a, r2c, r2z, r2B, rfl, (by omega), (Own.st (Own.st r2o (b := w.heap.size + 1 + 1) (by omega) _ _) (b := w.heap.size + 1 + 1) (by omega) _ _), r2k, (by unfold Hid; rw [r2v.out]; have a := hg.out; unfold cmpZ at a; split at a <;> (try split at a) <;> omega), (by first | omega | (simp; done) | (simp; omega)), (Ext.st (Ext.st hE (b := w.heap.size + 1 + 1) (by omega) _ _) (b := w.heap.size + 1 + 1) (by omega) _ _)⟩
end Go.Proofs.Ytehbfobfkpejoaa
