/-
  Part 5 of the proof of the statement ShadowDark: the walk through the program and the references lifted to the given row. It holds for every input.
-/
import Derived.Test.YtoklkfmffmonoaaGreatVd4
import Derived.Test.YtoklkfmffmonoaaGreatVd3
import Derived.Test.YtoklkfmffmonoaaGreatVd2
import Derived.Lib.RowBridge
import Derived.Test.YtoklkfmffmonoaaGreatVd1
set_option maxRecDepth 100000
section
namespace Go.Proofs.YtoklkfmffmonoaaGreat.S
open Go.RowKit

theorem ha_1 : Sz Tryz.prog 45 4 true := Sz.mk' (by kernel_rfl) Tryz.underlying45 _ rfl
theorem ha_4 : Bodied Tryz.prog 73 := Bodied.mk' (by kernel_rfl)
theorem ha_7 : ElZ Tryz.prog 58 63 5 := ElZ.mk' Tryz.underlying58 _ _ rfl rfl (by kernel_rfl) (by kernel_rfl) (by kernel_rfl) (by decide)
theorem ha_8 : ElT Tryz.prog 58 63 5 88 := ElT.mk' Tryz.underlying58 _ _ rfl rfl (by kernel_rfl) (by kernel_rfl) (by kernel_rfl) (by decide) (by decide)
theorem ha_9 : Bodied Tryz.prog 75 := Bodied.mk' (by kernel_rfl)
theorem ha_11 : ElT Tryz.prog 22 45 4 64 := ElT.mk' Tryz.underlying22 _ _ rfl rfl (by kernel_rfl) (by kernel_rfl) (by kernel_rfl) (by decide) (by decide)
theorem ha_12 : Sz Tryz.prog 60 3 true := Sz.mk' (by kernel_rfl) Tryz.underlying60 _ rfl
structure SideD where
  times : ZI
  rest : Term
def SideD.d (x : SideD) : List D := [.raw (.bool x.times.neg), nsl x.times.abs, .sl 3 (x.rest.parts.map Part.d), .raw (.bool x.rest.k.neg), nsl x.rest.k.abs]
structure SidesD where
  lows : List SideD
  highs : List SideD
  others : List RelD
def lstR (t : Term) : RelD := ⟨plainT t, false⟩
def sideOf (v : Int) (r : RelD) : SideD := ⟨ZI.of ((coefZ r.t.parts v).natAbs : Int), woT r.t v⟩
def lowF (v : Int) (r : RelD) : List SideD := if 0 < coefZ r.t.parts v then [sideOf v r] else []
def highF (v : Int) (r : RelD) : List SideD := if coefZ r.t.parts v < 0 then [sideOf v r] else []
def othF (v : Int) (r : RelD) : List RelD := if coefZ r.t.parts v = 0 then [lstR r.t] else []
def lowsOf (rs : List RelD) (v : Int) : List SideD := rs.flatMap (lowF v)
def highsOf (rs : List RelD) (v : Int) : List SideD := rs.flatMap (highF v)
def othersOf (rs : List RelD) (v : Int) : List RelD := rs.flatMap (othF v)
def splitS (rs : List RelD) (v : Int) : SidesD := ⟨lowsOf rs v, highsOf rs v, othersOf rs v⟩
def RsOk (rs : List RelD) : Prop := rs.length ≤ 20 ∧ ∀ r ∈ rs, TokR 8 r
theorem flat_snoc {α β : Type} {g : α → List β} {xs : List α} {j : Nat} {x : α} {ys : List β} (h : xs[j]? = some x) (e : g x = ys) : (xs.take j).flatMap g ++ ys = (xs.take (j + 1)).flatMap g := by
 rw [List.take_add_one, h, List.flatMap_append]; simp [e]
theorem flat_skip {α β : Type} {g : α → List β} {xs : List α} {j : Nat} {x : α} (h : xs[j]? = some x) (e : g x = []) : (xs.take j).flatMap g = (xs.take (j + 1)).flatMap g := by
 rw [← flat_snoc h e, List.append_nil]
theorem flat_le {α β : Type} {g : α → List β} (hg : ∀ x, (g x).length ≤ 1) : ∀ xs : List α, (xs.flatMap g).length ≤ xs.length
 | [] => Nat.le_refl _
 | x :: xs => by
  rw [List.flatMap_cons, List.length_append, List.length_cons]
  have := flat_le hg xs; have := hg x; omega
theorem low_le (v : Int) (r : RelD) : (lowF v r).length ≤ 1 := by unfold lowF; split <;> simp
theorem high_le (v : Int) (r : RelD) : (highF v r).length ≤ 1 := by unfold highF; split <;> simp
theorem oth_le (v : Int) (r : RelD) : (othF v r).length ≤ 1 := by unfold othF; split <;> simp
theorem sgn1_t {z : Int} (h : (sgn z == 1) = true) : 0 < z := sgn_gt_zero.1 (by have h1 : sgn z = 1 := (by simpa using h); omega)
theorem sgn1_f {z : Int} (h : (sgn z == 1) = false) : ¬ 0 < z := fun e => by rw [sgn_pos e] at h; cases h
theorem sgnm_t {z : Int} (h : (sgn z == (-1)) = true) : z < 0 := sgn_lt_zero.1 (by have h1 : sgn z = -1 := (by simpa using h); omega)
theorem sgnm_f {z : Int} (h : (sgn z == (-1)) = false) : ¬ z < 0 := fun e => by rw [sgn_neg e] at h; cases h
theorem wo_ok {n L : Nat} {t : Term} (h : TOk n L t) (hn : n ≤ 1000) (v : Int) : TOk n (L + 1) (woT t v) :=
 TOk.plain (t := ⟨t.parts.filter fun p => !isVar v p, t.k⟩) ⟨Nat.le_trans (List.length_filter_le _ _) h.len, fun p hp => h.ps p (List.mem_filter.1 hp).1, h.kb, h.kl⟩ hn
structure SideOk (s : SideD) : Prop where
  lb : Lb s.times.abs
  len : s.times.abs.length ≤ 9
  rest : TOk 20 9 s.rest
theorem side_ok {r : RelD} (h : TokR 8 r) (v : Int) : SideOk (sideOf v r) := ⟨ZI.lb_of _, by
 have h1 := coef_len (L := 8) (h.mono (show 20 ≤ 1000 by decide) (Nat.le_refl 8)).psok v
 have h2 := len_abs (ZI.lb_of (coefZ r.t.parts v))
 rw [ZI.val_of] at h2
 exact Nat.le_trans h2 h1, wo_ok h (by decide) v⟩
theorem lows_ok {rs : List RelD} (h : RsOk rs) (v : Int) : ∀ s ∈ lowsOf rs v, SideOk s := fun s hs => by
 obtain ⟨r, hr, hm⟩ := List.mem_flatMap.1 hs
 unfold lowF at hm
 split at hm
 ·rw [List.mem_singleton.1 hm]; exact side_ok (h.2 r hr) v
 ·cases hm
theorem highs_ok {rs : List RelD} (h : RsOk rs) (v : Int) : ∀ s ∈ highsOf rs v, SideOk s := fun s hs => by
 obtain ⟨r, hr, hm⟩ := List.mem_flatMap.1 hs
 unfold highF at hm
 split at hm
 ·rw [List.mem_singleton.1 hm]; exact side_ok (h.2 r hr) v
 ·cases hm
theorem lows_len {rs : List RelD} (h : RsOk rs) (v : Int) : (lowsOf rs v).length ≤ 20 := Nat.le_trans (flat_le (low_le v) rs) h.1
theorem highs_len {rs : List RelD} (h : RsOk rs) (v : Int) : (highsOf rs v).length ≤ 20 := Nat.le_trans (flat_le (high_le v) rs) h.1
theorem others_len {rs : List RelD} (h : RsOk rs) (v : Int) : (othersOf rs v).length ≤ 20 := Nat.le_trans (flat_le (oth_le v) rs) h.1
set_option maxHeartbeats 4000000 in
theorem SLeast (t : Term) (ht : TOk 400 10000 t) : Fn Tryz.prog 75 [] [.t (.agg ([.d (.sl 3 (t.parts.map Part.d))] ++ zi t.k))] (.t (.agg ([.d (.sl 3 ((lstR t).t.parts.map Part.d))] ++ zi (lstR t).t.k ++ [.d (.raw (.bool (lstR t).eq))]))) [] := by
 refine Fn.body Tryz.func75 rfl 6 rfl fun w H B a h => ?_
 refine rSeq fam0ok 0 [] [(1, vp 0 0), (2, vp 1 0)] [(0, .box ([.d (.sl 3 (t.parts.map Part.d))] ++ zi t.k)), (1, .box [.d (.raw nilV), .d (.raw (.bool false)), .d (nsl []), .d (.raw (.bool false))])] (by kernel_rfl) h ?_; clear h; intro a w h
 refine rSeq fam0ok 2 [(1, .call (SPlain t ht (by decide) (by decide)) tm_7)] [(2, vp 1 0)] [(1, .box ([.d (.sl 3 ((plainT t).parts.map Part.d))] ++ zi (plainT t).k ++ [.d (.raw (.bool false))]))] (by kernel_rfl) h ?_; clear h; intro a w h
 refine wp_ret ?_
 refine retS [.agg ([.d (.sl 3 ((plainT t).parts.map Part.d))] ++ zi (plainT t).k ++ [.d (.raw (.bool false))])] h Exit.ret (.inl rfl)  rfl ⟨RV.agg _ 1 0 _ _ _ _ ha_1 rfl rfl rfl rfl, trivial⟩ ?_ (by kernel_rfl) (by kernel_rfl)
 rfl
set_option maxHeartbeats 4000000 in
theorem Ssplit (rs : List RelD) (v : Int) (hrs : RsOk rs) : Fn Tryz.prog 30 [] [.t (.c (.d (.sl 4 (rs.map RelD.d)))), vi .i64 v] (.t (.agg [.d (.sl 5 ((lowsOf rs v).map SideD.d)), .d (.sl 5 ((highsOf rs v).map SideD.d)), .d (.sl 4 ((othersOf rs v).map RelD.d))])) [] := by
 have lrs := hrs.1
 refine Fn.body Tryz.func30 rfl 55 rfl fun w H B a h => ?_
 refine rSeq fam0ok 5 [] [(0, .t (.c (.d (.sl 4 (rs.map RelD.d))))), (1, vi .i64 v), (4, vp 5 0)] [(5, .box [.d (.raw nilV), .d (.raw nilV), .d (.raw nilV)])] (by kernel_rfl) h ?_; clear h; intro a w h
 refine rSeq fam0ok 6 [] [(0, .t (.c (.d (.sl 4 (rs.map RelD.d))))), (1, vi .i64 v), (4, vp 5 0), (5, vp 6 0)] [(5, .box [.d (.raw nilV), .d (.raw nilV), .d (.raw nilV)]), (6, .box [.d (.raw nilV), .d (.raw nilV), .d (.raw nilV)])] (by kernel_rfl) h ?_; clear h; intro a w h
 refine wp_seq ?_
 replace h := nilOLs 6 0 7 5 63 [.d (.raw nilV), .d (.raw nilV), .d (.raw nilV)] [(0, .t (.c (.d (.sl 4 (rs.map RelD.d))))), (1, vi .i64 v), (4, vp 5 0), (5, vp 6 0)] [(5, .box [.d (.raw nilV), .d (.raw nilV), .d (.raw nilV)]), (6, .box [.own 7 0, .d (.raw nilV), .d (.raw nilV)]), (7, .row 63 5 ([].map SideD.d))] h (by kernel_rfl) rfl rfl (by kernel_rfl) (by kernel_rfl)
 replace h := nilOLs 6 1 8 5 63 [.own 7 0, .d (.raw nilV), .d (.raw nilV)] [(0, .t (.c (.d (.sl 4 (rs.map RelD.d))))), (1, vi .i64 v), (4, vp 5 0), (5, vp 6 0)] [(5, .box [.d (.raw nilV), .d (.raw nilV), .d (.raw nilV)]), (6, .box [.own 7 0, .own 8 0, .d (.raw nilV)]), (7, .row 63 5 ([].map SideD.d)), (8, .row 63 5 ([].map SideD.d))] h (by kernel_rfl) rfl rfl (by kernel_rfl) (by kernel_rfl)
 replace h := nilOLs 6 2 9 4 45 [.own 7 0, .own 8 0, .d (.raw nilV)] [(0, .t (.c (.d (.sl 4 (rs.map RelD.d))))), (1, vi .i64 v), (4, vp 5 0), (5, vp 6 0)] [(5, .box [.d (.raw nilV), .d (.raw nilV), .d (.raw nilV)]), (6, .box [.own 7 0, .own 8 0, .own 9 0]), (7, .row 63 5 ([].map SideD.d)), (8, .row 63 5 ([].map SideD.d)), (9, .row 45 4 ([].map RelD.d))] h (by kernel_rfl) rfl rfl (by kernel_rfl) (by kernel_rfl)
 refine rSeq fam0ok 10 [(1, .len (c := (.d (.sl 4 (rs.map RelD.d)))) (n := rs.length) (lenC_map _ _ _))] [(1, vi .i64 v), (4, vp 5 0), (5, vp 6 0), (10, .t (.c (.d (.sl 4 (rs.map RelD.d))))), (11, vi .i64 (rs.length : Int)), (12, vi .i64 0)] [(5, .box [.d (.raw nilV), .d (.raw nilV), .d (.raw nilV)]), (6, .box [.own 7 0, .own 8 0, .own 9 0]), (7, .row 63 5 ([].map SideD.d)), (8, .row 63 5 ([].map SideD.d)), (9, .row 45 4 ([].map RelD.d))] (by kernel_rfl) h ?_; clear h; intro a w h
 refine wp_block ?_
 refine loopS (ι := (Nat)) (fun (z_ : (Nat)) => match z_ with | j => j ≤ rs.length)
   (fun (z_ : (Nat)) => match z_ with | j => [(1, vi .i64 v), (4, vp 5 0), (5, vp 6 0), (10, .t (.c (.d (.sl 4 (rs.map RelD.d))))), (11, vi .i64 (rs.length : Int)), (12, vi .i64 (j : Int))])
   (fun (z_ : (Nat)) => match z_ with | j => [(5, .box [.d (.raw nilV), .d (.raw nilV), .d (.raw nilV)]), (6, .box [.own 7 ((rs.take j).flatMap (lowF v)).length, .own 8 ((rs.take j).flatMap (highF v)).length, .own 9 ((rs.take j).flatMap (othF v)).length]), (7, .row 63 5 (((rs.take j).flatMap (lowF v)).map SideD.d)), (8, .row 63 5 (((rs.take j).flatMap (highF v)).map SideD.d)), (9, .row 45 4 (((rs.take j).flatMap (othF v)).map RelD.d))])
   (fun (z_ : (Nat)) => match z_ with | j => rs.length - j) 0 ?_ h (by kernel_rfl) (by kernel_rfl) ?_
 ·exact Nat.zero_le _
 ·clear h; rintro j a w hI h
  change St _ (F.of [(1, vi .i64 v), (4, vp 5 0), (5, vp 6 0), (10, .t (.c (.d (.sl 4 (rs.map RelD.d))))), (11, vi .i64 (rs.length : Int)), (12, vi .i64 (j : Int))] [(5, .box [.d (.raw nilV), .d (.raw nilV), .d (.raw nilV)]), (6, .box [.own 7 ((rs.take j).flatMap (lowF v)).length, .own 8 ((rs.take j).flatMap (highF v)).length, .own 9 ((rs.take j).flatMap (othF v)).length]), (7, .row 63 5 (((rs.take j).flatMap (lowF v)).map SideD.d)), (8, .row 63 5 (((rs.take j).flatMap (highF v)).map SideD.d)), (9, .row 45 4 (((rs.take j).flatMap (othF v)).map RelD.d))]) a w at h
  have fl1 := flat_le (low_le v) (rs.take j)
  have fl2 := flat_le (high_le v) (rs.take j)
  have fl3 := flat_le (oth_le v) (rs.take j)
  rw [List.length_take] at fl1 fl2 fl3
  refine rSeq fam0ok 10 [] [(1, vi .i64 v), (4, vp 5 0), (5, vp 6 0), (10, .t (.c (.d (.sl 4 (rs.map RelD.d))))), (11, vi .i64 (rs.length : Int)), (12, vi .i64 (j : Int)), (13, vb (decide ((j : Int) < (rs.length : Int))))] [(5, .box [.d (.raw nilV), .d (.raw nilV), .d (.raw nilV)]), (6, .box [.own 7 ((rs.take j).flatMap (lowF v)).length, .own 8 ((rs.take j).flatMap (highF v)).length, .own 9 ((rs.take j).flatMap (othF v)).length]), (7, .row 63 5 (((rs.take j).flatMap (lowF v)).map SideD.d)), (8, .row 63 5 (((rs.take j).flatMap (highF v)).map SideD.d)), (9, .row 45 4 (((rs.take j).flatMap (othF v)).map RelD.d))] (by kernel_rfl) h ?_; clear h; intro a w h
  refine wp_seq ?_
  refine condS (decide ((j : Int) < (rs.length : Int))) h rfl (fun hc => ?_) (fun hc => ?_)
  ·have hc1 := hc; clear hc
   have hc1' := of_decide_eq_true hc1
   refine wp_skip ?_
   refine then_n ?_
   refine wp_seq ?_
   refine wp_block ?_
   obtain ⟨x1, hx1⟩ : ∃ z_ : RelD, rs[j]? = some z_ := ⟨_, List.getElem?_eq_getElem (by first | omega | (simp at *; omega))⟩
   have gx1 : TOk 20 8 x1.t := hrs.2 x1 (List.mem_of_getElem? hx1)
   refine rSeq fam0ok 10 [(0, .gen _ _ _ fun _ _ _ _ => Op.idxD (d := 14) (t := 10) (k := .i64) kc_3 (map_at hx1 (f := RelD.d)) (OV.tmp 12 _))] [(1, vi .i64 v), (4, vp 5 0), (5, vp 6 0), (7, vp 10 0), (10, .t (.c (.d (.sl 4 (rs.map RelD.d))))), (11, vi .i64 (rs.length : Int)), (12, vi .i64 (j : Int))] [(5, .box [.d (.raw nilV), .d (.raw nilV), .d (.raw nilV)]), (6, .box [.own 7 ((rs.take j).flatMap (lowF v)).length, .own 8 ((rs.take j).flatMap (highF v)).length, .own 9 ((rs.take j).flatMap (othF v)).length]), (7, .row 63 5 (((rs.take j).flatMap (lowF v)).map SideD.d)), (8, .row 63 5 (((rs.take j).flatMap (highF v)).map SideD.d)), (9, .row 45 4 (((rs.take j).flatMap (othF v)).map RelD.d)), (10, .box ([.d (.sl 3 (x1.t.parts.map Part.d))] ++ zi x1.t.k ++ [.d (.raw (.bool x1.eq))]))] (by kernel_rfl) h ?_; clear h; intro a w h
   obtain ⟨r2, er2, vr2, or2, lr2⟩ := mkZ (v := coefZ x1.t.parts v) (m := 9) (coef_len (TOk.mono gx1 (show 20 ≤ 1000 by decide) (Nat.le_refl 8)).psok v)
   refine rSeq fam0ok 11 [(3, .call (Fn.cast (STCoef x1.t v (TOk.mono (n' := 1000) (L' := 40000) gx1 (by decide) (by decide)).psok) (congrArg vz er2.symm)) tt_3)] [(1, vi .i64 v), (4, vp 5 0), (5, vp 6 0), (7, vp 10 0), (8, vp 11 0), (10, .t (.c (.d (.sl 4 (rs.map RelD.d))))), (11, vi .i64 (rs.length : Int)), (12, vi .i64 (j : Int))] [(5, .box [.d (.raw nilV), .d (.raw nilV), .d (.raw nilV)]), (6, .box [.own 7 ((rs.take j).flatMap (lowF v)).length, .own 8 ((rs.take j).flatMap (highF v)).length, .own 9 ((rs.take j).flatMap (othF v)).length]), (7, .row 63 5 (((rs.take j).flatMap (lowF v)).map SideD.d)), (8, .row 63 5 (((rs.take j).flatMap (highF v)).map SideD.d)), (9, .row 45 4 (((rs.take j).flatMap (othF v)).map RelD.d)), (10, .box ([.d (.sl 3 (x1.t.parts.map Part.d))] ++ zi x1.t.k ++ [.d (.raw (.bool x1.eq))])), (11, .box (zi r2))] (by kernel_rfl) h ?_; clear h; intro a w h
   obtain ⟨r3, er3, vr3, or3, lr3⟩ := mkZ (v := (r2.val.natAbs : Int)) (m := r2.abs.length) (len_abs or2)
   refine rSeq fam0ok 12 [(1, .call (Fn.cast (SAbs r2 or2 (by omega)) (congrArg vz er3.symm)) ha_4), (5, .call (SWithout x1.t v gx1 (by decide) (by decide)) ty_12)] [(1, vi .i64 v), (4, vp 5 0), (5, vp 6 0), (7, vp 10 0), (8, vp 11 0), (9, vp 12 0), (10, .t (.c (.d (.sl 4 (rs.map RelD.d))))), (11, vi .i64 (rs.length : Int)), (12, vi .i64 (j : Int))] [(5, .box [.d (.raw nilV), .d (.raw nilV), .d (.raw nilV)]), (6, .box [.own 7 ((rs.take j).flatMap (lowF v)).length, .own 8 ((rs.take j).flatMap (highF v)).length, .own 9 ((rs.take j).flatMap (othF v)).length]), (7, .row 63 5 (((rs.take j).flatMap (lowF v)).map SideD.d)), (8, .row 63 5 (((rs.take j).flatMap (highF v)).map SideD.d)), (9, .row 45 4 (((rs.take j).flatMap (othF v)).map RelD.d)), (10, .box ([.d (.sl 3 (x1.t.parts.map Part.d))] ++ zi x1.t.k ++ [.d (.raw (.bool x1.eq))])), (11, .box (zi r2)), (12, .box (zi r3 ++ [.d (.sl 3 ((woT x1.t v).parts.map Part.d))] ++ zi (woT x1.t v).k))] (by kernel_rfl) h ?_; clear h; intro a w h
   refine rSeq fam0ok 13 [(1, .call (SSign r2 or2 (by omega)) td_6)] [(1, vi .i64 v), (4, vp 5 0), (5, vp 6 0), (7, vp 10 0), (9, vp 12 0), (10, .t (.c (.d (.sl 4 (rs.map RelD.d))))), (11, vi .i64 (rs.length : Int)), (12, vi .i64 (j : Int)), (28, vi .i64 (sgn r2.val))] [(5, .box [.d (.raw nilV), .d (.raw nilV), .d (.raw nilV)]), (6, .box [.own 7 ((rs.take j).flatMap (lowF v)).length, .own 8 ((rs.take j).flatMap (highF v)).length, .own 9 ((rs.take j).flatMap (othF v)).length]), (7, .row 63 5 (((rs.take j).flatMap (lowF v)).map SideD.d)), (8, .row 63 5 (((rs.take j).flatMap (highF v)).map SideD.d)), (9, .row 45 4 (((rs.take j).flatMap (othF v)).map RelD.d)), (10, .box ([.d (.sl 3 (x1.t.parts.map Part.d))] ++ zi x1.t.k ++ [.d (.raw (.bool x1.eq))])), (12, .box (zi r3 ++ [.d (.sl 3 ((woT x1.t v).parts.map Part.d))] ++ zi (woT x1.t v).k))] (by kernel_rfl) h ?_; clear h; intro a w h
   refine wp_block ?_
   refine rSeq fam0ok 13 [] [(1, vi .i64 v), (4, vp 5 0), (5, vp 6 0), (7, vp 10 0), (9, vp 12 0), (10, .t (.c (.d (.sl 4 (rs.map RelD.d))))), (11, vi .i64 (rs.length : Int)), (12, vi .i64 (j : Int)), (28, vi .i64 (sgn r2.val)), (37, vb (sgn r2.val == 1))] [(5, .box [.d (.raw nilV), .d (.raw nilV), .d (.raw nilV)]), (6, .box [.own 7 ((rs.take j).flatMap (lowF v)).length, .own 8 ((rs.take j).flatMap (highF v)).length, .own 9 ((rs.take j).flatMap (othF v)).length]), (7, .row 63 5 (((rs.take j).flatMap (lowF v)).map SideD.d)), (8, .row 63 5 (((rs.take j).flatMap (highF v)).map SideD.d)), (9, .row 45 4 (((rs.take j).flatMap (othF v)).map RelD.d)), (10, .box ([.d (.sl 3 (x1.t.parts.map Part.d))] ++ zi x1.t.k ++ [.d (.raw (.bool x1.eq))])), (12, .box (zi r3 ++ [.d (.sl 3 ((woT x1.t v).parts.map Part.d))] ++ zi (woT x1.t v).k))] (by kernel_rfl) h ?_; clear h; intro a w h
   refine condS (sgn r2.val == 1) h rfl (fun hc => ?_) (fun hc => ?_)
   ·have hc2 := hc; clear hc
    have hc2' := hc2; (try simp at hc2')
    refine rS fam0ok 13 [(3, .gen _ _ _ fun _ _ _ _ => Op.buildD (d := 42) (len := 1) (rows := [(SideD.mk r3 (woT x1.t v))].map SideD.d) (rs := [(41, .t (.agg (zi r3 ++ [.d (.sl 3 ((woT x1.t v).parts.map Part.d))] ++ zi (woT x1.t v).k)))]) ha_7 (.cons (i := 0) (OV.tmp 41 _) (.nil)) (by kernel_rfl) rfl (by simp [SideD.d]) (by decide) (by decide)), (4, .gen _ _ _ fun _ _ _ _ => Op.appOD (d := 43) (t := 40) (u := 42) (n := 7) (n' := 13) (len := ((rs.take j).flatMap (lowF v)).length) (len' := (((rs.take j).flatMap (lowF v)) ++ [(SideD.mk r3 (woT x1.t v))]).length) (rows := ((rs.take j).flatMap (lowF v)).map SideD.d) (rows2 := [(SideD.mk r3 (woT x1.t v))].map SideD.d) (rows' := (((rs.take j).flatMap (lowF v)) ++ [(SideD.mk r3 (woT x1.t v))]).map SideD.d) ha_8 (by first | exact (List.length_map _).symm | simp) (by first | (rw [List.length_append, List.length_map]; done) | simp) (by simp) (by simp [SideD.d]) (by first | omega | (simp at *; done) | (simp at *; omega)))] [(1, vi .i64 v), (4, vp 5 0), (5, vp 6 0), (10, .t (.c (.d (.sl 4 (rs.map RelD.d))))), (11, vi .i64 (rs.length : Int)), (12, vi .i64 (j : Int))] [(5, .box [.d (.raw nilV), .d (.raw nilV), .d (.raw nilV)]), (6, .box ([.own 13 (((rs.take j).flatMap (lowF v)) ++ [(SideD.mk r3 (woT x1.t v))]).length, .own 8 ((rs.take j).flatMap (highF v)).length, .own 9 ((rs.take j).flatMap (othF v)).length])), (8, .row 63 5 (((rs.take j).flatMap (highF v)).map SideD.d)), (9, .row 45 4 (((rs.take j).flatMap (othF v)).map RelD.d)), (13, .row 63 5 ((((rs.take j).flatMap (lowF v)) ++ [(SideD.mk r3 (woT x1.t v))]).map SideD.d))] (by kernel_rfl) h ?_; clear h; intro a w h
    refine block_n ?_
    refine block_n ?_
    refine then_n ?_
    refine rS fam0ok 14 [(0, .add .i64 (m := (j : Int)) (n := 1) (i64_id (by omega) (by omega)))] [(1, vi .i64 v), (4, vp 5 0), (5, vp 6 0), (10, .t (.c (.d (.sl 4 (rs.map RelD.d))))), (11, vi .i64 (rs.length : Int)), (12, vi .i64 ((j : Int) + 1))] [(5, .box [.d (.raw nilV), .d (.raw nilV), .d (.raw nilV)]), (6, .box ([.own 13 (((rs.take j).flatMap (lowF v)) ++ [(SideD.mk r3 (woT x1.t v))]).length, .own 8 ((rs.take j).flatMap (highF v)).length, .own 9 ((rs.take j).flatMap (othF v)).length])), (8, .row 63 5 (((rs.take j).flatMap (highF v)).map SideD.d)), (9, .row 45 4 (((rs.take j).flatMap (othF v)).map RelD.d)), (13, .row 63 5 ((((rs.take j).flatMap (lowF v)) ++ [(SideD.mk r3 (woT x1.t v))]).map SideD.d))] (by kernel_rfl) h ?_; clear h; intro a w h
    refine then_n ?_
    have hcz := sgn1_t hc2
    rw [vr2] at hcz
    replace h := h.conv (f' := F.of [(1, vi .i64 v), (4, vp 5 0), (5, vp 6 0), (10, .t (.c (.d (.sl 4 (rs.map RelD.d))))), (11, vi .i64 (rs.length : Int)), (12, vi .i64 ((j : Int) + 1))] [(5, .box [.d (.raw nilV), .d (.raw nilV), .d (.raw nilV)]), (6, .box [.own 13 ((rs.take (j + 1)).flatMap (lowF v)).length, .own 8 ((rs.take j).flatMap (highF v)).length, .own 9 ((rs.take j).flatMap (othF v)).length]), (8, .row 63 5 (((rs.take j).flatMap (highF v)).map SideD.d)), (9, .row 45 4 (((rs.take j).flatMap (othF v)).map RelD.d)), (13, .row 63 5 (((rs.take (j + 1)).flatMap (lowF v)).map SideD.d))]) (congrArg (fun (z_ : List SideD) => F.of [(1, vi .i64 v), (4, vp 5 0), (5, vp 6 0), (10, .t (.c (.d (.sl 4 (rs.map RelD.d))))), (11, vi .i64 (rs.length : Int)), (12, vi .i64 ((j : Int) + 1))] [(5, .box [.d (.raw nilV), .d (.raw nilV), .d (.raw nilV)]), (6, .box [.own 13 z_.length, .own 8 ((rs.take j).flatMap (highF v)).length, .own 9 ((rs.take j).flatMap (othF v)).length]), (8, .row 63 5 (((rs.take j).flatMap (highF v)).map SideD.d)), (9, .row 45 4 (((rs.take j).flatMap (othF v)).map RelD.d)), (13, .row 63 5 (z_.map SideD.d))]) (show ((((rs.take j).flatMap (lowF v)) ++ [(SideD.mk r3 (woT x1.t v))]) : List SideD) = ((rs.take (j + 1)).flatMap (lowF v)) from (flat_snoc hx1 (by unfold lowF; rw [if_pos (by omega)]; unfold sideOf; rw [er3, vr2]))))
    replace h := h.conv (f' := F.of [(1, vi .i64 v), (4, vp 5 0), (5, vp 6 0), (10, .t (.c (.d (.sl 4 (rs.map RelD.d))))), (11, vi .i64 (rs.length : Int)), (12, vi .i64 ((j : Int) + 1))] [(5, .box [.d (.raw nilV), .d (.raw nilV), .d (.raw nilV)]), (6, .box [.own 13 ((rs.take (j + 1)).flatMap (lowF v)).length, .own 8 ((rs.take (j + 1)).flatMap (highF v)).length, .own 9 ((rs.take j).flatMap (othF v)).length]), (8, .row 63 5 (((rs.take (j + 1)).flatMap (highF v)).map SideD.d)), (9, .row 45 4 (((rs.take j).flatMap (othF v)).map RelD.d)), (13, .row 63 5 (((rs.take (j + 1)).flatMap (lowF v)).map SideD.d))]) (congrArg (fun (z_ : List SideD) => F.of [(1, vi .i64 v), (4, vp 5 0), (5, vp 6 0), (10, .t (.c (.d (.sl 4 (rs.map RelD.d))))), (11, vi .i64 (rs.length : Int)), (12, vi .i64 ((j : Int) + 1))] [(5, .box [.d (.raw nilV), .d (.raw nilV), .d (.raw nilV)]), (6, .box [.own 13 ((rs.take (j + 1)).flatMap (lowF v)).length, .own 8 z_.length, .own 9 ((rs.take j).flatMap (othF v)).length]), (8, .row 63 5 (z_.map SideD.d)), (9, .row 45 4 (((rs.take j).flatMap (othF v)).map RelD.d)), (13, .row 63 5 (((rs.take (j + 1)).flatMap (lowF v)).map SideD.d))]) (show (((rs.take j).flatMap (highF v)) : List SideD) = ((rs.take (j + 1)).flatMap (highF v)) from (flat_skip hx1 (by unfold highF; rw [if_neg (by omega)]))))
    replace h := h.conv (f' := F.of [(1, vi .i64 v), (4, vp 5 0), (5, vp 6 0), (10, .t (.c (.d (.sl 4 (rs.map RelD.d))))), (11, vi .i64 (rs.length : Int)), (12, vi .i64 ((j : Int) + 1))] [(5, .box [.d (.raw nilV), .d (.raw nilV), .d (.raw nilV)]), (6, .box [.own 13 ((rs.take (j + 1)).flatMap (lowF v)).length, .own 8 ((rs.take (j + 1)).flatMap (highF v)).length, .own 9 ((rs.take (j + 1)).flatMap (othF v)).length]), (8, .row 63 5 (((rs.take (j + 1)).flatMap (highF v)).map SideD.d)), (9, .row 45 4 (((rs.take (j + 1)).flatMap (othF v)).map RelD.d)), (13, .row 63 5 (((rs.take (j + 1)).flatMap (lowF v)).map SideD.d))]) (congrArg (fun (z_ : List RelD) => F.of [(1, vi .i64 v), (4, vp 5 0), (5, vp 6 0), (10, .t (.c (.d (.sl 4 (rs.map RelD.d))))), (11, vi .i64 (rs.length : Int)), (12, vi .i64 ((j : Int) + 1))] [(5, .box [.d (.raw nilV), .d (.raw nilV), .d (.raw nilV)]), (6, .box [.own 13 ((rs.take (j + 1)).flatMap (lowF v)).length, .own 8 ((rs.take (j + 1)).flatMap (highF v)).length, .own 9 z_.length]), (8, .row 63 5 (((rs.take (j + 1)).flatMap (highF v)).map SideD.d)), (9, .row 45 4 (z_.map RelD.d)), (13, .row 63 5 (((rs.take (j + 1)).flatMap (lowF v)).map SideD.d))]) (show (((rs.take j).flatMap (othF v)) : List RelD) = ((rs.take (j + 1)).flatMap (othF v)) from (flat_skip hx1 (by unfold othF; rw [if_neg (by omega)]))))
    replace h := renS 13 7 [(1, vi .i64 v), (4, vp 5 0), (5, vp 6 0), (10, .t (.c (.d (.sl 4 (rs.map RelD.d))))), (11, vi .i64 (rs.length : Int)), (12, vi .i64 ((j : Int) + 1))] [(5, .box [.d (.raw nilV), .d (.raw nilV), .d (.raw nilV)]), (6, .box [.own 7 ((rs.take (j + 1)).flatMap (lowF v)).length, .own 8 ((rs.take (j + 1)).flatMap (highF v)).length, .own 9 ((rs.take (j + 1)).flatMap (othF v)).length]), (8, .row 63 5 (((rs.take (j + 1)).flatMap (highF v)).map SideD.d)), (9, .row 45 4 (((rs.take (j + 1)).flatMap (othF v)).map RelD.d)), (7, .row 63 5 (((rs.take (j + 1)).flatMap (lowF v)).map SideD.d))] h (by kernel_rfl) (by kernel_rfl) (by kernel_rfl)
    refine roundS (x := j) (y := j + 1) h ?_ ?_ (by kernel_rfl) (by kernel_rfl)
    ·have := at_lt hx1
     show j + 1 ≤ rs.length
     omega
    ·show rs.length - (j + 1) < rs.length - j
     have := at_lt hx1; omega
   ·have hc3 := hc; clear hc
    have hc3' := hc3; (try simp at hc3')
    refine rSeq fam0ok 14 [] [(1, vi .i64 v), (4, vp 5 0), (5, vp 6 0), (7, vp 10 0), (9, vp 12 0), (10, .t (.c (.d (.sl 4 (rs.map RelD.d))))), (11, vi .i64 (rs.length : Int)), (12, vi .i64 (j : Int)), (45, vb (sgn r2.val == (-1)))] [(5, .box [.d (.raw nilV), .d (.raw nilV), .d (.raw nilV)]), (6, .box [.own 7 ((rs.take j).flatMap (lowF v)).length, .own 8 ((rs.take j).flatMap (highF v)).length, .own 9 ((rs.take j).flatMap (othF v)).length]), (7, .row 63 5 (((rs.take j).flatMap (lowF v)).map SideD.d)), (8, .row 63 5 (((rs.take j).flatMap (highF v)).map SideD.d)), (9, .row 45 4 (((rs.take j).flatMap (othF v)).map RelD.d)), (10, .box ([.d (.sl 3 (x1.t.parts.map Part.d))] ++ zi x1.t.k ++ [.d (.raw (.bool x1.eq))])), (12, .box (zi r3 ++ [.d (.sl 3 ((woT x1.t v).parts.map Part.d))] ++ zi (woT x1.t v).k))] (by kernel_rfl) h ?_; clear h; intro a w h
    refine condS (sgn r2.val == (-1)) h rfl (fun hc => ?_) (fun hc => ?_)
    ·have hc4 := hc; clear hc
     have hc4' := hc4; (try simp at hc4')
     refine rS fam0ok 14 [(3, .gen _ _ _ fun _ _ _ _ => Op.buildD (d := 50) (len := 1) (rows := [(SideD.mk r3 (woT x1.t v))].map SideD.d) (rs := [(49, .t (.agg (zi r3 ++ [.d (.sl 3 ((woT x1.t v).parts.map Part.d))] ++ zi (woT x1.t v).k)))]) ha_7 (.cons (i := 0) (OV.tmp 49 _) (.nil)) (by kernel_rfl) rfl (by simp [SideD.d]) (by decide) (by decide)), (4, .gen _ _ _ fun _ _ _ _ => Op.appOD (d := 51) (t := 48) (u := 50) (n := 8) (n' := 14) (len := ((rs.take j).flatMap (highF v)).length) (len' := (((rs.take j).flatMap (highF v)) ++ [(SideD.mk r3 (woT x1.t v))]).length) (rows := ((rs.take j).flatMap (highF v)).map SideD.d) (rows2 := [(SideD.mk r3 (woT x1.t v))].map SideD.d) (rows' := (((rs.take j).flatMap (highF v)) ++ [(SideD.mk r3 (woT x1.t v))]).map SideD.d) ha_8 (by first | exact (List.length_map _).symm | simp) (by first | (rw [List.length_append, List.length_map]; done) | simp) (by simp) (by simp [SideD.d]) (by first | omega | (simp at *; done) | (simp at *; omega)))] [(1, vi .i64 v), (4, vp 5 0), (5, vp 6 0), (10, .t (.c (.d (.sl 4 (rs.map RelD.d))))), (11, vi .i64 (rs.length : Int)), (12, vi .i64 (j : Int))] [(5, .box [.d (.raw nilV), .d (.raw nilV), .d (.raw nilV)]), (6, .box ([.own 7 ((rs.take j).flatMap (lowF v)).length, .own 14 (((rs.take j).flatMap (highF v)) ++ [(SideD.mk r3 (woT x1.t v))]).length, .own 9 ((rs.take j).flatMap (othF v)).length])), (7, .row 63 5 (((rs.take j).flatMap (lowF v)).map SideD.d)), (9, .row 45 4 (((rs.take j).flatMap (othF v)).map RelD.d)), (14, .row 63 5 ((((rs.take j).flatMap (highF v)) ++ [(SideD.mk r3 (woT x1.t v))]).map SideD.d))] (by kernel_rfl) h ?_; clear h; intro a w h
     refine block_n ?_
     refine block_n ?_
     refine then_n ?_
     refine rS fam0ok 15 [(0, .add .i64 (m := (j : Int)) (n := 1) (i64_id (by omega) (by omega)))] [(1, vi .i64 v), (4, vp 5 0), (5, vp 6 0), (10, .t (.c (.d (.sl 4 (rs.map RelD.d))))), (11, vi .i64 (rs.length : Int)), (12, vi .i64 ((j : Int) + 1))] [(5, .box [.d (.raw nilV), .d (.raw nilV), .d (.raw nilV)]), (6, .box ([.own 7 ((rs.take j).flatMap (lowF v)).length, .own 14 (((rs.take j).flatMap (highF v)) ++ [(SideD.mk r3 (woT x1.t v))]).length, .own 9 ((rs.take j).flatMap (othF v)).length])), (7, .row 63 5 (((rs.take j).flatMap (lowF v)).map SideD.d)), (9, .row 45 4 (((rs.take j).flatMap (othF v)).map RelD.d)), (14, .row 63 5 ((((rs.take j).flatMap (highF v)) ++ [(SideD.mk r3 (woT x1.t v))]).map SideD.d))] (by kernel_rfl) h ?_; clear h; intro a w h
     refine then_n ?_
     have hcz := sgn1_f hc3
     rw [vr2] at hcz
     have hcy := sgnm_t hc4
     rw [vr2] at hcy
     replace h := h.conv (f' := F.of [(1, vi .i64 v), (4, vp 5 0), (5, vp 6 0), (10, .t (.c (.d (.sl 4 (rs.map RelD.d))))), (11, vi .i64 (rs.length : Int)), (12, vi .i64 ((j : Int) + 1))] [(5, .box [.d (.raw nilV), .d (.raw nilV), .d (.raw nilV)]), (6, .box ([.own 7 ((rs.take (j + 1)).flatMap (lowF v)).length, .own 14 (((rs.take j).flatMap (highF v)) ++ [(SideD.mk r3 (woT x1.t v))]).length, .own 9 ((rs.take j).flatMap (othF v)).length])), (7, .row 63 5 (((rs.take (j + 1)).flatMap (lowF v)).map SideD.d)), (9, .row 45 4 (((rs.take j).flatMap (othF v)).map RelD.d)), (14, .row 63 5 ((((rs.take j).flatMap (highF v)) ++ [(SideD.mk r3 (woT x1.t v))]).map SideD.d))]) (congrArg (fun (z_ : List SideD) => F.of [(1, vi .i64 v), (4, vp 5 0), (5, vp 6 0), (10, .t (.c (.d (.sl 4 (rs.map RelD.d))))), (11, vi .i64 (rs.length : Int)), (12, vi .i64 ((j : Int) + 1))] [(5, .box [.d (.raw nilV), .d (.raw nilV), .d (.raw nilV)]), (6, .box ([.own 7 z_.length, .own 14 (((rs.take j).flatMap (highF v)) ++ [(SideD.mk r3 (woT x1.t v))]).length, .own 9 ((rs.take j).flatMap (othF v)).length])), (7, .row 63 5 (z_.map SideD.d)), (9, .row 45 4 (((rs.take j).flatMap (othF v)).map RelD.d)), (14, .row 63 5 ((((rs.take j).flatMap (highF v)) ++ [(SideD.mk r3 (woT x1.t v))]).map SideD.d))]) (show (((rs.take j).flatMap (lowF v)) : List SideD) = ((rs.take (j + 1)).flatMap (lowF v)) from (flat_skip hx1 (by unfold lowF; rw [if_neg (by omega)]))))
     replace h := h.conv (f' := F.of [(1, vi .i64 v), (4, vp 5 0), (5, vp 6 0), (10, .t (.c (.d (.sl 4 (rs.map RelD.d))))), (11, vi .i64 (rs.length : Int)), (12, vi .i64 ((j : Int) + 1))] [(5, .box [.d (.raw nilV), .d (.raw nilV), .d (.raw nilV)]), (6, .box [.own 7 ((rs.take (j + 1)).flatMap (lowF v)).length, .own 14 ((rs.take (j + 1)).flatMap (highF v)).length, .own 9 ((rs.take j).flatMap (othF v)).length]), (7, .row 63 5 (((rs.take (j + 1)).flatMap (lowF v)).map SideD.d)), (9, .row 45 4 (((rs.take j).flatMap (othF v)).map RelD.d)), (14, .row 63 5 (((rs.take (j + 1)).flatMap (highF v)).map SideD.d))]) (congrArg (fun (z_ : List SideD) => F.of [(1, vi .i64 v), (4, vp 5 0), (5, vp 6 0), (10, .t (.c (.d (.sl 4 (rs.map RelD.d))))), (11, vi .i64 (rs.length : Int)), (12, vi .i64 ((j : Int) + 1))] [(5, .box [.d (.raw nilV), .d (.raw nilV), .d (.raw nilV)]), (6, .box [.own 7 ((rs.take (j + 1)).flatMap (lowF v)).length, .own 14 z_.length, .own 9 ((rs.take j).flatMap (othF v)).length]), (7, .row 63 5 (((rs.take (j + 1)).flatMap (lowF v)).map SideD.d)), (9, .row 45 4 (((rs.take j).flatMap (othF v)).map RelD.d)), (14, .row 63 5 (z_.map SideD.d))]) (show ((((rs.take j).flatMap (highF v)) ++ [(SideD.mk r3 (woT x1.t v))]) : List SideD) = ((rs.take (j + 1)).flatMap (highF v)) from (flat_snoc hx1 (by unfold highF; rw [if_pos (by omega)]; unfold sideOf; rw [er3, vr2]))))
     replace h := h.conv (f' := F.of [(1, vi .i64 v), (4, vp 5 0), (5, vp 6 0), (10, .t (.c (.d (.sl 4 (rs.map RelD.d))))), (11, vi .i64 (rs.length : Int)), (12, vi .i64 ((j : Int) + 1))] [(5, .box [.d (.raw nilV), .d (.raw nilV), .d (.raw nilV)]), (6, .box [.own 7 ((rs.take (j + 1)).flatMap (lowF v)).length, .own 14 ((rs.take (j + 1)).flatMap (highF v)).length, .own 9 ((rs.take (j + 1)).flatMap (othF v)).length]), (7, .row 63 5 (((rs.take (j + 1)).flatMap (lowF v)).map SideD.d)), (9, .row 45 4 (((rs.take (j + 1)).flatMap (othF v)).map RelD.d)), (14, .row 63 5 (((rs.take (j + 1)).flatMap (highF v)).map SideD.d))]) (congrArg (fun (z_ : List RelD) => F.of [(1, vi .i64 v), (4, vp 5 0), (5, vp 6 0), (10, .t (.c (.d (.sl 4 (rs.map RelD.d))))), (11, vi .i64 (rs.length : Int)), (12, vi .i64 ((j : Int) + 1))] [(5, .box [.d (.raw nilV), .d (.raw nilV), .d (.raw nilV)]), (6, .box [.own 7 ((rs.take (j + 1)).flatMap (lowF v)).length, .own 14 ((rs.take (j + 1)).flatMap (highF v)).length, .own 9 z_.length]), (7, .row 63 5 (((rs.take (j + 1)).flatMap (lowF v)).map SideD.d)), (9, .row 45 4 (z_.map RelD.d)), (14, .row 63 5 (((rs.take (j + 1)).flatMap (highF v)).map SideD.d))]) (show (((rs.take j).flatMap (othF v)) : List RelD) = ((rs.take (j + 1)).flatMap (othF v)) from (flat_skip hx1 (by unfold othF; rw [if_neg (by omega)]))))
     replace h := renS 14 8 [(1, vi .i64 v), (4, vp 5 0), (5, vp 6 0), (10, .t (.c (.d (.sl 4 (rs.map RelD.d))))), (11, vi .i64 (rs.length : Int)), (12, vi .i64 ((j : Int) + 1))] [(5, .box [.d (.raw nilV), .d (.raw nilV), .d (.raw nilV)]), (6, .box [.own 7 ((rs.take (j + 1)).flatMap (lowF v)).length, .own 8 ((rs.take (j + 1)).flatMap (highF v)).length, .own 9 ((rs.take (j + 1)).flatMap (othF v)).length]), (7, .row 63 5 (((rs.take (j + 1)).flatMap (lowF v)).map SideD.d)), (9, .row 45 4 (((rs.take (j + 1)).flatMap (othF v)).map RelD.d)), (8, .row 63 5 (((rs.take (j + 1)).flatMap (highF v)).map SideD.d))] h (by kernel_rfl) (by kernel_rfl) (by kernel_rfl)
     refine roundS (x := j) (y := j + 1) h ?_ ?_ (by kernel_rfl) (by kernel_rfl)
     ·have := at_lt hx1
      show j + 1 ≤ rs.length
      omega
     ·show rs.length - (j + 1) < rs.length - j
      have := at_lt hx1; omega
    ·have hc5 := hc; clear hc
     have hc5' := hc5; (try simp at hc5')
     refine rS fam0ok 15 [(4, .call (SLeast x1.t (gx1.mono (by decide) (by decide))) ha_9), (5, .gen _ _ _ fun _ _ _ _ => Op.buildD (d := 34) (len := 1) (rows := [(lstR x1.t)].map RelD.d) (rs := [(33, .t (.agg ([.d (.sl 3 ((lstR x1.t).t.parts.map Part.d))] ++ zi (lstR x1.t).t.k ++ [.d (.raw (.bool (lstR x1.t).eq))])))]) kc_5 (.cons (i := 0) (OV.tmp 33 _) (.nil)) (by kernel_rfl) rfl (by simp [RelD.d]) (by decide) (by decide)), (6, .gen _ _ _ fun _ _ _ _ => Op.appOD (d := 35) (t := 30) (u := 34) (n := 9) (n' := 15) (len := ((rs.take j).flatMap (othF v)).length) (len' := (((rs.take j).flatMap (othF v)) ++ [(lstR x1.t)]).length) (rows := ((rs.take j).flatMap (othF v)).map RelD.d) (rows2 := [(lstR x1.t)].map RelD.d) (rows' := (((rs.take j).flatMap (othF v)) ++ [(lstR x1.t)]).map RelD.d) ha_11 (by first | exact (List.length_map _).symm | simp) (by first | (rw [List.length_append, List.length_map]; done) | simp) (by simp) (by simp [RelD.d]) (by first | omega | (simp at *; done) | (simp at *; omega)))] [(1, vi .i64 v), (4, vp 5 0), (5, vp 6 0), (10, .t (.c (.d (.sl 4 (rs.map RelD.d))))), (11, vi .i64 (rs.length : Int)), (12, vi .i64 (j : Int))] [(5, .box [.d (.raw nilV), .d (.raw nilV), .d (.raw nilV)]), (6, .box ([.own 7 ((rs.take j).flatMap (lowF v)).length, .own 8 ((rs.take j).flatMap (highF v)).length, .own 15 (((rs.take j).flatMap (othF v)) ++ [(lstR x1.t)]).length])), (7, .row 63 5 (((rs.take j).flatMap (lowF v)).map SideD.d)), (8, .row 63 5 (((rs.take j).flatMap (highF v)).map SideD.d)), (15, .row 45 4 ((((rs.take j).flatMap (othF v)) ++ [(lstR x1.t)]).map RelD.d))] (by kernel_rfl) h ?_; clear h; intro a w h
     refine block_n ?_
     refine block_n ?_
     refine then_n ?_
     refine rS fam0ok 16 [(0, .add .i64 (m := (j : Int)) (n := 1) (i64_id (by omega) (by omega)))] [(1, vi .i64 v), (4, vp 5 0), (5, vp 6 0), (10, .t (.c (.d (.sl 4 (rs.map RelD.d))))), (11, vi .i64 (rs.length : Int)), (12, vi .i64 ((j : Int) + 1))] [(5, .box [.d (.raw nilV), .d (.raw nilV), .d (.raw nilV)]), (6, .box ([.own 7 ((rs.take j).flatMap (lowF v)).length, .own 8 ((rs.take j).flatMap (highF v)).length, .own 15 (((rs.take j).flatMap (othF v)) ++ [(lstR x1.t)]).length])), (7, .row 63 5 (((rs.take j).flatMap (lowF v)).map SideD.d)), (8, .row 63 5 (((rs.take j).flatMap (highF v)).map SideD.d)), (15, .row 45 4 ((((rs.take j).flatMap (othF v)) ++ [(lstR x1.t)]).map RelD.d))] (by kernel_rfl) h ?_; clear h; intro a w h
     refine then_n ?_
     have hcz := sgn1_f hc3
     rw [vr2] at hcz
     have hcy := sgnm_f hc5
     rw [vr2] at hcy
     replace h := h.conv (f' := F.of [(1, vi .i64 v), (4, vp 5 0), (5, vp 6 0), (10, .t (.c (.d (.sl 4 (rs.map RelD.d))))), (11, vi .i64 (rs.length : Int)), (12, vi .i64 ((j : Int) + 1))] [(5, .box [.d (.raw nilV), .d (.raw nilV), .d (.raw nilV)]), (6, .box ([.own 7 ((rs.take (j + 1)).flatMap (lowF v)).length, .own 8 ((rs.take j).flatMap (highF v)).length, .own 15 (((rs.take j).flatMap (othF v)) ++ [(lstR x1.t)]).length])), (7, .row 63 5 (((rs.take (j + 1)).flatMap (lowF v)).map SideD.d)), (8, .row 63 5 (((rs.take j).flatMap (highF v)).map SideD.d)), (15, .row 45 4 ((((rs.take j).flatMap (othF v)) ++ [(lstR x1.t)]).map RelD.d))]) (congrArg (fun (z_ : List SideD) => F.of [(1, vi .i64 v), (4, vp 5 0), (5, vp 6 0), (10, .t (.c (.d (.sl 4 (rs.map RelD.d))))), (11, vi .i64 (rs.length : Int)), (12, vi .i64 ((j : Int) + 1))] [(5, .box [.d (.raw nilV), .d (.raw nilV), .d (.raw nilV)]), (6, .box ([.own 7 z_.length, .own 8 ((rs.take j).flatMap (highF v)).length, .own 15 (((rs.take j).flatMap (othF v)) ++ [(lstR x1.t)]).length])), (7, .row 63 5 (z_.map SideD.d)), (8, .row 63 5 (((rs.take j).flatMap (highF v)).map SideD.d)), (15, .row 45 4 ((((rs.take j).flatMap (othF v)) ++ [(lstR x1.t)]).map RelD.d))]) (show (((rs.take j).flatMap (lowF v)) : List SideD) = ((rs.take (j + 1)).flatMap (lowF v)) from (flat_skip hx1 (by unfold lowF; rw [if_neg (by omega)]))))
     replace h := h.conv (f' := F.of [(1, vi .i64 v), (4, vp 5 0), (5, vp 6 0), (10, .t (.c (.d (.sl 4 (rs.map RelD.d))))), (11, vi .i64 (rs.length : Int)), (12, vi .i64 ((j : Int) + 1))] [(5, .box [.d (.raw nilV), .d (.raw nilV), .d (.raw nilV)]), (6, .box ([.own 7 ((rs.take (j + 1)).flatMap (lowF v)).length, .own 8 ((rs.take (j + 1)).flatMap (highF v)).length, .own 15 (((rs.take j).flatMap (othF v)) ++ [(lstR x1.t)]).length])), (7, .row 63 5 (((rs.take (j + 1)).flatMap (lowF v)).map SideD.d)), (8, .row 63 5 (((rs.take (j + 1)).flatMap (highF v)).map SideD.d)), (15, .row 45 4 ((((rs.take j).flatMap (othF v)) ++ [(lstR x1.t)]).map RelD.d))]) (congrArg (fun (z_ : List SideD) => F.of [(1, vi .i64 v), (4, vp 5 0), (5, vp 6 0), (10, .t (.c (.d (.sl 4 (rs.map RelD.d))))), (11, vi .i64 (rs.length : Int)), (12, vi .i64 ((j : Int) + 1))] [(5, .box [.d (.raw nilV), .d (.raw nilV), .d (.raw nilV)]), (6, .box ([.own 7 ((rs.take (j + 1)).flatMap (lowF v)).length, .own 8 z_.length, .own 15 (((rs.take j).flatMap (othF v)) ++ [(lstR x1.t)]).length])), (7, .row 63 5 (((rs.take (j + 1)).flatMap (lowF v)).map SideD.d)), (8, .row 63 5 (z_.map SideD.d)), (15, .row 45 4 ((((rs.take j).flatMap (othF v)) ++ [(lstR x1.t)]).map RelD.d))]) (show (((rs.take j).flatMap (highF v)) : List SideD) = ((rs.take (j + 1)).flatMap (highF v)) from (flat_skip hx1 (by unfold highF; rw [if_neg (by omega)]))))
     replace h := h.conv (f' := F.of [(1, vi .i64 v), (4, vp 5 0), (5, vp 6 0), (10, .t (.c (.d (.sl 4 (rs.map RelD.d))))), (11, vi .i64 (rs.length : Int)), (12, vi .i64 ((j : Int) + 1))] [(5, .box [.d (.raw nilV), .d (.raw nilV), .d (.raw nilV)]), (6, .box [.own 7 ((rs.take (j + 1)).flatMap (lowF v)).length, .own 8 ((rs.take (j + 1)).flatMap (highF v)).length, .own 15 ((rs.take (j + 1)).flatMap (othF v)).length]), (7, .row 63 5 (((rs.take (j + 1)).flatMap (lowF v)).map SideD.d)), (8, .row 63 5 (((rs.take (j + 1)).flatMap (highF v)).map SideD.d)), (15, .row 45 4 (((rs.take (j + 1)).flatMap (othF v)).map RelD.d))]) (congrArg (fun (z_ : List RelD) => F.of [(1, vi .i64 v), (4, vp 5 0), (5, vp 6 0), (10, .t (.c (.d (.sl 4 (rs.map RelD.d))))), (11, vi .i64 (rs.length : Int)), (12, vi .i64 ((j : Int) + 1))] [(5, .box [.d (.raw nilV), .d (.raw nilV), .d (.raw nilV)]), (6, .box [.own 7 ((rs.take (j + 1)).flatMap (lowF v)).length, .own 8 ((rs.take (j + 1)).flatMap (highF v)).length, .own 15 z_.length]), (7, .row 63 5 (((rs.take (j + 1)).flatMap (lowF v)).map SideD.d)), (8, .row 63 5 (((rs.take (j + 1)).flatMap (highF v)).map SideD.d)), (15, .row 45 4 (z_.map RelD.d))]) (show ((((rs.take j).flatMap (othF v)) ++ [(lstR x1.t)]) : List RelD) = ((rs.take (j + 1)).flatMap (othF v)) from (flat_snoc hx1 (by unfold othF; rw [if_pos (by omega)]))))
     replace h := renS 15 9 [(1, vi .i64 v), (4, vp 5 0), (5, vp 6 0), (10, .t (.c (.d (.sl 4 (rs.map RelD.d))))), (11, vi .i64 (rs.length : Int)), (12, vi .i64 ((j : Int) + 1))] [(5, .box [.d (.raw nilV), .d (.raw nilV), .d (.raw nilV)]), (6, .box [.own 7 ((rs.take (j + 1)).flatMap (lowF v)).length, .own 8 ((rs.take (j + 1)).flatMap (highF v)).length, .own 9 ((rs.take (j + 1)).flatMap (othF v)).length]), (7, .row 63 5 (((rs.take (j + 1)).flatMap (lowF v)).map SideD.d)), (8, .row 63 5 (((rs.take (j + 1)).flatMap (highF v)).map SideD.d)), (9, .row 45 4 (((rs.take (j + 1)).flatMap (othF v)).map RelD.d))] h (by kernel_rfl) (by kernel_rfl) (by kernel_rfl)
     refine roundS (x := j) (y := j + 1) h ?_ ?_ (by kernel_rfl) (by kernel_rfl)
     ·have := at_lt hx1
      show j + 1 ≤ rs.length
      omega
     ·show rs.length - (j + 1) < rs.length - j
      have := at_lt hx1; omega
  ·have hc6 := hc; clear hc
   have hc6' := of_decide_eq_false hc6
   refine wp_exit ?_
   refine then_x ?_
   refine then_x ?_
   refine inBlock_exit ?_
   refine then_n ?_
   refine rSeq fam0ok 16 [] [(4, vp 5 0)] [(5, .box [.own 7 ((rs.take j).flatMap (lowF v)).length, .own 8 ((rs.take j).flatMap (highF v)).length, .own 9 ((rs.take j).flatMap (othF v)).length]), (7, .row 63 5 (((rs.take j).flatMap (lowF v)).map SideD.d)), (8, .row 63 5 (((rs.take j).flatMap (highF v)).map SideD.d)), (9, .row 45 4 (((rs.take j).flatMap (othF v)).map RelD.d))] (by kernel_rfl) h ?_; clear h; intro a w h
   refine wp_ret ?_
   replace h := h.conv (f' := F.of [(4, vp 5 0)] [(5, .box [.own 7 (lowsOf rs v).length, .own 8 ((rs.take j).flatMap (highF v)).length, .own 9 ((rs.take j).flatMap (othF v)).length]), (7, .row 63 5 ((lowsOf rs v).map SideD.d)), (8, .row 63 5 (((rs.take j).flatMap (highF v)).map SideD.d)), (9, .row 45 4 (((rs.take j).flatMap (othF v)).map RelD.d))]) (congrArg (fun (z_ : List SideD) => F.of [(4, vp 5 0)] [(5, .box [.own 7 z_.length, .own 8 ((rs.take j).flatMap (highF v)).length, .own 9 ((rs.take j).flatMap (othF v)).length]), (7, .row 63 5 (z_.map SideD.d)), (8, .row 63 5 (((rs.take j).flatMap (highF v)).map SideD.d)), (9, .row 45 4 (((rs.take j).flatMap (othF v)).map RelD.d))]) (show (((rs.take j).flatMap (lowF v)) : List SideD) = (lowsOf rs v) from (by unfold lowsOf; rw [List.take_of_length_le (by omega)])))
   replace h := h.conv (f' := F.of [(4, vp 5 0)] [(5, .box [.own 7 (lowsOf rs v).length, .own 8 (highsOf rs v).length, .own 9 ((rs.take j).flatMap (othF v)).length]), (7, .row 63 5 ((lowsOf rs v).map SideD.d)), (8, .row 63 5 ((highsOf rs v).map SideD.d)), (9, .row 45 4 (((rs.take j).flatMap (othF v)).map RelD.d))]) (congrArg (fun (z_ : List SideD) => F.of [(4, vp 5 0)] [(5, .box [.own 7 (lowsOf rs v).length, .own 8 z_.length, .own 9 ((rs.take j).flatMap (othF v)).length]), (7, .row 63 5 ((lowsOf rs v).map SideD.d)), (8, .row 63 5 (z_.map SideD.d)), (9, .row 45 4 (((rs.take j).flatMap (othF v)).map RelD.d))]) (show (((rs.take j).flatMap (highF v)) : List SideD) = (highsOf rs v) from (by unfold highsOf; rw [List.take_of_length_le (by omega)])))
   replace h := h.conv (f' := F.of [(4, vp 5 0)] [(5, .box [.own 7 (lowsOf rs v).length, .own 8 (highsOf rs v).length, .own 9 (othersOf rs v).length]), (7, .row 63 5 ((lowsOf rs v).map SideD.d)), (8, .row 63 5 ((highsOf rs v).map SideD.d)), (9, .row 45 4 ((othersOf rs v).map RelD.d))]) (congrArg (fun (z_ : List RelD) => F.of [(4, vp 5 0)] [(5, .box [.own 7 (lowsOf rs v).length, .own 8 (highsOf rs v).length, .own 9 z_.length]), (7, .row 63 5 ((lowsOf rs v).map SideD.d)), (8, .row 63 5 ((highsOf rs v).map SideD.d)), (9, .row 45 4 (z_.map RelD.d))]) (show (((rs.take j).flatMap (othF v)) : List RelD) = (othersOf rs v) from (by unfold othersOf; rw [List.take_of_length_le (by omega)])))
   replace h := pubS 7 5 63 ((lowsOf rs v).map SideD.d) [(4, vp 5 0)] [(5, .box [.d (.sl 5 ((lowsOf rs v).map SideD.d)), .own 8 (highsOf rs v).length, .own 9 (othersOf rs v).length]), (8, .row 63 5 ((highsOf rs v).map SideD.d)), (9, .row 45 4 ((othersOf rs v).map RelD.d))] h rfl trivial (show AllEq _ [(lowsOf rs v).length] from ⟨by first | exact (List.length_map _).symm | (simp; done) | (simp; omega), trivial⟩) (by kernel_rfl) (by kernel_rfl)
   replace h := pubS 8 5 63 ((highsOf rs v).map SideD.d) [(4, vp 5 0)] [(5, .box [.d (.sl 5 ((lowsOf rs v).map SideD.d)), .d (.sl 5 ((highsOf rs v).map SideD.d)), .own 9 (othersOf rs v).length]), (9, .row 45 4 ((othersOf rs v).map RelD.d))] h rfl trivial (show AllEq _ [(highsOf rs v).length] from ⟨by first | exact (List.length_map _).symm | (simp; done) | (simp; omega), trivial⟩) (by kernel_rfl) (by kernel_rfl)
   replace h := pubS 9 4 45 ((othersOf rs v).map RelD.d) [(4, vp 5 0)] [(5, .box [.d (.sl 5 ((lowsOf rs v).map SideD.d)), .d (.sl 5 ((highsOf rs v).map SideD.d)), .d (.sl 4 ((othersOf rs v).map RelD.d))])] h rfl trivial (show AllEq _ [(othersOf rs v).length] from ⟨by first | exact (List.length_map _).symm | (simp; done) | (simp; omega), trivial⟩) (by kernel_rfl) (by kernel_rfl)
   refine retS [.agg [.d (.sl 5 ((lowsOf rs v).map SideD.d)), .d (.sl 5 ((highsOf rs v).map SideD.d)), .d (.sl 4 ((othersOf rs v).map RelD.d))]] h Exit.ret (.inl rfl)  rfl ⟨RV.agg _ 5 0 _ _ _ _ ha_12 rfl rfl rfl rfl, trivial⟩ ?_ (by kernel_rfl) (by kernel_rfl)
   rfl
set_option maxHeartbeats 4000000 in
theorem SsplitO (rs : List RelD) (v : Int) (hrs : RsOk rs) : Fn Tryz.prog 30 [] [.t (.c (.d (.sl 4 (rs.map RelD.d)))), vi .i64 v] (.t (.agg [.d (.sl 5 ((lowsOf rs v).map SideD.d)), .d (.sl 5 ((highsOf rs v).map SideD.d)), .own 0 (othersOf rs v).length])) [(0, .row 45 4 ((othersOf rs v).map RelD.d))] := by
 have lrs := hrs.1
 refine Fn.body Tryz.func30 rfl 55 rfl fun w H B a h => ?_
 refine rSeq fam0ok 5 [] [(0, .t (.c (.d (.sl 4 (rs.map RelD.d))))), (1, vi .i64 v), (4, vp 5 0)] [(5, .box [.d (.raw nilV), .d (.raw nilV), .d (.raw nilV)])] (by kernel_rfl) h ?_; clear h; intro a w h
 refine rSeq fam0ok 6 [] [(0, .t (.c (.d (.sl 4 (rs.map RelD.d))))), (1, vi .i64 v), (4, vp 5 0), (5, vp 6 0)] [(5, .box [.d (.raw nilV), .d (.raw nilV), .d (.raw nilV)]), (6, .box [.d (.raw nilV), .d (.raw nilV), .d (.raw nilV)])] (by kernel_rfl) h ?_; clear h; intro a w h
 refine wp_seq ?_
 replace h := nilOLs 6 0 7 5 63 [.d (.raw nilV), .d (.raw nilV), .d (.raw nilV)] [(0, .t (.c (.d (.sl 4 (rs.map RelD.d))))), (1, vi .i64 v), (4, vp 5 0), (5, vp 6 0)] [(5, .box [.d (.raw nilV), .d (.raw nilV), .d (.raw nilV)]), (6, .box [.own 7 0, .d (.raw nilV), .d (.raw nilV)]), (7, .row 63 5 ([].map SideD.d))] h (by kernel_rfl) rfl rfl (by kernel_rfl) (by kernel_rfl)
 replace h := nilOLs 6 1 8 5 63 [.own 7 0, .d (.raw nilV), .d (.raw nilV)] [(0, .t (.c (.d (.sl 4 (rs.map RelD.d))))), (1, vi .i64 v), (4, vp 5 0), (5, vp 6 0)] [(5, .box [.d (.raw nilV), .d (.raw nilV), .d (.raw nilV)]), (6, .box [.own 7 0, .own 8 0, .d (.raw nilV)]), (7, .row 63 5 ([].map SideD.d)), (8, .row 63 5 ([].map SideD.d))] h (by kernel_rfl) rfl rfl (by kernel_rfl) (by kernel_rfl)
 replace h := nilOLs 6 2 9 4 45 [.own 7 0, .own 8 0, .d (.raw nilV)] [(0, .t (.c (.d (.sl 4 (rs.map RelD.d))))), (1, vi .i64 v), (4, vp 5 0), (5, vp 6 0)] [(5, .box [.d (.raw nilV), .d (.raw nilV), .d (.raw nilV)]), (6, .box [.own 7 0, .own 8 0, .own 9 0]), (7, .row 63 5 ([].map SideD.d)), (8, .row 63 5 ([].map SideD.d)), (9, .row 45 4 ([].map RelD.d))] h (by kernel_rfl) rfl rfl (by kernel_rfl) (by kernel_rfl)
 refine rSeq fam0ok 10 [(1, .len (c := (.d (.sl 4 (rs.map RelD.d)))) (n := rs.length) (lenC_map _ _ _))] [(1, vi .i64 v), (4, vp 5 0), (5, vp 6 0), (10, .t (.c (.d (.sl 4 (rs.map RelD.d))))), (11, vi .i64 (rs.length : Int)), (12, vi .i64 0)] [(5, .box [.d (.raw nilV), .d (.raw nilV), .d (.raw nilV)]), (6, .box [.own 7 0, .own 8 0, .own 9 0]), (7, .row 63 5 ([].map SideD.d)), (8, .row 63 5 ([].map SideD.d)), (9, .row 45 4 ([].map RelD.d))] (by kernel_rfl) h ?_; clear h; intro a w h
 refine wp_block ?_
 refine loopS (ι := (Nat)) (fun (z_ : (Nat)) => match z_ with | j => j ≤ rs.length)
   (fun (z_ : (Nat)) => match z_ with | j => [(1, vi .i64 v), (4, vp 5 0), (5, vp 6 0), (10, .t (.c (.d (.sl 4 (rs.map RelD.d))))), (11, vi .i64 (rs.length : Int)), (12, vi .i64 (j : Int))])
   (fun (z_ : (Nat)) => match z_ with | j => [(5, .box [.d (.raw nilV), .d (.raw nilV), .d (.raw nilV)]), (6, .box [.own 7 ((rs.take j).flatMap (lowF v)).length, .own 8 ((rs.take j).flatMap (highF v)).length, .own 9 ((rs.take j).flatMap (othF v)).length]), (7, .row 63 5 (((rs.take j).flatMap (lowF v)).map SideD.d)), (8, .row 63 5 (((rs.take j).flatMap (highF v)).map SideD.d)), (9, .row 45 4 (((rs.take j).flatMap (othF v)).map RelD.d))])
   (fun (z_ : (Nat)) => match z_ with | j => rs.length - j) 0 ?_ h (by kernel_rfl) (by kernel_rfl) ?_
 ·exact Nat.zero_le _
 ·clear h; rintro j a w hI h
  change St _ (F.of [(1, vi .i64 v), (4, vp 5 0), (5, vp 6 0), (10, .t (.c (.d (.sl 4 (rs.map RelD.d))))), (11, vi .i64 (rs.length : Int)), (12, vi .i64 (j : Int))] [(5, .box [.d (.raw nilV), .d (.raw nilV), .d (.raw nilV)]), (6, .box [.own 7 ((rs.take j).flatMap (lowF v)).length, .own 8 ((rs.take j).flatMap (highF v)).length, .own 9 ((rs.take j).flatMap (othF v)).length]), (7, .row 63 5 (((rs.take j).flatMap (lowF v)).map SideD.d)), (8, .row 63 5 (((rs.take j).flatMap (highF v)).map SideD.d)), (9, .row 45 4 (((rs.take j).flatMap (othF v)).map RelD.d))]) a w at h
  have fl1 := flat_le (low_le v) (rs.take j)
  have fl2 := flat_le (high_le v) (rs.take j)
  have fl3 := flat_le (oth_le v) (rs.take j)
  rw [List.length_take] at fl1 fl2 fl3
  refine rSeq fam0ok 10 [] [(1, vi .i64 v), (4, vp 5 0), (5, vp 6 0), (10, .t (.c (.d (.sl 4 (rs.map RelD.d))))), (11, vi .i64 (rs.length : Int)), (12, vi .i64 (j : Int)), (13, vb (decide ((j : Int) < (rs.length : Int))))] [(5, .box [.d (.raw nilV), .d (.raw nilV), .d (.raw nilV)]), (6, .box [.own 7 ((rs.take j).flatMap (lowF v)).length, .own 8 ((rs.take j).flatMap (highF v)).length, .own 9 ((rs.take j).flatMap (othF v)).length]), (7, .row 63 5 (((rs.take j).flatMap (lowF v)).map SideD.d)), (8, .row 63 5 (((rs.take j).flatMap (highF v)).map SideD.d)), (9, .row 45 4 (((rs.take j).flatMap (othF v)).map RelD.d))] (by kernel_rfl) h ?_; clear h; intro a w h
  refine wp_seq ?_
  refine condS (decide ((j : Int) < (rs.length : Int))) h rfl (fun hc => ?_) (fun hc => ?_)
  ·have hc1 := hc; clear hc
   have hc1' := of_decide_eq_true hc1
   refine wp_skip ?_
   refine then_n ?_
   refine wp_seq ?_
   refine wp_block ?_
   obtain ⟨x1, hx1⟩ : ∃ z_ : RelD, rs[j]? = some z_ := ⟨_, List.getElem?_eq_getElem (by first | omega | (simp at *; omega))⟩
   have gx1 : TOk 20 8 x1.t := hrs.2 x1 (List.mem_of_getElem? hx1)
   refine rSeq fam0ok 10 [(0, .gen _ _ _ fun _ _ _ _ => Op.idxD (d := 14) (t := 10) (k := .i64) kc_3 (map_at hx1 (f := RelD.d)) (OV.tmp 12 _))] [(1, vi .i64 v), (4, vp 5 0), (5, vp 6 0), (7, vp 10 0), (10, .t (.c (.d (.sl 4 (rs.map RelD.d))))), (11, vi .i64 (rs.length : Int)), (12, vi .i64 (j : Int))] [(5, .box [.d (.raw nilV), .d (.raw nilV), .d (.raw nilV)]), (6, .box [.own 7 ((rs.take j).flatMap (lowF v)).length, .own 8 ((rs.take j).flatMap (highF v)).length, .own 9 ((rs.take j).flatMap (othF v)).length]), (7, .row 63 5 (((rs.take j).flatMap (lowF v)).map SideD.d)), (8, .row 63 5 (((rs.take j).flatMap (highF v)).map SideD.d)), (9, .row 45 4 (((rs.take j).flatMap (othF v)).map RelD.d)), (10, .box ([.d (.sl 3 (x1.t.parts.map Part.d))] ++ zi x1.t.k ++ [.d (.raw (.bool x1.eq))]))] (by kernel_rfl) h ?_; clear h; intro a w h
   obtain ⟨r2, er2, vr2, or2, lr2⟩ := mkZ (v := coefZ x1.t.parts v) (m := 9) (coef_len (TOk.mono gx1 (show 20 ≤ 1000 by decide) (Nat.le_refl 8)).psok v)
   refine rSeq fam0ok 11 [(3, .call (Fn.cast (STCoef x1.t v (TOk.mono (n' := 1000) (L' := 40000) gx1 (by decide) (by decide)).psok) (congrArg vz er2.symm)) tt_3)] [(1, vi .i64 v), (4, vp 5 0), (5, vp 6 0), (7, vp 10 0), (8, vp 11 0), (10, .t (.c (.d (.sl 4 (rs.map RelD.d))))), (11, vi .i64 (rs.length : Int)), (12, vi .i64 (j : Int))] [(5, .box [.d (.raw nilV), .d (.raw nilV), .d (.raw nilV)]), (6, .box [.own 7 ((rs.take j).flatMap (lowF v)).length, .own 8 ((rs.take j).flatMap (highF v)).length, .own 9 ((rs.take j).flatMap (othF v)).length]), (7, .row 63 5 (((rs.take j).flatMap (lowF v)).map SideD.d)), (8, .row 63 5 (((rs.take j).flatMap (highF v)).map SideD.d)), (9, .row 45 4 (((rs.take j).flatMap (othF v)).map RelD.d)), (10, .box ([.d (.sl 3 (x1.t.parts.map Part.d))] ++ zi x1.t.k ++ [.d (.raw (.bool x1.eq))])), (11, .box (zi r2))] (by kernel_rfl) h ?_; clear h; intro a w h
   obtain ⟨r3, er3, vr3, or3, lr3⟩ := mkZ (v := (r2.val.natAbs : Int)) (m := r2.abs.length) (len_abs or2)
   refine rSeq fam0ok 12 [(1, .call (Fn.cast (SAbs r2 or2 (by omega)) (congrArg vz er3.symm)) ha_4), (5, .call (SWithout x1.t v gx1 (by decide) (by decide)) ty_12)] [(1, vi .i64 v), (4, vp 5 0), (5, vp 6 0), (7, vp 10 0), (8, vp 11 0), (9, vp 12 0), (10, .t (.c (.d (.sl 4 (rs.map RelD.d))))), (11, vi .i64 (rs.length : Int)), (12, vi .i64 (j : Int))] [(5, .box [.d (.raw nilV), .d (.raw nilV), .d (.raw nilV)]), (6, .box [.own 7 ((rs.take j).flatMap (lowF v)).length, .own 8 ((rs.take j).flatMap (highF v)).length, .own 9 ((rs.take j).flatMap (othF v)).length]), (7, .row 63 5 (((rs.take j).flatMap (lowF v)).map SideD.d)), (8, .row 63 5 (((rs.take j).flatMap (highF v)).map SideD.d)), (9, .row 45 4 (((rs.take j).flatMap (othF v)).map RelD.d)), (10, .box ([.d (.sl 3 (x1.t.parts.map Part.d))] ++ zi x1.t.k ++ [.d (.raw (.bool x1.eq))])), (11, .box (zi r2)), (12, .box (zi r3 ++ [.d (.sl 3 ((woT x1.t v).parts.map Part.d))] ++ zi (woT x1.t v).k))] (by kernel_rfl) h ?_; clear h; intro a w h
   refine rSeq fam0ok 13 [(1, .call (SSign r2 or2 (by omega)) td_6)] [(1, vi .i64 v), (4, vp 5 0), (5, vp 6 0), (7, vp 10 0), (9, vp 12 0), (10, .t (.c (.d (.sl 4 (rs.map RelD.d))))), (11, vi .i64 (rs.length : Int)), (12, vi .i64 (j : Int)), (28, vi .i64 (sgn r2.val))] [(5, .box [.d (.raw nilV), .d (.raw nilV), .d (.raw nilV)]), (6, .box [.own 7 ((rs.take j).flatMap (lowF v)).length, .own 8 ((rs.take j).flatMap (highF v)).length, .own 9 ((rs.take j).flatMap (othF v)).length]), (7, .row 63 5 (((rs.take j).flatMap (lowF v)).map SideD.d)), (8, .row 63 5 (((rs.take j).flatMap (highF v)).map SideD.d)), (9, .row 45 4 (((rs.take j).flatMap (othF v)).map RelD.d)), (10, .box ([.d (.sl 3 (x1.t.parts.map Part.d))] ++ zi x1.t.k ++ [.d (.raw (.bool x1.eq))])), (12, .box (zi r3 ++ [.d (.sl 3 ((woT x1.t v).parts.map Part.d))] ++ zi (woT x1.t v).k))] (by kernel_rfl) h ?_; clear h; intro a w h
   refine wp_block ?_
   refine rSeq fam0ok 13 [] [(1, vi .i64 v), (4, vp 5 0), (5, vp 6 0), (7, vp 10 0), (9, vp 12 0), (10, .t (.c (.d (.sl 4 (rs.map RelD.d))))), (11, vi .i64 (rs.length : Int)), (12, vi .i64 (j : Int)), (28, vi .i64 (sgn r2.val)), (37, vb (sgn r2.val == 1))] [(5, .box [.d (.raw nilV), .d (.raw nilV), .d (.raw nilV)]), (6, .box [.own 7 ((rs.take j).flatMap (lowF v)).length, .own 8 ((rs.take j).flatMap (highF v)).length, .own 9 ((rs.take j).flatMap (othF v)).length]), (7, .row 63 5 (((rs.take j).flatMap (lowF v)).map SideD.d)), (8, .row 63 5 (((rs.take j).flatMap (highF v)).map SideD.d)), (9, .row 45 4 (((rs.take j).flatMap (othF v)).map RelD.d)), (10, .box ([.d (.sl 3 (x1.t.parts.map Part.d))] ++ zi x1.t.k ++ [.d (.raw (.bool x1.eq))])), (12, .box (zi r3 ++ [.d (.sl 3 ((woT x1.t v).parts.map Part.d))] ++ zi (woT x1.t v).k))] (by kernel_rfl) h ?_; clear h; intro a w h
   refine condS (sgn r2.val == 1) h rfl (fun hc => ?_) (fun hc => ?_)
   ·have hc2 := hc; clear hc
    have hc2' := hc2; (try simp at hc2')
    refine rS fam0ok 13 [(3, .gen _ _ _ fun _ _ _ _ => Op.buildD (d := 42) (len := 1) (rows := [(SideD.mk r3 (woT x1.t v))].map SideD.d) (rs := [(41, .t (.agg (zi r3 ++ [.d (.sl 3 ((woT x1.t v).parts.map Part.d))] ++ zi (woT x1.t v).k)))]) ha_7 (.cons (i := 0) (OV.tmp 41 _) (.nil)) (by kernel_rfl) rfl (by simp [SideD.d]) (by decide) (by decide)), (4, .gen _ _ _ fun _ _ _ _ => Op.appOD (d := 43) (t := 40) (u := 42) (n := 7) (n' := 13) (len := ((rs.take j).flatMap (lowF v)).length) (len' := (((rs.take j).flatMap (lowF v)) ++ [(SideD.mk r3 (woT x1.t v))]).length) (rows := ((rs.take j).flatMap (lowF v)).map SideD.d) (rows2 := [(SideD.mk r3 (woT x1.t v))].map SideD.d) (rows' := (((rs.take j).flatMap (lowF v)) ++ [(SideD.mk r3 (woT x1.t v))]).map SideD.d) ha_8 (by first | exact (List.length_map _).symm | simp) (by first | (rw [List.length_append, List.length_map]; done) | simp) (by simp) (by simp [SideD.d]) (by first | omega | (simp at *; done) | (simp at *; omega)))] [(1, vi .i64 v), (4, vp 5 0), (5, vp 6 0), (10, .t (.c (.d (.sl 4 (rs.map RelD.d))))), (11, vi .i64 (rs.length : Int)), (12, vi .i64 (j : Int))] [(5, .box [.d (.raw nilV), .d (.raw nilV), .d (.raw nilV)]), (6, .box ([.own 13 (((rs.take j).flatMap (lowF v)) ++ [(SideD.mk r3 (woT x1.t v))]).length, .own 8 ((rs.take j).flatMap (highF v)).length, .own 9 ((rs.take j).flatMap (othF v)).length])), (8, .row 63 5 (((rs.take j).flatMap (highF v)).map SideD.d)), (9, .row 45 4 (((rs.take j).flatMap (othF v)).map RelD.d)), (13, .row 63 5 ((((rs.take j).flatMap (lowF v)) ++ [(SideD.mk r3 (woT x1.t v))]).map SideD.d))] (by kernel_rfl) h ?_; clear h; intro a w h
    refine block_n ?_
    refine block_n ?_
    refine then_n ?_
    refine rS fam0ok 14 [(0, .add .i64 (m := (j : Int)) (n := 1) (i64_id (by omega) (by omega)))] [(1, vi .i64 v), (4, vp 5 0), (5, vp 6 0), (10, .t (.c (.d (.sl 4 (rs.map RelD.d))))), (11, vi .i64 (rs.length : Int)), (12, vi .i64 ((j : Int) + 1))] [(5, .box [.d (.raw nilV), .d (.raw nilV), .d (.raw nilV)]), (6, .box ([.own 13 (((rs.take j).flatMap (lowF v)) ++ [(SideD.mk r3 (woT x1.t v))]).length, .own 8 ((rs.take j).flatMap (highF v)).length, .own 9 ((rs.take j).flatMap (othF v)).length])), (8, .row 63 5 (((rs.take j).flatMap (highF v)).map SideD.d)), (9, .row 45 4 (((rs.take j).flatMap (othF v)).map RelD.d)), (13, .row 63 5 ((((rs.take j).flatMap (lowF v)) ++ [(SideD.mk r3 (woT x1.t v))]).map SideD.d))] (by kernel_rfl) h ?_; clear h; intro a w h
    refine then_n ?_
    have hcz := sgn1_t hc2
    rw [vr2] at hcz
    replace h := h.conv (f' := F.of [(1, vi .i64 v), (4, vp 5 0), (5, vp 6 0), (10, .t (.c (.d (.sl 4 (rs.map RelD.d))))), (11, vi .i64 (rs.length : Int)), (12, vi .i64 ((j : Int) + 1))] [(5, .box [.d (.raw nilV), .d (.raw nilV), .d (.raw nilV)]), (6, .box [.own 13 ((rs.take (j + 1)).flatMap (lowF v)).length, .own 8 ((rs.take j).flatMap (highF v)).length, .own 9 ((rs.take j).flatMap (othF v)).length]), (8, .row 63 5 (((rs.take j).flatMap (highF v)).map SideD.d)), (9, .row 45 4 (((rs.take j).flatMap (othF v)).map RelD.d)), (13, .row 63 5 (((rs.take (j + 1)).flatMap (lowF v)).map SideD.d))]) (congrArg (fun (z_ : List SideD) => F.of [(1, vi .i64 v), (4, vp 5 0), (5, vp 6 0), (10, .t (.c (.d (.sl 4 (rs.map RelD.d))))), (11, vi .i64 (rs.length : Int)), (12, vi .i64 ((j : Int) + 1))] [(5, .box [.d (.raw nilV), .d (.raw nilV), .d (.raw nilV)]), (6, .box [.own 13 z_.length, .own 8 ((rs.take j).flatMap (highF v)).length, .own 9 ((rs.take j).flatMap (othF v)).length]), (8, .row 63 5 (((rs.take j).flatMap (highF v)).map SideD.d)), (9, .row 45 4 (((rs.take j).flatMap (othF v)).map RelD.d)), (13, .row 63 5 (z_.map SideD.d))]) (show ((((rs.take j).flatMap (lowF v)) ++ [(SideD.mk r3 (woT x1.t v))]) : List SideD) = ((rs.take (j + 1)).flatMap (lowF v)) from (flat_snoc hx1 (by unfold lowF; rw [if_pos (by omega)]; unfold sideOf; rw [er3, vr2]))))
    replace h := h.conv (f' := F.of [(1, vi .i64 v), (4, vp 5 0), (5, vp 6 0), (10, .t (.c (.d (.sl 4 (rs.map RelD.d))))), (11, vi .i64 (rs.length : Int)), (12, vi .i64 ((j : Int) + 1))] [(5, .box [.d (.raw nilV), .d (.raw nilV), .d (.raw nilV)]), (6, .box [.own 13 ((rs.take (j + 1)).flatMap (lowF v)).length, .own 8 ((rs.take (j + 1)).flatMap (highF v)).length, .own 9 ((rs.take j).flatMap (othF v)).length]), (8, .row 63 5 (((rs.take (j + 1)).flatMap (highF v)).map SideD.d)), (9, .row 45 4 (((rs.take j).flatMap (othF v)).map RelD.d)), (13, .row 63 5 (((rs.take (j + 1)).flatMap (lowF v)).map SideD.d))]) (congrArg (fun (z_ : List SideD) => F.of [(1, vi .i64 v), (4, vp 5 0), (5, vp 6 0), (10, .t (.c (.d (.sl 4 (rs.map RelD.d))))), (11, vi .i64 (rs.length : Int)), (12, vi .i64 ((j : Int) + 1))] [(5, .box [.d (.raw nilV), .d (.raw nilV), .d (.raw nilV)]), (6, .box [.own 13 ((rs.take (j + 1)).flatMap (lowF v)).length, .own 8 z_.length, .own 9 ((rs.take j).flatMap (othF v)).length]), (8, .row 63 5 (z_.map SideD.d)), (9, .row 45 4 (((rs.take j).flatMap (othF v)).map RelD.d)), (13, .row 63 5 (((rs.take (j + 1)).flatMap (lowF v)).map SideD.d))]) (show (((rs.take j).flatMap (highF v)) : List SideD) = ((rs.take (j + 1)).flatMap (highF v)) from (flat_skip hx1 (by unfold highF; rw [if_neg (by omega)]))))
    replace h := h.conv (f' := F.of [(1, vi .i64 v), (4, vp 5 0), (5, vp 6 0), (10, .t (.c (.d (.sl 4 (rs.map RelD.d))))), (11, vi .i64 (rs.length : Int)), (12, vi .i64 ((j : Int) + 1))] [(5, .box [.d (.raw nilV), .d (.raw nilV), .d (.raw nilV)]), (6, .box [.own 13 ((rs.take (j + 1)).flatMap (lowF v)).length, .own 8 ((rs.take (j + 1)).flatMap (highF v)).length, .own 9 ((rs.take (j + 1)).flatMap (othF v)).length]), (8, .row 63 5 (((rs.take (j + 1)).flatMap (highF v)).map SideD.d)), (9, .row 45 4 (((rs.take (j + 1)).flatMap (othF v)).map RelD.d)), (13, .row 63 5 (((rs.take (j + 1)).flatMap (lowF v)).map SideD.d))]) (congrArg (fun (z_ : List RelD) => F.of [(1, vi .i64 v), (4, vp 5 0), (5, vp 6 0), (10, .t (.c (.d (.sl 4 (rs.map RelD.d))))), (11, vi .i64 (rs.length : Int)), (12, vi .i64 ((j : Int) + 1))] [(5, .box [.d (.raw nilV), .d (.raw nilV), .d (.raw nilV)]), (6, .box [.own 13 ((rs.take (j + 1)).flatMap (lowF v)).length, .own 8 ((rs.take (j + 1)).flatMap (highF v)).length, .own 9 z_.length]), (8, .row 63 5 (((rs.take (j + 1)).flatMap (highF v)).map SideD.d)), (9, .row 45 4 (z_.map RelD.d)), (13, .row 63 5 (((rs.take (j + 1)).flatMap (lowF v)).map SideD.d))]) (show (((rs.take j).flatMap (othF v)) : List RelD) = ((rs.take (j + 1)).flatMap (othF v)) from (flat_skip hx1 (by unfold othF; rw [if_neg (by omega)]))))
    replace h := renS 13 7 [(1, vi .i64 v), (4, vp 5 0), (5, vp 6 0), (10, .t (.c (.d (.sl 4 (rs.map RelD.d))))), (11, vi .i64 (rs.length : Int)), (12, vi .i64 ((j : Int) + 1))] [(5, .box [.d (.raw nilV), .d (.raw nilV), .d (.raw nilV)]), (6, .box [.own 7 ((rs.take (j + 1)).flatMap (lowF v)).length, .own 8 ((rs.take (j + 1)).flatMap (highF v)).length, .own 9 ((rs.take (j + 1)).flatMap (othF v)).length]), (8, .row 63 5 (((rs.take (j + 1)).flatMap (highF v)).map SideD.d)), (9, .row 45 4 (((rs.take (j + 1)).flatMap (othF v)).map RelD.d)), (7, .row 63 5 (((rs.take (j + 1)).flatMap (lowF v)).map SideD.d))] h (by kernel_rfl) (by kernel_rfl) (by kernel_rfl)
    refine roundS (x := j) (y := j + 1) h ?_ ?_ (by kernel_rfl) (by kernel_rfl)
    ·have := at_lt hx1
     show j + 1 ≤ rs.length
     omega
    ·show rs.length - (j + 1) < rs.length - j
     have := at_lt hx1; omega
   ·have hc3 := hc; clear hc
    have hc3' := hc3; (try simp at hc3')
    refine rSeq fam0ok 14 [] [(1, vi .i64 v), (4, vp 5 0), (5, vp 6 0), (7, vp 10 0), (9, vp 12 0), (10, .t (.c (.d (.sl 4 (rs.map RelD.d))))), (11, vi .i64 (rs.length : Int)), (12, vi .i64 (j : Int)), (45, vb (sgn r2.val == (-1)))] [(5, .box [.d (.raw nilV), .d (.raw nilV), .d (.raw nilV)]), (6, .box [.own 7 ((rs.take j).flatMap (lowF v)).length, .own 8 ((rs.take j).flatMap (highF v)).length, .own 9 ((rs.take j).flatMap (othF v)).length]), (7, .row 63 5 (((rs.take j).flatMap (lowF v)).map SideD.d)), (8, .row 63 5 (((rs.take j).flatMap (highF v)).map SideD.d)), (9, .row 45 4 (((rs.take j).flatMap (othF v)).map RelD.d)), (10, .box ([.d (.sl 3 (x1.t.parts.map Part.d))] ++ zi x1.t.k ++ [.d (.raw (.bool x1.eq))])), (12, .box (zi r3 ++ [.d (.sl 3 ((woT x1.t v).parts.map Part.d))] ++ zi (woT x1.t v).k))] (by kernel_rfl) h ?_; clear h; intro a w h
    refine condS (sgn r2.val == (-1)) h rfl (fun hc => ?_) (fun hc => ?_)
    ·have hc4 := hc; clear hc
     have hc4' := hc4; (try simp at hc4')
     refine rS fam0ok 14 [(3, .gen _ _ _ fun _ _ _ _ => Op.buildD (d := 50) (len := 1) (rows := [(SideD.mk r3 (woT x1.t v))].map SideD.d) (rs := [(49, .t (.agg (zi r3 ++ [.d (.sl 3 ((woT x1.t v).parts.map Part.d))] ++ zi (woT x1.t v).k)))]) ha_7 (.cons (i := 0) (OV.tmp 49 _) (.nil)) (by kernel_rfl) rfl (by simp [SideD.d]) (by decide) (by decide)), (4, .gen _ _ _ fun _ _ _ _ => Op.appOD (d := 51) (t := 48) (u := 50) (n := 8) (n' := 14) (len := ((rs.take j).flatMap (highF v)).length) (len' := (((rs.take j).flatMap (highF v)) ++ [(SideD.mk r3 (woT x1.t v))]).length) (rows := ((rs.take j).flatMap (highF v)).map SideD.d) (rows2 := [(SideD.mk r3 (woT x1.t v))].map SideD.d) (rows' := (((rs.take j).flatMap (highF v)) ++ [(SideD.mk r3 (woT x1.t v))]).map SideD.d) ha_8 (by first | exact (List.length_map _).symm | simp) (by first | (rw [List.length_append, List.length_map]; done) | simp) (by simp) (by simp [SideD.d]) (by first | omega | (simp at *; done) | (simp at *; omega)))] [(1, vi .i64 v), (4, vp 5 0), (5, vp 6 0), (10, .t (.c (.d (.sl 4 (rs.map RelD.d))))), (11, vi .i64 (rs.length : Int)), (12, vi .i64 (j : Int))] [(5, .box [.d (.raw nilV), .d (.raw nilV), .d (.raw nilV)]), (6, .box ([.own 7 ((rs.take j).flatMap (lowF v)).length, .own 14 (((rs.take j).flatMap (highF v)) ++ [(SideD.mk r3 (woT x1.t v))]).length, .own 9 ((rs.take j).flatMap (othF v)).length])), (7, .row 63 5 (((rs.take j).flatMap (lowF v)).map SideD.d)), (9, .row 45 4 (((rs.take j).flatMap (othF v)).map RelD.d)), (14, .row 63 5 ((((rs.take j).flatMap (highF v)) ++ [(SideD.mk r3 (woT x1.t v))]).map SideD.d))] (by kernel_rfl) h ?_; clear h; intro a w h
     refine block_n ?_
     refine block_n ?_
     refine then_n ?_
     refine rS fam0ok 15 [(0, .add .i64 (m := (j : Int)) (n := 1) (i64_id (by omega) (by omega)))] [(1, vi .i64 v), (4, vp 5 0), (5, vp 6 0), (10, .t (.c (.d (.sl 4 (rs.map RelD.d))))), (11, vi .i64 (rs.length : Int)), (12, vi .i64 ((j : Int) + 1))] [(5, .box [.d (.raw nilV), .d (.raw nilV), .d (.raw nilV)]), (6, .box ([.own 7 ((rs.take j).flatMap (lowF v)).length, .own 14 (((rs.take j).flatMap (highF v)) ++ [(SideD.mk r3 (woT x1.t v))]).length, .own 9 ((rs.take j).flatMap (othF v)).length])), (7, .row 63 5 (((rs.take j).flatMap (lowF v)).map SideD.d)), (9, .row 45 4 (((rs.take j).flatMap (othF v)).map RelD.d)), (14, .row 63 5 ((((rs.take j).flatMap (highF v)) ++ [(SideD.mk r3 (woT x1.t v))]).map SideD.d))] (by kernel_rfl) h ?_; clear h; intro a w h
     refine then_n ?_
     have hcz := sgn1_f hc3
     rw [vr2] at hcz
     have hcy := sgnm_t hc4
     rw [vr2] at hcy
     replace h := h.conv (f' := F.of [(1, vi .i64 v), (4, vp 5 0), (5, vp 6 0), (10, .t (.c (.d (.sl 4 (rs.map RelD.d))))), (11, vi .i64 (rs.length : Int)), (12, vi .i64 ((j : Int) + 1))] [(5, .box [.d (.raw nilV), .d (.raw nilV), .d (.raw nilV)]), (6, .box ([.own 7 ((rs.take (j + 1)).flatMap (lowF v)).length, .own 14 (((rs.take j).flatMap (highF v)) ++ [(SideD.mk r3 (woT x1.t v))]).length, .own 9 ((rs.take j).flatMap (othF v)).length])), (7, .row 63 5 (((rs.take (j + 1)).flatMap (lowF v)).map SideD.d)), (9, .row 45 4 (((rs.take j).flatMap (othF v)).map RelD.d)), (14, .row 63 5 ((((rs.take j).flatMap (highF v)) ++ [(SideD.mk r3 (woT x1.t v))]).map SideD.d))]) (congrArg (fun (z_ : List SideD) => F.of [(1, vi .i64 v), (4, vp 5 0), (5, vp 6 0), (10, .t (.c (.d (.sl 4 (rs.map RelD.d))))), (11, vi .i64 (rs.length : Int)), (12, vi .i64 ((j : Int) + 1))] [(5, .box [.d (.raw nilV), .d (.raw nilV), .d (.raw nilV)]), (6, .box ([.own 7 z_.length, .own 14 (((rs.take j).flatMap (highF v)) ++ [(SideD.mk r3 (woT x1.t v))]).length, .own 9 ((rs.take j).flatMap (othF v)).length])), (7, .row 63 5 (z_.map SideD.d)), (9, .row 45 4 (((rs.take j).flatMap (othF v)).map RelD.d)), (14, .row 63 5 ((((rs.take j).flatMap (highF v)) ++ [(SideD.mk r3 (woT x1.t v))]).map SideD.d))]) (show (((rs.take j).flatMap (lowF v)) : List SideD) = ((rs.take (j + 1)).flatMap (lowF v)) from (flat_skip hx1 (by unfold lowF; rw [if_neg (by omega)]))))
     replace h := h.conv (f' := F.of [(1, vi .i64 v), (4, vp 5 0), (5, vp 6 0), (10, .t (.c (.d (.sl 4 (rs.map RelD.d))))), (11, vi .i64 (rs.length : Int)), (12, vi .i64 ((j : Int) + 1))] [(5, .box [.d (.raw nilV), .d (.raw nilV), .d (.raw nilV)]), (6, .box [.own 7 ((rs.take (j + 1)).flatMap (lowF v)).length, .own 14 ((rs.take (j + 1)).flatMap (highF v)).length, .own 9 ((rs.take j).flatMap (othF v)).length]), (7, .row 63 5 (((rs.take (j + 1)).flatMap (lowF v)).map SideD.d)), (9, .row 45 4 (((rs.take j).flatMap (othF v)).map RelD.d)), (14, .row 63 5 (((rs.take (j + 1)).flatMap (highF v)).map SideD.d))]) (congrArg (fun (z_ : List SideD) => F.of [(1, vi .i64 v), (4, vp 5 0), (5, vp 6 0), (10, .t (.c (.d (.sl 4 (rs.map RelD.d))))), (11, vi .i64 (rs.length : Int)), (12, vi .i64 ((j : Int) + 1))] [(5, .box [.d (.raw nilV), .d (.raw nilV), .d (.raw nilV)]), (6, .box [.own 7 ((rs.take (j + 1)).flatMap (lowF v)).length, .own 14 z_.length, .own 9 ((rs.take j).flatMap (othF v)).length]), (7, .row 63 5 (((rs.take (j + 1)).flatMap (lowF v)).map SideD.d)), (9, .row 45 4 (((rs.take j).flatMap (othF v)).map RelD.d)), (14, .row 63 5 (z_.map SideD.d))]) (show ((((rs.take j).flatMap (highF v)) ++ [(SideD.mk r3 (woT x1.t v))]) : List SideD) = ((rs.take (j + 1)).flatMap (highF v)) from (flat_snoc hx1 (by unfold highF; rw [if_pos (by omega)]; unfold sideOf; rw [er3, vr2]))))
     replace h := h.conv (f' := F.of [(1, vi .i64 v), (4, vp 5 0), (5, vp 6 0), (10, .t (.c (.d (.sl 4 (rs.map RelD.d))))), (11, vi .i64 (rs.length : Int)), (12, vi .i64 ((j : Int) + 1))] [(5, .box [.d (.raw nilV), .d (.raw nilV), .d (.raw nilV)]), (6, .box [.own 7 ((rs.take (j + 1)).flatMap (lowF v)).length, .own 14 ((rs.take (j + 1)).flatMap (highF v)).length, .own 9 ((rs.take (j + 1)).flatMap (othF v)).length]), (7, .row 63 5 (((rs.take (j + 1)).flatMap (lowF v)).map SideD.d)), (9, .row 45 4 (((rs.take (j + 1)).flatMap (othF v)).map RelD.d)), (14, .row 63 5 (((rs.take (j + 1)).flatMap (highF v)).map SideD.d))]) (congrArg (fun (z_ : List RelD) => F.of [(1, vi .i64 v), (4, vp 5 0), (5, vp 6 0), (10, .t (.c (.d (.sl 4 (rs.map RelD.d))))), (11, vi .i64 (rs.length : Int)), (12, vi .i64 ((j : Int) + 1))] [(5, .box [.d (.raw nilV), .d (.raw nilV), .d (.raw nilV)]), (6, .box [.own 7 ((rs.take (j + 1)).flatMap (lowF v)).length, .own 14 ((rs.take (j + 1)).flatMap (highF v)).length, .own 9 z_.length]), (7, .row 63 5 (((rs.take (j + 1)).flatMap (lowF v)).map SideD.d)), (9, .row 45 4 (z_.map RelD.d)), (14, .row 63 5 (((rs.take (j + 1)).flatMap (highF v)).map SideD.d))]) (show (((rs.take j).flatMap (othF v)) : List RelD) = ((rs.take (j + 1)).flatMap (othF v)) from (flat_skip hx1 (by unfold othF; rw [if_neg (by omega)]))))
     replace h := renS 14 8 [(1, vi .i64 v), (4, vp 5 0), (5, vp 6 0), (10, .t (.c (.d (.sl 4 (rs.map RelD.d))))), (11, vi .i64 (rs.length : Int)), (12, vi .i64 ((j : Int) + 1))] [(5, .box [.d (.raw nilV), .d (.raw nilV), .d (.raw nilV)]), (6, .box [.own 7 ((rs.take (j + 1)).flatMap (lowF v)).length, .own 8 ((rs.take (j + 1)).flatMap (highF v)).length, .own 9 ((rs.take (j + 1)).flatMap (othF v)).length]), (7, .row 63 5 (((rs.take (j + 1)).flatMap (lowF v)).map SideD.d)), (9, .row 45 4 (((rs.take (j + 1)).flatMap (othF v)).map RelD.d)), (8, .row 63 5 (((rs.take (j + 1)).flatMap (highF v)).map SideD.d))] h (by kernel_rfl) (by kernel_rfl) (by kernel_rfl)
     refine roundS (x := j) (y := j + 1) h ?_ ?_ (by kernel_rfl) (by kernel_rfl)
     ·have := at_lt hx1
      show j + 1 ≤ rs.length
      omega
     ·show rs.length - (j + 1) < rs.length - j
      have := at_lt hx1; omega
    ·have hc5 := hc; clear hc
     have hc5' := hc5; (try simp at hc5')
     refine rS fam0ok 15 [(4, .call (SLeast x1.t (gx1.mono (by decide) (by decide))) ha_9), (5, .gen _ _ _ fun _ _ _ _ => Op.buildD (d := 34) (len := 1) (rows := [(lstR x1.t)].map RelD.d) (rs := [(33, .t (.agg ([.d (.sl 3 ((lstR x1.t).t.parts.map Part.d))] ++ zi (lstR x1.t).t.k ++ [.d (.raw (.bool (lstR x1.t).eq))])))]) kc_5 (.cons (i := 0) (OV.tmp 33 _) (.nil)) (by kernel_rfl) rfl (by simp [RelD.d]) (by decide) (by decide)), (6, .gen _ _ _ fun _ _ _ _ => Op.appOD (d := 35) (t := 30) (u := 34) (n := 9) (n' := 15) (len := ((rs.take j).flatMap (othF v)).length) (len' := (((rs.take j).flatMap (othF v)) ++ [(lstR x1.t)]).length) (rows := ((rs.take j).flatMap (othF v)).map RelD.d) (rows2 := [(lstR x1.t)].map RelD.d) (rows' := (((rs.take j).flatMap (othF v)) ++ [(lstR x1.t)]).map RelD.d) ha_11 (by first | exact (List.length_map _).symm | simp) (by first | (rw [List.length_append, List.length_map]; done) | simp) (by simp) (by simp [RelD.d]) (by first | omega | (simp at *; done) | (simp at *; omega)))] [(1, vi .i64 v), (4, vp 5 0), (5, vp 6 0), (10, .t (.c (.d (.sl 4 (rs.map RelD.d))))), (11, vi .i64 (rs.length : Int)), (12, vi .i64 (j : Int))] [(5, .box [.d (.raw nilV), .d (.raw nilV), .d (.raw nilV)]), (6, .box ([.own 7 ((rs.take j).flatMap (lowF v)).length, .own 8 ((rs.take j).flatMap (highF v)).length, .own 15 (((rs.take j).flatMap (othF v)) ++ [(lstR x1.t)]).length])), (7, .row 63 5 (((rs.take j).flatMap (lowF v)).map SideD.d)), (8, .row 63 5 (((rs.take j).flatMap (highF v)).map SideD.d)), (15, .row 45 4 ((((rs.take j).flatMap (othF v)) ++ [(lstR x1.t)]).map RelD.d))] (by kernel_rfl) h ?_; clear h; intro a w h
     refine block_n ?_
     refine block_n ?_
     refine then_n ?_
     refine rS fam0ok 16 [(0, .add .i64 (m := (j : Int)) (n := 1) (i64_id (by omega) (by omega)))] [(1, vi .i64 v), (4, vp 5 0), (5, vp 6 0), (10, .t (.c (.d (.sl 4 (rs.map RelD.d))))), (11, vi .i64 (rs.length : Int)), (12, vi .i64 ((j : Int) + 1))] [(5, .box [.d (.raw nilV), .d (.raw nilV), .d (.raw nilV)]), (6, .box ([.own 7 ((rs.take j).flatMap (lowF v)).length, .own 8 ((rs.take j).flatMap (highF v)).length, .own 15 (((rs.take j).flatMap (othF v)) ++ [(lstR x1.t)]).length])), (7, .row 63 5 (((rs.take j).flatMap (lowF v)).map SideD.d)), (8, .row 63 5 (((rs.take j).flatMap (highF v)).map SideD.d)), (15, .row 45 4 ((((rs.take j).flatMap (othF v)) ++ [(lstR x1.t)]).map RelD.d))] (by kernel_rfl) h ?_; clear h; intro a w h
     refine then_n ?_
     have hcz := sgn1_f hc3
     rw [vr2] at hcz
     have hcy := sgnm_f hc5
     rw [vr2] at hcy
     replace h := h.conv (f' := F.of [(1, vi .i64 v), (4, vp 5 0), (5, vp 6 0), (10, .t (.c (.d (.sl 4 (rs.map RelD.d))))), (11, vi .i64 (rs.length : Int)), (12, vi .i64 ((j : Int) + 1))] [(5, .box [.d (.raw nilV), .d (.raw nilV), .d (.raw nilV)]), (6, .box ([.own 7 ((rs.take (j + 1)).flatMap (lowF v)).length, .own 8 ((rs.take j).flatMap (highF v)).length, .own 15 (((rs.take j).flatMap (othF v)) ++ [(lstR x1.t)]).length])), (7, .row 63 5 (((rs.take (j + 1)).flatMap (lowF v)).map SideD.d)), (8, .row 63 5 (((rs.take j).flatMap (highF v)).map SideD.d)), (15, .row 45 4 ((((rs.take j).flatMap (othF v)) ++ [(lstR x1.t)]).map RelD.d))]) (congrArg (fun (z_ : List SideD) => F.of [(1, vi .i64 v), (4, vp 5 0), (5, vp 6 0), (10, .t (.c (.d (.sl 4 (rs.map RelD.d))))), (11, vi .i64 (rs.length : Int)), (12, vi .i64 ((j : Int) + 1))] [(5, .box [.d (.raw nilV), .d (.raw nilV), .d (.raw nilV)]), (6, .box ([.own 7 z_.length, .own 8 ((rs.take j).flatMap (highF v)).length, .own 15 (((rs.take j).flatMap (othF v)) ++ [(lstR x1.t)]).length])), (7, .row 63 5 (z_.map SideD.d)), (8, .row 63 5 (((rs.take j).flatMap (highF v)).map SideD.d)), (15, .row 45 4 ((((rs.take j).flatMap (othF v)) ++ [(lstR x1.t)]).map RelD.d))]) (show (((rs.take j).flatMap (lowF v)) : List SideD) = ((rs.take (j + 1)).flatMap (lowF v)) from (flat_skip hx1 (by unfold lowF; rw [if_neg (by omega)]))))
     replace h := h.conv (f' := F.of [(1, vi .i64 v), (4, vp 5 0), (5, vp 6 0), (10, .t (.c (.d (.sl 4 (rs.map RelD.d))))), (11, vi .i64 (rs.length : Int)), (12, vi .i64 ((j : Int) + 1))] [(5, .box [.d (.raw nilV), .d (.raw nilV), .d (.raw nilV)]), (6, .box ([.own 7 ((rs.take (j + 1)).flatMap (lowF v)).length, .own 8 ((rs.take (j + 1)).flatMap (highF v)).length, .own 15 (((rs.take j).flatMap (othF v)) ++ [(lstR x1.t)]).length])), (7, .row 63 5 (((rs.take (j + 1)).flatMap (lowF v)).map SideD.d)), (8, .row 63 5 (((rs.take (j + 1)).flatMap (highF v)).map SideD.d)), (15, .row 45 4 ((((rs.take j).flatMap (othF v)) ++ [(lstR x1.t)]).map RelD.d))]) (congrArg (fun (z_ : List SideD) => F.of [(1, vi .i64 v), (4, vp 5 0), (5, vp 6 0), (10, .t (.c (.d (.sl 4 (rs.map RelD.d))))), (11, vi .i64 (rs.length : Int)), (12, vi .i64 ((j : Int) + 1))] [(5, .box [.d (.raw nilV), .d (.raw nilV), .d (.raw nilV)]), (6, .box ([.own 7 ((rs.take (j + 1)).flatMap (lowF v)).length, .own 8 z_.length, .own 15 (((rs.take j).flatMap (othF v)) ++ [(lstR x1.t)]).length])), (7, .row 63 5 (((rs.take (j + 1)).flatMap (lowF v)).map SideD.d)), (8, .row 63 5 (z_.map SideD.d)), (15, .row 45 4 ((((rs.take j).flatMap (othF v)) ++ [(lstR x1.t)]).map RelD.d))]) (show (((rs.take j).flatMap (highF v)) : List SideD) = ((rs.take (j + 1)).flatMap (highF v)) from (flat_skip hx1 (by unfold highF; rw [if_neg (by omega)]))))
     replace h := h.conv (f' := F.of [(1, vi .i64 v), (4, vp 5 0), (5, vp 6 0), (10, .t (.c (.d (.sl 4 (rs.map RelD.d))))), (11, vi .i64 (rs.length : Int)), (12, vi .i64 ((j : Int) + 1))] [(5, .box [.d (.raw nilV), .d (.raw nilV), .d (.raw nilV)]), (6, .box [.own 7 ((rs.take (j + 1)).flatMap (lowF v)).length, .own 8 ((rs.take (j + 1)).flatMap (highF v)).length, .own 15 ((rs.take (j + 1)).flatMap (othF v)).length]), (7, .row 63 5 (((rs.take (j + 1)).flatMap (lowF v)).map SideD.d)), (8, .row 63 5 (((rs.take (j + 1)).flatMap (highF v)).map SideD.d)), (15, .row 45 4 (((rs.take (j + 1)).flatMap (othF v)).map RelD.d))]) (congrArg (fun (z_ : List RelD) => F.of [(1, vi .i64 v), (4, vp 5 0), (5, vp 6 0), (10, .t (.c (.d (.sl 4 (rs.map RelD.d))))), (11, vi .i64 (rs.length : Int)), (12, vi .i64 ((j : Int) + 1))] [(5, .box [.d (.raw nilV), .d (.raw nilV), .d (.raw nilV)]), (6, .box [.own 7 ((rs.take (j + 1)).flatMap (lowF v)).length, .own 8 ((rs.take (j + 1)).flatMap (highF v)).length, .own 15 z_.length]), (7, .row 63 5 (((rs.take (j + 1)).flatMap (lowF v)).map SideD.d)), (8, .row 63 5 (((rs.take (j + 1)).flatMap (highF v)).map SideD.d)), (15, .row 45 4 (z_.map RelD.d))]) (show ((((rs.take j).flatMap (othF v)) ++ [(lstR x1.t)]) : List RelD) = ((rs.take (j + 1)).flatMap (othF v)) from (flat_snoc hx1 (by unfold othF; rw [if_pos (by omega)]))))
     replace h := renS 15 9 [(1, vi .i64 v), (4, vp 5 0), (5, vp 6 0), (10, .t (.c (.d (.sl 4 (rs.map RelD.d))))), (11, vi .i64 (rs.length : Int)), (12, vi .i64 ((j : Int) + 1))] [(5, .box [.d (.raw nilV), .d (.raw nilV), .d (.raw nilV)]), (6, .box [.own 7 ((rs.take (j + 1)).flatMap (lowF v)).length, .own 8 ((rs.take (j + 1)).flatMap (highF v)).length, .own 9 ((rs.take (j + 1)).flatMap (othF v)).length]), (7, .row 63 5 (((rs.take (j + 1)).flatMap (lowF v)).map SideD.d)), (8, .row 63 5 (((rs.take (j + 1)).flatMap (highF v)).map SideD.d)), (9, .row 45 4 (((rs.take (j + 1)).flatMap (othF v)).map RelD.d))] h (by kernel_rfl) (by kernel_rfl) (by kernel_rfl)
     refine roundS (x := j) (y := j + 1) h ?_ ?_ (by kernel_rfl) (by kernel_rfl)
     ·have := at_lt hx1
      show j + 1 ≤ rs.length
      omega
     ·show rs.length - (j + 1) < rs.length - j
      have := at_lt hx1; omega
  ·have hc6 := hc; clear hc
   have hc6' := of_decide_eq_false hc6
   refine wp_exit ?_
   refine then_x ?_
   refine then_x ?_
   refine inBlock_exit ?_
   refine then_n ?_
   refine rSeq fam0ok 16 [] [(4, vp 5 0)] [(5, .box [.own 7 ((rs.take j).flatMap (lowF v)).length, .own 8 ((rs.take j).flatMap (highF v)).length, .own 9 ((rs.take j).flatMap (othF v)).length]), (7, .row 63 5 (((rs.take j).flatMap (lowF v)).map SideD.d)), (8, .row 63 5 (((rs.take j).flatMap (highF v)).map SideD.d)), (9, .row 45 4 (((rs.take j).flatMap (othF v)).map RelD.d))] (by kernel_rfl) h ?_; clear h; intro a w h
   refine wp_ret ?_
   replace h := h.conv (f' := F.of [(4, vp 5 0)] [(5, .box [.own 7 (lowsOf rs v).length, .own 8 ((rs.take j).flatMap (highF v)).length, .own 9 ((rs.take j).flatMap (othF v)).length]), (7, .row 63 5 ((lowsOf rs v).map SideD.d)), (8, .row 63 5 (((rs.take j).flatMap (highF v)).map SideD.d)), (9, .row 45 4 (((rs.take j).flatMap (othF v)).map RelD.d))]) (congrArg (fun (z_ : List SideD) => F.of [(4, vp 5 0)] [(5, .box [.own 7 z_.length, .own 8 ((rs.take j).flatMap (highF v)).length, .own 9 ((rs.take j).flatMap (othF v)).length]), (7, .row 63 5 (z_.map SideD.d)), (8, .row 63 5 (((rs.take j).flatMap (highF v)).map SideD.d)), (9, .row 45 4 (((rs.take j).flatMap (othF v)).map RelD.d))]) (show (((rs.take j).flatMap (lowF v)) : List SideD) = (lowsOf rs v) from (by unfold lowsOf; rw [List.take_of_length_le (by omega)])))
   replace h := h.conv (f' := F.of [(4, vp 5 0)] [(5, .box [.own 7 (lowsOf rs v).length, .own 8 (highsOf rs v).length, .own 9 ((rs.take j).flatMap (othF v)).length]), (7, .row 63 5 ((lowsOf rs v).map SideD.d)), (8, .row 63 5 ((highsOf rs v).map SideD.d)), (9, .row 45 4 (((rs.take j).flatMap (othF v)).map RelD.d))]) (congrArg (fun (z_ : List SideD) => F.of [(4, vp 5 0)] [(5, .box [.own 7 (lowsOf rs v).length, .own 8 z_.length, .own 9 ((rs.take j).flatMap (othF v)).length]), (7, .row 63 5 ((lowsOf rs v).map SideD.d)), (8, .row 63 5 (z_.map SideD.d)), (9, .row 45 4 (((rs.take j).flatMap (othF v)).map RelD.d))]) (show (((rs.take j).flatMap (highF v)) : List SideD) = (highsOf rs v) from (by unfold highsOf; rw [List.take_of_length_le (by omega)])))
   replace h := h.conv (f' := F.of [(4, vp 5 0)] [(5, .box [.own 7 (lowsOf rs v).length, .own 8 (highsOf rs v).length, .own 9 (othersOf rs v).length]), (7, .row 63 5 ((lowsOf rs v).map SideD.d)), (8, .row 63 5 ((highsOf rs v).map SideD.d)), (9, .row 45 4 ((othersOf rs v).map RelD.d))]) (congrArg (fun (z_ : List RelD) => F.of [(4, vp 5 0)] [(5, .box [.own 7 (lowsOf rs v).length, .own 8 (highsOf rs v).length, .own 9 z_.length]), (7, .row 63 5 ((lowsOf rs v).map SideD.d)), (8, .row 63 5 ((highsOf rs v).map SideD.d)), (9, .row 45 4 (z_.map RelD.d))]) (show (((rs.take j).flatMap (othF v)) : List RelD) = (othersOf rs v) from (by unfold othersOf; rw [List.take_of_length_le (by omega)])))
   replace h := renS 9 0 [(4, vp 5 0)] [(5, .box [.own 7 (lowsOf rs v).length, .own 8 (highsOf rs v).length, .own 0 (othersOf rs v).length]), (7, .row 63 5 ((lowsOf rs v).map SideD.d)), (8, .row 63 5 ((highsOf rs v).map SideD.d)), (0, .row 45 4 ((othersOf rs v).map RelD.d))] h (by kernel_rfl) (by kernel_rfl) (by kernel_rfl)
   replace h := pubS 7 5 63 ((lowsOf rs v).map SideD.d) [(4, vp 5 0)] [(5, .box [.d (.sl 5 ((lowsOf rs v).map SideD.d)), .own 8 (highsOf rs v).length, .own 0 (othersOf rs v).length]), (8, .row 63 5 ((highsOf rs v).map SideD.d)), (0, .row 45 4 ((othersOf rs v).map RelD.d))] h rfl trivial (show AllEq _ [(lowsOf rs v).length] from ⟨by first | exact (List.length_map _).symm | (simp; done) | (simp; omega), trivial⟩) (by kernel_rfl) (by kernel_rfl)
   replace h := pubS 8 5 63 ((highsOf rs v).map SideD.d) [(4, vp 5 0)] [(5, .box [.d (.sl 5 ((lowsOf rs v).map SideD.d)), .d (.sl 5 ((highsOf rs v).map SideD.d)), .own 0 (othersOf rs v).length]), (0, .row 45 4 ((othersOf rs v).map RelD.d))] h rfl trivial (show AllEq _ [(highsOf rs v).length] from ⟨by first | exact (List.length_map _).symm | (simp; done) | (simp; omega), trivial⟩) (by kernel_rfl) (by kernel_rfl)
   refine retS [.agg [.d (.sl 5 ((lowsOf rs v).map SideD.d)), .d (.sl 5 ((highsOf rs v).map SideD.d)), .own 0 (othersOf rs v).length]] h Exit.ret (.inl rfl)  rfl ⟨RV.agg _ 5 0 _ _ _ _ ha_12 rfl rfl rfl rfl, trivial⟩ ?_ (by kernel_rfl) (by kernel_rfl)
   rfl
end Go.Proofs.YtoklkfmffmonoaaGreat.S
end
section
namespace Go.Proofs.YtoklkfmffmonoaaGreat.S
open Go.RowKit

section
variable {w0 : World} {H0 : Im} {B0 : Bl} {K : List Nat} {N : Nat} {a : Act} {w : World} {sl : List (Nat × V)} {lc : List (Nat × L)}
theorem St.anyL {e : E} {f : F} (h : St e f a w) (m j : Nat) {cs : List C} {c : C} (hv : f.l m = some (.box cs)) (hg : cs[j]? = some c) : St e (f.setL m (.box (cs.set j .any))) a w := by
 obtain ⟨H, B, hok⟩ := h
 exact ⟨H, B, hok.setL m (.box cs) _ hv fun hu => LR.setC hg (fun _ hx => CR.flat hx) hu⟩
theorem anyLs (m j : Nat) (cs : List C) (c : C) (sl' : List (Nat × V)) (lc' : List (Nat × L)) (h : St ⟨w0, H0, B0, K, N⟩ (F.of sl lc) a w) (hv : lc.lookup m = some (.box cs)) (hg : cs[j]? = some c)
  (h3 : leS ((F.of sl lc).setL m (.box (cs.set j .any))) sl' = sl'.map fun p => some p.2) (h4 : leN ((F.of sl lc).setL m (.box (cs.set j .any))) lc' = lc'.map fun p => some p.2) : St ⟨w0, H0, B0, K, N⟩ (F.of sl' lc') a w :=
 (h.anyL m j hv hg).weaken (le_of h3 h4)
end
end Go.Proofs.YtoklkfmffmonoaaGreat.S
end
section
namespace Go.Proofs.YtoklkfmffmonoaaGreat.S
open Go.RowKit

theorem hb_1 : SlT Tryz.prog 58 63 5 := SlT.mk' Tryz.underlying58 (by kernel_rfl)
theorem hb_2 : Bodied Tryz.prog 132 := Bodied.mk' (by kernel_rfl)
theorem hb_3 : Bodied Tryz.prog 152 := Bodied.mk' (by kernel_rfl)
theorem hb_5 : Bodied Tryz.prog 131 := Bodied.mk' (by kernel_rfl)
theorem hb_6 : Bodied Tryz.prog 88 := Bodied.mk' (by kernel_rfl)
theorem hb_12 : Bodied Tryz.prog 52 := Bodied.mk' (by kernel_rfl)
theorem hb_15 : Bodied Tryz.prog 30 := Bodied.mk' (by kernel_rfl)
theorem hb_19 : Bodied Tryz.prog 60 := Bodied.mk' (by kernel_rfl)
theorem hb_20 : Bodied Tryz.prog 51 := Bodied.mk' (by kernel_rfl)
theorem hb_23 : Bodied Tryz.prog 99 := Bodied.mk' (by kernel_rfl)
def onesS (l : List SideD) : Bool := !l.any fun s => cmpZ s.times.val 1 != 0
def exactS (s : SidesD) : Bool := onesS s.lows || onesS s.highs
def brightT (l h : SideD) : Term := addT (scaleT h.rest l.times) (scaleT l.rest h.times)
def darkT (l h : SideD) : Term := subT (brightT l h) (numT (ZI.of ((l.times.val - 1) * (h.times.val - 1))))
def eachS (sh : SideD → SideD → Term) (rs : List RelD) (v : Int) : List RelD := othersOf rs v ++ (lowsOf rs v).flatMap fun l => (highsOf rs v).map fun h => lstR (sh l h)
def maxS (l : List SideD) : Int := l.foldl (fun m s => max m s.times.val) 0
def lastZ (a b : Int) : Int := (b * a - b - a).fdiv b
def eqR (l : SideD) (v i : Int) : RelD := ⟨plainT (subT (addT (scaleT (varT v) l.times) l.rest) (numT (ZI.of i))), true⟩
def leastZ (s : SideD) (vs : List ZI) : Int := -((-(-valT s.rest vs)).fdiv s.times.val)
def mostZ (s : SideD) (vs : List ZI) : Int := (valT s.rest vs).fdiv s.times.val
theorem mapSnoc {α β : Type} {f : α → β} {xs : List α} {j : Nat} {x : α} (h : xs[j]? = some x) : (xs.take j).map f ++ [f x] = (xs.take (j + 1)).map f := by rw [List.take_add_one, h, List.map_append]; rfl
theorem subT_ok {n m L : Nat} {s t : Term} (hs : TOk n L s) (ht : TOk m L t) (hnm : n + m ≤ 1000) : TOk (n + m) (L + L + 8) (subT s t) := by
 have h1 : TOk m (L + 2 + 1) (scaleT t (ZI.of (-1))) := (TOk.mul (M := 2) ht (ZI.lb_of _) (by decide)).plain (by omega)
 exact (addT_ok (L := L + 3) (hs.mono (Nat.le_refl _) (by omega)) (h1.mono (Nat.le_refl _) (by omega)) hnm).mono (Nat.le_refl _) (by omega)
theorem scaleT_ok {n L M : Nat} {t : Term} {q : ZI} (ht : TOk n L t) (hq : Lb q.abs) (lq : q.abs.length ≤ M) (hn : n ≤ 1000) : TOk n (L + M + 1) (scaleT t q) := (TOk.mul ht hq lq).plain hn
theorem bright_ok {l h : SideD} (hl : SideOk l) (hh : SideOk h) : TOk 40 40 (brightT l h) := addT_ok (n := 20) (m := 20) (L := 19) (scaleT_ok hh.rest hl.lb hl.len (by decide)) (scaleT_ok hl.rest hh.lb hh.len (by decide)) (by decide)
theorem gap_len {l h : SideD} (hl : SideOk l) (hh : SideOk h) : (ZI.of ((l.times.val - 1) * (h.times.val - 1))).abs.length ≤ 24 := by
 have h1 := len_sub (x := l.times) (y := ZI.of 1) hl.lb (ZI.lb_of 1)
 have h2 := len_sub (x := h.times) (y := ZI.of 1) hh.lb (ZI.lb_of 1)
 have h3 := len_mul (x := ZI.of (l.times.val - (ZI.of 1).val)) (y := ZI.of (h.times.val - (ZI.of 1).val)) (ZI.lb_of _) (ZI.lb_of _)
 rw [ZI.val_of, ZI.val_of, ZI.val_of] at h3
 rw [ZI.val_of] at h1 h2
 have e : (ZI.of 1).abs.length ≤ 1 := by decide
 have := hl.len; have := hh.len
 omega
theorem dark_ok {l h : SideD} (hl : SideOk l) (hh : SideOk h) : TOk 40 88 (darkT l h) := (subT_ok (n := 40) (m := 0) (L := 40) (bright_ok hl hh) ((TOk.num (ZI.lb_of _) (Nat.le_refl _)).mono (Nat.le_refl 0) (show (ZI.of (ZI.of ((l.times.val - 1) * (h.times.val - 1))).val).abs.length ≤ 40 by rw [ZI.val_of]; exact Nat.le_trans (gap_len hl hh) (by decide))) (by decide)).mono (by decide) (by decide)
theorem flat_bd {α β : Type} {g : α → List β} {k : Nat} (hg : ∀ x, (g x).length ≤ k) : ∀ xs : List α, (xs.flatMap g).length ≤ xs.length * k
 | [] => by simp
 | x :: xs => by
  rw [List.flatMap_cons, List.length_append, List.length_cons, Nat.add_mul]
  have := flat_bd hg xs; have := hg x; omega
theorem max_len {x y : ZI} {L : Nat} (hx : Lb x.abs) (hy : Lb y.abs) (lx : x.abs.length ≤ L) (ly : y.abs.length ≤ L) : (ZI.of (max x.val y.val)).abs.length ≤ L := by
 rcases Int.le_total x.val y.val with h | h
 ·rw [Int.max_eq_right h]; exact Nat.le_trans (len_id hy) ly
 ·rw [Int.max_eq_left h]; exact Nat.le_trans (len_id hx) lx
theorem max_take {l : List SideD} {j : Nat} {s : SideD} (h : l[j]? = some s) : maxS (l.take (j + 1)) = max (maxS (l.take j)) s.times.val := by
 unfold maxS; rw [List.take_add_one, h, List.foldl_append]; rfl
set_option maxHeartbeats 4000000 in
theorem SOnes1 (s : SideD) (one : ZI) (hs : SideOk s) (ho : Lb one.abs) (lo : one.abs.length ≤ 9) : Fn Tryz.prog 132 [(1, .box (zi one))] [.t (.agg (zi s.times ++ [.d (.sl 3 (s.rest.parts.map Part.d))] ++ zi s.rest.k)), vp 1 0] (vb (cmpZ s.times.val one.val != 0)) [(1, .box (zi one))] := by
 have ls := hs.len
 refine Fn.body Tryz.func132 rfl 9 rfl fun w H B a h => ?_
 refine rSeq fam0ok 5 [] [(1, vp 1 0), (2, vp 5 0), (3, vb false)] [(1, .box (zi one)), (5, .box (zi s.times ++ [.d (.sl 3 (s.rest.parts.map Part.d))] ++ zi s.rest.k))] (by kernel_rfl) h ?_; clear h; intro a w h
 refine rSeq fam0ok 6 [(3, .call (SCmp s.times one hs.lb ho (by omega) (by omega)) tx_2)] [(3, vb (cmpZ s.times.val one.val != 0))] [(1, .box (zi one))] (by kernel_rfl) h ?_; clear h; intro a w h
 refine wp_ret ?_
 refine retS [.c (.d (.raw (.bool (cmpZ s.times.val one.val != 0))))] h Exit.ret (.inl rfl)  rfl ⟨RV.tmp _ _ rfl, trivial⟩ ?_ (by kernel_rfl) (by kernel_rfl)
 rfl
set_option maxHeartbeats 4000000 in
theorem SIdxOn (pr : SideD → Bool) (xs : List SideD) (one : ZI) (hf : ∀ x ∈ xs, Fn Tryz.prog 132 [(1, .box (zi one))] [.t (.agg (zi x.times ++ [.d (.sl 3 (x.rest.parts.map Part.d))] ++ zi x.rest.k)), vp 1 0] (vb (pr x)) [(1, .box (zi one))]) (hl : xs.length ≤ 9223372036854775807) : Fn Tryz.prog 152 [(1, .box (zi one))] [.t (.c (.d (.sl 5 (xs.map SideD.d)))), .t (.c (.fn (.func 132) [] [.ptr 1 0]))] (vi .i64 (idxB pr xs 0)) [(1, .box (zi one))] := by
 refine Fn.body Tryz.func152 rfl 19 rfl fun w H B a h => ?_
 refine rSeq fam0ok 5 [] [(0, .t (.c (.d (.sl 5 (xs.map SideD.d))))), (1, .t (.c (.fn (.func 132) [] [.ptr 1 0]))), (4, vi .i64 0)] [(1, .box (zi one))] (by kernel_rfl) h ?_; clear h; intro a w h
 refine wp_seq ?_
 refine rSeq fam0ok 5 [(1, .len (c := (.d (.sl 5 (xs.map SideD.d)))) (n := xs.length) (lenC_map _ _ _))] [(0, .t (.c (.d (.sl 5 (xs.map SideD.d))))), (1, .t (.c (.fn (.func 132) [] [.ptr 1 0]))), (4, vi .i64 0), (7, vi .i64 (xs.length : Int)), (8, vi .i64 0)] [(1, .box (zi one))] (by kernel_rfl) h ?_; clear h; intro a w h
 refine wp_block ?_
 refine loopS (ι := (Nat)) (fun (z_ : (Nat)) => match z_ with | j => j ≤ xs.length ∧ idxB pr xs 0 = idxB pr (xs.drop j) j)
   (fun (z_ : (Nat)) => match z_ with | j => [(0, .t (.c (.d (.sl 5 (xs.map SideD.d))))), (1, .t (.c (.fn (.func 132) [] [.ptr 1 0]))), (7, vi .i64 (xs.length : Int)), (8, vi .i64 (j : Int))])
   (fun (z_ : (Nat)) => match z_ with | j => [(1, .box (zi one))])
   (fun (z_ : (Nat)) => match z_ with | j => xs.length - j) 0 ?_ h (by kernel_rfl) (by kernel_rfl) ?_
 ·exact ⟨Nat.zero_le _, rfl⟩
 ·clear h; rintro j a w hI h
  change St _ (F.of [(0, .t (.c (.d (.sl 5 (xs.map SideD.d))))), (1, .t (.c (.fn (.func 132) [] [.ptr 1 0]))), (7, vi .i64 (xs.length : Int)), (8, vi .i64 (j : Int))] [(1, .box (zi one))]) a w at h
  obtain ⟨hI1, hI2⟩ := hI
  refine rSeq fam0ok 5 [] [(0, .t (.c (.d (.sl 5 (xs.map SideD.d))))), (1, .t (.c (.fn (.func 132) [] [.ptr 1 0]))), (7, vi .i64 (xs.length : Int)), (8, vi .i64 (j : Int)), (9, vb (decide ((j : Int) < (xs.length : Int))))] [(1, .box (zi one))] (by kernel_rfl) h ?_; clear h; intro a w h
  refine wp_seq ?_
  refine condS (decide ((j : Int) < (xs.length : Int))) h rfl (fun hc => ?_) (fun hc => ?_)
  ·have hc1 := hc; clear hc
   have hc1' := of_decide_eq_true hc1
   refine wp_skip ?_
   refine then_n ?_
   refine wp_seq ?_
   refine wp_block ?_
   refine rSeq fam0ok 5 [] [(0, .t (.c (.d (.sl 5 (xs.map SideD.d))))), (1, .t (.c (.fn (.func 132) [] [.ptr 1 0]))), (5, vi .i64 (j : Int)), (7, vi .i64 (xs.length : Int)), (8, vi .i64 (j : Int))] [(1, .box (zi one))] (by kernel_rfl) h ?_; clear h; intro a w h
   obtain ⟨x1, hx1⟩ : ∃ z_ : SideD, xs[j]? = some z_ := ⟨_, List.getElem?_eq_getElem (by first | omega | (simp at *; omega))⟩
   refine rSeq fam0ok 5 [(3, .gen _ _ _ fun _ _ _ _ => Op.idxD (d := 14) (t := 12) (k := .i64) hb_1 (map_at hx1 (f := SideD.d)) (OV.tmp 13 _)), (5, .gen _ _ _ fun _ _ _ _ => Op.callV (d := 16) (t := 11) (cap := [.ptr 1 0]) (args := [.t (.agg (zi x1.times ++ [.d (.sl 3 (x1.rest.parts.map Part.d))] ++ zi x1.rest.k))]) (rs := [(15, .t (.agg (zi x1.times ++ [.d (.sl 3 (x1.rest.parts.map Part.d))] ++ zi x1.rest.k)))]) (tys := #[63]) (hf x1 (List.mem_of_getElem? hx1)) hb_2 (OVs.cons (OV.tmp 15 _) (OVs.nil)))] [(0, .t (.c (.d (.sl 5 (xs.map SideD.d))))), (1, .t (.c (.fn (.func 132) [] [.ptr 1 0]))), (5, vi .i64 (j : Int)), (7, vi .i64 (xs.length : Int)), (8, vi .i64 (j : Int)), (16, vb (pr x1))] [(1, .box (zi one))] (by kernel_rfl) h ?_; clear h; intro a w h
   refine condS (pr x1) h rfl (fun hc => ?_) (fun hc => ?_)
   ·have hc2 := hc; clear hc
    refine rSeq fam0ok 5 [] [(0, .t (.c (.d (.sl 5 (xs.map SideD.d))))), (1, .t (.c (.fn (.func 132) [] [.ptr 1 0]))), (4, vi .i64 (j : Int)), (7, vi .i64 (xs.length : Int)), (8, vi .i64 (j : Int))] [(1, .box (zi one))] (by kernel_rfl) h ?_; clear h; intro a w h
    refine wp_ret ?_
    refine block_r ?_
    refine then_r ?_
    refine then_r ?_
    refine block_r ?_
    refine then_r ?_
    refine retS [.c (.d (.raw (.int .i64 (j : Int))))] h Exit.ret (.inl rfl)  rfl ⟨RV.tmp _ _ rfl, trivial⟩ ?_ (by kernel_rfl) (by kernel_rfl)
    have hz : idxB pr xs 0 = (j : Int) := by rw [hI2, idxB_at hx1, if_pos hc2]
    rw [hz]; first | done | rfl
   ·have hc3 := hc; clear hc
    refine wp_skip ?_
    refine block_n ?_
    refine then_n ?_
    refine rS fam0ok 5 [(0, .add .i64 (m := (j : Int)) (n := 1) (i64_id (by omega) (by omega)))] [(0, .t (.c (.d (.sl 5 (xs.map SideD.d))))), (1, .t (.c (.fn (.func 132) [] [.ptr 1 0]))), (7, vi .i64 (xs.length : Int)), (8, vi .i64 ((j : Int) + 1))] [(1, .box (zi one))] (by kernel_rfl) h ?_; clear h; intro a w h
    refine then_n ?_
    refine roundS (x := j) (y := j + 1) h ?_ ?_ (by kernel_rfl) (by kernel_rfl)
    ·exact ⟨by have := at_lt hx1; omega, by rw [hI2, idxB_at hx1, if_neg (by rw [hc3]; exact Bool.noConfusion)]⟩
    ·simp; omega
  ·have hc4 := hc; clear hc
   have hc4' := of_decide_eq_false hc4
   refine wp_exit ?_
   refine then_x ?_
   refine then_x ?_
   refine inBlock_exit ?_
   refine then_n ?_
   refine rSeq fam0ok 5 [] [(4, vi .i64 (-1))] [(1, .box (zi one))] (by kernel_rfl) h ?_; clear h; intro a w h
   refine wp_ret ?_
   refine retS [.c (.d (.raw (.int .i64 (-1))))] h Exit.ret (.inl rfl)  rfl ⟨RV.tmp _ _ rfl, trivial⟩ ?_ (by kernel_rfl) (by kernel_rfl)
   have hz : idxB pr xs 0 = -1 := by rw [hI2, List.drop_of_length_le (by omega)]; rfl
   rw [hz]; first | done | rfl
set_option maxHeartbeats 4000000 in
theorem SAnyOn (pr : SideD → Bool) (xs : List SideD) (one : ZI) (hf : ∀ x ∈ xs, Fn Tryz.prog 132 [(1, .box (zi one))] [.t (.agg (zi x.times ++ [.d (.sl 3 (x.rest.parts.map Part.d))] ++ zi x.rest.k)), vp 1 0] (vb (pr x)) [(1, .box (zi one))]) (hl : xs.length ≤ 9223372036854775807) : Fn Tryz.prog 131 [(1, .box (zi one))] [.t (.c (.d (.sl 5 (xs.map SideD.d)))), .t (.c (.fn (.func 132) [] [.ptr 1 0]))] (vb (xs.any pr)) [(1, .box (zi one))] := by
 refine Fn.body Tryz.func131 rfl 9 rfl fun w H B a h => ?_
 refine rSeq fam0ok 5 [] [(0, .t (.c (.d (.sl 5 (xs.map SideD.d))))), (1, .t (.c (.fn (.func 132) [] [.ptr 1 0]))), (4, vb false)] [(1, .box (zi one))] (by kernel_rfl) h ?_; clear h; intro a w h
 refine rSeq fam0ok 5 [(2, .call (SIdxOn pr xs one hf  hl) hb_3)] [(4, vb (decide (idxB pr xs 0 ≥ 0)))] [(1, .box (zi one))] (by kernel_rfl) h ?_; clear h; intro a w h
 refine wp_ret ?_
 refine retS [.c (.d (.raw (.bool (decide (idxB pr xs 0 ≥ 0)))))] h Exit.ret (.inl rfl)  rfl ⟨RV.tmp _ _ rfl, trivial⟩ ?_ (by kernel_rfl) (by kernel_rfl)
 rw [← idxB_any]; first | done | rfl
set_option maxHeartbeats 4000000 in
theorem SOnes (l : List SideD) (hl : ∀ s ∈ l, SideOk s) (hn : l.length ≤ 1000) : Fn Tryz.prog 88 [] [.t (.c (.d (.sl 5 (l.map SideD.d))))] (vb (onesS l)) [] := by
 refine Fn.body Tryz.func88 rfl 9 rfl fun w H B a h => ?_
 refine rSeq fam0ok 1 [] [(0, .t (.c (.d (.sl 5 (l.map SideD.d))))), (2, vb false)] [] (by kernel_rfl) h ?_; clear h; intro a w h
 obtain ⟨r1, er1, vr1, or1, lr1⟩ := mkZ (v := 1) (m := 2) (ZI.len_of (by have := pw2; omega))
 refine rSeq fam0ok 1 [(0, .call (Fn.cast (SOf 1 ⟨by omega, by omega⟩) (congrArg vz er1.symm)) tm_10)] [(0, .t (.c (.d (.sl 5 (l.map SideD.d))))), (2, vb false), (3, vp 1 0)] [(1, .box (zi r1))] (by kernel_rfl) h ?_; clear h; intro a w h
 refine rSeq fam0ok 2 [(1, .gen _ _ _ fun _ _ _ _ => Op.makeFs (d := 6) (fn := .func 132) [(3, 1, 0)]), (2, .call (SAnyOn (fun s => cmpZ s.times.val r1.val != 0) l r1 (fun x hx => SOnes1 x r1 (hl x hx) or1 (by omega)) (by omega)) hb_5)] [(2, vb (!(l.any (fun s => cmpZ s.times.val r1.val != 0))))] [] (by kernel_rfl) h ?_; clear h; intro a w h
 refine wp_ret ?_
 refine retS [.c (.d (.raw (.bool (!(l.any (fun s => cmpZ s.times.val r1.val != 0))))))] h Exit.ret (.inl rfl)  rfl ⟨RV.tmp _ _ rfl, trivial⟩ ?_ (by kernel_rfl) (by kernel_rfl)
 unfold onesS; simp only [vr1]; first | done | rfl
set_option maxHeartbeats 4000000 in
theorem SExact (s : SidesD) (hl : ∀ x ∈ s.lows, SideOk x) (hh : ∀ x ∈ s.highs, SideOk x) (nl : s.lows.length ≤ 1000) (nh : s.highs.length ≤ 1000) : Fn Tryz.prog 47 [] [.t (.agg [.d (.sl 5 (s.lows.map SideD.d)), .d (.sl 5 (s.highs.map SideD.d)), .d (.sl 4 (s.others.map RelD.d))])] (vb (exactS s)) [] := by
 refine Fn.body Tryz.func47 rfl 11 rfl fun w H B a h => ?_
 refine rSeq fam0ok 0 [] [(1, vp 0 0), (2, vb false)] [(0, .box [.d (.sl 5 (s.lows.map SideD.d)), .d (.sl 5 (s.highs.map SideD.d)), .d (.sl 4 (s.others.map RelD.d))])] (by kernel_rfl) h ?_; clear h; intro a w h
 rcases Bool.eq_false_or_eq_true (onesS s.lows) with hc | hc
 ·have hc1 := hc; clear hc
  refine rSeq fam0ok 1 [(2, .call (Fn.cast (SOnes s.lows hl nl) (congrArg vb hc1)) hb_6)] [(2, vb true)] [] (by kernel_rfl) h ?_; clear h; intro a w h
  refine wp_ret ?_
  refine retS [.c (.d (.raw (.bool true)))] h Exit.ret (.inl rfl)  rfl ⟨RV.tmp _ _ rfl, trivial⟩ ?_ (by kernel_rfl) (by kernel_rfl)
  have hz : exactS s = (true) := by unfold exactS; rw [hc1]; rfl
  rw [hz]; first | done | rfl
 ·have hc2 := hc; clear hc
  refine rSeq fam0ok 1 [(2, .call (Fn.cast (SOnes s.lows hl nl) (congrArg vb hc2)) hb_6), (6, .call (SOnes s.highs hh nh) hb_6)] [(2, vb (onesS s.highs))] [] (by kernel_rfl) h ?_; clear h; intro a w h
  refine wp_ret ?_
  refine retS [.c (.d (.raw (.bool (onesS s.highs))))] h Exit.ret (.inl rfl)  rfl ⟨RV.tmp _ _ rfl, trivial⟩ ?_ (by kernel_rfl) (by kernel_rfl)
  have hz : exactS s = (onesS s.highs) := by unfold exactS; rw [hc2]; rfl
  rw [hz]; first | done | rfl
set_option maxHeartbeats 4000000 in
theorem SBright (low high : SideD) (hlow : SideOk low) (hhigh : SideOk high) : Fn Tryz.prog 52 [] [.t (.agg (zi low.times ++ [.d (.sl 3 (low.rest.parts.map Part.d))] ++ zi low.rest.k)), .t (.agg (zi high.times ++ [.d (.sl 3 (high.rest.parts.map Part.d))] ++ zi high.rest.k))] (.t (.agg ([.d (.sl 3 ((brightT low high).parts.map Part.d))] ++ zi (brightT low high).k))) [] := by
 have ll := hlow.len
 have lh := hhigh.len
 refine Fn.body Tryz.func52 rfl 16 rfl fun w H B a h => ?_
 refine rSeq fam0ok 0 [] [(2, vp 0 0), (3, vp 1 0), (4, vp 2 0)] [(0, .box (zi low.times ++ [.d (.sl 3 (low.rest.parts.map Part.d))] ++ zi low.rest.k)), (1, .box (zi high.times ++ [.d (.sl 3 (high.rest.parts.map Part.d))] ++ zi high.rest.k)), (2, .box [.d (.raw nilV), .d (.raw (.bool false)), .d (nsl [])])] (by kernel_rfl) h ?_; clear h; intro a w h
 refine rSeq fam0ok 3 [(4, .call (SScale high.rest low.times hhigh.rest (by decide) hlow.lb hlow.len (by decide)) tm_13), (9, .call (SScale low.rest high.times hlow.rest (by decide) hhigh.lb hhigh.len (by decide)) tm_13), (10, .call (STAdd (scaleT high.rest low.times) (scaleT low.rest high.times) ((scaleT_ok hhigh.rest hlow.lb hlow.len (by decide)).mono (by decide) (by decide)) ((scaleT_ok hlow.rest hhigh.lb hhigh.len (by decide)).mono (by decide) (by decide))) tm_15)] [(4, vp 2 0)] [(2, .box ([.d (.sl 3 ((addT (scaleT high.rest low.times) (scaleT low.rest high.times)).parts.map Part.d))] ++ zi (addT (scaleT high.rest low.times) (scaleT low.rest high.times)).k))] (by kernel_rfl) h ?_; clear h; intro a w h
 refine wp_ret ?_
 refine retS [.agg ([.d (.sl 3 ((addT (scaleT high.rest low.times) (scaleT low.rest high.times)).parts.map Part.d))] ++ zi (addT (scaleT high.rest low.times) (scaleT low.rest high.times)).k)] h Exit.ret (.inl rfl)  rfl ⟨RV.agg _ 2 0 _ _ _ _ tb_11 rfl rfl rfl rfl, trivial⟩ ?_ (by kernel_rfl) (by kernel_rfl)
 rfl
theorem num_len {k : ZI} {L : Nat} (hk : Lb k.abs) (lk : k.abs.length ≤ L) : (ZI.of k.val).abs.length ≤ L := Nat.le_trans (len_id hk) lk
set_option maxHeartbeats 4000000 in
theorem SDark (low high : SideD) (hlow : SideOk low) (hhigh : SideOk high) : Fn Tryz.prog 60 [] [.t (.agg (zi low.times ++ [.d (.sl 3 (low.rest.parts.map Part.d))] ++ zi low.rest.k)), .t (.agg (zi high.times ++ [.d (.sl 3 (high.rest.parts.map Part.d))] ++ zi high.rest.k))] (.t (.agg ([.d (.sl 3 ((darkT low high).parts.map Part.d))] ++ zi (darkT low high).k))) [] := by
 have ll := hlow.len
 have lh := hhigh.len
 refine Fn.body Tryz.func60 rfl 23 rfl fun w H B a h => ?_
 refine rSeq fam0ok 0 [] [(2, vp 0 0), (3, vp 1 0), (4, vp 2 0)] [(0, .box (zi low.times ++ [.d (.sl 3 (low.rest.parts.map Part.d))] ++ zi low.rest.k)), (1, .box (zi high.times ++ [.d (.sl 3 (high.rest.parts.map Part.d))] ++ zi high.rest.k)), (2, .box [.d (.raw nilV), .d (.raw (.bool false)), .d (nsl [])])] (by kernel_rfl) h ?_; clear h; intro a w h
 obtain ⟨r1, er1, vr1, or1, lr1⟩ := mkZ (v := 1) (m := 2) (ZI.len_of (by have := pw2; omega))
 refine rSeq fam0ok 3 [(0, .call (Fn.cast (SOf 1 ⟨by omega, by omega⟩) (congrArg vz er1.symm)) tm_10)] [(2, vp 0 0), (3, vp 1 0), (4, vp 2 0), (5, vp 3 0)] [(0, .box (zi low.times ++ [.d (.sl 3 (low.rest.parts.map Part.d))] ++ zi low.rest.k)), (1, .box (zi high.times ++ [.d (.sl 3 (high.rest.parts.map Part.d))] ++ zi high.rest.k)), (2, .box [.d (.raw nilV), .d (.raw (.bool false)), .d (nsl [])]), (3, .box (zi r1))] (by kernel_rfl) h ?_; clear h; intro a w h
 obtain ⟨r2, er2, vr2, or2, lr2⟩ := mkZ (v := low.times.val - r1.val) (m := low.times.abs.length + r1.abs.length + 1) (len_sub hlow.lb or1)
 obtain ⟨r3, er3, vr3, or3, lr3⟩ := mkZ (v := high.times.val - r1.val) (m := high.times.abs.length + r1.abs.length + 1) (len_sub hhigh.lb or1)
 obtain ⟨r4, er4, vr4, or4, lr4⟩ := mkZ (v := r2.val * r3.val) (m := r2.abs.length + r3.abs.length) (len_mul or2 or3)
 refine rSeq fam0ok 4 [(3, .call (Fn.cast (SSub low.times r1 hlow.lb or1 (by omega) (by omega)) (congrArg vz er2.symm)) zs_16), (7, .call (Fn.cast (SSub high.times r1 hhigh.lb or1 (by omega) (by omega)) (congrArg vz er3.symm)) zs_16), (8, .call (Fn.cast (SMul r2 r3 or2 or3 (by omega) (by omega)) (congrArg vz er4.symm)) tm_12)] [(2, vp 0 0), (3, vp 1 0), (4, vp 2 0), (6, vp 4 0)] [(0, .box (zi low.times ++ [.d (.sl 3 (low.rest.parts.map Part.d))] ++ zi low.rest.k)), (1, .box (zi high.times ++ [.d (.sl 3 (high.rest.parts.map Part.d))] ++ zi high.rest.k)), (2, .box [.d (.raw nilV), .d (.raw (.bool false)), .d (nsl [])]), (4, .box (zi r4))] (by kernel_rfl) h ?_; clear h; intro a w h
 refine rSeq fam0ok 5 [(2, .call (SBright low high hlow hhigh) hb_12), (4, .call (SNumber r4 or4 (by omega)) to_7), (5, .call (STSub (brightT low high) (numT r4) ((bright_ok hlow hhigh).mono (by decide) (by decide)) ((TOk.num (L := 40) (ZI.lb_of _) (num_len or4 (show r4.abs.length ≤ 40 by omega))).mono (by decide) (by decide))) to_9)] [(4, vp 2 0)] [(2, .box ([.d (.sl 3 ((subT (brightT low high) (numT r4)).parts.map Part.d))] ++ zi (subT (brightT low high) (numT r4)).k))] (by kernel_rfl) h ?_; clear h; intro a w h
 refine wp_ret ?_
 refine retS [.agg ([.d (.sl 3 ((subT (brightT low high) (numT r4)).parts.map Part.d))] ++ zi (subT (brightT low high) (numT r4)).k)] h Exit.ret (.inl rfl)  rfl ⟨RV.agg _ 2 0 _ _ _ _ tb_11 rfl rfl rfl rfl, trivial⟩ ?_ (by kernel_rfl) (by kernel_rfl)
 have hz : darkT low high = subT (brightT low high) (numT r4) := by unfold darkT; rw [er4]; congr 3; simp only [vr1, vr2, vr3]
 rw [hz]; first | done | rfl
theorem each_len {rs : List RelD} (h : RsOk rs) {sh : SideD → SideD → Term} (v : Int) (j : Nat) : (othersOf rs v ++ ((lowsOf rs v).take j).flatMap fun l => (highsOf rs v).map fun h => lstR (sh l h)).length ≤ 420 := by
 have h1 := lows_len h v; have h2 := highs_len h v; have h3 := others_len h v
 have h4 := flat_bd (g := fun l => (highsOf rs v).map fun h => lstR (sh l h)) (k := 20) (fun x => by rw [List.length_map]; exact h2) ((lowsOf rs v).take j)
 rw [List.length_take] at h4
 rw [List.length_append]
 have h5 : min j (lowsOf rs v).length * 20 ≤ 20 * 20 := Nat.mul_le_mul_right 20 (by omega)
 omega
set_option maxHeartbeats 4000000 in
theorem SEachBright (rs : List RelD) (v : Int) (hrs : RsOk rs) : Fn Tryz.prog 51 [] [.t (.c (.d (.sl 4 (rs.map RelD.d)))), vi .i64 v, .t (.c (.fn (.func 52) [] []))] (.t (.c (.d (.sl 4 ((eachS brightT rs v).map RelD.d))))) [] := by
 have lrs := hrs.1
 have nl := lows_len hrs v
 have nh := highs_len hrs v
 have no := others_len hrs v
 refine Fn.body Tryz.func51 rfl 43 rfl fun w H B a h => ?_
 refine rSeq fam0ok 5 [] [(0, .t (.c (.d (.sl 4 (rs.map RelD.d))))), (1, vi .i64 v), (2, .t (.c (.fn (.func 52) [] []))), (6, .t (.c (.d (.raw nilV))))] [] (by kernel_rfl) h ?_; clear h; intro a w h
 refine rSeq fam0ok 5 [(2, .call (SsplitO rs v hrs) hb_15)] [(2, .t (.c (.fn (.func 52) [] []))), (6, .t (.c (.d (.raw nilV)))), (7, vp 5 0)] [(0, .row 45 4 ((othersOf rs v).map RelD.d)), (5, .box [.d (.sl 5 ((lowsOf rs v).map SideD.d)), .d (.sl 5 ((highsOf rs v).map SideD.d)), .own 0 (othersOf rs v).length])] (by kernel_rfl) h ?_; clear h; intro a w h
 refine rSeq fam0ok 6 [] [(2, .t (.c (.fn (.func 52) [] []))), (6, .t (.c (.d (.raw nilV)))), (7, vp 5 0), (8, .t (.c (.own 0 (othersOf rs v).length)))] [(0, .row 45 4 ((othersOf rs v).map RelD.d)), (5, .box [.d (.sl 5 ((lowsOf rs v).map SideD.d)), .d (.sl 5 ((highsOf rs v).map SideD.d)), .own 0 (othersOf rs v).length])] (by kernel_rfl) h ?_; clear h; intro a w h
 refine wp_seq ?_
 replace h := anyLs 5 2 [.d (.sl 5 ((lowsOf rs v).map SideD.d)), .d (.sl 5 ((highsOf rs v).map SideD.d)), .own 0 (othersOf rs v).length] (.own 0 (othersOf rs v).length) [(2, .t (.c (.fn (.func 52) [] []))), (6, .t (.c (.d (.raw nilV)))), (7, vp 5 0), (8, .t (.c (.own 0 (othersOf rs v).length)))] [(0, .row 45 4 ((othersOf rs v).map RelD.d)), (5, .box [.d (.sl 5 ((lowsOf rs v).map SideD.d)), .d (.sl 5 ((highsOf rs v).map SideD.d)), .any])] h rfl rfl (by kernel_rfl) (by kernel_rfl)
 refine rSeq fam0ok 6 [(2, .len (c := (.d (.sl 5 ((lowsOf rs v).map SideD.d)))) (n := (lowsOf rs v).length) (lenC_map _ _ _))] [(2, .t (.c (.fn (.func 52) [] []))), (6, .t (.c (.d (.raw nilV)))), (7, vp 5 0), (8, .t (.c (.own 0 (othersOf rs v).length))), (19, .t (.c (.d (.sl 5 ((lowsOf rs v).map SideD.d))))), (20, vi .i64 ((lowsOf rs v).length : Int)), (21, vi .i64 0)] [(0, .row 45 4 ((othersOf rs v).map RelD.d)), (5, .box [.d (.sl 5 ((lowsOf rs v).map SideD.d)), .d (.sl 5 ((highsOf rs v).map SideD.d)), .any])] (by kernel_rfl) h ?_; clear h; intro a w h
 refine wp_block ?_
 replace h := h.conv (f' := F.of [(2, .t (.c (.fn (.func 52) [] []))), (6, .t (.c (.d (.raw nilV)))), (7, vp 5 0), (8, .t (.c (.own 0 ((othersOf rs v) ++ ((lowsOf rs v).take 0).flatMap (fun l => (highsOf rs v).map fun h => lstR (brightT l h))).length))), (19, .t (.c (.d (.sl 5 ((lowsOf rs v).map SideD.d))))), (20, vi .i64 ((lowsOf rs v).length : Int)), (21, vi .i64 0)] [(0, .row 45 4 (((othersOf rs v) ++ ((lowsOf rs v).take 0).flatMap (fun l => (highsOf rs v).map fun h => lstR (brightT l h))).map RelD.d)), (5, .box [.d (.sl 5 ((lowsOf rs v).map SideD.d)), .d (.sl 5 ((highsOf rs v).map SideD.d)), .any])]) (congrArg (fun (z_ : List RelD) => F.of [(2, .t (.c (.fn (.func 52) [] []))), (6, .t (.c (.d (.raw nilV)))), (7, vp 5 0), (8, .t (.c (.own 0 z_.length))), (19, .t (.c (.d (.sl 5 ((lowsOf rs v).map SideD.d))))), (20, vi .i64 ((lowsOf rs v).length : Int)), (21, vi .i64 0)] [(0, .row 45 4 (z_.map RelD.d)), (5, .box [.d (.sl 5 ((lowsOf rs v).map SideD.d)), .d (.sl 5 ((highsOf rs v).map SideD.d)), .any])]) (show ((othersOf rs v) : List RelD) = ((othersOf rs v) ++ ((lowsOf rs v).take 0).flatMap (fun l => (highsOf rs v).map fun h => lstR (brightT l h))) from (by simp)))
 refine loopS (ι := (Nat)) (fun (z_ : (Nat)) => match z_ with | j => j ≤ (lowsOf rs v).length)
   (fun (z_ : (Nat)) => match z_ with | j => [(2, .t (.c (.fn (.func 52) [] []))), (6, .t (.c (.d (.raw nilV)))), (7, vp 5 0), (8, .t (.c (.own 0 ((othersOf rs v) ++ ((lowsOf rs v).take j).flatMap (fun l => (highsOf rs v).map fun h => lstR (brightT l h))).length))), (19, .t (.c (.d (.sl 5 ((lowsOf rs v).map SideD.d))))), (20, vi .i64 ((lowsOf rs v).length : Int)), (21, vi .i64 (j : Int))])
   (fun (z_ : (Nat)) => match z_ with | j => [(0, .row 45 4 (((othersOf rs v) ++ ((lowsOf rs v).take j).flatMap (fun l => (highsOf rs v).map fun h => lstR (brightT l h))).map RelD.d)), (5, .box [.d (.sl 5 ((lowsOf rs v).map SideD.d)), .d (.sl 5 ((highsOf rs v).map SideD.d)), .any])])
   (fun (z_ : (Nat)) => match z_ with | j => (lowsOf rs v).length - j) 0 ?_ h (by kernel_rfl) (by kernel_rfl) ?_
 ·exact Nat.zero_le _
 ·clear h; rintro j a w hI h
  change St _ (F.of [(2, .t (.c (.fn (.func 52) [] []))), (6, .t (.c (.d (.raw nilV)))), (7, vp 5 0), (8, .t (.c (.own 0 ((othersOf rs v) ++ ((lowsOf rs v).take j).flatMap (fun l => (highsOf rs v).map fun h => lstR (brightT l h))).length))), (19, .t (.c (.d (.sl 5 ((lowsOf rs v).map SideD.d))))), (20, vi .i64 ((lowsOf rs v).length : Int)), (21, vi .i64 (j : Int))] [(0, .row 45 4 (((othersOf rs v) ++ ((lowsOf rs v).take j).flatMap (fun l => (highsOf rs v).map fun h => lstR (brightT l h))).map RelD.d)), (5, .box [.d (.sl 5 ((lowsOf rs v).map SideD.d)), .d (.sl 5 ((highsOf rs v).map SideD.d)), .any])]) a w at h
  have oj := each_len (sh := brightT) hrs v j
  refine rSeq fam0ok 6 [] [(2, .t (.c (.fn (.func 52) [] []))), (6, .t (.c (.d (.raw nilV)))), (7, vp 5 0), (8, .t (.c (.own 0 ((othersOf rs v) ++ ((lowsOf rs v).take j).flatMap (fun l => (highsOf rs v).map fun h => lstR (brightT l h))).length))), (19, .t (.c (.d (.sl 5 ((lowsOf rs v).map SideD.d))))), (20, vi .i64 ((lowsOf rs v).length : Int)), (21, vi .i64 (j : Int)), (22, vb (decide ((j : Int) < ((lowsOf rs v).length : Int))))] [(0, .row 45 4 (((othersOf rs v) ++ ((lowsOf rs v).take j).flatMap (fun l => (highsOf rs v).map fun h => lstR (brightT l h))).map RelD.d)), (5, .box [.d (.sl 5 ((lowsOf rs v).map SideD.d)), .d (.sl 5 ((highsOf rs v).map SideD.d)), .any])] (by kernel_rfl) h ?_; clear h; intro a w h
  refine wp_seq ?_
  refine condS (decide ((j : Int) < ((lowsOf rs v).length : Int))) h rfl (fun hc => ?_) (fun hc => ?_)
  ·have hc1 := hc; clear hc
   have hc1' := of_decide_eq_true hc1
   refine wp_skip ?_
   refine then_n ?_
   refine wp_seq ?_
   refine wp_block ?_
   obtain ⟨x2, hx2⟩ : ∃ z_ : SideD, (lowsOf rs v)[j]? = some z_ := ⟨_, List.getElem?_eq_getElem (by first | omega | (simp at *; omega))⟩
   have hx2_ := lows_ok hrs v x2 (List.mem_of_getElem? hx2)
   refine rSeq fam0ok 6 [(0, .gen _ _ _ fun _ _ _ _ => Op.idxD (d := 23) (t := 19) (k := .i64) hb_1 (map_at hx2 (f := SideD.d)) (OV.tmp 21 _))] [(2, .t (.c (.fn (.func 52) [] []))), (6, .t (.c (.d (.raw nilV)))), (7, vp 5 0), (8, .t (.c (.own 0 ((othersOf rs v) ++ ((lowsOf rs v).take j).flatMap (fun l => (highsOf rs v).map fun h => lstR (brightT l h))).length))), (10, vp 6 0), (19, .t (.c (.d (.sl 5 ((lowsOf rs v).map SideD.d))))), (20, vi .i64 ((lowsOf rs v).length : Int)), (21, vi .i64 (j : Int))] [(0, .row 45 4 (((othersOf rs v) ++ ((lowsOf rs v).take j).flatMap (fun l => (highsOf rs v).map fun h => lstR (brightT l h))).map RelD.d)), (5, .box [.d (.sl 5 ((lowsOf rs v).map SideD.d)), .d (.sl 5 ((highsOf rs v).map SideD.d)), .any]), (6, .box (zi x2.times ++ [.d (.sl 3 (x2.rest.parts.map Part.d))] ++ zi x2.rest.k))] (by kernel_rfl) h ?_; clear h; intro a w h
   refine rSeq fam0ok 7 [(2, .len (c := (.d (.sl 5 ((highsOf rs v).map SideD.d)))) (n := (highsOf rs v).length) (lenC_map _ _ _))] [(2, .t (.c (.fn (.func 52) [] []))), (6, .t (.c (.d (.raw nilV)))), (7, vp 5 0), (8, .t (.c (.own 0 ((othersOf rs v) ++ ((lowsOf rs v).take j).flatMap (fun l => (highsOf rs v).map fun h => lstR (brightT l h))).length))), (10, vp 6 0), (19, .t (.c (.d (.sl 5 ((lowsOf rs v).map SideD.d))))), (20, vi .i64 ((lowsOf rs v).length : Int)), (21, vi .i64 (j : Int)), (26, .t (.c (.d (.sl 5 ((highsOf rs v).map SideD.d))))), (27, vi .i64 ((highsOf rs v).length : Int)), (28, vi .i64 0)] [(0, .row 45 4 (((othersOf rs v) ++ ((lowsOf rs v).take j).flatMap (fun l => (highsOf rs v).map fun h => lstR (brightT l h))).map RelD.d)), (5, .box [.d (.sl 5 ((lowsOf rs v).map SideD.d)), .d (.sl 5 ((highsOf rs v).map SideD.d)), .any]), (6, .box (zi x2.times ++ [.d (.sl 3 (x2.rest.parts.map Part.d))] ++ zi x2.rest.k))] (by kernel_rfl) h ?_; clear h; intro a w h
   refine wp_block ?_
   replace h := h.conv (f' := F.of [(2, .t (.c (.fn (.func 52) [] []))), (6, .t (.c (.d (.raw nilV)))), (7, vp 5 0), (8, .t (.c (.own 0 (((othersOf rs v) ++ ((lowsOf rs v).take j).flatMap (fun l => (highsOf rs v).map fun h => lstR (brightT l h))) ++ ((highsOf rs v).take 0).map (fun h => lstR (brightT x2 h))).length))), (10, vp 6 0), (19, .t (.c (.d (.sl 5 ((lowsOf rs v).map SideD.d))))), (20, vi .i64 ((lowsOf rs v).length : Int)), (21, vi .i64 (j : Int)), (26, .t (.c (.d (.sl 5 ((highsOf rs v).map SideD.d))))), (27, vi .i64 ((highsOf rs v).length : Int)), (28, vi .i64 0)] [(0, .row 45 4 ((((othersOf rs v) ++ ((lowsOf rs v).take j).flatMap (fun l => (highsOf rs v).map fun h => lstR (brightT l h))) ++ ((highsOf rs v).take 0).map (fun h => lstR (brightT x2 h))).map RelD.d)), (5, .box [.d (.sl 5 ((lowsOf rs v).map SideD.d)), .d (.sl 5 ((highsOf rs v).map SideD.d)), .any]), (6, .box (zi x2.times ++ [.d (.sl 3 (x2.rest.parts.map Part.d))] ++ zi x2.rest.k))]) (congrArg (fun (z_ : List RelD) => F.of [(2, .t (.c (.fn (.func 52) [] []))), (6, .t (.c (.d (.raw nilV)))), (7, vp 5 0), (8, .t (.c (.own 0 z_.length))), (10, vp 6 0), (19, .t (.c (.d (.sl 5 ((lowsOf rs v).map SideD.d))))), (20, vi .i64 ((lowsOf rs v).length : Int)), (21, vi .i64 (j : Int)), (26, .t (.c (.d (.sl 5 ((highsOf rs v).map SideD.d))))), (27, vi .i64 ((highsOf rs v).length : Int)), (28, vi .i64 0)] [(0, .row 45 4 (z_.map RelD.d)), (5, .box [.d (.sl 5 ((lowsOf rs v).map SideD.d)), .d (.sl 5 ((highsOf rs v).map SideD.d)), .any]), (6, .box (zi x2.times ++ [.d (.sl 3 (x2.rest.parts.map Part.d))] ++ zi x2.rest.k))]) (show (((othersOf rs v) ++ ((lowsOf rs v).take j).flatMap (fun l => (highsOf rs v).map fun h => lstR (brightT l h))) : List RelD) = (((othersOf rs v) ++ ((lowsOf rs v).take j).flatMap (fun l => (highsOf rs v).map fun h => lstR (brightT l h))) ++ ((highsOf rs v).take 0).map (fun h => lstR (brightT x2 h))) from (by simp)))
   refine loopS (ι := (Nat)) (fun (z_ : (Nat)) => match z_ with | i => i ≤ (highsOf rs v).length)
     (fun (z_ : (Nat)) => match z_ with | i => [(2, .t (.c (.fn (.func 52) [] []))), (6, .t (.c (.d (.raw nilV)))), (7, vp 5 0), (8, .t (.c (.own 0 (((othersOf rs v) ++ ((lowsOf rs v).take j).flatMap (fun l => (highsOf rs v).map fun h => lstR (brightT l h))) ++ ((highsOf rs v).take i).map (fun h => lstR (brightT x2 h))).length))), (10, vp 6 0), (19, .t (.c (.d (.sl 5 ((lowsOf rs v).map SideD.d))))), (20, vi .i64 ((lowsOf rs v).length : Int)), (21, vi .i64 (j : Int)), (26, .t (.c (.d (.sl 5 ((highsOf rs v).map SideD.d))))), (27, vi .i64 ((highsOf rs v).length : Int)), (28, vi .i64 (i : Int))])
     (fun (z_ : (Nat)) => match z_ with | i => [(0, .row 45 4 ((((othersOf rs v) ++ ((lowsOf rs v).take j).flatMap (fun l => (highsOf rs v).map fun h => lstR (brightT l h))) ++ ((highsOf rs v).take i).map (fun h => lstR (brightT x2 h))).map RelD.d)), (5, .box [.d (.sl 5 ((lowsOf rs v).map SideD.d)), .d (.sl 5 ((highsOf rs v).map SideD.d)), .any]), (6, .box (zi x2.times ++ [.d (.sl 3 (x2.rest.parts.map Part.d))] ++ zi x2.rest.k))])
     (fun (z_ : (Nat)) => match z_ with | i => (highsOf rs v).length - i) 0 ?_ h (by kernel_rfl) (by kernel_rfl) ?_
   ·exact Nat.zero_le _
   ·clear h; rintro i a w hI h
    change St _ (F.of [(2, .t (.c (.fn (.func 52) [] []))), (6, .t (.c (.d (.raw nilV)))), (7, vp 5 0), (8, .t (.c (.own 0 (((othersOf rs v) ++ ((lowsOf rs v).take j).flatMap (fun l => (highsOf rs v).map fun h => lstR (brightT l h))) ++ ((highsOf rs v).take i).map (fun h => lstR (brightT x2 h))).length))), (10, vp 6 0), (19, .t (.c (.d (.sl 5 ((lowsOf rs v).map SideD.d))))), (20, vi .i64 ((lowsOf rs v).length : Int)), (21, vi .i64 (j : Int)), (26, .t (.c (.d (.sl 5 ((highsOf rs v).map SideD.d))))), (27, vi .i64 ((highsOf rs v).length : Int)), (28, vi .i64 (i : Int))] [(0, .row 45 4 ((((othersOf rs v) ++ ((lowsOf rs v).take j).flatMap (fun l => (highsOf rs v).map fun h => lstR (brightT l h))) ++ ((highsOf rs v).take i).map (fun h => lstR (brightT x2 h))).map RelD.d)), (5, .box [.d (.sl 5 ((lowsOf rs v).map SideD.d)), .d (.sl 5 ((highsOf rs v).map SideD.d)), .any]), (6, .box (zi x2.times ++ [.d (.sl 3 (x2.rest.parts.map Part.d))] ++ zi x2.rest.k))]) a w at h
    have ij : (((othersOf rs v) ++ ((lowsOf rs v).take j).flatMap (fun l => (highsOf rs v).map fun h => lstR (brightT l h))) ++ ((highsOf rs v).take i).map (fun h => lstR (brightT x2 h))).length ≤ 500 := by rw [List.length_append, List.length_map, List.length_take]; omega
    refine rSeq fam0ok 7 [] [(2, .t (.c (.fn (.func 52) [] []))), (6, .t (.c (.d (.raw nilV)))), (7, vp 5 0), (8, .t (.c (.own 0 (((othersOf rs v) ++ ((lowsOf rs v).take j).flatMap (fun l => (highsOf rs v).map fun h => lstR (brightT l h))) ++ ((highsOf rs v).take i).map (fun h => lstR (brightT x2 h))).length))), (10, vp 6 0), (19, .t (.c (.d (.sl 5 ((lowsOf rs v).map SideD.d))))), (20, vi .i64 ((lowsOf rs v).length : Int)), (21, vi .i64 (j : Int)), (26, .t (.c (.d (.sl 5 ((highsOf rs v).map SideD.d))))), (27, vi .i64 ((highsOf rs v).length : Int)), (28, vi .i64 (i : Int)), (29, vb (decide ((i : Int) < ((highsOf rs v).length : Int))))] [(0, .row 45 4 ((((othersOf rs v) ++ ((lowsOf rs v).take j).flatMap (fun l => (highsOf rs v).map fun h => lstR (brightT l h))) ++ ((highsOf rs v).take i).map (fun h => lstR (brightT x2 h))).map RelD.d)), (5, .box [.d (.sl 5 ((lowsOf rs v).map SideD.d)), .d (.sl 5 ((highsOf rs v).map SideD.d)), .any]), (6, .box (zi x2.times ++ [.d (.sl 3 (x2.rest.parts.map Part.d))] ++ zi x2.rest.k))] (by kernel_rfl) h ?_; clear h; intro a w h
    refine wp_seq ?_
    refine condS (decide ((i : Int) < ((highsOf rs v).length : Int))) h rfl (fun hc => ?_) (fun hc => ?_)
    ·have hc2 := hc; clear hc
     have hc2' := of_decide_eq_true hc2
     refine wp_skip ?_
     refine then_n ?_
     refine wp_seq ?_
     refine wp_block ?_
     obtain ⟨x3, hx3⟩ : ∃ z_ : SideD, (highsOf rs v)[i]? = some z_ := ⟨_, List.getElem?_eq_getElem (by first | omega | (simp at *; omega))⟩
     have hx3_ := highs_ok hrs v x3 (List.mem_of_getElem? hx3)
     refine rSeq fam0ok 7 [(0, .gen _ _ _ fun _ _ _ _ => Op.idxD (d := 30) (t := 26) (k := .i64) hb_1 (map_at hx3 (f := SideD.d)) (OV.tmp 28 _))] [(2, .t (.c (.fn (.func 52) [] []))), (6, .t (.c (.d (.raw nilV)))), (7, vp 5 0), (8, .t (.c (.own 0 (((othersOf rs v) ++ ((lowsOf rs v).take j).flatMap (fun l => (highsOf rs v).map fun h => lstR (brightT l h))) ++ ((highsOf rs v).take i).map (fun h => lstR (brightT x2 h))).length))), (10, vp 6 0), (12, vp 7 0), (19, .t (.c (.d (.sl 5 ((lowsOf rs v).map SideD.d))))), (20, vi .i64 ((lowsOf rs v).length : Int)), (21, vi .i64 (j : Int)), (26, .t (.c (.d (.sl 5 ((highsOf rs v).map SideD.d))))), (27, vi .i64 ((highsOf rs v).length : Int)), (28, vi .i64 (i : Int))] [(0, .row 45 4 ((((othersOf rs v) ++ ((lowsOf rs v).take j).flatMap (fun l => (highsOf rs v).map fun h => lstR (brightT l h))) ++ ((highsOf rs v).take i).map (fun h => lstR (brightT x2 h))).map RelD.d)), (5, .box [.d (.sl 5 ((lowsOf rs v).map SideD.d)), .d (.sl 5 ((highsOf rs v).map SideD.d)), .any]), (6, .box (zi x2.times ++ [.d (.sl 3 (x2.rest.parts.map Part.d))] ++ zi x2.rest.k)), (7, .box (zi x3.times ++ [.d (.sl 3 (x3.rest.parts.map Part.d))] ++ zi x3.rest.k))] (by kernel_rfl) h ?_; clear h; intro a w h
     refine rS fam0ok 8 [(4, .gen _ _ _ fun _ _ _ _ => Op.callV (d := 36) (t := 33) (cap := []) (args := [.t (.agg (zi x2.times ++ [.d (.sl 3 (x2.rest.parts.map Part.d))] ++ zi x2.rest.k)), .t (.agg (zi x3.times ++ [.d (.sl 3 (x3.rest.parts.map Part.d))] ++ zi x3.rest.k))]) (rs := [(34, .t (.agg (zi x2.times ++ [.d (.sl 3 (x2.rest.parts.map Part.d))] ++ zi x2.rest.k))), (35, .t (.agg (zi x3.times ++ [.d (.sl 3 (x3.rest.parts.map Part.d))] ++ zi x3.rest.k)))]) (tys := #[63, 63]) (SBright x2 x3 hx2_ hx3_) hb_12 (OVs.cons (OV.tmp 34 _) (OVs.cons (OV.tmp 35 _) (OVs.nil)))), (5, .call (SLeast (brightT x2 x3) ((bright_ok hx2_ hx3_).mono (by decide) (by decide))) ha_9), (6, .gen _ _ _ fun _ _ _ _ => Op.buildD (d := 38) (len := 1) (rows := [(lstR (brightT x2 x3))].map RelD.d) (rs := [(37, .t (.agg ([.d (.sl 3 ((lstR (brightT x2 x3)).t.parts.map Part.d))] ++ zi (lstR (brightT x2 x3)).t.k ++ [.d (.raw (.bool (lstR (brightT x2 x3)).eq))])))]) kc_5 (.cons (i := 0) (OV.tmp 37 _) (.nil)) (by kernel_rfl) rfl (by simp [RelD.d]) (by decide) (by decide)), (7, .gen _ _ _ fun _ _ _ _ => Op.appOD (d := 39) (t := 32) (u := 38) (n := 0) (n' := 8) (len := (((othersOf rs v) ++ ((lowsOf rs v).take j).flatMap (fun l => (highsOf rs v).map fun h => lstR (brightT l h))) ++ ((highsOf rs v).take i).map (fun h => lstR (brightT x2 h))).length) (len' := ((((othersOf rs v) ++ ((lowsOf rs v).take j).flatMap (fun l => (highsOf rs v).map fun h => lstR (brightT l h))) ++ ((highsOf rs v).take i).map (fun h => lstR (brightT x2 h))) ++ [(lstR (brightT x2 x3))]).length) (rows := (((othersOf rs v) ++ ((lowsOf rs v).take j).flatMap (fun l => (highsOf rs v).map fun h => lstR (brightT l h))) ++ ((highsOf rs v).take i).map (fun h => lstR (brightT x2 h))).map RelD.d) (rows2 := [(lstR (brightT x2 x3))].map RelD.d) (rows' := ((((othersOf rs v) ++ ((lowsOf rs v).take j).flatMap (fun l => (highsOf rs v).map fun h => lstR (brightT l h))) ++ ((highsOf rs v).take i).map (fun h => lstR (brightT x2 h))) ++ [(lstR (brightT x2 x3))]).map RelD.d) ha_11 (by first | exact (List.length_map _).symm | simp) (by first | (rw [List.length_append, List.length_map]; done) | simp) (by simp) (by simp [RelD.d]) (by first | omega | (simp at *; done) | (simp at *; omega)))] [(2, .t (.c (.fn (.func 52) [] []))), (6, .t (.c (.d (.raw nilV)))), (7, vp 5 0), (8, .t (.c (.own 8 ((((othersOf rs v) ++ ((lowsOf rs v).take j).flatMap (fun l => (highsOf rs v).map fun h => lstR (brightT l h))) ++ ((highsOf rs v).take i).map (fun h => lstR (brightT x2 h))) ++ [(lstR (brightT x2 x3))]).length))), (10, vp 6 0), (19, .t (.c (.d (.sl 5 ((lowsOf rs v).map SideD.d))))), (20, vi .i64 ((lowsOf rs v).length : Int)), (21, vi .i64 (j : Int)), (26, .t (.c (.d (.sl 5 ((highsOf rs v).map SideD.d))))), (27, vi .i64 ((highsOf rs v).length : Int)), (28, vi .i64 (i : Int))] [(5, .box [.d (.sl 5 ((lowsOf rs v).map SideD.d)), .d (.sl 5 ((highsOf rs v).map SideD.d)), .any]), (6, .box (zi x2.times ++ [.d (.sl 3 (x2.rest.parts.map Part.d))] ++ zi x2.rest.k)), (8, .row 45 4 (((((othersOf rs v) ++ ((lowsOf rs v).take j).flatMap (fun l => (highsOf rs v).map fun h => lstR (brightT l h))) ++ ((highsOf rs v).take i).map (fun h => lstR (brightT x2 h))) ++ [(lstR (brightT x2 x3))]).map RelD.d))] (by kernel_rfl) h ?_; clear h; intro a w h
     refine block_n ?_
     refine then_n ?_
     refine rS fam0ok 9 [(0, .add .i64 (m := (i : Int)) (n := 1) (i64_id (by omega) (by omega)))] [(2, .t (.c (.fn (.func 52) [] []))), (6, .t (.c (.d (.raw nilV)))), (7, vp 5 0), (8, .t (.c (.own 8 ((((othersOf rs v) ++ ((lowsOf rs v).take j).flatMap (fun l => (highsOf rs v).map fun h => lstR (brightT l h))) ++ ((highsOf rs v).take i).map (fun h => lstR (brightT x2 h))) ++ [(lstR (brightT x2 x3))]).length))), (10, vp 6 0), (19, .t (.c (.d (.sl 5 ((lowsOf rs v).map SideD.d))))), (20, vi .i64 ((lowsOf rs v).length : Int)), (21, vi .i64 (j : Int)), (26, .t (.c (.d (.sl 5 ((highsOf rs v).map SideD.d))))), (27, vi .i64 ((highsOf rs v).length : Int)), (28, vi .i64 ((i : Int) + 1))] [(5, .box [.d (.sl 5 ((lowsOf rs v).map SideD.d)), .d (.sl 5 ((highsOf rs v).map SideD.d)), .any]), (6, .box (zi x2.times ++ [.d (.sl 3 (x2.rest.parts.map Part.d))] ++ zi x2.rest.k)), (8, .row 45 4 (((((othersOf rs v) ++ ((lowsOf rs v).take j).flatMap (fun l => (highsOf rs v).map fun h => lstR (brightT l h))) ++ ((highsOf rs v).take i).map (fun h => lstR (brightT x2 h))) ++ [(lstR (brightT x2 x3))]).map RelD.d))] (by kernel_rfl) h ?_; clear h; intro a w h
     refine then_n ?_
     replace h := h.conv (f' := F.of [(2, .t (.c (.fn (.func 52) [] []))), (6, .t (.c (.d (.raw nilV)))), (7, vp 5 0), (8, .t (.c (.own 8 (((othersOf rs v) ++ ((lowsOf rs v).take j).flatMap (fun l => (highsOf rs v).map fun h => lstR (brightT l h))) ++ ((highsOf rs v).take (i + 1)).map (fun h => lstR (brightT x2 h))).length))), (10, vp 6 0), (19, .t (.c (.d (.sl 5 ((lowsOf rs v).map SideD.d))))), (20, vi .i64 ((lowsOf rs v).length : Int)), (21, vi .i64 (j : Int)), (26, .t (.c (.d (.sl 5 ((highsOf rs v).map SideD.d))))), (27, vi .i64 ((highsOf rs v).length : Int)), (28, vi .i64 ((i : Int) + 1))] [(5, .box [.d (.sl 5 ((lowsOf rs v).map SideD.d)), .d (.sl 5 ((highsOf rs v).map SideD.d)), .any]), (6, .box (zi x2.times ++ [.d (.sl 3 (x2.rest.parts.map Part.d))] ++ zi x2.rest.k)), (8, .row 45 4 ((((othersOf rs v) ++ ((lowsOf rs v).take j).flatMap (fun l => (highsOf rs v).map fun h => lstR (brightT l h))) ++ ((highsOf rs v).take (i + 1)).map (fun h => lstR (brightT x2 h))).map RelD.d))]) (congrArg (fun (z_ : List RelD) => F.of [(2, .t (.c (.fn (.func 52) [] []))), (6, .t (.c (.d (.raw nilV)))), (7, vp 5 0), (8, .t (.c (.own 8 z_.length))), (10, vp 6 0), (19, .t (.c (.d (.sl 5 ((lowsOf rs v).map SideD.d))))), (20, vi .i64 ((lowsOf rs v).length : Int)), (21, vi .i64 (j : Int)), (26, .t (.c (.d (.sl 5 ((highsOf rs v).map SideD.d))))), (27, vi .i64 ((highsOf rs v).length : Int)), (28, vi .i64 ((i : Int) + 1))] [(5, .box [.d (.sl 5 ((lowsOf rs v).map SideD.d)), .d (.sl 5 ((highsOf rs v).map SideD.d)), .any]), (6, .box (zi x2.times ++ [.d (.sl 3 (x2.rest.parts.map Part.d))] ++ zi x2.rest.k)), (8, .row 45 4 (z_.map RelD.d))]) (show (((((othersOf rs v) ++ ((lowsOf rs v).take j).flatMap (fun l => (highsOf rs v).map fun h => lstR (brightT l h))) ++ ((highsOf rs v).take i).map (fun h => lstR (brightT x2 h))) ++ [(lstR (brightT x2 x3))]) : List RelD) = (((othersOf rs v) ++ ((lowsOf rs v).take j).flatMap (fun l => (highsOf rs v).map fun h => lstR (brightT l h))) ++ ((highsOf rs v).take (i + 1)).map (fun h => lstR (brightT x2 h))) from (by rw [List.append_assoc]; congr 1; exact mapSnoc (f := fun h => lstR (brightT x2 h)) hx3)))
     replace h := renS 8 0 [(2, .t (.c (.fn (.func 52) [] []))), (6, .t (.c (.d (.raw nilV)))), (7, vp 5 0), (8, .t (.c (.own 0 (((othersOf rs v) ++ ((lowsOf rs v).take j).flatMap (fun l => (highsOf rs v).map fun h => lstR (brightT l h))) ++ ((highsOf rs v).take (i + 1)).map (fun h => lstR (brightT x2 h))).length))), (10, vp 6 0), (19, .t (.c (.d (.sl 5 ((lowsOf rs v).map SideD.d))))), (20, vi .i64 ((lowsOf rs v).length : Int)), (21, vi .i64 (j : Int)), (26, .t (.c (.d (.sl 5 ((highsOf rs v).map SideD.d))))), (27, vi .i64 ((highsOf rs v).length : Int)), (28, vi .i64 ((i : Int) + 1))] [(5, .box [.d (.sl 5 ((lowsOf rs v).map SideD.d)), .d (.sl 5 ((highsOf rs v).map SideD.d)), .any]), (6, .box (zi x2.times ++ [.d (.sl 3 (x2.rest.parts.map Part.d))] ++ zi x2.rest.k)), (0, .row 45 4 ((((othersOf rs v) ++ ((lowsOf rs v).take j).flatMap (fun l => (highsOf rs v).map fun h => lstR (brightT l h))) ++ ((highsOf rs v).take (i + 1)).map (fun h => lstR (brightT x2 h))).map RelD.d))] h (by kernel_rfl) (by kernel_rfl) (by kernel_rfl)
     refine roundS (x := i) (y := i + 1) h ?_ ?_ (by kernel_rfl) (by kernel_rfl)
     ·have := at_lt hx3
      show i + 1 ≤ (highsOf rs v).length
      omega
     ·show (highsOf rs v).length - (i + 1) < (highsOf rs v).length - i
      have := at_lt hx3; omega
    ·have hc3 := hc; clear hc
     have hc3' := of_decide_eq_false hc3
     refine wp_exit ?_
     refine then_x ?_
     refine then_x ?_
     refine inBlock_exit ?_
     refine block_n ?_
     refine then_n ?_
     refine rS fam0ok 9 [(0, .add .i64 (m := (j : Int)) (n := 1) (i64_id (by omega) (by omega)))] [(2, .t (.c (.fn (.func 52) [] []))), (6, .t (.c (.d (.raw nilV)))), (7, vp 5 0), (8, .t (.c (.own 0 (((othersOf rs v) ++ ((lowsOf rs v).take j).flatMap (fun l => (highsOf rs v).map fun h => lstR (brightT l h))) ++ ((highsOf rs v).take i).map (fun h => lstR (brightT x2 h))).length))), (19, .t (.c (.d (.sl 5 ((lowsOf rs v).map SideD.d))))), (20, vi .i64 ((lowsOf rs v).length : Int)), (21, vi .i64 ((j : Int) + 1))] [(0, .row 45 4 ((((othersOf rs v) ++ ((lowsOf rs v).take j).flatMap (fun l => (highsOf rs v).map fun h => lstR (brightT l h))) ++ ((highsOf rs v).take i).map (fun h => lstR (brightT x2 h))).map RelD.d)), (5, .box [.d (.sl 5 ((lowsOf rs v).map SideD.d)), .d (.sl 5 ((highsOf rs v).map SideD.d)), .any])] (by kernel_rfl) h ?_; clear h; intro a w h
     refine then_n ?_
     replace h := h.conv (f' := F.of [(2, .t (.c (.fn (.func 52) [] []))), (6, .t (.c (.d (.raw nilV)))), (7, vp 5 0), (8, .t (.c (.own 0 ((othersOf rs v) ++ ((lowsOf rs v).take (j + 1)).flatMap (fun l => (highsOf rs v).map fun h => lstR (brightT l h))).length))), (19, .t (.c (.d (.sl 5 ((lowsOf rs v).map SideD.d))))), (20, vi .i64 ((lowsOf rs v).length : Int)), (21, vi .i64 ((j : Int) + 1))] [(0, .row 45 4 (((othersOf rs v) ++ ((lowsOf rs v).take (j + 1)).flatMap (fun l => (highsOf rs v).map fun h => lstR (brightT l h))).map RelD.d)), (5, .box [.d (.sl 5 ((lowsOf rs v).map SideD.d)), .d (.sl 5 ((highsOf rs v).map SideD.d)), .any])]) (congrArg (fun (z_ : List RelD) => F.of [(2, .t (.c (.fn (.func 52) [] []))), (6, .t (.c (.d (.raw nilV)))), (7, vp 5 0), (8, .t (.c (.own 0 z_.length))), (19, .t (.c (.d (.sl 5 ((lowsOf rs v).map SideD.d))))), (20, vi .i64 ((lowsOf rs v).length : Int)), (21, vi .i64 ((j : Int) + 1))] [(0, .row 45 4 (z_.map RelD.d)), (5, .box [.d (.sl 5 ((lowsOf rs v).map SideD.d)), .d (.sl 5 ((highsOf rs v).map SideD.d)), .any])]) (show ((((othersOf rs v) ++ ((lowsOf rs v).take j).flatMap (fun l => (highsOf rs v).map fun h => lstR (brightT l h))) ++ ((highsOf rs v).take i).map (fun h => lstR (brightT x2 h))) : List RelD) = ((othersOf rs v) ++ ((lowsOf rs v).take (j + 1)).flatMap (fun l => (highsOf rs v).map fun h => lstR (brightT l h))) from (by rw [show (highsOf rs v).take i = (highsOf rs v) from List.take_of_length_le (by omega), List.append_assoc]; congr 1; exact flat_snoc (g := (fun l => (highsOf rs v).map fun h => lstR (brightT l h))) hx2 rfl)))
     refine roundS (x := j) (y := j + 1) h ?_ ?_ (by kernel_rfl) (by kernel_rfl)
     ·have := at_lt hx2
      show j + 1 ≤ (lowsOf rs v).length
      omega
     ·show (lowsOf rs v).length - (j + 1) < (lowsOf rs v).length - j
      have := at_lt hx2; omega
  ·have hc4 := hc; clear hc
   have hc4' := of_decide_eq_false hc4
   refine wp_exit ?_
   refine then_x ?_
   refine then_x ?_
   refine inBlock_exit ?_
   refine then_n ?_
   refine rSeq fam0ok 9 [] [(6, .t (.c (.own 0 ((othersOf rs v) ++ ((lowsOf rs v).take j).flatMap (fun l => (highsOf rs v).map fun h => lstR (brightT l h))).length)))] [(0, .row 45 4 (((othersOf rs v) ++ ((lowsOf rs v).take j).flatMap (fun l => (highsOf rs v).map fun h => lstR (brightT l h))).map RelD.d))] (by kernel_rfl) h ?_; clear h; intro a w h
   refine wp_ret ?_
   replace h := h.conv (f' := F.of [(6, .t (.c (.own 0 (eachS brightT rs v).length)))] [(0, .row 45 4 ((eachS brightT rs v).map RelD.d))]) (congrArg (fun (z_ : List RelD) => F.of [(6, .t (.c (.own 0 z_.length)))] [(0, .row 45 4 (z_.map RelD.d))]) (show (((othersOf rs v) ++ ((lowsOf rs v).take j).flatMap (fun l => (highsOf rs v).map fun h => lstR (brightT l h))) : List RelD) = (eachS brightT rs v) from (by unfold eachS; rw [List.take_of_length_le (by omega)])))
   replace h := pubS 0 4 45 ((eachS brightT rs v).map RelD.d) [(6, .t (.c (.d (.sl 4 ((eachS brightT rs v).map RelD.d)))))] [] h rfl (show AllEq _ [(eachS brightT rs v).length] from ⟨by first | exact (List.length_map _).symm | (simp; done) | (simp; omega), trivial⟩) trivial (by kernel_rfl) (by kernel_rfl)
   refine retS [.c (.d (.sl 4 ((eachS brightT rs v).map RelD.d)))] h Exit.ret (.inl rfl)  rfl ⟨RV.tmp _ _ rfl, trivial⟩ ?_ (by kernel_rfl) (by kernel_rfl)
   rfl
set_option maxHeartbeats 4000000 in
theorem SEachDark (rs : List RelD) (v : Int) (hrs : RsOk rs) : Fn Tryz.prog 51 [] [.t (.c (.d (.sl 4 (rs.map RelD.d)))), vi .i64 v, .t (.c (.fn (.func 60) [] []))] (.t (.c (.d (.sl 4 ((eachS darkT rs v).map RelD.d))))) [] := by
 have lrs := hrs.1
 have nl := lows_len hrs v
 have nh := highs_len hrs v
 have no := others_len hrs v
 refine Fn.body Tryz.func51 rfl 43 rfl fun w H B a h => ?_
 refine rSeq fam0ok 5 [] [(0, .t (.c (.d (.sl 4 (rs.map RelD.d))))), (1, vi .i64 v), (2, .t (.c (.fn (.func 60) [] []))), (6, .t (.c (.d (.raw nilV))))] [] (by kernel_rfl) h ?_; clear h; intro a w h
 refine rSeq fam0ok 5 [(2, .call (SsplitO rs v hrs) hb_15)] [(2, .t (.c (.fn (.func 60) [] []))), (6, .t (.c (.d (.raw nilV)))), (7, vp 5 0)] [(0, .row 45 4 ((othersOf rs v).map RelD.d)), (5, .box [.d (.sl 5 ((lowsOf rs v).map SideD.d)), .d (.sl 5 ((highsOf rs v).map SideD.d)), .own 0 (othersOf rs v).length])] (by kernel_rfl) h ?_; clear h; intro a w h
 refine rSeq fam0ok 6 [] [(2, .t (.c (.fn (.func 60) [] []))), (6, .t (.c (.d (.raw nilV)))), (7, vp 5 0), (8, .t (.c (.own 0 (othersOf rs v).length)))] [(0, .row 45 4 ((othersOf rs v).map RelD.d)), (5, .box [.d (.sl 5 ((lowsOf rs v).map SideD.d)), .d (.sl 5 ((highsOf rs v).map SideD.d)), .own 0 (othersOf rs v).length])] (by kernel_rfl) h ?_; clear h; intro a w h
 refine wp_seq ?_
 replace h := anyLs 5 2 [.d (.sl 5 ((lowsOf rs v).map SideD.d)), .d (.sl 5 ((highsOf rs v).map SideD.d)), .own 0 (othersOf rs v).length] (.own 0 (othersOf rs v).length) [(2, .t (.c (.fn (.func 60) [] []))), (6, .t (.c (.d (.raw nilV)))), (7, vp 5 0), (8, .t (.c (.own 0 (othersOf rs v).length)))] [(0, .row 45 4 ((othersOf rs v).map RelD.d)), (5, .box [.d (.sl 5 ((lowsOf rs v).map SideD.d)), .d (.sl 5 ((highsOf rs v).map SideD.d)), .any])] h rfl rfl (by kernel_rfl) (by kernel_rfl)
 refine rSeq fam0ok 6 [(2, .len (c := (.d (.sl 5 ((lowsOf rs v).map SideD.d)))) (n := (lowsOf rs v).length) (lenC_map _ _ _))] [(2, .t (.c (.fn (.func 60) [] []))), (6, .t (.c (.d (.raw nilV)))), (7, vp 5 0), (8, .t (.c (.own 0 (othersOf rs v).length))), (19, .t (.c (.d (.sl 5 ((lowsOf rs v).map SideD.d))))), (20, vi .i64 ((lowsOf rs v).length : Int)), (21, vi .i64 0)] [(0, .row 45 4 ((othersOf rs v).map RelD.d)), (5, .box [.d (.sl 5 ((lowsOf rs v).map SideD.d)), .d (.sl 5 ((highsOf rs v).map SideD.d)), .any])] (by kernel_rfl) h ?_; clear h; intro a w h
 refine wp_block ?_
 replace h := h.conv (f' := F.of [(2, .t (.c (.fn (.func 60) [] []))), (6, .t (.c (.d (.raw nilV)))), (7, vp 5 0), (8, .t (.c (.own 0 ((othersOf rs v) ++ ((lowsOf rs v).take 0).flatMap (fun l => (highsOf rs v).map fun h => lstR (darkT l h))).length))), (19, .t (.c (.d (.sl 5 ((lowsOf rs v).map SideD.d))))), (20, vi .i64 ((lowsOf rs v).length : Int)), (21, vi .i64 0)] [(0, .row 45 4 (((othersOf rs v) ++ ((lowsOf rs v).take 0).flatMap (fun l => (highsOf rs v).map fun h => lstR (darkT l h))).map RelD.d)), (5, .box [.d (.sl 5 ((lowsOf rs v).map SideD.d)), .d (.sl 5 ((highsOf rs v).map SideD.d)), .any])]) (congrArg (fun (z_ : List RelD) => F.of [(2, .t (.c (.fn (.func 60) [] []))), (6, .t (.c (.d (.raw nilV)))), (7, vp 5 0), (8, .t (.c (.own 0 z_.length))), (19, .t (.c (.d (.sl 5 ((lowsOf rs v).map SideD.d))))), (20, vi .i64 ((lowsOf rs v).length : Int)), (21, vi .i64 0)] [(0, .row 45 4 (z_.map RelD.d)), (5, .box [.d (.sl 5 ((lowsOf rs v).map SideD.d)), .d (.sl 5 ((highsOf rs v).map SideD.d)), .any])]) (show ((othersOf rs v) : List RelD) = ((othersOf rs v) ++ ((lowsOf rs v).take 0).flatMap (fun l => (highsOf rs v).map fun h => lstR (darkT l h))) from (by simp)))
 refine loopS (ι := (Nat)) (fun (z_ : (Nat)) => match z_ with | j => j ≤ (lowsOf rs v).length)
   (fun (z_ : (Nat)) => match z_ with | j => [(2, .t (.c (.fn (.func 60) [] []))), (6, .t (.c (.d (.raw nilV)))), (7, vp 5 0), (8, .t (.c (.own 0 ((othersOf rs v) ++ ((lowsOf rs v).take j).flatMap (fun l => (highsOf rs v).map fun h => lstR (darkT l h))).length))), (19, .t (.c (.d (.sl 5 ((lowsOf rs v).map SideD.d))))), (20, vi .i64 ((lowsOf rs v).length : Int)), (21, vi .i64 (j : Int))])
   (fun (z_ : (Nat)) => match z_ with | j => [(0, .row 45 4 (((othersOf rs v) ++ ((lowsOf rs v).take j).flatMap (fun l => (highsOf rs v).map fun h => lstR (darkT l h))).map RelD.d)), (5, .box [.d (.sl 5 ((lowsOf rs v).map SideD.d)), .d (.sl 5 ((highsOf rs v).map SideD.d)), .any])])
   (fun (z_ : (Nat)) => match z_ with | j => (lowsOf rs v).length - j) 0 ?_ h (by kernel_rfl) (by kernel_rfl) ?_
 ·exact Nat.zero_le _
 ·clear h; rintro j a w hI h
  change St _ (F.of [(2, .t (.c (.fn (.func 60) [] []))), (6, .t (.c (.d (.raw nilV)))), (7, vp 5 0), (8, .t (.c (.own 0 ((othersOf rs v) ++ ((lowsOf rs v).take j).flatMap (fun l => (highsOf rs v).map fun h => lstR (darkT l h))).length))), (19, .t (.c (.d (.sl 5 ((lowsOf rs v).map SideD.d))))), (20, vi .i64 ((lowsOf rs v).length : Int)), (21, vi .i64 (j : Int))] [(0, .row 45 4 (((othersOf rs v) ++ ((lowsOf rs v).take j).flatMap (fun l => (highsOf rs v).map fun h => lstR (darkT l h))).map RelD.d)), (5, .box [.d (.sl 5 ((lowsOf rs v).map SideD.d)), .d (.sl 5 ((highsOf rs v).map SideD.d)), .any])]) a w at h
  have oj := each_len (sh := darkT) hrs v j
  refine rSeq fam0ok 6 [] [(2, .t (.c (.fn (.func 60) [] []))), (6, .t (.c (.d (.raw nilV)))), (7, vp 5 0), (8, .t (.c (.own 0 ((othersOf rs v) ++ ((lowsOf rs v).take j).flatMap (fun l => (highsOf rs v).map fun h => lstR (darkT l h))).length))), (19, .t (.c (.d (.sl 5 ((lowsOf rs v).map SideD.d))))), (20, vi .i64 ((lowsOf rs v).length : Int)), (21, vi .i64 (j : Int)), (22, vb (decide ((j : Int) < ((lowsOf rs v).length : Int))))] [(0, .row 45 4 (((othersOf rs v) ++ ((lowsOf rs v).take j).flatMap (fun l => (highsOf rs v).map fun h => lstR (darkT l h))).map RelD.d)), (5, .box [.d (.sl 5 ((lowsOf rs v).map SideD.d)), .d (.sl 5 ((highsOf rs v).map SideD.d)), .any])] (by kernel_rfl) h ?_; clear h; intro a w h
  refine wp_seq ?_
  refine condS (decide ((j : Int) < ((lowsOf rs v).length : Int))) h rfl (fun hc => ?_) (fun hc => ?_)
  ·have hc1 := hc; clear hc
   have hc1' := of_decide_eq_true hc1
   refine wp_skip ?_
   refine then_n ?_
   refine wp_seq ?_
   refine wp_block ?_
   obtain ⟨x2, hx2⟩ : ∃ z_ : SideD, (lowsOf rs v)[j]? = some z_ := ⟨_, List.getElem?_eq_getElem (by first | omega | (simp at *; omega))⟩
   have hx2_ := lows_ok hrs v x2 (List.mem_of_getElem? hx2)
   refine rSeq fam0ok 6 [(0, .gen _ _ _ fun _ _ _ _ => Op.idxD (d := 23) (t := 19) (k := .i64) hb_1 (map_at hx2 (f := SideD.d)) (OV.tmp 21 _))] [(2, .t (.c (.fn (.func 60) [] []))), (6, .t (.c (.d (.raw nilV)))), (7, vp 5 0), (8, .t (.c (.own 0 ((othersOf rs v) ++ ((lowsOf rs v).take j).flatMap (fun l => (highsOf rs v).map fun h => lstR (darkT l h))).length))), (10, vp 6 0), (19, .t (.c (.d (.sl 5 ((lowsOf rs v).map SideD.d))))), (20, vi .i64 ((lowsOf rs v).length : Int)), (21, vi .i64 (j : Int))] [(0, .row 45 4 (((othersOf rs v) ++ ((lowsOf rs v).take j).flatMap (fun l => (highsOf rs v).map fun h => lstR (darkT l h))).map RelD.d)), (5, .box [.d (.sl 5 ((lowsOf rs v).map SideD.d)), .d (.sl 5 ((highsOf rs v).map SideD.d)), .any]), (6, .box (zi x2.times ++ [.d (.sl 3 (x2.rest.parts.map Part.d))] ++ zi x2.rest.k))] (by kernel_rfl) h ?_; clear h; intro a w h
   refine rSeq fam0ok 7 [(2, .len (c := (.d (.sl 5 ((highsOf rs v).map SideD.d)))) (n := (highsOf rs v).length) (lenC_map _ _ _))] [(2, .t (.c (.fn (.func 60) [] []))), (6, .t (.c (.d (.raw nilV)))), (7, vp 5 0), (8, .t (.c (.own 0 ((othersOf rs v) ++ ((lowsOf rs v).take j).flatMap (fun l => (highsOf rs v).map fun h => lstR (darkT l h))).length))), (10, vp 6 0), (19, .t (.c (.d (.sl 5 ((lowsOf rs v).map SideD.d))))), (20, vi .i64 ((lowsOf rs v).length : Int)), (21, vi .i64 (j : Int)), (26, .t (.c (.d (.sl 5 ((highsOf rs v).map SideD.d))))), (27, vi .i64 ((highsOf rs v).length : Int)), (28, vi .i64 0)] [(0, .row 45 4 (((othersOf rs v) ++ ((lowsOf rs v).take j).flatMap (fun l => (highsOf rs v).map fun h => lstR (darkT l h))).map RelD.d)), (5, .box [.d (.sl 5 ((lowsOf rs v).map SideD.d)), .d (.sl 5 ((highsOf rs v).map SideD.d)), .any]), (6, .box (zi x2.times ++ [.d (.sl 3 (x2.rest.parts.map Part.d))] ++ zi x2.rest.k))] (by kernel_rfl) h ?_; clear h; intro a w h
   refine wp_block ?_
   replace h := h.conv (f' := F.of [(2, .t (.c (.fn (.func 60) [] []))), (6, .t (.c (.d (.raw nilV)))), (7, vp 5 0), (8, .t (.c (.own 0 (((othersOf rs v) ++ ((lowsOf rs v).take j).flatMap (fun l => (highsOf rs v).map fun h => lstR (darkT l h))) ++ ((highsOf rs v).take 0).map (fun h => lstR (darkT x2 h))).length))), (10, vp 6 0), (19, .t (.c (.d (.sl 5 ((lowsOf rs v).map SideD.d))))), (20, vi .i64 ((lowsOf rs v).length : Int)), (21, vi .i64 (j : Int)), (26, .t (.c (.d (.sl 5 ((highsOf rs v).map SideD.d))))), (27, vi .i64 ((highsOf rs v).length : Int)), (28, vi .i64 0)] [(0, .row 45 4 ((((othersOf rs v) ++ ((lowsOf rs v).take j).flatMap (fun l => (highsOf rs v).map fun h => lstR (darkT l h))) ++ ((highsOf rs v).take 0).map (fun h => lstR (darkT x2 h))).map RelD.d)), (5, .box [.d (.sl 5 ((lowsOf rs v).map SideD.d)), .d (.sl 5 ((highsOf rs v).map SideD.d)), .any]), (6, .box (zi x2.times ++ [.d (.sl 3 (x2.rest.parts.map Part.d))] ++ zi x2.rest.k))]) (congrArg (fun (z_ : List RelD) => F.of [(2, .t (.c (.fn (.func 60) [] []))), (6, .t (.c (.d (.raw nilV)))), (7, vp 5 0), (8, .t (.c (.own 0 z_.length))), (10, vp 6 0), (19, .t (.c (.d (.sl 5 ((lowsOf rs v).map SideD.d))))), (20, vi .i64 ((lowsOf rs v).length : Int)), (21, vi .i64 (j : Int)), (26, .t (.c (.d (.sl 5 ((highsOf rs v).map SideD.d))))), (27, vi .i64 ((highsOf rs v).length : Int)), (28, vi .i64 0)] [(0, .row 45 4 (z_.map RelD.d)), (5, .box [.d (.sl 5 ((lowsOf rs v).map SideD.d)), .d (.sl 5 ((highsOf rs v).map SideD.d)), .any]), (6, .box (zi x2.times ++ [.d (.sl 3 (x2.rest.parts.map Part.d))] ++ zi x2.rest.k))]) (show (((othersOf rs v) ++ ((lowsOf rs v).take j).flatMap (fun l => (highsOf rs v).map fun h => lstR (darkT l h))) : List RelD) = (((othersOf rs v) ++ ((lowsOf rs v).take j).flatMap (fun l => (highsOf rs v).map fun h => lstR (darkT l h))) ++ ((highsOf rs v).take 0).map (fun h => lstR (darkT x2 h))) from (by simp)))
   refine loopS (ι := (Nat)) (fun (z_ : (Nat)) => match z_ with | i => i ≤ (highsOf rs v).length)
     (fun (z_ : (Nat)) => match z_ with | i => [(2, .t (.c (.fn (.func 60) [] []))), (6, .t (.c (.d (.raw nilV)))), (7, vp 5 0), (8, .t (.c (.own 0 (((othersOf rs v) ++ ((lowsOf rs v).take j).flatMap (fun l => (highsOf rs v).map fun h => lstR (darkT l h))) ++ ((highsOf rs v).take i).map (fun h => lstR (darkT x2 h))).length))), (10, vp 6 0), (19, .t (.c (.d (.sl 5 ((lowsOf rs v).map SideD.d))))), (20, vi .i64 ((lowsOf rs v).length : Int)), (21, vi .i64 (j : Int)), (26, .t (.c (.d (.sl 5 ((highsOf rs v).map SideD.d))))), (27, vi .i64 ((highsOf rs v).length : Int)), (28, vi .i64 (i : Int))])
     (fun (z_ : (Nat)) => match z_ with | i => [(0, .row 45 4 ((((othersOf rs v) ++ ((lowsOf rs v).take j).flatMap (fun l => (highsOf rs v).map fun h => lstR (darkT l h))) ++ ((highsOf rs v).take i).map (fun h => lstR (darkT x2 h))).map RelD.d)), (5, .box [.d (.sl 5 ((lowsOf rs v).map SideD.d)), .d (.sl 5 ((highsOf rs v).map SideD.d)), .any]), (6, .box (zi x2.times ++ [.d (.sl 3 (x2.rest.parts.map Part.d))] ++ zi x2.rest.k))])
     (fun (z_ : (Nat)) => match z_ with | i => (highsOf rs v).length - i) 0 ?_ h (by kernel_rfl) (by kernel_rfl) ?_
   ·exact Nat.zero_le _
   ·clear h; rintro i a w hI h
    change St _ (F.of [(2, .t (.c (.fn (.func 60) [] []))), (6, .t (.c (.d (.raw nilV)))), (7, vp 5 0), (8, .t (.c (.own 0 (((othersOf rs v) ++ ((lowsOf rs v).take j).flatMap (fun l => (highsOf rs v).map fun h => lstR (darkT l h))) ++ ((highsOf rs v).take i).map (fun h => lstR (darkT x2 h))).length))), (10, vp 6 0), (19, .t (.c (.d (.sl 5 ((lowsOf rs v).map SideD.d))))), (20, vi .i64 ((lowsOf rs v).length : Int)), (21, vi .i64 (j : Int)), (26, .t (.c (.d (.sl 5 ((highsOf rs v).map SideD.d))))), (27, vi .i64 ((highsOf rs v).length : Int)), (28, vi .i64 (i : Int))] [(0, .row 45 4 ((((othersOf rs v) ++ ((lowsOf rs v).take j).flatMap (fun l => (highsOf rs v).map fun h => lstR (darkT l h))) ++ ((highsOf rs v).take i).map (fun h => lstR (darkT x2 h))).map RelD.d)), (5, .box [.d (.sl 5 ((lowsOf rs v).map SideD.d)), .d (.sl 5 ((highsOf rs v).map SideD.d)), .any]), (6, .box (zi x2.times ++ [.d (.sl 3 (x2.rest.parts.map Part.d))] ++ zi x2.rest.k))]) a w at h
    have ij : (((othersOf rs v) ++ ((lowsOf rs v).take j).flatMap (fun l => (highsOf rs v).map fun h => lstR (darkT l h))) ++ ((highsOf rs v).take i).map (fun h => lstR (darkT x2 h))).length ≤ 500 := by rw [List.length_append, List.length_map, List.length_take]; omega
    refine rSeq fam0ok 7 [] [(2, .t (.c (.fn (.func 60) [] []))), (6, .t (.c (.d (.raw nilV)))), (7, vp 5 0), (8, .t (.c (.own 0 (((othersOf rs v) ++ ((lowsOf rs v).take j).flatMap (fun l => (highsOf rs v).map fun h => lstR (darkT l h))) ++ ((highsOf rs v).take i).map (fun h => lstR (darkT x2 h))).length))), (10, vp 6 0), (19, .t (.c (.d (.sl 5 ((lowsOf rs v).map SideD.d))))), (20, vi .i64 ((lowsOf rs v).length : Int)), (21, vi .i64 (j : Int)), (26, .t (.c (.d (.sl 5 ((highsOf rs v).map SideD.d))))), (27, vi .i64 ((highsOf rs v).length : Int)), (28, vi .i64 (i : Int)), (29, vb (decide ((i : Int) < ((highsOf rs v).length : Int))))] [(0, .row 45 4 ((((othersOf rs v) ++ ((lowsOf rs v).take j).flatMap (fun l => (highsOf rs v).map fun h => lstR (darkT l h))) ++ ((highsOf rs v).take i).map (fun h => lstR (darkT x2 h))).map RelD.d)), (5, .box [.d (.sl 5 ((lowsOf rs v).map SideD.d)), .d (.sl 5 ((highsOf rs v).map SideD.d)), .any]), (6, .box (zi x2.times ++ [.d (.sl 3 (x2.rest.parts.map Part.d))] ++ zi x2.rest.k))] (by kernel_rfl) h ?_; clear h; intro a w h
    refine wp_seq ?_
    refine condS (decide ((i : Int) < ((highsOf rs v).length : Int))) h rfl (fun hc => ?_) (fun hc => ?_)
    ·have hc2 := hc; clear hc
     have hc2' := of_decide_eq_true hc2
     refine wp_skip ?_
     refine then_n ?_
     refine wp_seq ?_
     refine wp_block ?_
     obtain ⟨x3, hx3⟩ : ∃ z_ : SideD, (highsOf rs v)[i]? = some z_ := ⟨_, List.getElem?_eq_getElem (by first | omega | (simp at *; omega))⟩
     have hx3_ := highs_ok hrs v x3 (List.mem_of_getElem? hx3)
     refine rSeq fam0ok 7 [(0, .gen _ _ _ fun _ _ _ _ => Op.idxD (d := 30) (t := 26) (k := .i64) hb_1 (map_at hx3 (f := SideD.d)) (OV.tmp 28 _))] [(2, .t (.c (.fn (.func 60) [] []))), (6, .t (.c (.d (.raw nilV)))), (7, vp 5 0), (8, .t (.c (.own 0 (((othersOf rs v) ++ ((lowsOf rs v).take j).flatMap (fun l => (highsOf rs v).map fun h => lstR (darkT l h))) ++ ((highsOf rs v).take i).map (fun h => lstR (darkT x2 h))).length))), (10, vp 6 0), (12, vp 7 0), (19, .t (.c (.d (.sl 5 ((lowsOf rs v).map SideD.d))))), (20, vi .i64 ((lowsOf rs v).length : Int)), (21, vi .i64 (j : Int)), (26, .t (.c (.d (.sl 5 ((highsOf rs v).map SideD.d))))), (27, vi .i64 ((highsOf rs v).length : Int)), (28, vi .i64 (i : Int))] [(0, .row 45 4 ((((othersOf rs v) ++ ((lowsOf rs v).take j).flatMap (fun l => (highsOf rs v).map fun h => lstR (darkT l h))) ++ ((highsOf rs v).take i).map (fun h => lstR (darkT x2 h))).map RelD.d)), (5, .box [.d (.sl 5 ((lowsOf rs v).map SideD.d)), .d (.sl 5 ((highsOf rs v).map SideD.d)), .any]), (6, .box (zi x2.times ++ [.d (.sl 3 (x2.rest.parts.map Part.d))] ++ zi x2.rest.k)), (7, .box (zi x3.times ++ [.d (.sl 3 (x3.rest.parts.map Part.d))] ++ zi x3.rest.k))] (by kernel_rfl) h ?_; clear h; intro a w h
     refine rS fam0ok 8 [(4, .gen _ _ _ fun _ _ _ _ => Op.callV (d := 36) (t := 33) (cap := []) (args := [.t (.agg (zi x2.times ++ [.d (.sl 3 (x2.rest.parts.map Part.d))] ++ zi x2.rest.k)), .t (.agg (zi x3.times ++ [.d (.sl 3 (x3.rest.parts.map Part.d))] ++ zi x3.rest.k))]) (rs := [(34, .t (.agg (zi x2.times ++ [.d (.sl 3 (x2.rest.parts.map Part.d))] ++ zi x2.rest.k))), (35, .t (.agg (zi x3.times ++ [.d (.sl 3 (x3.rest.parts.map Part.d))] ++ zi x3.rest.k)))]) (tys := #[63, 63]) (SDark x2 x3 hx2_ hx3_) hb_19 (OVs.cons (OV.tmp 34 _) (OVs.cons (OV.tmp 35 _) (OVs.nil)))), (5, .call (SLeast (darkT x2 x3) ((dark_ok hx2_ hx3_).mono (by decide) (by decide))) ha_9), (6, .gen _ _ _ fun _ _ _ _ => Op.buildD (d := 38) (len := 1) (rows := [(lstR (darkT x2 x3))].map RelD.d) (rs := [(37, .t (.agg ([.d (.sl 3 ((lstR (darkT x2 x3)).t.parts.map Part.d))] ++ zi (lstR (darkT x2 x3)).t.k ++ [.d (.raw (.bool (lstR (darkT x2 x3)).eq))])))]) kc_5 (.cons (i := 0) (OV.tmp 37 _) (.nil)) (by kernel_rfl) rfl (by simp [RelD.d]) (by decide) (by decide)), (7, .gen _ _ _ fun _ _ _ _ => Op.appOD (d := 39) (t := 32) (u := 38) (n := 0) (n' := 8) (len := (((othersOf rs v) ++ ((lowsOf rs v).take j).flatMap (fun l => (highsOf rs v).map fun h => lstR (darkT l h))) ++ ((highsOf rs v).take i).map (fun h => lstR (darkT x2 h))).length) (len' := ((((othersOf rs v) ++ ((lowsOf rs v).take j).flatMap (fun l => (highsOf rs v).map fun h => lstR (darkT l h))) ++ ((highsOf rs v).take i).map (fun h => lstR (darkT x2 h))) ++ [(lstR (darkT x2 x3))]).length) (rows := (((othersOf rs v) ++ ((lowsOf rs v).take j).flatMap (fun l => (highsOf rs v).map fun h => lstR (darkT l h))) ++ ((highsOf rs v).take i).map (fun h => lstR (darkT x2 h))).map RelD.d) (rows2 := [(lstR (darkT x2 x3))].map RelD.d) (rows' := ((((othersOf rs v) ++ ((lowsOf rs v).take j).flatMap (fun l => (highsOf rs v).map fun h => lstR (darkT l h))) ++ ((highsOf rs v).take i).map (fun h => lstR (darkT x2 h))) ++ [(lstR (darkT x2 x3))]).map RelD.d) ha_11 (by first | exact (List.length_map _).symm | simp) (by first | (rw [List.length_append, List.length_map]; done) | simp) (by simp) (by simp [RelD.d]) (by first | omega | (simp at *; done) | (simp at *; omega)))] [(2, .t (.c (.fn (.func 60) [] []))), (6, .t (.c (.d (.raw nilV)))), (7, vp 5 0), (8, .t (.c (.own 8 ((((othersOf rs v) ++ ((lowsOf rs v).take j).flatMap (fun l => (highsOf rs v).map fun h => lstR (darkT l h))) ++ ((highsOf rs v).take i).map (fun h => lstR (darkT x2 h))) ++ [(lstR (darkT x2 x3))]).length))), (10, vp 6 0), (19, .t (.c (.d (.sl 5 ((lowsOf rs v).map SideD.d))))), (20, vi .i64 ((lowsOf rs v).length : Int)), (21, vi .i64 (j : Int)), (26, .t (.c (.d (.sl 5 ((highsOf rs v).map SideD.d))))), (27, vi .i64 ((highsOf rs v).length : Int)), (28, vi .i64 (i : Int))] [(5, .box [.d (.sl 5 ((lowsOf rs v).map SideD.d)), .d (.sl 5 ((highsOf rs v).map SideD.d)), .any]), (6, .box (zi x2.times ++ [.d (.sl 3 (x2.rest.parts.map Part.d))] ++ zi x2.rest.k)), (8, .row 45 4 (((((othersOf rs v) ++ ((lowsOf rs v).take j).flatMap (fun l => (highsOf rs v).map fun h => lstR (darkT l h))) ++ ((highsOf rs v).take i).map (fun h => lstR (darkT x2 h))) ++ [(lstR (darkT x2 x3))]).map RelD.d))] (by kernel_rfl) h ?_; clear h; intro a w h
     refine block_n ?_
     refine then_n ?_
     refine rS fam0ok 9 [(0, .add .i64 (m := (i : Int)) (n := 1) (i64_id (by omega) (by omega)))] [(2, .t (.c (.fn (.func 60) [] []))), (6, .t (.c (.d (.raw nilV)))), (7, vp 5 0), (8, .t (.c (.own 8 ((((othersOf rs v) ++ ((lowsOf rs v).take j).flatMap (fun l => (highsOf rs v).map fun h => lstR (darkT l h))) ++ ((highsOf rs v).take i).map (fun h => lstR (darkT x2 h))) ++ [(lstR (darkT x2 x3))]).length))), (10, vp 6 0), (19, .t (.c (.d (.sl 5 ((lowsOf rs v).map SideD.d))))), (20, vi .i64 ((lowsOf rs v).length : Int)), (21, vi .i64 (j : Int)), (26, .t (.c (.d (.sl 5 ((highsOf rs v).map SideD.d))))), (27, vi .i64 ((highsOf rs v).length : Int)), (28, vi .i64 ((i : Int) + 1))] [(5, .box [.d (.sl 5 ((lowsOf rs v).map SideD.d)), .d (.sl 5 ((highsOf rs v).map SideD.d)), .any]), (6, .box (zi x2.times ++ [.d (.sl 3 (x2.rest.parts.map Part.d))] ++ zi x2.rest.k)), (8, .row 45 4 (((((othersOf rs v) ++ ((lowsOf rs v).take j).flatMap (fun l => (highsOf rs v).map fun h => lstR (darkT l h))) ++ ((highsOf rs v).take i).map (fun h => lstR (darkT x2 h))) ++ [(lstR (darkT x2 x3))]).map RelD.d))] (by kernel_rfl) h ?_; clear h; intro a w h
     refine then_n ?_
     replace h := h.conv (f' := F.of [(2, .t (.c (.fn (.func 60) [] []))), (6, .t (.c (.d (.raw nilV)))), (7, vp 5 0), (8, .t (.c (.own 8 (((othersOf rs v) ++ ((lowsOf rs v).take j).flatMap (fun l => (highsOf rs v).map fun h => lstR (darkT l h))) ++ ((highsOf rs v).take (i + 1)).map (fun h => lstR (darkT x2 h))).length))), (10, vp 6 0), (19, .t (.c (.d (.sl 5 ((lowsOf rs v).map SideD.d))))), (20, vi .i64 ((lowsOf rs v).length : Int)), (21, vi .i64 (j : Int)), (26, .t (.c (.d (.sl 5 ((highsOf rs v).map SideD.d))))), (27, vi .i64 ((highsOf rs v).length : Int)), (28, vi .i64 ((i : Int) + 1))] [(5, .box [.d (.sl 5 ((lowsOf rs v).map SideD.d)), .d (.sl 5 ((highsOf rs v).map SideD.d)), .any]), (6, .box (zi x2.times ++ [.d (.sl 3 (x2.rest.parts.map Part.d))] ++ zi x2.rest.k)), (8, .row 45 4 ((((othersOf rs v) ++ ((lowsOf rs v).take j).flatMap (fun l => (highsOf rs v).map fun h => lstR (darkT l h))) ++ ((highsOf rs v).take (i + 1)).map (fun h => lstR (darkT x2 h))).map RelD.d))]) (congrArg (fun (z_ : List RelD) => F.of [(2, .t (.c (.fn (.func 60) [] []))), (6, .t (.c (.d (.raw nilV)))), (7, vp 5 0), (8, .t (.c (.own 8 z_.length))), (10, vp 6 0), (19, .t (.c (.d (.sl 5 ((lowsOf rs v).map SideD.d))))), (20, vi .i64 ((lowsOf rs v).length : Int)), (21, vi .i64 (j : Int)), (26, .t (.c (.d (.sl 5 ((highsOf rs v).map SideD.d))))), (27, vi .i64 ((highsOf rs v).length : Int)), (28, vi .i64 ((i : Int) + 1))] [(5, .box [.d (.sl 5 ((lowsOf rs v).map SideD.d)), .d (.sl 5 ((highsOf rs v).map SideD.d)), .any]), (6, .box (zi x2.times ++ [.d (.sl 3 (x2.rest.parts.map Part.d))] ++ zi x2.rest.k)), (8, .row 45 4 (z_.map RelD.d))]) (show (((((othersOf rs v) ++ ((lowsOf rs v).take j).flatMap (fun l => (highsOf rs v).map fun h => lstR (darkT l h))) ++ ((highsOf rs v).take i).map (fun h => lstR (darkT x2 h))) ++ [(lstR (darkT x2 x3))]) : List RelD) = (((othersOf rs v) ++ ((lowsOf rs v).take j).flatMap (fun l => (highsOf rs v).map fun h => lstR (darkT l h))) ++ ((highsOf rs v).take (i + 1)).map (fun h => lstR (darkT x2 h))) from (by rw [List.append_assoc]; congr 1; exact mapSnoc (f := fun h => lstR (darkT x2 h)) hx3)))
     replace h := renS 8 0 [(2, .t (.c (.fn (.func 60) [] []))), (6, .t (.c (.d (.raw nilV)))), (7, vp 5 0), (8, .t (.c (.own 0 (((othersOf rs v) ++ ((lowsOf rs v).take j).flatMap (fun l => (highsOf rs v).map fun h => lstR (darkT l h))) ++ ((highsOf rs v).take (i + 1)).map (fun h => lstR (darkT x2 h))).length))), (10, vp 6 0), (19, .t (.c (.d (.sl 5 ((lowsOf rs v).map SideD.d))))), (20, vi .i64 ((lowsOf rs v).length : Int)), (21, vi .i64 (j : Int)), (26, .t (.c (.d (.sl 5 ((highsOf rs v).map SideD.d))))), (27, vi .i64 ((highsOf rs v).length : Int)), (28, vi .i64 ((i : Int) + 1))] [(5, .box [.d (.sl 5 ((lowsOf rs v).map SideD.d)), .d (.sl 5 ((highsOf rs v).map SideD.d)), .any]), (6, .box (zi x2.times ++ [.d (.sl 3 (x2.rest.parts.map Part.d))] ++ zi x2.rest.k)), (0, .row 45 4 ((((othersOf rs v) ++ ((lowsOf rs v).take j).flatMap (fun l => (highsOf rs v).map fun h => lstR (darkT l h))) ++ ((highsOf rs v).take (i + 1)).map (fun h => lstR (darkT x2 h))).map RelD.d))] h (by kernel_rfl) (by kernel_rfl) (by kernel_rfl)
     refine roundS (x := i) (y := i + 1) h ?_ ?_ (by kernel_rfl) (by kernel_rfl)
     ·have := at_lt hx3
      show i + 1 ≤ (highsOf rs v).length
      omega
     ·show (highsOf rs v).length - (i + 1) < (highsOf rs v).length - i
      have := at_lt hx3; omega
    ·have hc3 := hc; clear hc
     have hc3' := of_decide_eq_false hc3
     refine wp_exit ?_
     refine then_x ?_
     refine then_x ?_
     refine inBlock_exit ?_
     refine block_n ?_
     refine then_n ?_
     refine rS fam0ok 9 [(0, .add .i64 (m := (j : Int)) (n := 1) (i64_id (by omega) (by omega)))] [(2, .t (.c (.fn (.func 60) [] []))), (6, .t (.c (.d (.raw nilV)))), (7, vp 5 0), (8, .t (.c (.own 0 (((othersOf rs v) ++ ((lowsOf rs v).take j).flatMap (fun l => (highsOf rs v).map fun h => lstR (darkT l h))) ++ ((highsOf rs v).take i).map (fun h => lstR (darkT x2 h))).length))), (19, .t (.c (.d (.sl 5 ((lowsOf rs v).map SideD.d))))), (20, vi .i64 ((lowsOf rs v).length : Int)), (21, vi .i64 ((j : Int) + 1))] [(0, .row 45 4 ((((othersOf rs v) ++ ((lowsOf rs v).take j).flatMap (fun l => (highsOf rs v).map fun h => lstR (darkT l h))) ++ ((highsOf rs v).take i).map (fun h => lstR (darkT x2 h))).map RelD.d)), (5, .box [.d (.sl 5 ((lowsOf rs v).map SideD.d)), .d (.sl 5 ((highsOf rs v).map SideD.d)), .any])] (by kernel_rfl) h ?_; clear h; intro a w h
     refine then_n ?_
     replace h := h.conv (f' := F.of [(2, .t (.c (.fn (.func 60) [] []))), (6, .t (.c (.d (.raw nilV)))), (7, vp 5 0), (8, .t (.c (.own 0 ((othersOf rs v) ++ ((lowsOf rs v).take (j + 1)).flatMap (fun l => (highsOf rs v).map fun h => lstR (darkT l h))).length))), (19, .t (.c (.d (.sl 5 ((lowsOf rs v).map SideD.d))))), (20, vi .i64 ((lowsOf rs v).length : Int)), (21, vi .i64 ((j : Int) + 1))] [(0, .row 45 4 (((othersOf rs v) ++ ((lowsOf rs v).take (j + 1)).flatMap (fun l => (highsOf rs v).map fun h => lstR (darkT l h))).map RelD.d)), (5, .box [.d (.sl 5 ((lowsOf rs v).map SideD.d)), .d (.sl 5 ((highsOf rs v).map SideD.d)), .any])]) (congrArg (fun (z_ : List RelD) => F.of [(2, .t (.c (.fn (.func 60) [] []))), (6, .t (.c (.d (.raw nilV)))), (7, vp 5 0), (8, .t (.c (.own 0 z_.length))), (19, .t (.c (.d (.sl 5 ((lowsOf rs v).map SideD.d))))), (20, vi .i64 ((lowsOf rs v).length : Int)), (21, vi .i64 ((j : Int) + 1))] [(0, .row 45 4 (z_.map RelD.d)), (5, .box [.d (.sl 5 ((lowsOf rs v).map SideD.d)), .d (.sl 5 ((highsOf rs v).map SideD.d)), .any])]) (show ((((othersOf rs v) ++ ((lowsOf rs v).take j).flatMap (fun l => (highsOf rs v).map fun h => lstR (darkT l h))) ++ ((highsOf rs v).take i).map (fun h => lstR (darkT x2 h))) : List RelD) = ((othersOf rs v) ++ ((lowsOf rs v).take (j + 1)).flatMap (fun l => (highsOf rs v).map fun h => lstR (darkT l h))) from (by rw [show (highsOf rs v).take i = (highsOf rs v) from List.take_of_length_le (by omega), List.append_assoc]; congr 1; exact flat_snoc (g := (fun l => (highsOf rs v).map fun h => lstR (darkT l h))) hx2 rfl)))
     refine roundS (x := j) (y := j + 1) h ?_ ?_ (by kernel_rfl) (by kernel_rfl)
     ·have := at_lt hx2
      show j + 1 ≤ (lowsOf rs v).length
      omega
     ·show (lowsOf rs v).length - (j + 1) < (lowsOf rs v).length - j
      have := at_lt hx2; omega
  ·have hc4 := hc; clear hc
   have hc4' := of_decide_eq_false hc4
   refine wp_exit ?_
   refine then_x ?_
   refine then_x ?_
   refine inBlock_exit ?_
   refine then_n ?_
   refine rSeq fam0ok 9 [] [(6, .t (.c (.own 0 ((othersOf rs v) ++ ((lowsOf rs v).take j).flatMap (fun l => (highsOf rs v).map fun h => lstR (darkT l h))).length)))] [(0, .row 45 4 (((othersOf rs v) ++ ((lowsOf rs v).take j).flatMap (fun l => (highsOf rs v).map fun h => lstR (darkT l h))).map RelD.d))] (by kernel_rfl) h ?_; clear h; intro a w h
   refine wp_ret ?_
   replace h := h.conv (f' := F.of [(6, .t (.c (.own 0 (eachS darkT rs v).length)))] [(0, .row 45 4 ((eachS darkT rs v).map RelD.d))]) (congrArg (fun (z_ : List RelD) => F.of [(6, .t (.c (.own 0 z_.length)))] [(0, .row 45 4 (z_.map RelD.d))]) (show (((othersOf rs v) ++ ((lowsOf rs v).take j).flatMap (fun l => (highsOf rs v).map fun h => lstR (darkT l h))) : List RelD) = (eachS darkT rs v) from (by unfold eachS; rw [List.take_of_length_le (by omega)])))
   replace h := pubS 0 4 45 ((eachS darkT rs v).map RelD.d) [(6, .t (.c (.d (.sl 4 ((eachS darkT rs v).map RelD.d)))))] [] h rfl (show AllEq _ [(eachS darkT rs v).length] from ⟨by first | exact (List.length_map _).symm | (simp; done) | (simp; omega), trivial⟩) trivial (by kernel_rfl) (by kernel_rfl)
   refine retS [.c (.d (.sl 4 ((eachS darkT rs v).map RelD.d)))] h Exit.ret (.inl rfl)  rfl ⟨RV.tmp _ _ rfl, trivial⟩ ?_ (by kernel_rfl) (by kernel_rfl)
   rfl
set_option maxHeartbeats 4000000 in
theorem SSReal (rs : List RelD) (v : Int) (hrs : RsOk rs) : Fn Tryz.prog 19 [] [.t (.c (.d (.sl 4 (rs.map RelD.d)))), vi .i64 v] (.t (.c (.d (.sl 4 ((eachS brightT rs v).map RelD.d))))) [] := by
 refine Fn.body Tryz.func19 rfl 8 rfl fun w H B a h => ?_
 refine rSeq fam0ok 0 [] [(0, .t (.c (.d (.sl 4 (rs.map RelD.d))))), (1, vi .i64 v), (4, .t (.c (.d (.raw nilV))))] [] (by kernel_rfl) h ?_; clear h; intro a w h
 refine rSeq fam0ok 0 [(2, .call (SEachBright rs v hrs) hb_20)] [(4, .t (.c (.d (.sl 4 ((eachS brightT rs v).map RelD.d)))))] [] (by kernel_rfl) h ?_; clear h; intro a w h
 refine wp_ret ?_
 refine retS [.c (.d (.sl 4 ((eachS brightT rs v).map RelD.d)))] h Exit.ret (.inl rfl)  rfl ⟨RV.tmp _ _ rfl, trivial⟩ ?_ (by kernel_rfl) (by kernel_rfl)
 rfl
set_option maxHeartbeats 4000000 in
theorem SSDark (rs : List RelD) (v : Int) (hrs : RsOk rs) : Fn Tryz.prog 21 [] [.t (.c (.d (.sl 4 (rs.map RelD.d)))), vi .i64 v] (.t (.c (.d (.sl 4 ((eachS darkT rs v).map RelD.d))))) [] := by
 refine Fn.body Tryz.func21 rfl 8 rfl fun w H B a h => ?_
 refine rSeq fam0ok 0 [] [(0, .t (.c (.d (.sl 4 (rs.map RelD.d))))), (1, vi .i64 v), (4, .t (.c (.d (.raw nilV))))] [] (by kernel_rfl) h ?_; clear h; intro a w h
 refine rSeq fam0ok 0 [(2, .call (SEachDark rs v hrs) hb_20)] [(4, .t (.c (.d (.sl 4 ((eachS darkT rs v).map RelD.d)))))] [] (by kernel_rfl) h ?_; clear h; intro a w h
 refine wp_ret ?_
 refine retS [.c (.d (.sl 4 ((eachS darkT rs v).map RelD.d)))] h Exit.ret (.inl rfl)  rfl ⟨RV.tmp _ _ rfl, trivial⟩ ?_ (by kernel_rfl) (by kernel_rfl)
 rfl
set_option maxHeartbeats 4000000 in
theorem SMaxN (x y : ZI) (hx : Lb x.abs) (hy : Lb y.abs) (lx : x.abs.length ≤ 1000) (ly : y.abs.length ≤ 1000) : Fn Tryz.prog 99 [] [vz x, vz y] (vz (ZI.of (max x.val y.val))) [] := by
 refine Fn.body Tryz.func99 rfl 13 rfl fun w H B a h => ?_
 refine rSeq fam0ok 0 [] [(2, vp 0 0), (3, vp 1 0), (4, vp 2 0)] [(0, .box (zi x)), (1, .box (zi y)), (2, .box [.d (.raw (.bool false)), .d (nsl [])])] (by kernel_rfl) h ?_; clear h; intro a w h
 refine wp_seq ?_
 refine rSeq fam0ok 3 [(2, .call (SCmp x y hx hy (by omega) (by omega)) tx_2)] [(2, vp 0 0), (3, vp 1 0), (4, vp 2 0), (8, vb (decide (cmpZ x.val y.val ≥ 0)))] [(0, .box (zi x)), (1, .box (zi y)), (2, .box [.d (.raw (.bool false)), .d (nsl [])])] (by kernel_rfl) h ?_; clear h; intro a w h
 refine condS (decide (cmpZ x.val y.val ≥ 0)) h rfl (fun hc => ?_) (fun hc => ?_)
 ·have hc1 := hc; clear hc
  have hc1' := of_decide_eq_true hc1
  obtain ⟨r2, er2, vr2, or2, lr2⟩ := mkZ (v := x.val) (m := x.abs.length) (len_id hx)
  refine rSeq fam0ok 3 [(1, .call (Fn.cast (SClean x hx (by omega)) (congrArg vz er2.symm)) ia_5)] [(3, vp 1 0), (4, vp 2 0)] [(1, .box (zi y)), (2, .box (zi r2))] (by kernel_rfl) h ?_; clear h; intro a w h
  refine wp_ret ?_
  refine then_r ?_
  refine retS [.agg (zi r2)] h Exit.ret (.inl rfl)  rfl ⟨RV.agg _ 2 0 _ _ _ _ ia_1 rfl rfl rfl rfl, trivial⟩ ?_ (by kernel_rfl) (by kernel_rfl)
  have hz : max x.val y.val = x.val := by have := of_decide_eq_true hc1; unfold cmpZ at this; (split at this; omega; split at this <;> omega)
  rw [hz]; first | (rw [er2]; done) | (rw [er2]; rfl)
 ·have hc2 := hc; clear hc
  have hc2' := of_decide_eq_false hc2
  refine wp_skip ?_
  refine then_n ?_
  obtain ⟨r3, er3, vr3, or3, lr3⟩ := mkZ (v := y.val) (m := y.abs.length) (len_id hy)
  refine rSeq fam0ok 3 [(1, .call (Fn.cast (SClean y hy (by omega)) (congrArg vz er3.symm)) ia_5)] [(4, vp 2 0)] [(2, .box (zi r3))] (by kernel_rfl) h ?_; clear h; intro a w h
  refine wp_ret ?_
  refine retS [.agg (zi r3)] h Exit.ret (.inl rfl)  rfl ⟨RV.agg _ 2 0 _ _ _ _ ia_1 rfl rfl rfl rfl, trivial⟩ ?_ (by kernel_rfl) (by kernel_rfl)
  have hz : max x.val y.val = y.val := by have := of_decide_eq_false hc2; unfold cmpZ at this; (split at this; omega; split at this <;> omega)
  rw [hz]; first | (rw [er3]; done) | (rw [er3]; rfl)
set_option maxHeartbeats 4000000 in
theorem SGreatest (l : List SideD) (hl : ∀ s ∈ l, SideOk s) (hn : l.length ≤ 1000) : Fn Tryz.prog 64 [] [.t (.c (.d (.sl 5 (l.map SideD.d))))] (vz (ZI.of (maxS l))) [] := by
 refine Fn.body Tryz.func64 rfl 19 rfl fun w H B a h => ?_
 refine rSeq fam0ok 0 [] [(0, .t (.c (.d (.sl 5 (l.map SideD.d))))), (2, vp 0 0)] [(0, .box [.d (.raw (.bool false)), .d (nsl [])])] (by kernel_rfl) h ?_; clear h; intro a w h
 refine rSeq fam0ok 1 [] [(0, .t (.c (.d (.sl 5 (l.map SideD.d))))), (2, vp 0 0), (3, vp 1 0)] [(0, .box [.d (.raw (.bool false)), .d (nsl [])]), (1, .box [.d (.raw (.bool false)), .d (nsl [])])] (by kernel_rfl) h ?_; clear h; intro a w h
 refine wp_seq ?_
 refine rSeq fam0ok 2 [(1, .len (c := (.d (.sl 5 (l.map SideD.d)))) (n := l.length) (lenC_map _ _ _))] [(2, vp 0 0), (3, vp 1 0), (7, .t (.c (.d (.sl 5 (l.map SideD.d))))), (8, vi .i64 (l.length : Int)), (9, vi .i64 0)] [(0, .box [.d (.raw (.bool false)), .d (nsl [])]), (1, .box [.d (.raw (.bool false)), .d (nsl [])])] (by kernel_rfl) h ?_; clear h; intro a w h
 refine wp_block ?_
 refine loopS (ι := (Nat) × (ZI)) (fun (z_ : (Nat) × (ZI)) => match z_ with | (j, out) => j ≤ l.length ∧ out = ZI.of (maxS (l.take j)) ∧ out.abs.length ≤ 9)
   (fun (z_ : (Nat) × (ZI)) => match z_ with | (j, out) => [(2, vp 0 0), (3, vp 1 0), (7, .t (.c (.d (.sl 5 (l.map SideD.d))))), (8, vi .i64 (l.length : Int)), (9, vi .i64 (j : Int))])
   (fun (z_ : (Nat) × (ZI)) => match z_ with | (j, out) => [(0, .box [.d (.raw (.bool false)), .d (nsl [])]), (1, .box (zi out))])
   (fun (z_ : (Nat) × (ZI)) => match z_ with | (j, out) => l.length - j) (0, (ZI.of 0)) ?_ h (by kernel_rfl) (by kernel_rfl) ?_
 ·exact ⟨Nat.zero_le _, rfl, Nat.zero_le _⟩
 ·clear h; rintro ⟨j, out⟩ a w hI h
  change St _ (F.of [(2, vp 0 0), (3, vp 1 0), (7, .t (.c (.d (.sl 5 (l.map SideD.d))))), (8, vi .i64 (l.length : Int)), (9, vi .i64 (j : Int))] [(0, .box [.d (.raw (.bool false)), .d (nsl [])]), (1, .box (zi out))]) a w at h
  obtain ⟨hI1, hI2, hI3⟩ := hI
  have lout : Lb out.abs := by rw [hI2]; exact ZI.lb_of _
  refine rSeq fam0ok 2 [] [(2, vp 0 0), (3, vp 1 0), (7, .t (.c (.d (.sl 5 (l.map SideD.d))))), (8, vi .i64 (l.length : Int)), (9, vi .i64 (j : Int)), (10, vb (decide ((j : Int) < (l.length : Int))))] [(0, .box [.d (.raw (.bool false)), .d (nsl [])]), (1, .box (zi out))] (by kernel_rfl) h ?_; clear h; intro a w h
  refine wp_seq ?_
  refine condS (decide ((j : Int) < (l.length : Int))) h rfl (fun hc => ?_) (fun hc => ?_)
  ·have hc1 := hc; clear hc
   have hc1' := of_decide_eq_true hc1
   refine wp_skip ?_
   refine then_n ?_
   refine wp_seq ?_
   refine wp_block ?_
   obtain ⟨x1, hx1⟩ : ∃ z_ : SideD, l[j]? = some z_ := ⟨_, List.getElem?_eq_getElem (by first | omega | (simp at *; omega))⟩
   have gx1 := hl x1 (List.mem_of_getElem? hx1)
   have lgx1 := gx1.len
   refine rSeq fam0ok 2 [(0, .gen _ _ _ fun _ _ _ _ => Op.idxD (d := 11) (t := 7) (k := .i64) hb_1 (map_at hx1 (f := SideD.d)) (OV.tmp 9 _))] [(2, vp 0 0), (3, vp 1 0), (5, vp 2 0), (7, .t (.c (.d (.sl 5 (l.map SideD.d))))), (8, vi .i64 (l.length : Int)), (9, vi .i64 (j : Int))] [(0, .box [.d (.raw (.bool false)), .d (nsl [])]), (1, .box (zi out)), (2, .box (zi x1.times ++ [.d (.sl 3 (x1.rest.parts.map Part.d))] ++ zi x1.rest.k))] (by kernel_rfl) h ?_; clear h; intro a w h
   obtain ⟨r2, er2, vr2, or2, lr2⟩ := mkZ (v := max out.val x1.times.val) (m := 1000) (max_len lout gx1.lb (by omega) (by omega))
   refine rS fam0ok 3 [(3, .call (Fn.cast (SMaxN out x1.times lout gx1.lb (by omega) (by omega)) (congrArg vz er2.symm)) hb_23)] [(2, vp 0 0), (3, vp 1 0), (7, .t (.c (.d (.sl 5 (l.map SideD.d))))), (8, vi .i64 (l.length : Int)), (9, vi .i64 (j : Int))] [(0, .box [.d (.raw (.bool false)), .d (nsl [])]), (1, .box (zi r2))] (by kernel_rfl) h ?_; clear h; intro a w h
   refine block_n ?_
   refine then_n ?_
   refine rS fam0ok 3 [(0, .add .i64 (m := (j : Int)) (n := 1) (i64_id (by omega) (by omega)))] [(2, vp 0 0), (3, vp 1 0), (7, .t (.c (.d (.sl 5 (l.map SideD.d))))), (8, vi .i64 (l.length : Int)), (9, vi .i64 ((j : Int) + 1))] [(0, .box [.d (.raw (.bool false)), .d (nsl [])]), (1, .box (zi r2))] (by kernel_rfl) h ?_; clear h; intro a w h
   refine then_n ?_
   refine roundS (x := (j, out)) (y := (j + 1, r2)) h ?_ ?_ (by kernel_rfl) (by kernel_rfl)
   ·have := at_lt hx1
    exact ⟨by omega, by rw [er2, max_take hx1, hI2, ZI.val_of], by rw [er2]; exact max_len lout gx1.lb hI3 gx1.len⟩
   ·show l.length - (j + 1) < l.length - j
    have := at_lt hx1; omega
  ·have hc2 := hc; clear hc
   have hc2' := of_decide_eq_false hc2
   refine wp_exit ?_
   refine then_x ?_
   refine then_x ?_
   refine inBlock_exit ?_
   refine then_n ?_
   refine rSeq fam0ok 3 [] [(2, vp 0 0)] [(0, .box (zi out))] (by kernel_rfl) h ?_; clear h; intro a w h
   refine wp_ret ?_
   refine retS [.agg (zi out)] h Exit.ret (.inl rfl)  rfl ⟨RV.agg _ 0 0 _ _ _ _ ia_1 rfl rfl rfl rfl, trivial⟩ ?_ (by kernel_rfl) (by kernel_rfl)
   rw [hI2, List.take_of_length_le (by omega)]; first | done | rfl
set_option maxHeartbeats 4000000 in
theorem SLast (x y : ZI) (hx : Lb x.abs) (hy : Lb y.abs) (lx : x.abs.length ≤ 9) (ly : y.abs.length ≤ 9) (h0 : y.val ≠ 0) : Fn Tryz.prog 66 [] [vz x, vz y] (vz (ZI.of (lastZ x.val y.val))) [] := by
 refine Fn.body Tryz.func66 rfl 22 rfl fun w H B a h => ?_
 refine rSeq fam0ok 0 [] [(2, vp 0 0), (3, vp 1 0), (4, vp 2 0)] [(0, .box (zi x)), (1, .box (zi y)), (2, .box [.d (.raw (.bool false)), .d (nsl [])])] (by kernel_rfl) h ?_; clear h; intro a w h
 obtain ⟨r1, er1, vr1, or1, lr1⟩ := mkZ (v := y.val * x.val) (m := y.abs.length + x.abs.length) (len_mul hy hx)
 obtain ⟨r2, er2, vr2, or2, lr2⟩ := mkZ (v := r1.val - y.val) (m := r1.abs.length + y.abs.length + 1) (len_sub or1 hy)
 obtain ⟨r3, er3, vr3, or3, lr3⟩ := mkZ (v := r2.val - x.val) (m := r2.abs.length + x.abs.length + 1) (len_sub or2 hx)
 obtain ⟨r4q, er4q, vr4q, or4q, lr4q⟩ := mkZ (v := r3.val.fdiv y.val) (m := r3.abs.length) (len_fdiv or3 h0)
 obtain ⟨r4r, er4r, vr4r, or4r, lr4r⟩ := mkZ (v := r3.val.fmod y.val) (m := y.abs.length) (len_fmod hy h0)
 refine rSeq fam0ok 3 [(2, .call (Fn.cast (SMul y x hy hx (by omega) (by omega)) (congrArg vz er1.symm)) tm_12), (4, .call (Fn.cast (SSub r1 y or1 hy (by omega) (by omega)) (congrArg vz er2.symm)) zs_16), (6, .call (Fn.cast (SSub r2 x or2 hx (by omega) (by omega)) (congrArg vz er3.symm)) zs_16), (8, .call (Fn.cast (SDiv r3 y or3 hy (by omega) (by omega) h0) (show _ = (.tup [.agg (zi r4q), .agg (zi r4r), .c (.d (.raw (.int .i64 0)))] : V) by rw [er4q, er4r]; first | done | rfl)) zs_20)] [(4, vp 2 0), (5, vp 3 0)] [(2, .box [.d (.raw (.bool false)), .d (nsl [])]), (3, .box (zi r4q))] (by kernel_rfl) h ?_; clear h; intro a w h
 refine rSeq fam0ok 5 [] [(4, vp 2 0)] [(2, .box (zi r4q))] (by kernel_rfl) h ?_; clear h; intro a w h
 refine wp_ret ?_
 refine retS [.agg (zi r4q)] h Exit.ret (.inl rfl)  rfl ⟨RV.agg _ 2 0 _ _ _ _ ia_1 rfl rfl rfl rfl, trivial⟩ ?_ (by kernel_rfl) (by kernel_rfl)
 have hz : lastZ x.val y.val = r3.val.fdiv y.val := by unfold lastZ; rw [vr3, vr2, vr1]
 rw [hz]; first | (rw [er4q]; done) | (rw [er4q]; rfl)
end Go.Proofs.YtoklkfmffmonoaaGreat.S
end
section
namespace Go.Proofs.YtoklkfmffmonoaaGreat.S
open Go.RowKit

theorem hc_14 : Bodied Tryz.prog 102 := Bodied.mk' (by kernel_rfl)
theorem hc_17 : Bodied Tryz.prog 76 := Bodied.mk' (by kernel_rfl)
theorem hc_20 : Bodied Tryz.prog 31 := Bodied.mk' (by kernel_rfl)
theorem hc_22 : Bodied Tryz.prog 33 := Bodied.mk' (by kernel_rfl)
theorem len_ceil {x y : ZI} (hx : Lb x.abs) (h : y.val ≠ 0) : (ZI.of (-((-x.val).fdiv y.val))).abs.length ≤ x.abs.length :=
 ZI.len_of (by rw [Int.natAbs_neg]; exact Nat.lt_of_le_of_lt (fdiv_natAbs_le _ h) (by rw [Int.natAbs_neg]; exact ZI.abs_lt hx))
theorem SCeil (x y : ZI) (hx : Lb x.abs) (hy : Lb y.abs) (lx : x.abs.length ≤ 15000) (ly : y.abs.length ≤ 15000) (h0 : y.val ≠ 0) : Fn Tryz.prog 76 [] [vz x, vz y] (.tup [.agg (zi (ZI.of (-((-x.val).fdiv y.val)))), .c (.d (.raw (.int .i64 0)))]) [] := by
 refine Fn.body Tryz.func76 rfl 28 rfl fun w H B a h => ?_
 refine rSeq fam0ok 0 [] [(2, vp 0 0), (3, vp 1 0), (4, vp 2 0), (5, vi .i64 0)] [(0, .box (zi x)), (1, .box (zi y)), (2, .box [.d (.raw (.bool false)), .d (nsl [])])] (by kernel_rfl) h ?_; clear h; intro a w h
 obtain ⟨r1q, er1q, vr1q, or1q, lr1q⟩ := mkZ (v := x.val.fdiv y.val) (m := x.abs.length) (len_fdiv hx h0)
 obtain ⟨r1r, er1r, vr1r, or1r, lr1r⟩ := mkZ (v := x.val.fmod y.val) (m := y.abs.length) (len_fmod hy h0)
 refine rSeq fam0ok 3 [(2, .call (Fn.cast (SDiv x y hx hy (by omega) (by omega) h0) (show _ = (.tup [.agg (zi r1q), .agg (zi r1r), .c (.d (.raw (.int .i64 0)))] : V) by rw [er1q, er1r]; first | done | rfl)) zs_20)] [(4, vp 2 0), (5, vi .i64 0), (6, vp 3 0), (7, vp 4 0), (8, vi .i64 0)] [(2, .box [.d (.raw (.bool false)), .d (nsl [])]), (3, .box (zi r1q)), (4, .box (zi r1r))] (by kernel_rfl) h ?_; clear h; intro a w h
 refine wp_seq ?_
 refine rSeq fam0ok 5 [(1, .cmp (op := .eql) (m := 0) (n := 0) (b := true) .i64 rfl), (4, .call (SSign r1r or1r (by omega)) td_6)] [(4, vp 2 0), (5, vi .i64 0), (6, vp 3 0), (8, vi .i64 0), (22, vb (sgn r1r.val != 0))] [(2, .box [.d (.raw (.bool false)), .d (nsl [])]), (3, .box (zi r1q))] (by kernel_rfl) h ?_; clear h; intro a w h
 refine condS (sgn r1r.val != 0) h rfl (fun hc => ?_) (fun hc => ?_)
 ·have hc1 := hc; clear hc
  have hc1' := hc1; (try simp at hc1')
  obtain ⟨r3, er3, vr3, or3, lr3⟩ := mkZ (v := 1) (m := 2) (ZI.len_of (by have := pw2; omega))
  obtain ⟨r4, er4, vr4, or4, lr4⟩ := mkZ (v := r1q.val + r3.val) (m := r1q.abs.length + r3.abs.length + 1) (len_add or1q or3)
  refine rS fam0ok 5 [(1, .call (Fn.cast (SOf 1 ⟨by omega, by omega⟩) (congrArg vz er3.symm)) tm_10), (2, .call (Fn.cast (SAdd r1q r3 or1q or3 (by omega) (by omega)) (congrArg vz er4.symm)) tl_9)] [(4, vp 2 0), (5, vi .i64 0), (6, vp 3 0), (8, vi .i64 0)] [(2, .box [.d (.raw (.bool false)), .d (nsl [])]), (3, .box (zi r4))] (by kernel_rfl) h ?_; clear h; intro a w h
  refine then_n ?_
  refine rSeq fam0ok 5 [] [(4, vp 2 0), (5, vi .i64 0)] [(2, .box (zi r4))] (by kernel_rfl) h ?_; clear h; intro a w h
  refine wp_ret ?_
  refine retS [.agg (zi r4), .c (.d (.raw (.int .i64 0)))] h Exit.ret (.inl rfl)  rfl ⟨RV.agg _ 2 0 _ _ _ _ ia_1 rfl rfl rfl rfl, RV.tmp _ _ rfl, trivial⟩ ?_ (by kernel_rfl) (by kernel_rfl)
  have k := ceil_turn h0 (by rw [← vr1r]; exact fun e => by rw [sgn_zero e] at hc1; simp at hc1)
  rw [er4, vr1q, vr3, k]; first | done | rfl
 ·have hc2 := hc; clear hc
  have hc2' := hc2; (try simp at hc2')
  refine wp_skip ?_
  refine then_n ?_
  refine rSeq fam0ok 5 [] [(4, vp 2 0), (5, vi .i64 0)] [(2, .box (zi r1q))] (by kernel_rfl) h ?_; clear h; intro a w h
  refine wp_ret ?_
  refine retS [.agg (zi r1q), .c (.d (.raw (.int .i64 0)))] h Exit.ret (.inl rfl)  rfl ⟨RV.agg _ 2 0 _ _ _ _ ia_1 rfl rfl rfl rfl, RV.tmp _ _ rfl, trivial⟩ ?_ (by kernel_rfl) (by kernel_rfl)
  have k := ceil_stay h0 (by rw [← vr1r]; exact sgn_eq0.1 (by simpa using hc2))
  rw [er1q, k]; first | done | rfl
def zeroR (t : Term) : RelD := ⟨plainT t, true⟩
def best (c : Int → Int → Bool) (f : SideD → Int) (l : List SideD) : Option Int := l.foldl (fun m s => some (match m with | none => f s | some m => if c (f s) m = true then f s else m)) none
def gtB (x y : Int) : Bool := decide (cmpZ x y > 0)
def ltB (x y : Int) : Bool := decide (cmpZ x y < 0)
theorem best_snoc (c : Int → Int → Bool) (f : SideD → Int) (l : List SideD) (s : SideD) : best c f (l ++ [s]) = some (match best c f l with | none => f s | some m => if c (f s) m = true then f s else m) := by unfold best; rw [List.foldl_append]; rfl
theorem best_take {c : Int → Int → Bool} {f : SideD → Int} {l : List SideD} {j : Nat} {s : SideD} (h : l[j]? = some s) : best c f (l.take (j + 1)) = some (match best c f (l.take j) with | none => f s | some m => if c (f s) m = true then f s else m) := by
 rw [List.take_add_one, h]; exact best_snoc c f _ s
theorem best_first {c : Int → Int → Bool} {f : SideD → Int} {l : List SideD} {j : Nat} {s : SideD} (h : l[j]? = some s) (ha : (best c f (l.take j)).isSome = false) : best c f (l.take (j + 1)) = some (f s) := by
 rw [best_take h]; cases hb : best c f (l.take j) with
 | none => rfl
 | some m => rw [hb] at ha; cases ha
theorem best_more {c : Int → Int → Bool} {f : SideD → Int} {l : List SideD} {j : Nat} {s : SideD} (h : l[j]? = some s) (_ha : (best c f (l.take j)).isSome = true) (hc : c (f s) ((best c f (l.take j)).getD 0) = true) : best c f (l.take (j + 1)) = some (f s) := by
 rw [best_take h]; cases hb : best c f (l.take j) with
 | none => rfl
 | some m => rw [hb] at hc; simp only [Option.getD_some] at hc; simp [hc]
theorem best_keep {c : Int → Int → Bool} {f : SideD → Int} {l : List SideD} {j : Nat} {s : SideD} (h : l[j]? = some s) (ha : (best c f (l.take j)).isSome = true) (hc : c (f s) ((best c f (l.take j)).getD 0) = false) : best c f (l.take (j + 1)) = best c f (l.take j) := by
 rw [best_take h]; cases hb : best c f (l.take j) with
 | none => rw [hb] at ha; cases ha
 | some m => rw [hb] at hc; simp only [Option.getD_some] at hc; simp [hc]
theorem best_some (c : Int → Int → Bool) (f : SideD → Int) : ∀ l : List SideD, (best c f l).isSome = decide (0 < l.length) := by
 intro l
 rcases List.eq_nil_or_concat l with rfl | ⟨l', s, rfl⟩
 ·rfl
 ·rw [List.concat_eq_append, best_snoc]; simp
def fitS (L H : List SideD) (vs : List ZI) : ZI × Bool := match best gtB (leastZ · vs) L with
  | some m => if H.any (fun s => ltB (mostZ s vs) m) = true then (ZI.of 0, false) else (ZI.of m, true)
  | none => (ZI.of ((best ltB (mostZ · vs) H).getD 0), true)
theorem least_len {s : SideD} {vs : List ZI} (hs : SideOk s) (hv : VOk 8 vs) (h0 : s.times.val ≠ 0) : (ZI.of (leastZ s vs)).abs.length ≤ 19 := by
 have h1 := valT_len hs.rest (by decide) hv
 have h2 : (ZI.of (-valT s.rest vs)).abs.length ≤ 18 := by have := len_neg (ZI.lb_of (valT s.rest vs)); rw [ZI.val_of] at this; omega
 have h3 := len_ceil (x := ZI.of (-valT s.rest vs)) (y := s.times) (ZI.lb_of _) h0
 rw [ZI.val_of] at h3
 unfold leastZ; omega
theorem most_len {s : SideD} {vs : List ZI} (hs : SideOk s) (hv : VOk 8 vs) (h0 : s.times.val ≠ 0) : (ZI.of (mostZ s vs)).abs.length ≤ 19 := by
 have h1 := valT_len hs.rest (by decide) hv
 have h3 := len_fdiv (x := ZI.of (valT s.rest vs)) (y := s.times) (ZI.lb_of _) h0
 rw [ZI.val_of] at h3
 unfold mostZ; omega
theorem low_ne {rs : List RelD} {v : Int} : ∀ s ∈ lowsOf rs v, s.times.val ≠ 0 := fun s hs => by
 obtain ⟨r, _, hm⟩ := List.mem_flatMap.1 hs
 unfold lowF at hm
 split at hm
 ·rw [List.mem_singleton.1 hm]; show (ZI.of _).val ≠ 0; rw [ZI.val_of]; omega
 ·cases hm
theorem high_ne {rs : List RelD} {v : Int} : ∀ s ∈ highsOf rs v, s.times.val ≠ 0 := fun s hs => by
 obtain ⟨r, _, hm⟩ := List.mem_flatMap.1 hs
 unfold highF at hm
 split at hm
 ·rw [List.mem_singleton.1 hm]; show (ZI.of _).val ≠ 0; rw [ZI.val_of]; omega
 ·cases hm
set_option maxHeartbeats 4000000 in
theorem SZero (t : Term) (ht : TOk 400 10000 t) : Fn Tryz.prog 102 [] [.t (.agg ([.d (.sl 3 (t.parts.map Part.d))] ++ zi t.k))] (.t (.agg ([.d (.sl 3 ((zeroR t).t.parts.map Part.d))] ++ zi (zeroR t).t.k ++ [.d (.raw (.bool (zeroR t).eq))]))) [] := by
 refine Fn.body Tryz.func102 rfl 6 rfl fun w H B a h => ?_
 refine rSeq fam0ok 0 [] [(1, vp 0 0), (2, vp 1 0)] [(0, .box ([.d (.sl 3 (t.parts.map Part.d))] ++ zi t.k)), (1, .box [.d (.raw nilV), .d (.raw (.bool false)), .d (nsl []), .d (.raw (.bool false))])] (by kernel_rfl) h ?_; clear h; intro a w h
 refine rSeq fam0ok 2 [(1, .call (SPlain t ht (by decide) (by decide)) tm_7)] [(2, vp 1 0)] [(1, .box ([.d (.sl 3 ((plainT t).parts.map Part.d))] ++ zi (plainT t).k ++ [.d (.raw (.bool true))]))] (by kernel_rfl) h ?_; clear h; intro a w h
 refine wp_ret ?_
 refine retS [.agg ([.d (.sl 3 ((plainT t).parts.map Part.d))] ++ zi (plainT t).k ++ [.d (.raw (.bool true))])] h Exit.ret (.inl rfl)  rfl ⟨RV.agg _ 1 0 _ _ _ _ ha_1 rfl rfl rfl rfl, trivial⟩ ?_ (by kernel_rfl) (by kernel_rfl)
 rfl
set_option maxHeartbeats 4000000 in
theorem SEqual (low : SideD) (v i : Int) (hlow : SideOk low) (hi : -9223372036854775808 ≤ i ∧ i ≤ 9223372036854775807) : Fn Tryz.prog 68 [] [.t (.agg (zi low.times ++ [.d (.sl 3 (low.rest.parts.map Part.d))] ++ zi low.rest.k)), vi .i64 v, vi .i64 i] (.t (.agg ([.d (.sl 3 ((eqR low v i).t.parts.map Part.d))] ++ zi (eqR low v i).t.k ++ [.d (.raw (.bool (eqR low v i).eq))]))) [] := by
 have ll := hlow.len
 refine Fn.body Tryz.func68 rfl 22 rfl fun w H B a h => ?_
 refine rSeq fam0ok 0 [] [(1, vi .i64 v), (2, vi .i64 i), (3, vp 0 0), (6, vp 1 0)] [(0, .box (zi low.times ++ [.d (.sl 3 (low.rest.parts.map Part.d))] ++ zi low.rest.k)), (1, .box [.d (.raw nilV), .d (.raw (.bool false)), .d (nsl []), .d (.raw (.bool false))])] (by kernel_rfl) h ?_; clear h; intro a w h
 refine rSeq fam0ok 2 [(1, .call (SVar v) to_0), (4, .call (SScale (varT v) low.times ((TOk.one (v := v)).plain (by decide)) (by decide) hlow.lb hlow.len (by decide)) tm_13), (7, .call (STAdd (scaleT (varT v) low.times) low.rest ((scaleT_ok ((TOk.one (v := v)).plain (by decide)) hlow.lb hlow.len (by decide)).mono (by decide) (by decide)) (hlow.rest.mono (by decide) (by decide))) tm_15)] [(2, vi .i64 i), (6, vp 1 0), (7, vp 2 0)] [(1, .box [.d (.raw nilV), .d (.raw (.bool false)), .d (nsl []), .d (.raw (.bool false))]), (2, .box ([.d (.sl 3 ((addT (scaleT (varT v) low.times) low.rest).parts.map Part.d))] ++ zi (addT (scaleT (varT v) low.times) low.rest).k))] (by kernel_rfl) h ?_; clear h; intro a w h
 obtain ⟨r4, er4, vr4, or4, lr4⟩ := mkZ (v := i) (m := 2) (ZI.len_of (by have := pw2; omega))
 refine rSeq fam0ok 3 [(2, .call (Fn.cast (SOf i ⟨by omega, by omega⟩) (congrArg vz er4.symm)) tm_10), (3, .call (SNumber r4 or4 (by omega)) to_7), (4, .call (STSub (addT (scaleT (varT v) low.times) low.rest) (numT r4) ((addT_ok ((scaleT_ok ((TOk.one (v := v)).plain (by decide)) hlow.lb hlow.len (by decide)).mono (Nat.le_refl 1) (show 13 ≤ 13 by decide)) (hlow.rest.mono (Nat.le_refl 20) (show 9 ≤ 13 by decide)) (by decide)).mono (by decide) (by decide)) ((TOk.num (L := 60) (ZI.lb_of _) (num_len or4 (show r4.abs.length ≤ 60 by omega))).mono (by decide) (by decide))) to_9), (5, .call (SZero (subT (addT (scaleT (varT v) low.times) low.rest) (numT r4)) ((subT_ok ((addT_ok ((scaleT_ok ((TOk.one (v := v)).plain (by decide)) hlow.lb hlow.len (by decide)).mono (Nat.le_refl 1) (show 13 ≤ 13 by decide)) (hlow.rest.mono (Nat.le_refl 20) (show 9 ≤ 13 by decide)) (by decide)).mono (Nat.le_refl 21) (show 28 ≤ 60 by decide)) ((TOk.num (L := 60) (ZI.lb_of _) (num_len or4 (show r4.abs.length ≤ 60 by omega))).mono (Nat.le_refl 0) (show 60 ≤ 60 by decide)) (by decide)).mono (by decide) (by decide))) hc_14)] [(6, vp 1 0)] [(1, .box ([.d (.sl 3 ((zeroR (subT (addT (scaleT (varT v) low.times) low.rest) (numT r4))).t.parts.map Part.d))] ++ zi (zeroR (subT (addT (scaleT (varT v) low.times) low.rest) (numT r4))).t.k ++ [.d (.raw (.bool (zeroR (subT (addT (scaleT (varT v) low.times) low.rest) (numT r4))).eq))]))] (by kernel_rfl) h ?_; clear h; intro a w h
 refine wp_ret ?_
 refine retS [.agg ([.d (.sl 3 ((zeroR (subT (addT (scaleT (varT v) low.times) low.rest) (numT r4))).t.parts.map Part.d))] ++ zi (zeroR (subT (addT (scaleT (varT v) low.times) low.rest) (numT r4))).t.k ++ [.d (.raw (.bool (zeroR (subT (addT (scaleT (varT v) low.times) low.rest) (numT r4))).eq))])] h Exit.ret (.inl rfl)  rfl ⟨RV.agg _ 1 0 _ _ _ _ ha_1 rfl rfl rfl rfl, trivial⟩ ?_ (by kernel_rfl) (by kernel_rfl)
 have hz : eqR low v i = zeroR (subT (addT (scaleT (varT v) low.times) low.rest) (numT r4)) := by unfold eqR zeroR; rw [er4]
 rw [hz]; first | done | rfl
set_option maxHeartbeats 4000000 in
theorem SLeastV (s : SideD) (vs : List ZI) (hs : SideOk s) (hv : VOk 8 vs) (h0 : s.times.val ≠ 0) : Fn Tryz.prog 31 [] [.t (.agg (zi s.times ++ [.d (.sl 3 (s.rest.parts.map Part.d))] ++ zi s.rest.k)), .t (.c (.d (.sl 2 (vs.map ziD))))] (vz (ZI.of (leastZ s vs))) [] := by
 have ls := hs.len
 refine Fn.body Tryz.func31 rfl 19 rfl fun w H B a h => ?_
 refine rSeq fam0ok 0 [] [(1, .t (.c (.d (.sl 2 (vs.map ziD))))), (2, vp 0 0), (4, vp 1 0)] [(0, .box (zi s.times ++ [.d (.sl 3 (s.rest.parts.map Part.d))] ++ zi s.rest.k)), (1, .box [.d (.raw (.bool false)), .d (nsl [])])] (by kernel_rfl) h ?_; clear h; intro a w h
 obtain ⟨r1, er1, vr1, or1, lr1⟩ := mkZ (v := valT s.rest vs) (m := 18) (valT_len hs.rest (by decide) hv)
 obtain ⟨r2, er2, vr2, or2, lr2⟩ := mkZ (v := -r1.val) (m := r1.abs.length) (len_neg or1)
 obtain ⟨r3, er3, vr3, or3, lr3⟩ := mkZ (v := -((-r2.val).fdiv s.times.val)) (m := r2.abs.length) (len_ceil or2 h0)
 refine rSeq fam0ok 2 [(3, .call (Fn.cast (SValue s.rest vs hs.rest (by decide) (by decide) hv) (congrArg vz er1.symm)) ke_0), (4, .call (Fn.cast (SNeg r1 or1 (by omega)) (congrArg vz er2.symm)) zs_0), (7, .call (Fn.cast (SCeil r2 s.times or2 hs.lb (by omega) (by omega) h0) (show _ = (.tup [.agg (zi r3), .c (.d (.raw (.int .i64 0)))] : V) by rw [er3]; first | done | rfl)) hc_17)] [(4, vp 1 0), (5, vp 2 0)] [(1, .box [.d (.raw (.bool false)), .d (nsl [])]), (2, .box (zi r3))] (by kernel_rfl) h ?_; clear h; intro a w h
 refine rSeq fam0ok 3 [] [(4, vp 1 0)] [(1, .box (zi r3))] (by kernel_rfl) h ?_; clear h; intro a w h
 refine wp_ret ?_
 refine retS [.agg (zi r3)] h Exit.ret (.inl rfl)  rfl ⟨RV.agg _ 1 0 _ _ _ _ ia_1 rfl rfl rfl rfl, trivial⟩ ?_ (by kernel_rfl) (by kernel_rfl)
 have hz : leastZ s vs = -((-r2.val).fdiv s.times.val) := by unfold leastZ; rw [vr2, vr1]
 rw [hz]; first | (rw [er3]; done) | (rw [er3]; rfl)
set_option maxHeartbeats 4000000 in
theorem SMostV (s : SideD) (vs : List ZI) (hs : SideOk s) (hv : VOk 8 vs) (h0 : s.times.val ≠ 0) : Fn Tryz.prog 33 [] [.t (.agg (zi s.times ++ [.d (.sl 3 (s.rest.parts.map Part.d))] ++ zi s.rest.k)), .t (.c (.d (.sl 2 (vs.map ziD))))] (vz (ZI.of (mostZ s vs))) [] := by
 have ls := hs.len
 refine Fn.body Tryz.func33 rfl 20 rfl fun w H B a h => ?_
 refine rSeq fam0ok 0 [] [(1, .t (.c (.d (.sl 2 (vs.map ziD))))), (2, vp 0 0), (4, vp 1 0)] [(0, .box (zi s.times ++ [.d (.sl 3 (s.rest.parts.map Part.d))] ++ zi s.rest.k)), (1, .box [.d (.raw (.bool false)), .d (nsl [])])] (by kernel_rfl) h ?_; clear h; intro a w h
 obtain ⟨r1, er1, vr1, or1, lr1⟩ := mkZ (v := valT s.rest vs) (m := 18) (valT_len hs.rest (by decide) hv)
 obtain ⟨r2q, er2q, vr2q, or2q, lr2q⟩ := mkZ (v := r1.val.fdiv s.times.val) (m := r1.abs.length) (len_fdiv or1 h0)
 obtain ⟨r2r, er2r, vr2r, or2r, lr2r⟩ := mkZ (v := r1.val.fmod s.times.val) (m := s.times.abs.length) (len_fmod hs.lb h0)
 refine rSeq fam0ok 2 [(3, .call (Fn.cast (SValue s.rest vs hs.rest (by decide) (by decide) hv) (congrArg vz er1.symm)) ke_0), (6, .call (Fn.cast (SDiv r1 s.times or1 hs.lb (by omega) (by omega) h0) (show _ = (.tup [.agg (zi r2q), .agg (zi r2r), .c (.d (.raw (.int .i64 0)))] : V) by rw [er2q, er2r]; first | done | rfl)) zs_20)] [(4, vp 1 0), (5, vp 2 0)] [(1, .box [.d (.raw (.bool false)), .d (nsl [])]), (2, .box (zi r2q))] (by kernel_rfl) h ?_; clear h; intro a w h
 refine rSeq fam0ok 4 [] [(4, vp 1 0)] [(1, .box (zi r2q))] (by kernel_rfl) h ?_; clear h; intro a w h
 refine wp_ret ?_
 refine retS [.agg (zi r2q)] h Exit.ret (.inl rfl)  rfl ⟨RV.agg _ 1 0 _ _ _ _ ia_1 rfl rfl rfl rfl, trivial⟩ ?_ (by kernel_rfl) (by kernel_rfl)
 have hz : mostZ s vs = r1.val.fdiv s.times.val := by unfold mostZ; rw [vr1]
 rw [hz]; first | (rw [er2q]; done) | (rw [er2q]; rfl)
set_option maxHeartbeats 4000000 in
theorem SFit (rs : List RelD) (v : Int) (vs : List ZI) (hrs : RsOk rs) (hv : VOk 8 vs) : Fn Tryz.prog 12 [] [.t (.c (.d (.sl 4 (rs.map RelD.d)))), vi .i64 v, .t (.c (.d (.sl 2 (vs.map ziD))))] (.tup [.agg (zi (fitS (lowsOf rs v) (highsOf rs v) vs).1), .c (.d (.raw (.bool (fitS (lowsOf rs v) (highsOf rs v) vs).2)))]) [] := by
  have lrs := hrs.1
  have nl := lows_len hrs v
  have nh := highs_len hrs v
  refine Fn.body Tryz.func12 rfl 81 rfl fun w H B a h => ?_
  refine rSeq fam0ok 0 [] [(0, .t (.c (.d (.sl 4 (rs.map RelD.d))))), (1, vi .i64 v), (2, .t (.c (.d (.sl 2 (vs.map ziD))))), (6, vp 0 0), (7, vb false)] [(0, .box [.d (.raw (.bool false)), .d (nsl [])])] (by kernel_rfl) h ?_; clear h; intro a w h
  refine rSeq fam0ok 1 [(2, .call (Ssplit rs v hrs) hb_15)] [(2, .t (.c (.d (.sl 2 (vs.map ziD))))), (6, vp 0 0), (7, vb false), (8, vp 1 0)] [(0, .box [.d (.raw (.bool false)), .d (nsl [])]), (1, .box [.d (.sl 5 ((lowsOf rs v).map SideD.d)), .d (.sl 5 ((highsOf rs v).map SideD.d)), .d (.sl 4 ((othersOf rs v).map RelD.d))])] (by kernel_rfl) h ?_; clear h; intro a w h
  refine rSeq fam0ok 2 [] [(2, .t (.c (.d (.sl 2 (vs.map ziD))))), (6, vp 0 0), (7, vb false), (8, vp 1 0), (9, vp 2 0), (10, vb false)] [(0, .box [.d (.raw (.bool false)), .d (nsl [])]), (1, .box [.d (.sl 5 ((lowsOf rs v).map SideD.d)), .d (.sl 5 ((highsOf rs v).map SideD.d)), .d (.sl 4 ((othersOf rs v).map RelD.d))]), (2, .box [.d (.raw (.bool false)), .d (nsl [])])] (by kernel_rfl) h ?_; clear h; intro a w h
  refine wp_seq ?_
  refine rSeq fam0ok 3 [(2, .len (c := (.d (.sl 5 ((lowsOf rs v).map SideD.d)))) (n := (lowsOf rs v).length) (lenC_map _ _ _))] [(2, .t (.c (.d (.sl 2 (vs.map ziD))))), (6, vp 0 0), (7, vb false), (8, vp 1 0), (9, vp 2 0), (10, vb false), (22, .t (.c (.d (.sl 5 ((lowsOf rs v).map SideD.d))))), (23, vi .i64 ((lowsOf rs v).length : Int)), (24, vi .i64 0)] [(0, .box [.d (.raw (.bool false)), .d (nsl [])]), (1, .box [.d (.sl 5 ((lowsOf rs v).map SideD.d)), .d (.sl 5 ((highsOf rs v).map SideD.d)), .d (.sl 4 ((othersOf rs v).map RelD.d))]), (2, .box [.d (.raw (.bool false)), .d (nsl [])])] (by kernel_rfl) h ?_; clear h; intro a w h
  refine wp_block ?_
  refine loopS (ι := (Nat) × (ZI) × (Bool)) (fun (z_ : (Nat) × (ZI) × (Bool)) => match z_ with | (j, out, any) => j ≤ (lowsOf rs v).length ∧ out = ZI.of ((best gtB (leastZ · vs) ((lowsOf rs v).take j)).getD 0) ∧ any = (best gtB (leastZ · vs) ((lowsOf rs v).take j)).isSome ∧ out.abs.length ≤ 19)
      (fun (z_ : (Nat) × (ZI) × (Bool)) => match z_ with | (j, out, any) => [(2, .t (.c (.d (.sl 2 (vs.map ziD))))), (6, vp 0 0), (7, vb false), (8, vp 1 0), (9, vp 2 0), (10, vb any), (22, .t (.c (.d (.sl 5 ((lowsOf rs v).map SideD.d))))), (23, vi .i64 ((lowsOf rs v).length : Int)), (24, vi .i64 (j : Int))])
      (fun (z_ : (Nat) × (ZI) × (Bool)) => match z_ with | (j, out, any) => [(0, .box [.d (.raw (.bool false)), .d (nsl [])]), (1, .box [.d (.sl 5 ((lowsOf rs v).map SideD.d)), .d (.sl 5 ((highsOf rs v).map SideD.d)), .d (.sl 4 ((othersOf rs v).map RelD.d))]), (2, .box (zi out))])
      (fun (z_ : (Nat) × (ZI) × (Bool)) => match z_ with | (j, out, any) => (lowsOf rs v).length - j) (0, (ZI.of 0), false) ?_ h (by kernel_rfl) (by kernel_rfl) ?_
  · exact ⟨Nat.zero_le _, rfl, rfl, Nat.zero_le _⟩
  · clear h; rintro ⟨j, out, any⟩ a w hI h
    change St _ (F.of [(2, .t (.c (.d (.sl 2 (vs.map ziD))))), (6, vp 0 0), (7, vb false), (8, vp 1 0), (9, vp 2 0), (10, vb any), (22, .t (.c (.d (.sl 5 ((lowsOf rs v).map SideD.d))))), (23, vi .i64 ((lowsOf rs v).length : Int)), (24, vi .i64 (j : Int))] [(0, .box [.d (.raw (.bool false)), .d (nsl [])]), (1, .box [.d (.sl 5 ((lowsOf rs v).map SideD.d)), .d (.sl 5 ((highsOf rs v).map SideD.d)), .d (.sl 4 ((othersOf rs v).map RelD.d))]), (2, .box (zi out))]) a w at h
    obtain ⟨hI1, hI2, hI3, hI4⟩ := hI
    have lout : Lb out.abs := by rw [hI2]; exact ZI.lb_of _
    refine rSeq fam0ok 3 [] [(2, .t (.c (.d (.sl 2 (vs.map ziD))))), (6, vp 0 0), (7, vb false), (8, vp 1 0), (9, vp 2 0), (10, vb any), (22, .t (.c (.d (.sl 5 ((lowsOf rs v).map SideD.d))))), (23, vi .i64 ((lowsOf rs v).length : Int)), (24, vi .i64 (j : Int)), (25, vb (decide ((j : Int) < ((lowsOf rs v).length : Int))))] [(0, .box [.d (.raw (.bool false)), .d (nsl [])]), (1, .box [.d (.sl 5 ((lowsOf rs v).map SideD.d)), .d (.sl 5 ((highsOf rs v).map SideD.d)), .d (.sl 4 ((othersOf rs v).map RelD.d))]), (2, .box (zi out))] (by kernel_rfl) h ?_; clear h; intro a w h
    refine wp_seq ?_
    refine condS (decide ((j : Int) < ((lowsOf rs v).length : Int))) h rfl (fun hc => ?_) (fun hc => ?_)
    · have hc1 := hc; clear hc
      have hc1' := of_decide_eq_true hc1
      refine wp_skip ?_
      refine then_n ?_
      refine wp_seq ?_
      refine wp_block ?_
      obtain ⟨x2, hx2⟩ : ∃ z_ : SideD, (lowsOf rs v)[j]? = some z_ := ⟨_, List.getElem?_eq_getElem (by first | omega | (simp at *; omega))⟩
      refine rSeq fam0ok 3 [(0, .gen _ _ _ fun _ _ _ _ => Op.idxD (d := 26) (t := 22) (k := .i64) hb_1 (map_at hx2 (f := SideD.d)) (OV.tmp 24 _))] [(2, .t (.c (.d (.sl 2 (vs.map ziD))))), (6, vp 0 0), (7, vb false), (8, vp 1 0), (9, vp 2 0), (10, vb any), (12, vp 3 0), (22, .t (.c (.d (.sl 5 ((lowsOf rs v).map SideD.d))))), (23, vi .i64 ((lowsOf rs v).length : Int)), (24, vi .i64 (j : Int))] [(0, .box [.d (.raw (.bool false)), .d (nsl [])]), (1, .box [.d (.sl 5 ((lowsOf rs v).map SideD.d)), .d (.sl 5 ((highsOf rs v).map SideD.d)), .d (.sl 4 ((othersOf rs v).map RelD.d))]), (2, .box (zi out)), (3, .box (zi x2.times ++ [.d (.sl 3 (x2.rest.parts.map Part.d))] ++ zi x2.rest.k))] (by kernel_rfl) h ?_; clear h; intro a w h
      obtain ⟨r3, er3, vr3, or3, lr3⟩ := mkZ (v := leastZ x2 vs) (m := 19) (least_len (lows_ok hrs v x2 (List.mem_of_getElem? hx2)) hv (low_ne x2 (List.mem_of_getElem? hx2)))
      refine rSeq fam0ok 4 [(2, .call (Fn.cast (SLeastV x2 vs (lows_ok hrs v x2 (List.mem_of_getElem? hx2)) hv (low_ne x2 (List.mem_of_getElem? hx2))) (congrArg vz er3.symm)) hc_20)] [(2, .t (.c (.d (.sl 2 (vs.map ziD))))), (6, vp 0 0), (7, vb false), (8, vp 1 0), (9, vp 2 0), (10, vb any), (13, vp 4 0), (22, .t (.c (.d (.sl 5 ((lowsOf rs v).map SideD.d))))), (23, vi .i64 ((lowsOf rs v).length : Int)), (24, vi .i64 (j : Int))] [(0, .box [.d (.raw (.bool false)), .d (nsl [])]), (1, .box [.d (.sl 5 ((lowsOf rs v).map SideD.d)), .d (.sl 5 ((highsOf rs v).map SideD.d)), .d (.sl 4 ((othersOf rs v).map RelD.d))]), (2, .box (zi out)), (4, .box (zi r3))] (by kernel_rfl) h ?_; clear h; intro a w h
      rcases Bool.eq_false_or_eq_true any with hc | hc
      · have hc2 := hc; clear hc
        rw [hc2] at h
        refine rSeq fam0ok 5 [(5, .call (SCmp r3 out or3 lout (by omega) (by omega)) tx_2)] [(2, .t (.c (.d (.sl 2 (vs.map ziD))))), (6, vp 0 0), (7, vb false), (8, vp 1 0), (9, vp 2 0), (10, vb true), (13, vp 4 0), (22, .t (.c (.d (.sl 5 ((lowsOf rs v).map SideD.d))))), (23, vi .i64 ((lowsOf rs v).length : Int)), (24, vi .i64 (j : Int)), (38, vb (decide (cmpZ r3.val out.val > 0)))] [(0, .box [.d (.raw (.bool false)), .d (nsl [])]), (1, .box [.d (.sl 5 ((lowsOf rs v).map SideD.d)), .d (.sl 5 ((highsOf rs v).map SideD.d)), .d (.sl 4 ((othersOf rs v).map RelD.d))]), (2, .box (zi out)), (4, .box (zi r3))] (by kernel_rfl) h ?_; clear h; intro a w h
        refine condS (decide (cmpZ r3.val out.val > 0)) h rfl (fun hc => ?_) (fun hc => ?_)
        · have hc3 := hc; clear hc
          have hc3' := of_decide_eq_true hc3
          refine rS fam0ok 5 [] [(2, .t (.c (.d (.sl 2 (vs.map ziD))))), (6, vp 0 0), (7, vb false), (8, vp 1 0), (9, vp 2 0), (10, vb true), (22, .t (.c (.d (.sl 5 ((lowsOf rs v).map SideD.d))))), (23, vi .i64 ((lowsOf rs v).length : Int)), (24, vi .i64 (j : Int))] [(0, .box [.d (.raw (.bool false)), .d (nsl [])]), (1, .box [.d (.sl 5 ((lowsOf rs v).map SideD.d)), .d (.sl 5 ((highsOf rs v).map SideD.d)), .d (.sl 4 ((othersOf rs v).map RelD.d))]), (2, .box (zi r3))] (by kernel_rfl) h ?_; clear h; intro a w h
          refine block_n ?_
          refine then_n ?_
          refine rS fam0ok 5 [(0, .add .i64 (m := (j : Int)) (n := 1) (i64_id (by omega) (by omega)))] [(2, .t (.c (.d (.sl 2 (vs.map ziD))))), (6, vp 0 0), (7, vb false), (8, vp 1 0), (9, vp 2 0), (10, vb true), (22, .t (.c (.d (.sl 5 ((lowsOf rs v).map SideD.d))))), (23, vi .i64 ((lowsOf rs v).length : Int)), (24, vi .i64 ((j : Int) + 1))] [(0, .box [.d (.raw (.bool false)), .d (nsl [])]), (1, .box [.d (.sl 5 ((lowsOf rs v).map SideD.d)), .d (.sl 5 ((highsOf rs v).map SideD.d)), .d (.sl 4 ((othersOf rs v).map RelD.d))]), (2, .box (zi r3))] (by kernel_rfl) h ?_; clear h; intro a w h
          refine then_n ?_
          have hbe := (best_more hx2 (by rw [← hI3, hc2]) (by have hq := hc3; rw [vr3, hI2, ZI.val_of] at hq; exact hq) : best gtB (leastZ · vs) ((lowsOf rs v).take (j + 1)) = _)
          refine roundS (x := (j, out, any)) (y := (j + 1, r3, true)) h ?_ ?_ (by kernel_rfl) (by kernel_rfl)
          · have := at_lt hx2
            exact ⟨by omega, by rw [hbe, er3]; rfl, by rw [hbe]; rfl, lr3⟩
          · show (lowsOf rs v).length - (j + 1) < (lowsOf rs v).length - j
            have := at_lt hx2; omega
        · have hc4 := hc; clear hc
          have hc4' := of_decide_eq_false hc4
          refine wp_skip ?_
          refine block_n ?_
          refine then_n ?_
          refine rS fam0ok 5 [(0, .add .i64 (m := (j : Int)) (n := 1) (i64_id (by omega) (by omega)))] [(2, .t (.c (.d (.sl 2 (vs.map ziD))))), (6, vp 0 0), (7, vb false), (8, vp 1 0), (9, vp 2 0), (10, vb true), (22, .t (.c (.d (.sl 5 ((lowsOf rs v).map SideD.d))))), (23, vi .i64 ((lowsOf rs v).length : Int)), (24, vi .i64 ((j : Int) + 1))] [(0, .box [.d (.raw (.bool false)), .d (nsl [])]), (1, .box [.d (.sl 5 ((lowsOf rs v).map SideD.d)), .d (.sl 5 ((highsOf rs v).map SideD.d)), .d (.sl 4 ((othersOf rs v).map RelD.d))]), (2, .box (zi out))] (by kernel_rfl) h ?_; clear h; intro a w h
          refine then_n ?_
          have hbe := (best_keep hx2 (by rw [← hI3, hc2]) (by have hq := hc4; rw [vr3, hI2, ZI.val_of] at hq; exact hq) : best gtB (leastZ · vs) ((lowsOf rs v).take (j + 1)) = _)
          refine roundS (x := (j, out, any)) (y := (j + 1, out, true)) h ?_ ?_ (by kernel_rfl) (by kernel_rfl)
          · have := at_lt hx2
            exact ⟨by omega, by rw [hbe]; exact hI2, by rw [hbe, ← hI3, hc2], hI4⟩
          · show (lowsOf rs v).length - (j + 1) < (lowsOf rs v).length - j
            have := at_lt hx2; omega
      · have hc5 := hc; clear hc
        rw [hc5] at h
        refine rSeq fam0ok 5 [] [(2, .t (.c (.d (.sl 2 (vs.map ziD))))), (6, vp 0 0), (7, vb false), (8, vp 1 0), (9, vp 2 0), (10, vb false), (13, vp 4 0), (22, .t (.c (.d (.sl 5 ((lowsOf rs v).map SideD.d))))), (23, vi .i64 ((lowsOf rs v).length : Int)), (24, vi .i64 (j : Int)), (38, vb true)] [(0, .box [.d (.raw (.bool false)), .d (nsl [])]), (1, .box [.d (.sl 5 ((lowsOf rs v).map SideD.d)), .d (.sl 5 ((highsOf rs v).map SideD.d)), .d (.sl 4 ((othersOf rs v).map RelD.d))]), (2, .box (zi out)), (4, .box (zi r3))] (by kernel_rfl) h ?_; clear h; intro a w h
        refine condS true h rfl (fun hc => ?_) (fun hc => ?_)
        · clear hc
          refine rS fam0ok 5 [] [(2, .t (.c (.d (.sl 2 (vs.map ziD))))), (6, vp 0 0), (7, vb false), (8, vp 1 0), (9, vp 2 0), (10, vb true), (22, .t (.c (.d (.sl 5 ((lowsOf rs v).map SideD.d))))), (23, vi .i64 ((lowsOf rs v).length : Int)), (24, vi .i64 (j : Int))] [(0, .box [.d (.raw (.bool false)), .d (nsl [])]), (1, .box [.d (.sl 5 ((lowsOf rs v).map SideD.d)), .d (.sl 5 ((highsOf rs v).map SideD.d)), .d (.sl 4 ((othersOf rs v).map RelD.d))]), (2, .box (zi r3))] (by kernel_rfl) h ?_; clear h; intro a w h
          refine block_n ?_
          refine then_n ?_
          refine rS fam0ok 5 [(0, .add .i64 (m := (j : Int)) (n := 1) (i64_id (by omega) (by omega)))] [(2, .t (.c (.d (.sl 2 (vs.map ziD))))), (6, vp 0 0), (7, vb false), (8, vp 1 0), (9, vp 2 0), (10, vb true), (22, .t (.c (.d (.sl 5 ((lowsOf rs v).map SideD.d))))), (23, vi .i64 ((lowsOf rs v).length : Int)), (24, vi .i64 ((j : Int) + 1))] [(0, .box [.d (.raw (.bool false)), .d (nsl [])]), (1, .box [.d (.sl 5 ((lowsOf rs v).map SideD.d)), .d (.sl 5 ((highsOf rs v).map SideD.d)), .d (.sl 4 ((othersOf rs v).map RelD.d))]), (2, .box (zi r3))] (by kernel_rfl) h ?_; clear h; intro a w h
          refine then_n ?_
          have hbe := (best_first hx2 (by rw [← hI3, hc5]) : best gtB (leastZ · vs) ((lowsOf rs v).take (j + 1)) = _)
          refine roundS (x := (j, out, any)) (y := (j + 1, r3, true)) h ?_ ?_ (by kernel_rfl) (by kernel_rfl)
          · have := at_lt hx2
            exact ⟨by omega, by rw [hbe, er3]; rfl, by rw [hbe]; rfl, lr3⟩
          · show (lowsOf rs v).length - (j + 1) < (lowsOf rs v).length - j
            have := at_lt hx2; omega
        · cases hc
    · have hc6 := hc; clear hc
      have hc6' := of_decide_eq_false hc6
      refine wp_exit ?_
      refine then_x ?_
      refine then_x ?_
      refine inBlock_exit ?_
      refine then_n ?_
      refine wp_seq ?_
      have hlj : j = (lowsOf rs v).length := by omega
      refine rSeq fam0ok 5 [(2, .len (c := (.d (.sl 5 ((highsOf rs v).map SideD.d)))) (n := (highsOf rs v).length) (lenC_map _ _ _))] [(2, .t (.c (.d (.sl 2 (vs.map ziD))))), (6, vp 0 0), (7, vb false), (8, vp 1 0), (9, vp 2 0), (10, vb any), (42, .t (.c (.d (.sl 5 ((highsOf rs v).map SideD.d))))), (43, vi .i64 ((highsOf rs v).length : Int)), (44, vi .i64 0)] [(0, .box [.d (.raw (.bool false)), .d (nsl [])]), (1, .box [.d (.sl 5 ((lowsOf rs v).map SideD.d)), .d (.sl 5 ((highsOf rs v).map SideD.d)), .d (.sl 4 ((othersOf rs v).map RelD.d))]), (2, .box (zi out))] (by kernel_rfl) h ?_; clear h; intro a w h
      refine wp_block ?_
      refine loopS (ι := (Nat) × (ZI) × (Bool)) (fun (z_ : (Nat) × (ZI) × (Bool)) => match z_ with | (i, ou, an) => i ≤ (highsOf rs v).length ∧ ou.abs.length ≤ 19 ∧ (0 < (lowsOf rs v).length → ou = out ∧ an = true ∧ ((highsOf rs v).take i).any (fun s => ltB (mostZ s vs) out.val) = false) ∧ ((lowsOf rs v).length = 0 → ou = ZI.of ((best ltB (mostZ · vs) ((highsOf rs v).take i)).getD 0) ∧ an = (best ltB (mostZ · vs) ((highsOf rs v).take i)).isSome))
          (fun (z_ : (Nat) × (ZI) × (Bool)) => match z_ with | (i, ou, an) => [(2, .t (.c (.d (.sl 2 (vs.map ziD))))), (6, vp 0 0), (8, vp 1 0), (9, vp 2 0), (10, vb an), (42, .t (.c (.d (.sl 5 ((highsOf rs v).map SideD.d))))), (43, vi .i64 ((highsOf rs v).length : Int)), (44, vi .i64 (i : Int))])
          (fun (z_ : (Nat) × (ZI) × (Bool)) => match z_ with | (i, ou, an) => [(0, .box [.d (.raw (.bool false)), .d (nsl [])]), (1, .box [.d (.sl 5 ((lowsOf rs v).map SideD.d)), .d (.sl 5 ((highsOf rs v).map SideD.d)), .d (.sl 4 ((othersOf rs v).map RelD.d))]), (2, .box (zi ou))])
          (fun (z_ : (Nat) × (ZI) × (Bool)) => match z_ with | (i, ou, an) => (highsOf rs v).length - i) (0, out, any) ?_ h (by kernel_rfl) (by kernel_rfl) ?_
      · exact ⟨Nat.zero_le _, hI4, fun hp => ⟨rfl, by rw [hI3, hlj, List.take_length, best_some, decide_eq_true hp], rfl⟩, fun hp => ⟨by rw [hI2, hlj, List.take_length, List.length_eq_zero_iff.1 hp]; rfl, by rw [hI3, hlj, List.take_length, List.length_eq_zero_iff.1 hp]; rfl⟩⟩
      · clear h; rintro ⟨i, ou, an⟩ a w hI h
        change St _ (F.of [(2, .t (.c (.d (.sl 2 (vs.map ziD))))), (6, vp 0 0), (8, vp 1 0), (9, vp 2 0), (10, vb an), (42, .t (.c (.d (.sl 5 ((highsOf rs v).map SideD.d))))), (43, vi .i64 ((highsOf rs v).length : Int)), (44, vi .i64 (i : Int))] [(0, .box [.d (.raw (.bool false)), .d (nsl [])]), (1, .box [.d (.sl 5 ((lowsOf rs v).map SideD.d)), .d (.sl 5 ((highsOf rs v).map SideD.d)), .d (.sl 4 ((othersOf rs v).map RelD.d))]), (2, .box (zi ou))]) a w at h
        obtain ⟨hJ1, hJ2, hJ3, hJ4⟩ := hI
        have lou : Lb ou.abs := by
          by_cases hp : 0 < (lowsOf rs v).length
          · rw [(hJ3 hp).1]; exact lout
          · rw [(hJ4 (by omega)).1]; exact ZI.lb_of _
        refine rSeq fam0ok 5 [] [(2, .t (.c (.d (.sl 2 (vs.map ziD))))), (6, vp 0 0), (8, vp 1 0), (9, vp 2 0), (10, vb an), (42, .t (.c (.d (.sl 5 ((highsOf rs v).map SideD.d))))), (43, vi .i64 ((highsOf rs v).length : Int)), (44, vi .i64 (i : Int)), (45, vb (decide ((i : Int) < ((highsOf rs v).length : Int))))] [(0, .box [.d (.raw (.bool false)), .d (nsl [])]), (1, .box [.d (.sl 5 ((lowsOf rs v).map SideD.d)), .d (.sl 5 ((highsOf rs v).map SideD.d)), .d (.sl 4 ((othersOf rs v).map RelD.d))]), (2, .box (zi ou))] (by kernel_rfl) h ?_; clear h; intro a w h
        refine wp_seq ?_
        refine condS (decide ((i : Int) < ((highsOf rs v).length : Int))) h rfl (fun hc => ?_) (fun hc => ?_)
        · have hc7 := hc; clear hc
          have hc7' := of_decide_eq_true hc7
          refine wp_skip ?_
          refine then_n ?_
          refine wp_seq ?_
          refine wp_block ?_
          obtain ⟨x5, hx5⟩ : ∃ z_ : SideD, (highsOf rs v)[i]? = some z_ := ⟨_, List.getElem?_eq_getElem (by first | omega | (simp at *; omega))⟩
          refine rSeq fam0ok 5 [(0, .gen _ _ _ fun _ _ _ _ => Op.idxD (d := 46) (t := 42) (k := .i64) hb_1 (map_at hx5 (f := SideD.d)) (OV.tmp 44 _))] [(2, .t (.c (.d (.sl 2 (vs.map ziD))))), (6, vp 0 0), (8, vp 1 0), (9, vp 2 0), (10, vb an), (15, vp 5 0), (42, .t (.c (.d (.sl 5 ((highsOf rs v).map SideD.d))))), (43, vi .i64 ((highsOf rs v).length : Int)), (44, vi .i64 (i : Int))] [(0, .box [.d (.raw (.bool false)), .d (nsl [])]), (1, .box [.d (.sl 5 ((lowsOf rs v).map SideD.d)), .d (.sl 5 ((highsOf rs v).map SideD.d)), .d (.sl 4 ((othersOf rs v).map RelD.d))]), (2, .box (zi ou)), (5, .box (zi x5.times ++ [.d (.sl 3 (x5.rest.parts.map Part.d))] ++ zi x5.rest.k))] (by kernel_rfl) h ?_; clear h; intro a w h
          obtain ⟨r6, er6, vr6, or6, lr6⟩ := mkZ (v := mostZ x5 vs) (m := 19) (most_len (highs_ok hrs v x5 (List.mem_of_getElem? hx5)) hv (high_ne x5 (List.mem_of_getElem? hx5)))
          refine rSeq fam0ok 6 [(2, .call (Fn.cast (SMostV x5 vs (highs_ok hrs v x5 (List.mem_of_getElem? hx5)) hv (high_ne x5 (List.mem_of_getElem? hx5))) (congrArg vz er6.symm)) hc_22)] [(2, .t (.c (.d (.sl 2 (vs.map ziD))))), (6, vp 0 0), (8, vp 1 0), (9, vp 2 0), (10, vb an), (16, vp 6 0), (42, .t (.c (.d (.sl 5 ((highsOf rs v).map SideD.d))))), (43, vi .i64 ((highsOf rs v).length : Int)), (44, vi .i64 (i : Int))] [(0, .box [.d (.raw (.bool false)), .d (nsl [])]), (1, .box [.d (.sl 5 ((lowsOf rs v).map SideD.d)), .d (.sl 5 ((highsOf rs v).map SideD.d)), .d (.sl 4 ((othersOf rs v).map RelD.d))]), (2, .box (zi ou)), (6, .box (zi r6))] (by kernel_rfl) h ?_; clear h; intro a w h
          refine wp_block ?_
          rcases Bool.eq_false_or_eq_true (decide (((lowsOf rs v).length : Int) > 0)) with hc | hc
          · have hc8 := hc; clear hc
            have hc8' := of_decide_eq_true hc8
            refine rSeq fam0ok 7 [(2, .len (c := (.d (.sl 5 ((lowsOf rs v).map SideD.d)))) (n := (lowsOf rs v).length) (lenC_map _ _ _)), (3, .cmp (op := .gtr) (m := ((lowsOf rs v).length : Int)) (n := 0) (b := true) .i64 hc8), (7, .call (SCmp r6 ou or6 lou (by omega) (by omega)) tx_2)] [(2, .t (.c (.d (.sl 2 (vs.map ziD))))), (6, vp 0 0), (8, vp 1 0), (9, vp 2 0), (10, vb an), (16, vp 6 0), (42, .t (.c (.d (.sl 5 ((highsOf rs v).map SideD.d))))), (43, vi .i64 ((highsOf rs v).length : Int)), (44, vi .i64 (i : Int)), (51, vb (decide (cmpZ r6.val ou.val < 0)))] [(0, .box [.d (.raw (.bool false)), .d (nsl [])]), (1, .box [.d (.sl 5 ((lowsOf rs v).map SideD.d)), .d (.sl 5 ((highsOf rs v).map SideD.d)), .d (.sl 4 ((othersOf rs v).map RelD.d))]), (2, .box (zi ou)), (6, .box (zi r6))] (by kernel_rfl) h ?_; clear h; intro a w h
            refine condS (decide (cmpZ r6.val ou.val < 0)) h rfl (fun hc => ?_) (fun hc => ?_)
            · have hc9 := hc; clear hc
              have hc9' := of_decide_eq_true hc9
              refine rSeq fam0ok 7 [] [(2, .t (.c (.d (.sl 2 (vs.map ziD))))), (6, vp 0 0), (7, vb false), (8, vp 1 0), (9, vp 2 0), (10, vb an), (42, .t (.c (.d (.sl 5 ((highsOf rs v).map SideD.d))))), (43, vi .i64 ((highsOf rs v).length : Int)), (44, vi .i64 (i : Int))] [(0, .box [.d (.raw (.bool false)), .d (nsl [])]), (1, .box [.d (.sl 5 ((lowsOf rs v).map SideD.d)), .d (.sl 5 ((highsOf rs v).map SideD.d)), .d (.sl 4 ((othersOf rs v).map RelD.d))]), (2, .box (zi ou))] (by kernel_rfl) h ?_; clear h; intro a w h
              refine wp_ret ?_
              refine block_r ?_
              refine block_r ?_
              refine then_r ?_
              refine then_r ?_
              refine block_r ?_
              refine then_r ?_
              refine retS [.agg [.d (.raw (.bool false)), .d (nsl [])], .c (.d (.raw (.bool false)))] h Exit.ret (.inl rfl)  rfl ⟨RV.agg _ 0 0 _ _ _ _ ia_1 rfl rfl rfl rfl, RV.tmp _ _ rfl, trivial⟩ ?_ (by kernel_rfl) (by kernel_rfl)
              have hp : 0 < (lowsOf rs v).length := by have := of_decide_eq_true hc8; omega
              obtain ⟨k1, k2, k3⟩ := hJ3 hp
              have hbo : best gtB (leastZ · vs) (lowsOf rs v) = some out.val := by
                cases hb : best gtB (leastZ · vs) (lowsOf rs v) with
                | none => have := best_some gtB (leastZ · vs) (lowsOf rs v); rw [hb, decide_eq_true hp] at this; cases this
                | some m => rw [hI2, hlj, List.take_length, hb, ZI.val_of]; rfl
              have hz : (fitS (lowsOf rs v) (highsOf rs v) vs) = (ZI.of 0, false) := by
                unfold fitS; rw [hbo]; simp only; rw [if_pos (List.any_eq_true.2 ⟨x5, List.mem_of_getElem? hx5, by rw [← vr6, ← k1]; exact hc9⟩)]
              rw [hz]; first | done | rfl
            · have hc10 := hc; clear hc
              have hc10' := of_decide_eq_false hc10
              refine rSeq fam0ok 7 [(2, .len (c := (.d (.sl 5 ((lowsOf rs v).map SideD.d)))) (n := (lowsOf rs v).length) (lenC_map _ _ _)), (3, .cmp (op := .eql) (m := ((lowsOf rs v).length : Int)) (n := 0) (b := false) .i64 (beq_eq_false_iff_ne.2 (by have := of_decide_eq_true hc8; omega)))] [(2, .t (.c (.d (.sl 2 (vs.map ziD))))), (6, vp 0 0), (8, vp 1 0), (9, vp 2 0), (10, vb an), (16, vp 6 0), (42, .t (.c (.d (.sl 5 ((highsOf rs v).map SideD.d))))), (43, vi .i64 ((highsOf rs v).length : Int)), (44, vi .i64 (i : Int)), (63, vb false)] [(0, .box [.d (.raw (.bool false)), .d (nsl [])]), (1, .box [.d (.sl 5 ((lowsOf rs v).map SideD.d)), .d (.sl 5 ((highsOf rs v).map SideD.d)), .d (.sl 4 ((othersOf rs v).map RelD.d))]), (2, .box (zi ou)), (6, .box (zi r6))] (by kernel_rfl) h ?_; clear h; intro a w h
              refine condS false h rfl (fun hc => ?_) (fun hc => ?_)
              · cases hc
              · clear hc
                refine wp_skip ?_
                refine block_n ?_
                refine block_n ?_
                refine then_n ?_
                refine rS fam0ok 7 [(0, .add .i64 (m := (i : Int)) (n := 1) (i64_id (by omega) (by omega)))] [(2, .t (.c (.d (.sl 2 (vs.map ziD))))), (6, vp 0 0), (8, vp 1 0), (9, vp 2 0), (10, vb an), (42, .t (.c (.d (.sl 5 ((highsOf rs v).map SideD.d))))), (43, vi .i64 ((highsOf rs v).length : Int)), (44, vi .i64 ((i : Int) + 1))] [(0, .box [.d (.raw (.bool false)), .d (nsl [])]), (1, .box [.d (.sl 5 ((lowsOf rs v).map SideD.d)), .d (.sl 5 ((highsOf rs v).map SideD.d)), .d (.sl 4 ((othersOf rs v).map RelD.d))]), (2, .box (zi ou))] (by kernel_rfl) h ?_; clear h; intro a w h
                refine then_n ?_
                refine roundS (x := (i, ou, an)) (y := (i + 1, ou, an)) h ?_ ?_ (by kernel_rfl) (by kernel_rfl)
                · have := at_lt hx5
                  have hp : 0 < (lowsOf rs v).length := by have := of_decide_eq_true hc8; omega
                  obtain ⟨k1, k2, k3⟩ := hJ3 hp
                  exact ⟨by omega, hJ2, fun _ => ⟨k1, k2, by rw [List.take_add_one, hx5, List.any_append, k3]; show (ltB (mostZ x5 vs) out.val || false) = false; rw [Bool.or_false, ← vr6, ← k1]; exact hc10⟩, fun h0 => absurd hp (by omega)⟩
                · show (highsOf rs v).length - (i + 1) < (highsOf rs v).length - i
                  have := at_lt hx5; omega
          · have hc11 := hc; clear hc
            have hc11' := of_decide_eq_false hc11
            refine rSeq fam0ok 7 [(2, .len (c := (.d (.sl 5 ((lowsOf rs v).map SideD.d)))) (n := (lowsOf rs v).length) (lenC_map _ _ _)), (3, .cmp (op := .gtr) (m := ((lowsOf rs v).length : Int)) (n := 0) (b := false) .i64 hc11)] [(2, .t (.c (.d (.sl 2 (vs.map ziD))))), (6, vp 0 0), (8, vp 1 0), (9, vp 2 0), (10, vb an), (16, vp 6 0), (42, .t (.c (.d (.sl 5 ((highsOf rs v).map SideD.d))))), (43, vi .i64 ((highsOf rs v).length : Int)), (44, vi .i64 (i : Int)), (51, vb false)] [(0, .box [.d (.raw (.bool false)), .d (nsl [])]), (1, .box [.d (.sl 5 ((lowsOf rs v).map SideD.d)), .d (.sl 5 ((highsOf rs v).map SideD.d)), .d (.sl 4 ((othersOf rs v).map RelD.d))]), (2, .box (zi ou)), (6, .box (zi r6))] (by kernel_rfl) h ?_; clear h; intro a w h
            refine condS false h rfl (fun hc => ?_) (fun hc => ?_)
            · cases hc
            · clear hc
              rcases Bool.eq_false_or_eq_true an with hc | hc
              · have hc12 := hc; clear hc
                rw [hc12] at h
                refine rSeq fam0ok 7 [(2, .len (c := (.d (.sl 5 ((lowsOf rs v).map SideD.d)))) (n := (lowsOf rs v).length) (lenC_map _ _ _)), (3, .cmp (op := .eql) (m := ((lowsOf rs v).length : Int)) (n := 0) (b := true) .i64 (beq_iff_eq.2 (by have := of_decide_eq_false hc11; omega))), (10, .call (SCmp r6 ou or6 lou (by omega) (by omega)) tx_2)] [(2, .t (.c (.d (.sl 2 (vs.map ziD))))), (6, vp 0 0), (8, vp 1 0), (9, vp 2 0), (10, vb true), (16, vp 6 0), (42, .t (.c (.d (.sl 5 ((highsOf rs v).map SideD.d))))), (43, vi .i64 ((highsOf rs v).length : Int)), (44, vi .i64 (i : Int)), (63, vb (decide (cmpZ r6.val ou.val < 0)))] [(0, .box [.d (.raw (.bool false)), .d (nsl [])]), (1, .box [.d (.sl 5 ((lowsOf rs v).map SideD.d)), .d (.sl 5 ((highsOf rs v).map SideD.d)), .d (.sl 4 ((othersOf rs v).map RelD.d))]), (2, .box (zi ou)), (6, .box (zi r6))] (by kernel_rfl) h ?_; clear h; intro a w h
                refine condS (decide (cmpZ r6.val ou.val < 0)) h rfl (fun hc => ?_) (fun hc => ?_)
                · have hc13 := hc; clear hc
                  have hc13' := of_decide_eq_true hc13
                  refine rS fam0ok 7 [] [(2, .t (.c (.d (.sl 2 (vs.map ziD))))), (6, vp 0 0), (8, vp 1 0), (9, vp 2 0), (10, vb true), (42, .t (.c (.d (.sl 5 ((highsOf rs v).map SideD.d))))), (43, vi .i64 ((highsOf rs v).length : Int)), (44, vi .i64 (i : Int))] [(0, .box [.d (.raw (.bool false)), .d (nsl [])]), (1, .box [.d (.sl 5 ((lowsOf rs v).map SideD.d)), .d (.sl 5 ((highsOf rs v).map SideD.d)), .d (.sl 4 ((othersOf rs v).map RelD.d))]), (2, .box (zi r6))] (by kernel_rfl) h ?_; clear h; intro a w h
                  refine block_n ?_
                  refine block_n ?_
                  refine then_n ?_
                  refine rS fam0ok 7 [(0, .add .i64 (m := (i : Int)) (n := 1) (i64_id (by omega) (by omega)))] [(2, .t (.c (.d (.sl 2 (vs.map ziD))))), (6, vp 0 0), (8, vp 1 0), (9, vp 2 0), (10, vb true), (42, .t (.c (.d (.sl 5 ((highsOf rs v).map SideD.d))))), (43, vi .i64 ((highsOf rs v).length : Int)), (44, vi .i64 ((i : Int) + 1))] [(0, .box [.d (.raw (.bool false)), .d (nsl [])]), (1, .box [.d (.sl 5 ((lowsOf rs v).map SideD.d)), .d (.sl 5 ((highsOf rs v).map SideD.d)), .d (.sl 4 ((othersOf rs v).map RelD.d))]), (2, .box (zi r6))] (by kernel_rfl) h ?_; clear h; intro a w h
                  refine then_n ?_
                  refine roundS (x := (i, ou, an)) (y := (i + 1, r6, true)) h ?_ ?_ (by kernel_rfl) (by kernel_rfl)
                  · have := at_lt hx5
                    have hp : (lowsOf rs v).length = 0 := by have := of_decide_eq_false hc11; omega
                    obtain ⟨k1, k2⟩ := hJ4 hp
                    have hbe := (best_more hx5 (by rw [← k2, hc12]) (by have hq := hc13; rw [vr6, k1, ZI.val_of] at hq; exact hq) : best ltB (mostZ · vs) ((highsOf rs v).take (i + 1)) = _)
                    exact ⟨by omega, lr6, fun h0 => absurd h0 (by omega), fun _ => ⟨by rw [hbe, er6]; rfl, by rw [hbe]; rfl⟩⟩
                  · show (highsOf rs v).length - (i + 1) < (highsOf rs v).length - i
                    have := at_lt hx5; omega
                · have hc14 := hc; clear hc
                  have hc14' := of_decide_eq_false hc14
                  refine wp_skip ?_
                  refine block_n ?_
                  refine block_n ?_
                  refine then_n ?_
                  refine rS fam0ok 7 [(0, .add .i64 (m := (i : Int)) (n := 1) (i64_id (by omega) (by omega)))] [(2, .t (.c (.d (.sl 2 (vs.map ziD))))), (6, vp 0 0), (8, vp 1 0), (9, vp 2 0), (10, vb true), (42, .t (.c (.d (.sl 5 ((highsOf rs v).map SideD.d))))), (43, vi .i64 ((highsOf rs v).length : Int)), (44, vi .i64 ((i : Int) + 1))] [(0, .box [.d (.raw (.bool false)), .d (nsl [])]), (1, .box [.d (.sl 5 ((lowsOf rs v).map SideD.d)), .d (.sl 5 ((highsOf rs v).map SideD.d)), .d (.sl 4 ((othersOf rs v).map RelD.d))]), (2, .box (zi ou))] (by kernel_rfl) h ?_; clear h; intro a w h
                  refine then_n ?_
                  refine roundS (x := (i, ou, an)) (y := (i + 1, ou, true)) h ?_ ?_ (by kernel_rfl) (by kernel_rfl)
                  · have := at_lt hx5
                    have hp : (lowsOf rs v).length = 0 := by have := of_decide_eq_false hc11; omega
                    obtain ⟨k1, k2⟩ := hJ4 hp
                    have hbe := (best_keep hx5 (by rw [← k2, hc12]) (by have hq := hc14; rw [vr6, k1, ZI.val_of] at hq; exact hq) : best ltB (mostZ · vs) ((highsOf rs v).take (i + 1)) = _)
                    exact ⟨by omega, hJ2, fun h0 => absurd h0 (by omega), fun _ => ⟨by rw [hbe]; exact k1, by rw [hbe, ← k2, hc12]⟩⟩
                  · show (highsOf rs v).length - (i + 1) < (highsOf rs v).length - i
                    have := at_lt hx5; omega
              · have hc15 := hc; clear hc
                rw [hc15] at h
                refine rSeq fam0ok 7 [(2, .len (c := (.d (.sl 5 ((lowsOf rs v).map SideD.d)))) (n := (lowsOf rs v).length) (lenC_map _ _ _)), (3, .cmp (op := .eql) (m := ((lowsOf rs v).length : Int)) (n := 0) (b := true) .i64 (beq_iff_eq.2 (by have := of_decide_eq_false hc11; omega)))] [(2, .t (.c (.d (.sl 2 (vs.map ziD))))), (6, vp 0 0), (8, vp 1 0), (9, vp 2 0), (10, vb false), (16, vp 6 0), (42, .t (.c (.d (.sl 5 ((highsOf rs v).map SideD.d))))), (43, vi .i64 ((highsOf rs v).length : Int)), (44, vi .i64 (i : Int)), (63, vb true)] [(0, .box [.d (.raw (.bool false)), .d (nsl [])]), (1, .box [.d (.sl 5 ((lowsOf rs v).map SideD.d)), .d (.sl 5 ((highsOf rs v).map SideD.d)), .d (.sl 4 ((othersOf rs v).map RelD.d))]), (2, .box (zi ou)), (6, .box (zi r6))] (by kernel_rfl) h ?_; clear h; intro a w h
                refine condS true h rfl (fun hc => ?_) (fun hc => ?_)
                · clear hc
                  refine rS fam0ok 7 [] [(2, .t (.c (.d (.sl 2 (vs.map ziD))))), (6, vp 0 0), (8, vp 1 0), (9, vp 2 0), (10, vb true), (42, .t (.c (.d (.sl 5 ((highsOf rs v).map SideD.d))))), (43, vi .i64 ((highsOf rs v).length : Int)), (44, vi .i64 (i : Int))] [(0, .box [.d (.raw (.bool false)), .d (nsl [])]), (1, .box [.d (.sl 5 ((lowsOf rs v).map SideD.d)), .d (.sl 5 ((highsOf rs v).map SideD.d)), .d (.sl 4 ((othersOf rs v).map RelD.d))]), (2, .box (zi r6))] (by kernel_rfl) h ?_; clear h; intro a w h
                  refine block_n ?_
                  refine block_n ?_
                  refine then_n ?_
                  refine rS fam0ok 7 [(0, .add .i64 (m := (i : Int)) (n := 1) (i64_id (by omega) (by omega)))] [(2, .t (.c (.d (.sl 2 (vs.map ziD))))), (6, vp 0 0), (8, vp 1 0), (9, vp 2 0), (10, vb true), (42, .t (.c (.d (.sl 5 ((highsOf rs v).map SideD.d))))), (43, vi .i64 ((highsOf rs v).length : Int)), (44, vi .i64 ((i : Int) + 1))] [(0, .box [.d (.raw (.bool false)), .d (nsl [])]), (1, .box [.d (.sl 5 ((lowsOf rs v).map SideD.d)), .d (.sl 5 ((highsOf rs v).map SideD.d)), .d (.sl 4 ((othersOf rs v).map RelD.d))]), (2, .box (zi r6))] (by kernel_rfl) h ?_; clear h; intro a w h
                  refine then_n ?_
                  refine roundS (x := (i, ou, an)) (y := (i + 1, r6, true)) h ?_ ?_ (by kernel_rfl) (by kernel_rfl)
                  · have := at_lt hx5
                    have hp : (lowsOf rs v).length = 0 := by have := of_decide_eq_false hc11; omega
                    obtain ⟨k1, k2⟩ := hJ4 hp
                    have hbe := (best_first hx5 (by rw [← k2, hc15]) : best ltB (mostZ · vs) ((highsOf rs v).take (i + 1)) = _)
                    exact ⟨by omega, lr6, fun h0 => absurd h0 (by omega), fun _ => ⟨by rw [hbe, er6]; rfl, by rw [hbe]; rfl⟩⟩
                  · show (highsOf rs v).length - (i + 1) < (highsOf rs v).length - i
                    have := at_lt hx5; omega
                · cases hc
        · have hc16 := hc; clear hc
          have hc16' := of_decide_eq_false hc16
          refine wp_exit ?_
          refine then_x ?_
          refine then_x ?_
          refine inBlock_exit ?_
          refine then_n ?_
          refine rSeq fam0ok 7 [] [(6, vp 0 0), (7, vb true)] [(0, .box (zi ou))] (by kernel_rfl) h ?_; clear h; intro a w h
          refine wp_ret ?_
          refine retS [.agg (zi ou), .c (.d (.raw (.bool true)))] h Exit.ret (.inl rfl)  rfl ⟨RV.agg _ 0 0 _ _ _ _ ia_1 rfl rfl rfl rfl, RV.tmp _ _ rfl, trivial⟩ ?_ (by kernel_rfl) (by kernel_rfl)
          have hij : i = (highsOf rs v).length := by omega
          by_cases hp : 0 < (lowsOf rs v).length
          · obtain ⟨k1, k2, k3⟩ := hJ3 hp
            have hbo : best gtB (leastZ · vs) (lowsOf rs v) = some out.val := by
              cases hb : best gtB (leastZ · vs) (lowsOf rs v) with
              | none => have := best_some gtB (leastZ · vs) (lowsOf rs v); rw [hb, decide_eq_true hp] at this; cases this
              | some m => rw [hI2, hlj, List.take_length, hb, ZI.val_of]; rfl
            have hz : (fitS (lowsOf rs v) (highsOf rs v) vs) = (ou, true) := by
              unfold fitS; rw [hbo]; simp only; rw [hij, List.take_length] at k3; rw [if_neg (by rw [k3]; exact Bool.noConfusion), k1]; rw [show ZI.of out.val = out from by rw [hI2, ZI.val_of]]
            rw [hz]; first | done | rfl
          · obtain ⟨k1, k2⟩ := hJ4 (by omega)
            have hz : (fitS (lowsOf rs v) (highsOf rs v) vs) = (ou, true) := by
              unfold fitS; rw [show (lowsOf rs v) = [] from List.length_eq_zero_iff.1 (by omega)]; show (ZI.of ((best ltB (mostZ · vs) (highsOf rs v)).getD 0), true) = _; rw [k1, hij, List.take_length]
            rw [hz]; first | done | rfl
end Go.Proofs.YtoklkfmffmonoaaGreat.S
end
section
namespace Go.Proofs.YtoklkfmffmonoaaGreat.S
open Go.RowKit

theorem ltB_iff {x y : Int} : ltB x y = true ↔ x < y := by unfold ltB cmpZ; rw [decide_eq_true_eq]; split <;> (try split) <;> omega
theorem gtB_iff {x y : Int} : gtB x y = true ↔ y < x := by unfold gtB cmpZ; rw [decide_eq_true_eq]; split <;> (try split) <;> omega
theorem any_best (f : SideD → Int) (m : Int) (l : List SideD) : l.any (fun s => ltB (f s) m) = match best ltB f l with | none => false | some q => ltB q m := by
 rw [Bool.eq_iff_iff]
 suffices h : ∀ l' : List SideD, (l'.reverse.any (fun s => ltB (f s) m) = true) ↔ (match best ltB f l'.reverse with | none => false | some q => ltB q m) = true by
  have := h l.reverse; rwa [List.reverse_reverse] at this
 intro l'
 induction l' with
 | nil => simp [best]
 | cons s l ih =>
  rw [List.reverse_cons, List.any_append, Bool.or_eq_true, ih, best_snoc]
  cases hb : best ltB f l.reverse with
  | none => simp
  | some q =>
   simp only [List.any_cons, List.any_nil, Bool.or_false]
   by_cases hc : ltB (f s) q = true
   ·rw [if_pos hc]; simp only [ltB_iff] at hc ⊢; omega
   ·rw [if_neg hc]; simp only [ltB_iff] at hc ⊢; omega
set_option maxHeartbeats 4000000 in
theorem SFewRsL (rs : List RelD) (most L : Int) (hl : rs.length ≤ 9223372036854775807) : Fn Tryz.prog 10 [] [.t (.c (.d (.sl 4 (rs.map RelD.d)))), vi .i64 most, vi .i64 L] (vb (fewRs rs most L)) [] := by
 refine Fn.body Tryz.func10 rfl 64 rfl fun w H B a h => ?_
 refine rSeq fam0ok 0 [] [(0, .t (.c (.d (.sl 4 (rs.map RelD.d))))), (1, vi .i64 most), (2, vi .i64 L), (6, vb false)] [] (by kernel_rfl) h ?_; clear h; intro a w h
 refine wp_seq ?_
 refine rSeq fam0ok 0 [(1, .len (c := (.d (.sl 4 (rs.map RelD.d)))) (n := rs.length) (lenC_map _ _ _))] [(0, .t (.c (.d (.sl 4 (rs.map RelD.d))))), (2, vi .i64 L), (6, vb false), (12, vb (decide ((rs.length : Int) > most)))] [] (by kernel_rfl) h ?_; clear h; intro a w h
 refine condS (decide ((rs.length : Int) > most)) h rfl (fun hc => ?_) (fun hc => ?_)
 ·have hc1 := hc; clear hc
  have hc1' := of_decide_eq_true hc1
  refine rSeq fam0ok 0 [] [(0, .t (.c (.d (.sl 4 (rs.map RelD.d))))), (2, vi .i64 L), (6, vb false)] [] (by kernel_rfl) h ?_; clear h; intro a w h
  refine wp_ret ?_
  refine then_r ?_
  refine retS [.c (.d (.raw (.bool false)))] h Exit.ret (.inl rfl)  rfl ⟨RV.tmp _ _ rfl, trivial⟩ ?_ (by kernel_rfl) (by kernel_rfl)
  rw [show fewRs rs most L = false from by unfold fewRs; rw [decide_eq_false (by have := of_decide_eq_true hc1; omega)]; rfl]; first | done | rfl
 ·have hc2 := hc; clear hc
  have hc2' := of_decide_eq_false hc2
  refine wp_skip ?_
  refine then_n ?_
  refine wp_seq ?_
  refine rSeq fam0ok 0 [] [(0, .t (.c (.d (.sl 4 (rs.map RelD.d))))), (2, vi .i64 L), (6, vb false), (7, vi .i64 0)] [] (by kernel_rfl) h ?_; clear h; intro a w h
  refine wp_block ?_
  refine loopS (ι := (Nat)) (fun (z_ : (Nat)) => match z_ with | j => j ≤ rs.length ∧ (rs.take j).all (fewR L) = true)
    (fun (z_ : (Nat)) => match z_ with | j => [(0, .t (.c (.d (.sl 4 (rs.map RelD.d))))), (2, vi .i64 L), (7, vi .i64 (j : Int))])
    (fun (z_ : (Nat)) => match z_ with | j => [])
    (fun (z_ : (Nat)) => match z_ with | j => rs.length - j) 0 ?_ h (by kernel_rfl) (by kernel_rfl) ?_
  ·exact ⟨Nat.zero_le _, rfl⟩
  ·clear h; rintro j a w hI h
   change St _ (F.of [(0, .t (.c (.d (.sl 4 (rs.map RelD.d))))), (2, vi .i64 L), (7, vi .i64 (j : Int))] []) a w at h
   obtain ⟨hI1, hI2⟩ := hI
   refine wp_seq ?_
   refine rSeq fam0ok 0 [(2, .len (c := (.d (.sl 4 (rs.map RelD.d)))) (n := rs.length) (lenC_map _ _ _))] [(0, .t (.c (.d (.sl 4 (rs.map RelD.d))))), (2, vi .i64 L), (7, vi .i64 (j : Int)), (16, vb (decide ((j : Int) < (rs.length : Int))))] [] (by kernel_rfl) h ?_; clear h; intro a w h
   refine condS (decide ((j : Int) < (rs.length : Int))) h rfl (fun hc => ?_) (fun hc => ?_)
   ·have hc3 := hc; clear hc
    have hc3' := of_decide_eq_true hc3
    refine wp_skip ?_
    refine then_n ?_
    refine wp_seq ?_
    refine wp_block ?_
    refine wp_seq ?_
    obtain ⟨x1, hx1⟩ : ∃ z_ : RelD, rs[j]? = some z_ := ⟨_, List.getElem?_eq_getElem (by first | omega | (simp at *; omega))⟩
    rcases Bool.eq_false_or_eq_true (decide ((x1.t.parts.length : Int) > 20)) with hc | hc
    ·have hc4 := hc; clear hc
     have hc4' := of_decide_eq_true hc4
     refine rSeq fam0ok 0 [(2, .gen _ _ _ fun _ _ _ _ => Op.idxD (d := 21) (t := 19) (k := .i64) kc_3 (map_at hx1 (f := RelD.d)) (OV.tmp 20 _)), (6, .len (c := (.d (.sl 3 (x1.t.parts.map Part.d)))) (n := x1.t.parts.length) (lenC_map _ _ _)), (7, .cmp (op := .gtr) (m := (x1.t.parts.length : Int)) (n := 20) (b := true) .i64 hc4)] [(0, .t (.c (.d (.sl 4 (rs.map RelD.d))))), (2, vi .i64 L), (7, vi .i64 (j : Int)), (38, vb true)] [] (by kernel_rfl) h ?_; clear h; intro a w h
     refine condS true h rfl (fun hc => ?_) (fun hc => ?_)
     ·clear hc
      refine rSeq fam0ok 0 [] [(0, .t (.c (.d (.sl 4 (rs.map RelD.d))))), (2, vi .i64 L), (6, vb false), (7, vi .i64 (j : Int))] [] (by kernel_rfl) h ?_; clear h; intro a w h
      refine wp_ret ?_
      refine then_r ?_
      refine block_r ?_
      refine then_r ?_
      refine then_r ?_
      refine block_r ?_
      refine then_r ?_
      refine retS [.c (.d (.raw (.bool false)))] h Exit.ret (.inl rfl)  rfl ⟨RV.tmp _ _ rfl, trivial⟩ ?_ (by kernel_rfl) (by kernel_rfl)
      rw [show fewRs rs most L = false from by unfold fewRs; rw [all_stop hx1 (show fewR L x1 = false from by rw [fewR, decide_eq_false (by have := of_decide_eq_true hc4; omega)]; rfl), Bool.and_false]]; first | done | rfl
     ·cases hc
    ·have hc5 := hc; clear hc
     have hc5' := of_decide_eq_false hc5
     refine rSeq fam0ok 0 [(2, .gen _ _ _ fun _ _ _ _ => Op.idxD (d := 21) (t := 19) (k := .i64) kc_3 (map_at hx1 (f := RelD.d)) (OV.tmp 20 _)), (6, .len (c := (.d (.sl 3 (x1.t.parts.map Part.d)))) (n := x1.t.parts.length) (lenC_map _ _ _)), (7, .cmp (op := .gtr) (m := (x1.t.parts.length : Int)) (n := 20) (b := false) .i64 hc5), (11, .gen _ _ _ fun _ _ _ _ => Op.idxD (d := 30) (t := 28) (k := .i64) kc_3 (map_at hx1 (f := RelD.d)) (OV.tmp 29 _)), (16, .len (nsl_len x1.t.k.abs))] [(0, .t (.c (.d (.sl 4 (rs.map RelD.d))))), (2, vi .i64 L), (7, vi .i64 (j : Int)), (38, vb (decide ((x1.t.k.abs.length : Int) > L)))] [] (by kernel_rfl) h ?_; clear h; intro a w h
     refine condS (decide ((x1.t.k.abs.length : Int) > L)) h rfl (fun hc => ?_) (fun hc => ?_)
     ·have hc6 := hc; clear hc
      have hc6' := of_decide_eq_true hc6
      refine rSeq fam0ok 0 [] [(0, .t (.c (.d (.sl 4 (rs.map RelD.d))))), (2, vi .i64 L), (6, vb false), (7, vi .i64 (j : Int))] [] (by kernel_rfl) h ?_; clear h; intro a w h
      refine wp_ret ?_
      refine then_r ?_
      refine block_r ?_
      refine then_r ?_
      refine then_r ?_
      refine block_r ?_
      refine then_r ?_
      refine retS [.c (.d (.raw (.bool false)))] h Exit.ret (.inl rfl)  rfl ⟨RV.tmp _ _ rfl, trivial⟩ ?_ (by kernel_rfl) (by kernel_rfl)
      rw [show fewRs rs most L = false from by unfold fewRs; rw [all_stop hx1 (show fewR L x1 = false from by rw [fewR, decide_eq_false (p := (_ : Int) ≤ L) (by have := of_decide_eq_true hc6; omega), Bool.and_false]; rfl), Bool.and_false]]; first | done | rfl
     ·have hc7 := hc; clear hc
      have hc7' := of_decide_eq_false hc7
      refine wp_skip ?_
      refine then_n ?_
      refine rSeq fam0ok 0 [] [(0, .t (.c (.d (.sl 4 (rs.map RelD.d))))), (2, vi .i64 L), (7, vi .i64 (j : Int)), (8, vi .i64 0)] [] (by kernel_rfl) h ?_; clear h; intro a w h
      refine wp_block ?_
      have hjr := hI1
      refine loopS (ι := (Nat)) (fun (z_ : (Nat)) => match z_ with | i => i ≤ x1.t.parts.length ∧ (x1.t.parts.take i).all (fun p => decide ((p.c.abs.length : Int) ≤ L)) = true)
        (fun (z_ : (Nat)) => match z_ with | i => [(0, .t (.c (.d (.sl 4 (rs.map RelD.d))))), (2, vi .i64 L), (7, vi .i64 (j : Int)), (8, vi .i64 (i : Int))])
        (fun (z_ : (Nat)) => match z_ with | i => [])
        (fun (z_ : (Nat)) => match z_ with | i => x1.t.parts.length - i) 0 ?_ h (by kernel_rfl) (by kernel_rfl) ?_
      ·exact ⟨Nat.zero_le _, rfl⟩
      ·clear h; rintro i a w hI h
       change St _ (F.of [(0, .t (.c (.d (.sl 4 (rs.map RelD.d))))), (2, vi .i64 L), (7, vi .i64 (j : Int)), (8, vi .i64 (i : Int))] []) a w at h
       obtain ⟨hJ1, hJ2⟩ := hI
       refine wp_seq ?_
       refine rSeq fam0ok 0 [(3, .gen _ _ _ fun _ _ _ _ => Op.idxD (d := 42) (t := 40) (k := .i64) kc_3 (map_at hx1 (f := RelD.d)) (OV.tmp 41 _)), (7, .len (c := (.d (.sl 3 (x1.t.parts.map Part.d)))) (n := x1.t.parts.length) (lenC_map _ _ _))] [(0, .t (.c (.d (.sl 4 (rs.map RelD.d))))), (2, vi .i64 L), (7, vi .i64 (j : Int)), (8, vi .i64 (i : Int)), (47, vb (decide ((i : Int) < (x1.t.parts.length : Int))))] [] (by kernel_rfl) h ?_; clear h; intro a w h
       refine condS (decide ((i : Int) < (x1.t.parts.length : Int))) h rfl (fun hc => ?_) (fun hc => ?_)
       ·have hc8 := hc; clear hc
        have hc8' := of_decide_eq_true hc8
        refine wp_skip ?_
        refine then_n ?_
        refine wp_seq ?_
        refine wp_block ?_
        obtain ⟨x2, hx2⟩ : ∃ z_ : Part, x1.t.parts[i]? = some z_ := ⟨_, List.getElem?_eq_getElem (by first | omega | (simp at *; omega))⟩
        refine rSeq fam0ok 0 [(2, .gen _ _ _ fun _ _ _ _ => Op.idxD (d := 52) (t := 50) (k := .i64) kc_3 (map_at hx1 (f := RelD.d)) (OV.tmp 51 _)), (7, .gen _ _ _ fun _ _ _ _ => Op.idxD (d := 57) (t := 55) (k := .i64) ta_0 (map_at hx2 (f := Part.d)) (OV.tmp 56 _)), (11, .len (nsl_len x2.c.abs))] [(0, .t (.c (.d (.sl 4 (rs.map RelD.d))))), (2, vi .i64 L), (7, vi .i64 (j : Int)), (8, vi .i64 (i : Int)), (63, vb (decide ((x2.c.abs.length : Int) > L)))] [] (by kernel_rfl) h ?_; clear h; intro a w h
        refine condS (decide ((x2.c.abs.length : Int) > L)) h rfl (fun hc => ?_) (fun hc => ?_)
        ·have hc9 := hc; clear hc
         have hc9' := of_decide_eq_true hc9
         refine rSeq fam0ok 0 [] [(0, .t (.c (.d (.sl 4 (rs.map RelD.d))))), (2, vi .i64 L), (6, vb false), (7, vi .i64 (j : Int)), (8, vi .i64 (i : Int))] [] (by kernel_rfl) h ?_; clear h; intro a w h
         refine wp_ret ?_
         refine block_r ?_
         refine then_r ?_
         refine then_r ?_
         refine block_r ?_
         refine block_r ?_
         refine then_r ?_
         refine then_r ?_
         refine block_r ?_
         refine then_r ?_
         refine retS [.c (.d (.raw (.bool false)))] h Exit.ret (.inl rfl)  rfl ⟨RV.tmp _ _ rfl, trivial⟩ ?_ (by kernel_rfl) (by kernel_rfl)
         rw [show fewRs rs most L = false from by unfold fewRs; rw [all_stop hx1 (show fewR L x1 = false from by rw [fewR, all_stop hx2 (decide_eq_false (by have := of_decide_eq_true hc9; omega)), Bool.and_false]), Bool.and_false]]; first | done | rfl
        ·have hc10 := hc; clear hc
         have hc10' := of_decide_eq_false hc10
         refine wp_skip ?_
         refine block_n ?_
         refine then_n ?_
         refine rS fam0ok 0 [(1, .add .i64 (m := (i : Int)) (n := 1) (i64_id (by omega) (by omega)))] [(0, .t (.c (.d (.sl 4 (rs.map RelD.d))))), (2, vi .i64 L), (7, vi .i64 (j : Int)), (8, vi .i64 ((i : Int) + 1))] [] (by kernel_rfl) h ?_; clear h; intro a w h
         refine then_n ?_
         refine roundS (x := i) (y := i + 1) h ?_ ?_ (by kernel_rfl) (by kernel_rfl)
         ·exact ⟨by have := at_lt hx2; omega, all_step hx2 hJ2 (decide_eq_true (by have := of_decide_eq_false hc10; omega))⟩
         ·show x1.t.parts.length - (i + 1) < x1.t.parts.length - i
          have := at_lt hx2; omega
       ·have hc11 := hc; clear hc
        have hc11' := of_decide_eq_false hc11
        refine wp_exit ?_
        refine then_x ?_
        refine then_x ?_
        refine inBlock_exit ?_
        refine block_n ?_
        refine then_n ?_
        refine rS fam0ok 0 [(1, .add .i64 (m := (j : Int)) (n := 1) (i64_id (by omega) (by omega)))] [(0, .t (.c (.d (.sl 4 (rs.map RelD.d))))), (2, vi .i64 L), (7, vi .i64 ((j : Int) + 1))] [] (by kernel_rfl) h ?_; clear h; intro a w h
        refine then_n ?_
        refine roundS (x := j) (y := j + 1) h ?_ ?_ (by kernel_rfl) (by kernel_rfl)
        ·exact ⟨by have := at_lt hx1; omega, all_step hx1 hI2 (by rw [fewR, decide_eq_true (by have := of_decide_eq_false hc5; omega), decide_eq_true (by have := of_decide_eq_false hc7; omega), all_end (of_decide_eq_false hc11) hJ2]; rfl)⟩
        ·show rs.length - (j + 1) < rs.length - j
         have := at_lt hx1; omega
   ·have hc12 := hc; clear hc
    have hc12' := of_decide_eq_false hc12
    refine wp_exit ?_
    refine then_x ?_
    refine then_x ?_
    refine inBlock_exit ?_
    refine then_n ?_
    refine rSeq fam0ok 0 [] [(6, vb true)] [] (by kernel_rfl) h ?_; clear h; intro a w h
    refine wp_ret ?_
    refine retS [.c (.d (.raw (.bool true)))] h Exit.ret (.inl rfl)  rfl ⟨RV.tmp _ _ rfl, trivial⟩ ?_ (by kernel_rfl) (by kernel_rfl)
    rw [show fewRs rs most L = true from by unfold fewRs; rw [decide_eq_true (by have := of_decide_eq_false hc2; omega), all_end (of_decide_eq_false hc12) hI2]; rfl]; first | done | rfl
def fewVs (vs : List ZI) (most L : Int) : Bool := decide ((vs.length : Int) ≤ most) && vs.all fun z => decide ((z.abs.length : Int) ≤ L)
set_option maxHeartbeats 4000000 in
theorem SFewVs (vs : List ZI) (most L : Int) (hl : vs.length ≤ 9223372036854775807) : Fn Tryz.prog 11 [] [.t (.c (.d (.sl 2 (vs.map ziD)))), vi .i64 most, vi .i64 L] (vb (fewVs vs most L)) [] := by
 refine Fn.body Tryz.func11 rfl 26 rfl fun w H B a h => ?_
 refine rSeq fam0ok 0 [] [(0, .t (.c (.d (.sl 2 (vs.map ziD))))), (1, vi .i64 most), (2, vi .i64 L), (6, vb false)] [] (by kernel_rfl) h ?_; clear h; intro a w h
 refine wp_seq ?_
 refine rSeq fam0ok 0 [(1, .len (c := (.d (.sl 2 (vs.map ziD)))) (n := vs.length) (lenC_map _ _ _))] [(0, .t (.c (.d (.sl 2 (vs.map ziD))))), (2, vi .i64 L), (6, vb false), (11, vb (decide ((vs.length : Int) > most)))] [] (by kernel_rfl) h ?_; clear h; intro a w h
 refine condS (decide ((vs.length : Int) > most)) h rfl (fun hc => ?_) (fun hc => ?_)
 ·have hc1 := hc; clear hc
  have hc1' := of_decide_eq_true hc1
  refine rSeq fam0ok 0 [] [(0, .t (.c (.d (.sl 2 (vs.map ziD))))), (2, vi .i64 L), (6, vb false)] [] (by kernel_rfl) h ?_; clear h; intro a w h
  refine wp_ret ?_
  refine then_r ?_
  refine retS [.c (.d (.raw (.bool false)))] h Exit.ret (.inl rfl)  rfl ⟨RV.tmp _ _ rfl, trivial⟩ ?_ (by kernel_rfl) (by kernel_rfl)
  have hz : fewVs vs most L = false := by unfold fewVs; rw [decide_eq_false (by have := of_decide_eq_true hc1; omega)]; rfl
  rw [hz]; first | done | rfl
 ·have hc2 := hc; clear hc
  have hc2' := of_decide_eq_false hc2
  refine wp_skip ?_
  refine then_n ?_
  refine wp_seq ?_
  refine rSeq fam0ok 0 [] [(0, .t (.c (.d (.sl 2 (vs.map ziD))))), (2, vi .i64 L), (6, vb false), (7, vi .i64 0)] [] (by kernel_rfl) h ?_; clear h; intro a w h
  refine wp_block ?_
  refine loopS (ι := (Nat)) (fun (z_ : (Nat)) => match z_ with | j => j ≤ vs.length ∧ (vs.take j).all (fun z => decide ((z.abs.length : Int) ≤ L)) = true)
    (fun (z_ : (Nat)) => match z_ with | j => [(0, .t (.c (.d (.sl 2 (vs.map ziD))))), (2, vi .i64 L), (7, vi .i64 (j : Int))])
    (fun (z_ : (Nat)) => match z_ with | j => [])
    (fun (z_ : (Nat)) => match z_ with | j => vs.length - j) 0 ?_ h (by kernel_rfl) (by kernel_rfl) ?_
  ·exact ⟨Nat.zero_le _, rfl⟩
  ·clear h; rintro j a w hI h
   change St _ (F.of [(0, .t (.c (.d (.sl 2 (vs.map ziD))))), (2, vi .i64 L), (7, vi .i64 (j : Int))] []) a w at h
   obtain ⟨hI1, hI2⟩ := hI
   refine wp_seq ?_
   refine rSeq fam0ok 0 [(2, .len (c := (.d (.sl 2 (vs.map ziD)))) (n := vs.length) (lenC_map _ _ _))] [(0, .t (.c (.d (.sl 2 (vs.map ziD))))), (2, vi .i64 L), (7, vi .i64 (j : Int)), (15, vb (decide ((j : Int) < (vs.length : Int))))] [] (by kernel_rfl) h ?_; clear h; intro a w h
   refine condS (decide ((j : Int) < (vs.length : Int))) h rfl (fun hc => ?_) (fun hc => ?_)
   ·have hc3 := hc; clear hc
    have hc3' := of_decide_eq_true hc3
    refine wp_skip ?_
    refine then_n ?_
    refine wp_seq ?_
    refine wp_block ?_
    obtain ⟨x1, hx1⟩ : ∃ z_ : ZI, vs[j]? = some z_ := ⟨_, List.getElem?_eq_getElem (by first | omega | (simp at *; omega))⟩
    refine rSeq fam0ok 0 [(2, .gen _ _ _ fun _ _ _ _ => Op.idxD (d := 20) (t := 18) (k := .i64) tt_6 (map_at hx1 (f := ziD)) (OV.tmp 19 _)), (5, .len (nsl_len x1.abs))] [(0, .t (.c (.d (.sl 2 (vs.map ziD))))), (2, vi .i64 L), (7, vi .i64 (j : Int)), (25, vb (decide ((x1.abs.length : Int) > L)))] [] (by kernel_rfl) h ?_; clear h; intro a w h
    refine condS (decide ((x1.abs.length : Int) > L)) h rfl (fun hc => ?_) (fun hc => ?_)
    ·have hc4 := hc; clear hc
     have hc4' := of_decide_eq_true hc4
     refine rSeq fam0ok 0 [] [(0, .t (.c (.d (.sl 2 (vs.map ziD))))), (2, vi .i64 L), (6, vb false), (7, vi .i64 (j : Int))] [] (by kernel_rfl) h ?_; clear h; intro a w h
     refine wp_ret ?_
     refine block_r ?_
     refine then_r ?_
     refine then_r ?_
     refine block_r ?_
     refine then_r ?_
     refine retS [.c (.d (.raw (.bool false)))] h Exit.ret (.inl rfl)  rfl ⟨RV.tmp _ _ rfl, trivial⟩ ?_ (by kernel_rfl) (by kernel_rfl)
     have hz : fewVs vs most L = false := by unfold fewVs; rw [all_stop hx1 (show (fun z => decide ((z.abs.length : Int) ≤ L)) x1 = false from decide_eq_false (by have := of_decide_eq_true hc4; omega)), Bool.and_false]
     rw [hz]; first | done | rfl
    ·have hc5 := hc; clear hc
     have hc5' := of_decide_eq_false hc5
     refine wp_skip ?_
     refine block_n ?_
     refine then_n ?_
     refine rS fam0ok 0 [(1, .add .i64 (m := (j : Int)) (n := 1) (i64_id (by omega) (by omega)))] [(0, .t (.c (.d (.sl 2 (vs.map ziD))))), (2, vi .i64 L), (7, vi .i64 ((j : Int) + 1))] [] (by kernel_rfl) h ?_; clear h; intro a w h
     refine then_n ?_
     refine roundS (x := j) (y := j + 1) h ?_ ?_ (by kernel_rfl) (by kernel_rfl)
     ·exact ⟨by have := at_lt hx1; omega, all_step hx1 hI2 (show (fun z => decide ((z.abs.length : Int) ≤ L)) x1 = true from decide_eq_true (by have := of_decide_eq_false hc5; omega))⟩
     ·show vs.length - (j + 1) < vs.length - j
      have := at_lt hx1; omega
   ·have hc6 := hc; clear hc
    have hc6' := of_decide_eq_false hc6
    refine wp_exit ?_
    refine then_x ?_
    refine then_x ?_
    refine inBlock_exit ?_
    refine then_n ?_
    refine rSeq fam0ok 0 [] [(6, vb true)] [] (by kernel_rfl) h ?_; clear h; intro a w h
    refine wp_ret ?_
    refine retS [.c (.d (.raw (.bool true)))] h Exit.ret (.inl rfl)  rfl ⟨RV.tmp _ _ rfl, trivial⟩ ?_ (by kernel_rfl) (by kernel_rfl)
    have hz : fewVs vs most L = true := by unfold fewVs; rw [decide_eq_true (by have := of_decide_eq_false hc2; omega), all_end (of_decide_eq_false hc6) hI2]; rfl
    rw [hz]; first | done | rfl
end Go.Proofs.YtoklkfmffmonoaaGreat.S
end
section
namespace Go.Proofs.YtoklkfmffmonoaaGreat.S
open Go.RowKit Go.Sort

theorem ints_cells {H : Im} : ∀ (xs : List Int) (us : List Value), All2 (DR H) (xs.map intD).flatten us → us = xs.map (Value.int .i64)
 | [], [], _ => rfl
 | [], _ :: _, h => h.elim
 | _ :: _, [], h => h.elim
 | x :: xs, u :: us, h => by
  have h1 : DR H (.raw (.int .i64 x)) u ∧ All2 (DR H) (xs.map intD).flatten us := h
  have e : u = .int .i64 x := VR.rawI (H := H) (B := fun _ => none) h1.1
  rw [e, ints_cells xs us h1.2]; rfl
theorem ints_all2 {H : Im} : ∀ xs : List Int, All2 (DR H) (xs.map intD).flatten (xs.map (Value.int .i64))
 | [] => trivial
 | _ :: xs => ⟨DR.raw _ rfl, ints_all2 xs⟩
theorem put_cells {arr : List Value} {ys : List Int} (hl : ys.length ≤ arr.length) : putCells (Value.int .i64) 0 ys.toArray ⟨arr⟩ = ⟨ys.map (Value.int .i64) ++ arr.drop ys.length⟩ := by
 apply Array.ext_getElem?
 intro k
 unfold putCells
 rw [Array.getElem?_mapIdx, show (⟨arr⟩ : Array Value) = arr.toArray from rfl, show (⟨ys.map (Value.int .i64) ++ arr.drop ys.length⟩ : Array Value) = (ys.map (Value.int .i64) ++ arr.drop ys.length).toArray from rfl, List.getElem?_toArray, List.getElem?_toArray]
 by_cases hk : k < ys.length
 ·rw [List.getElem?_append_left (by rw [List.length_map]; exact hk), List.getElem?_map, List.getElem?_eq_getElem hk, List.getElem?_eq_getElem (by omega)]
  simp only [Option.map_some]
  rw [if_pos ⟨Nat.zero_le _, by rw [Nat.zero_add]; exact hk⟩]
  simp [hk]
 ·rw [List.getElem?_append_right (by rw [List.length_map]; omega), List.length_map, List.getElem?_drop, show ys.length + (k - ys.length) = k by omega]
  cases hx : arr[k]? with
  | none => rfl
  | some x =>
   simp only [Option.map_some]
   rw [if_neg (fun h => hk (by have := h.2; rw [Nat.zero_add] at this; exact this))]
theorem block_put {w : World} {b n : Nat} {arr : List Value} {ty : TypeId} {ys : List Int} {os : Array Obj} (hb : w.heap[b]? = some (.cells ⟨arr⟩ ty (0, 0))) (hl : ys.length ≤ arr.length) :
  (grow (putRow (Value.int .i64) (Go.Sort.ahead w n) b 0 ys.toArray) os).heap[b]? = some (.cells ⟨ys.map (Value.int .i64) ++ arr.drop ys.length⟩ ty (0, 0)) := by
 have hlt : b < w.heap.size := (Array.getElem?_eq_some_iff.1 hb).1
 rw [heap_grow_old _ _ (by rw [size_putRow]; exact hlt)]
 unfold putRow mapBlock
 rw [Array.getElem?_modify]
 show (if b = b then Option.map _ w.heap[b]? else _) = _
 rw [if_pos rfl, hb]
 show some (Obj.cells (putCells (Value.int .i64) 0 ys.toArray ⟨arr⟩) ty (0, 0)) = _
 rw [put_cells hl]
theorem block_keep {w : World} {b n k : Nat} {ys : List Int} {os : Array Obj} (hk : k < w.heap.size) (hne : k ≠ b) : (grow (putRow (Value.int .i64) (Go.Sort.ahead w n) b 0 ys.toArray) os).heap[k]? = w.heap[k]? := by
 rw [heap_grow_old _ _ (by rw [size_putRow]; exact hk)]
 unfold putRow mapBlock
 rw [Array.getElem?_modify]
 show (if b = k then _ else w.heap[k]?) = _
 rw [if_neg (Ne.symm hne)]
theorem put_post {w : World} {H : Im} {B : Bl} {args : List V} {vals : List Value} {res : V} {v : Value} {b c n : Nat} {xs ys : List Int} {os : Array Obj} (pre : Pre [(0, .row 3 1 (xs.map intD))] args w H B vals) (hB : B 0 = some (b, c)) (hl : ys.length = xs.length) (hv : VR H B res v) :
  Post [(0, .row 3 1 (xs.map intD))] w H B res [(0, .row 3 1 (ys.map intD))] v (grow (putRow (Value.int .i64) (Go.Sort.ahead w n) b 0 ys.toArray) os) H B := by
 have hloc := pre.loc _ (List.mem_singleton.2 rfl)
 simp only [LR, hB] at hloc
 obtain ⟨arr, g1, g2, g3, g4, g5, g6⟩ := hloc
 rw [List.length_map] at g3
 have hpr := pre.priv _ (List.mem_singleton.2 rfl) b c hB
 have hla : ys.length ≤ arr.length := by omega
 refine ⟨Le.refl _, fun _ _ => rfl, fun k o hk => ?_, fun p hp => ?_, fun p hp b2 c2 h2 => ?_, fun p hp q hq _ _ _ _ _ => ?_, fun _ _ => rfl, hv, ⟨rfl, rfl, rfl, by rw [size_grow, size_putRow]; show w.heap.size ≤ w.heap.size + _; omega, fun k hk hm => ?_⟩⟩
 ·have h1 := pre.sat k o hk
  have hne : k ≠ b := fun e => by rw [e, hpr.2] at hk; cases hk
  rw [block_keep (Array.getElem?_eq_some_iff.1 h1).1 hne]; exact h1
 ·rw [List.mem_singleton.1 hp]
  simp only [LR, hB]
  refine ⟨_, block_put g1 hla, ?_, by rw [List.length_map]; omega, g4, fun r hr => ?_, ?_⟩
  ·rw [List.length_append, List.length_map, List.length_drop]; omega
  ·obtain ⟨x, _, rfl⟩ := List.mem_map.1 hr; rfl
  ·rw [List.length_map, Nat.mul_one, List.take_append_of_le_length (by rw [List.length_map]; omega), List.take_of_length_le (by rw [List.length_map]; omega)]
   exact ints_all2 ys
 ·rw [List.mem_singleton.1 hp] at h2
  have h2 : B 0 = some (b2, c2) := h2
  rw [hB] at h2
  injection h2 with h2
  obtain ⟨rfl, rfl⟩ := Prod.mk.injEq .. ▸ h2
  exact ⟨by rw [size_grow, size_putRow]; show b < w.heap.size + _; omega, hpr.2, .inl ⟨_, List.mem_singleton.2 rfl, c, hB⟩⟩
 ·rw [List.mem_singleton.1 hp, List.mem_singleton.1 hq]
 ·have hne : k ≠ b := fun e => hm ⟨_, List.mem_singleton.2 rfl, c, by rw [e]; exact hB⟩
  exact block_keep hk hne
theorem row_holds {w : World} {H : Im} {B : Bl} {b c : Nat} {xs : List Int} (hloc : LR H B w 0 (.row 3 1 (xs.map intD))) (hB : B 0 = some (b, c)) : Holds (Value.int .i64) w b 0 xs.toArray ∧ xs.length ≤ c ∧ c ≤ maxLen := by
 simp only [LR, hB] at hloc
 obtain ⟨arr, g1, g2, g3, g4, g5, g6⟩ := hloc
 rw [List.length_map] at g3 g6
 rw [Nat.mul_one] at g6
 have e := ints_cells xs _ g6
 refine ⟨fun j hj => ?_, g3, g4⟩
 have hj' : j < xs.length := by simpa using hj
 constructor
 ·simp only [World.cell?, g1, Nat.zero_add]
  rw [if_neg (by decide), show (⟨arr⟩ : Array Value) = arr.toArray from rfl, List.getElem?_toArray]
  have h2 : (arr.take xs.length)[j]? = arr[j]? := List.getElem?_take_of_lt hj'
  rw [← h2, e, List.getElem?_map, List.getElem?_eq_getElem hj']
  simp [hj']
 ·simp only [World.frozen?, g1]; simp
def sortZ (xs : List Int) : List Int := xs.mergeSort fun x y => decide (x ≤ y)
theorem sortZ_len (xs : List Int) : (sortZ xs).length = xs.length := List.length_mergeSort xs
theorem arg1 {H : Im} {B : Bl} {x : V} {vals : List Value} (h : All2 (VR H B) [x] vals) : ∃ v, vals = [v] ∧ VR H B x v := by
 match vals, h with
 | [v], h => exact ⟨v, rfl, h.1⟩
 | [], h => exact h.elim
 | _ :: _ :: _, h => exact h.2.elim
theorem none_rows {w : World} {H : Im} {B : Bl} {xs : List Int} (hloc : LR H B w 0 (.row 3 1 (xs.map intD))) (hB : B 0 = none) : xs = [] := by
 simp only [LR, hB] at hloc
 simpa using hloc
theorem same_post {ps : List (Nat × L)} {w : World} {H : Im} {B : Bl} {args : List V} {vals : List Value} {res : V} {v : Value} (pre : Pre ps args w H B vals) (hv : VR H B res v) : Post ps w H B res ps v w H B :=
 ⟨Le.refl _, fun _ _ => rfl, pre.sat, pre.loc, fun p hp b c h => ⟨(pre.priv p hp b c h).1, (pre.priv p hp b c h).2, .inl ⟨p, hp, c, h⟩⟩, pre.inj, fun _ _ => rfl, hv, Ext.refl _ _⟩
theorem SSortI (xs : List Int) (hl : xs.length ≤ 1000000) : Fn Tryz.prog 45 [(0, .row 3 1 (xs.map intD))] [.t (.c (.own 0 xs.length))] (.tup []) [(0, .row 3 1 ((sortZ xs).map intD))] := by
 intro w H B vals pre
 obtain ⟨v, rfl, hv⟩ := arg1 pre.arg
 have hloc := pre.loc _ (List.mem_singleton.2 rfl)
 have hv : CR H B (.own 0 xs.length) v := hv
 cases hB : B 0 with
 | none =>
  have hx := none_rows hloc hB
  subst hx
  simp only [CR, hB] at hv
  obtain ⟨_, ao, rfl⟩ := hv
  refine (Tryz.slices_Sort_int_none ao 0 w).mono ?_
  rintro e w' ⟨rfl, rfl⟩
  rw [show sortZ [] = [] by unfold sortZ; simp]
  exact ⟨_, H, B, rfl, same_post pre (show VR H B (.tup []) (.tuple #[]) from ⟨[], rfl, trivial⟩)⟩
 | some p =>
  obtain ⟨b, c⟩ := p
  simp only [CR, hB] at hv
  subst hv
  obtain ⟨h1, h2, h3⟩ := row_holds hloc hB
  have hpr := pre.priv _ (List.mem_singleton.2 rfl) b c hB
  refine (Tryz.slices_Sort_int b 0 c xs w h1 hpr.1 (by omega)).mono ?_
  rintro e w' ⟨rfl, n, os, rfl⟩
  exact ⟨_, H, B, rfl, put_post pre hB (sortZ_len xs) (show VR H B (.tup []) (.tuple #[]) from ⟨[], rfl, trivial⟩)⟩
def comZ (xs : List Int) : List Int := Lib.compact xs
def comR (xs : List Int) : List Int := comZ xs ++ List.replicate (xs.length - (comZ xs).length) 0
theorem comR_len (xs : List Int) : (comR xs).length = xs.length := by
 have := Lib.compact_length_le xs
 unfold comR comZ; rw [List.length_append, List.length_replicate]; omega
theorem SCompactI (xs : List Int) (hl : xs.length ≤ 1000000) : Fn Tryz.prog 46 [(0, .row 3 1 (xs.map intD))] [.t (.c (.own 0 xs.length))] (.t (.c (.own 0 (comZ xs).length))) [(0, .row 3 1 ((comR xs).map intD))] := by
 intro w H B vals pre
 obtain ⟨v, rfl, hv⟩ := arg1 pre.arg
 have hloc := pre.loc _ (List.mem_singleton.2 rfl)
 have hv : CR H B (.own 0 xs.length) v := hv
 cases hB : B 0 with
 | none =>
  have hx := none_rows hloc hB
  subst hx
  simp only [CR, hB] at hv
  obtain ⟨_, ao, rfl⟩ := hv
  refine (Tryz.slices_Compact_int_empty ao 0 w).mono ?_
  rintro e w' ⟨rfl, rfl⟩
  exact ⟨_, H, B, rfl, same_post pre (show VR H B (.t (.c (.own 0 0))) (.slice ao 0 0) from by show CR H B (.own 0 0) (.slice ao 0 0); simp only [CR, hB]; exact ⟨trivial, ao, rfl⟩)⟩
 | some p =>
  obtain ⟨b, c⟩ := p
  simp only [CR, hB] at hv
  subst hv
  obtain ⟨h1, h2, h3⟩ := row_holds hloc hB
  refine (Tryz.slices_Compact_int b 0 c xs w h1 (by omega) h2).mono ?_
  rintro e w' ⟨rfl, q, rfl⟩
  have := put_post (n := q) (os := #[]) pre hB (comR_len xs) (show VR H B (.t (.c (.own 0 (comZ xs).length))) (.slice (some ⟨b, 0, none⟩) (Lib.compact xs).length c) from by show CR H B (.own 0 (comZ xs).length) (.slice (some ⟨b, 0, none⟩) (Lib.compact xs).length c); simp only [CR, hB]; rfl)
  rw [grow_empty] at this
  exact ⟨_, H, B, rfl, this⟩
end Go.Proofs.YtoklkfmffmonoaaGreat.S
end
section
namespace Go.Proofs.YtoklkfmffmonoaaGreat.S
open Go.RowKit

theorem sri_eq : ∀ {xs ys : List Int}, SRi xs → SRi ys → (∀ v, v ∈ xs ↔ v ∈ ys) → xs = ys
 | [], [], _, _, _ => rfl
 | [], y :: _, _, _, h => absurd ((h y).2 (List.mem_cons_self ..)) (List.not_mem_nil)
 | x :: _, [], _, _, h => absurd ((h x).1 (List.mem_cons_self ..)) (List.not_mem_nil)
 | x :: xs, y :: ys, hx, hy, h => by
  have hx' := List.pairwise_cons.1 hx
  have hy' := List.pairwise_cons.1 hy
  have e : x = y := by
   rcases List.mem_cons.1 ((h x).1 (List.mem_cons_self ..)) with e | h1
   ·exact e
   ·rcases List.mem_cons.1 ((h y).2 (List.mem_cons_self ..)) with e | h2
    ·exact e.symm
    ·have := hy'.1 x h1; have := hx'.1 y h2; omega
  subst e
  congr 1
  refine sri_eq hx'.2 hy'.2 fun v => ⟨fun hv => ?_, fun hv => ?_⟩
  ·rcases List.mem_cons.1 ((h v).1 (List.mem_cons_of_mem _ hv)) with e | h1
   ·have := hx'.1 v hv; omega
   ·exact h1
  ·rcases List.mem_cons.1 ((h v).2 (List.mem_cons_of_mem _ hv)) with e | h1
   ·have := hy'.1 v hv; omega
   ·exact h1
theorem com_spec {zs : List Int} (hs : zs.Pairwise (· ≤ ·)) : ∀ m, m ≤ zs.length → SRi (Lib.compactUpTo zs.toArray m) ∧ ∀ v, v ∈ Lib.compactUpTo zs.toArray m ↔ v ∈ zs.take m
  | 0, _ => by
    have e : Lib.compactUpTo zs.toArray 0 = [] := by simp [Lib.compactUpTo]
    rw [e]; exact ⟨List.Pairwise.nil, fun v => by simp⟩
  | m + 1, hm => by
    obtain ⟨h1, h2⟩ := com_spec hs m (by omega)
    have hml : m < zs.length := by omega
    have hd : zs.toArray[m]! = zs[m] := by simp [hml]
    have ht : zs.take (m + 1) = zs.take m ++ [zs[m]] := by rw [List.take_add_one, List.getElem?_eq_getElem hml]; rfl
    rw [Lib.compactUpTo_succ, hd, ht]
    have hle : ∀ v ∈ zs.take m, v ≤ zs[m] := fun v hv => by
      obtain ⟨i, hi, e⟩ := List.mem_iff_getElem.1 hv
      rw [List.length_take] at hi
      rw [List.getElem_take] at e
      rw [← e]
      exact List.pairwise_iff_getElem.1 hs i m (by omega) hml (by omega)
    by_cases hk : Lib.keeps zs.toArray m = true
    · rw [if_pos hk]
      refine ⟨List.pairwise_append.2 ⟨h1, List.pairwise_singleton .., fun x hx y hy => ?_⟩, fun v => by rw [List.mem_append, List.mem_append, h2]⟩
      rw [List.mem_singleton.1 hy]
      have hx' := (h2 x).1 hx
      have := hle x hx'
      rcases Nat.eq_zero_or_pos m with rfl | hp
      · simp at hx'
      · have hne : zs[m] ≠ zs[m - 1] := by
          unfold Lib.keeps at hk
          have hd2 : zs.toArray[m - 1]! = zs[m - 1] := by simp [show m - 1 < zs.length by omega]
          rw [hd, hd2] at hk
          intro e
          rw [e] at hk
          simp at hk
          omega
        obtain ⟨i, hi, e⟩ := List.mem_iff_getElem.1 hx'
        rw [List.length_take] at hi
        rw [List.getElem_take] at e
        have h3 : x ≤ zs[m - 1] := by
          rw [← e]
          rcases Nat.lt_or_ge i (m - 1) with h | h
          · exact List.pairwise_iff_getElem.1 hs i (m - 1) (by omega) (by omega) h
          · have : i = m - 1 := by omega
            subst this; exact Int.le_refl _
        have h4 : zs[m - 1] ≤ zs[m] := List.pairwise_iff_getElem.1 hs (m - 1) m (by omega) hml (by omega)
        omega
    · rw [if_neg hk, List.append_nil]
      refine ⟨h1, fun v => ?_⟩
      rw [List.mem_append, List.mem_singleton, h2]
      refine ⟨.inl, fun h => h.elim id fun e => ?_⟩
      have hp : 0 < m := by
        rcases Nat.eq_zero_or_pos m with rfl | hp
        · exact absurd (by simp [Lib.keeps]) hk
        · exact hp
      have he : zs[m] = zs[m - 1] := by
        refine Classical.byContradiction fun hne => hk ?_
        have hd2 : zs.toArray[m - 1]! = zs[m - 1] := by simp [show m - 1 < zs.length by omega]
        exact Lib.keeps_pos (by rw [hd, hd2]; exact hne)
      rw [e, he]
      exact List.mem_iff_getElem.2 ⟨m - 1, by rw [List.length_take]; omega, by rw [List.getElem_take]⟩
theorem sortZ_ris (xs : List Int) : (sortZ xs).Pairwise (· ≤ ·) := by
  have h := List.pairwise_mergeSort (le := fun x y : Int => decide (x ≤ y)) (fun a b c h1 h2 => by simp only [decide_eq_true_eq] at *; omega) (fun a b => by simp only [Bool.or_eq_true, decide_eq_true_eq]; omega) xs
  exact h.imp fun h => of_decide_eq_true h
theorem sortZ_mem (xs : List Int) (v : Int) : v ∈ sortZ xs ↔ v ∈ xs := (List.mergeSort_perm xs _).mem_iff
def uniZ (xs : List Int) : List Int := comZ (sortZ xs)
theorem uniZ_ris (xs : List Int) : SRi (uniZ xs) := (com_spec (sortZ_ris xs) _ (Nat.le_refl _)).1
theorem uniZ_mem (xs : List Int) (v : Int) : v ∈ uniZ xs ↔ v ∈ xs := by
 unfold uniZ comZ Lib.compact
 rw [(com_spec (sortZ_ris xs) _ (Nat.le_refl _)).2, List.take_length, sortZ_mem]
theorem uniZ_eq {xs ys : List Int} (h : SRi ys) (hm : ∀ v, v ∈ xs ↔ v ∈ ys) : uniZ xs = ys := sri_eq (uniZ_ris xs) h fun v => by rw [uniZ_mem, hm]
theorem comR_at {xs : List Int} {i : Nat} {x : Int} (h : (comZ xs)[i]? = some x) : (comR xs)[i]? = some x := by
 unfold comR; rw [List.getElem?_append_left (List.getElem?_eq_some_iff.1 h).1]; exact h
theorem SCompactN (xs : List Int) (n : Nat) (hn : n = xs.length) (hl : xs.length ≤ 1000000) : Fn Tryz.prog 46 [(0, .row 3 1 (xs.map intD))] [.t (.c (.own 0 n))] (.t (.c (.own 0 (comZ xs).length))) [(0, .row 3 1 ((comR xs).map intD))] := by subst hn; exact SCompactI xs hl
end Go.Proofs.YtoklkfmffmonoaaGreat.S
end
section
namespace Go.Proofs.YtoklkfmffmonoaaGreat
open Go.RowKit

set_option maxHeartbeats 1000000 in
theorem From_any (s : Bool) (ao : Option Addr) (n c : Nat) (zs : List Nat) (w : World) (hn : n = zs.length) (h : Rd w ao c zs) (hl : zs.length ≤ 400000) :
  Calls Tryz.prog 113 #[.bool s, .slice ao n c] w (GotZ w (iv s zs) zs.length) := by
 subst hn
 cases s
 ·go_enter Tryz.func113, Tryz.ntmps113
  go_wp2_with fail
  refine (TrimM _ _ _ zs _ rfl (h.ext ((Ext.refl _).alloc _)) (by first | omega | (simp; done) | (simp; omega))).mono ?_
  rintro e w1 ⟨r1a, r1c, r1z, r1B, rfl, r1b, r1o, r1k, r1v, r1l, xx⟩
  try simp at r1b
  try simp only [List.length_cons, List.length_nil] at r1l
  have hE : Ext w w1 := Ext.trans ((Ext.refl _).alloc _) xx
  have hz1 : w.heap.size + 1 ≤ w1.heap.size := (by have hq := Ext.size xx; (try simp at hq); omega)
  have hb0 : w.heap.size < w1.heap.size := (by omega)
  have fq0_0 := Ext.free (p := ⟨w.heap.size, 0, none⟩) (v := .bool false) xx (by first | exact True | go_simp | (repeat (first | assumption | (refine (World.cell?_setCell_far _ _ _ _ (by simp <;> omega)).trans ?_) | (refine (World.cell?_alloc_lt _ _ _ (World.block_lt_of_cell? _ _ (by assumption))).trans ?_) | go_simp))) (by first | assumption | go_simp)
  have q0_0 := Ext.cell (p := ⟨w.heap.size, 0, none⟩) (v := .bool false) xx (by first | exact True | go_simp | (repeat (first | assumption | (refine (World.cell?_setCell_far _ _ _ _ (by simp <;> omega)).trans ?_) | (refine (World.cell?_alloc_lt _ _ _ (World.block_lt_of_cell? _ _ (by assumption))).trans ?_) | go_simp)))
  have fq0_1 := Ext.free (p := ⟨w.heap.size, 1, none⟩) (v := .slice none 0 0) xx (by first | exact True | go_simp | (repeat (first | assumption | (refine (World.cell?_setCell_far _ _ _ _ (by simp <;> omega)).trans ?_) | (refine (World.cell?_alloc_lt _ _ _ (World.block_lt_of_cell? _ _ (by assumption))).trans ?_) | go_simp))) (by first | assumption | go_simp)
  have q0_1 := Ext.cell (p := ⟨w.heap.size, 1, none⟩) (v := .slice none 0 0) xx (by first | exact True | go_simp | (repeat (first | assumption | (refine (World.cell?_setCell_far _ _ _ _ (by simp <;> omega)).trans ?_) | (refine (World.cell?_alloc_lt _ _ _ (World.block_lt_of_cell? _ _ (by assumption))).trans ?_) | go_simp)))
  clear xx
  go_wp2_with fail
  refine bodyPost_ret (v := .agg #[.bool false, .slice r1a r1z.length r1c]) (by simp [results, Tryz.results113, go_sem, q0_0, q0_1]) rfl ?_
  exact ⟨false, r1a, r1c, r1z, r1B, rfl, (by omega), (Own.st (Own.st r1o (b := w.heap.size) (by omega) _ _) (b := w.heap.size) (by omega) _ _), (CanZ.pos r1k.out), (by unfold Hid; rw [iv_false, iv_false, r1v.out]), (by first | omega | (simp; done) | (simp; omega)), (Ext.st (Ext.st hE (b := w.heap.size) (by omega) _ _) (b := w.heap.size) (by omega) _ _)⟩
 ·go_enter Tryz.func113, Tryz.ntmps113
  go_wp2_with fail
  refine (TrimM _ _ _ zs _ rfl (h.ext ((Ext.refl _).alloc _)) (by first | omega | (simp; done) | (simp; omega))).mono ?_
  rintro e w1 ⟨r1a, r1c, r1z, r1B, rfl, r1b, r1o, r1k, r1v, r1l, xx⟩
  try simp at r1b
  try simp only [List.length_cons, List.length_nil] at r1l
  have hE : Ext w w1 := Ext.trans ((Ext.refl _).alloc _) xx
  have hz1 : w.heap.size + 1 ≤ w1.heap.size := (by have hq := Ext.size xx; (try simp at hq); omega)
  have hb0 : w.heap.size < w1.heap.size := (by omega)
  have fq0_0 := Ext.free (p := ⟨w.heap.size, 0, none⟩) (v := .bool false) xx (by first | exact True | go_simp | (repeat (first | assumption | (refine (World.cell?_setCell_far _ _ _ _ (by simp <;> omega)).trans ?_) | (refine (World.cell?_alloc_lt _ _ _ (World.block_lt_of_cell? _ _ (by assumption))).trans ?_) | go_simp))) (by first | assumption | go_simp)
  have q0_0 := Ext.cell (p := ⟨w.heap.size, 0, none⟩) (v := .bool false) xx (by first | exact True | go_simp | (repeat (first | assumption | (refine (World.cell?_setCell_far _ _ _ _ (by simp <;> omega)).trans ?_) | (refine (World.cell?_alloc_lt _ _ _ (World.block_lt_of_cell? _ _ (by assumption))).trans ?_) | go_simp)))
  have fq0_1 := Ext.free (p := ⟨w.heap.size, 1, none⟩) (v := .slice none 0 0) xx (by first | exact True | go_simp | (repeat (first | assumption | (refine (World.cell?_setCell_far _ _ _ _ (by simp <;> omega)).trans ?_) | (refine (World.cell?_alloc_lt _ _ _ (World.block_lt_of_cell? _ _ (by assumption))).trans ?_) | go_simp))) (by first | assumption | go_simp)
  have q0_1 := Ext.cell (p := ⟨w.heap.size, 1, none⟩) (v := .slice none 0 0) xx (by first | exact True | go_simp | (repeat (first | assumption | (refine (World.cell?_setCell_far _ _ _ _ (by simp <;> omega)).trans ?_) | (refine (World.cell?_alloc_lt _ _ _ (World.block_lt_of_cell? _ _ (by assumption))).trans ?_) | go_simp)))
  clear xx
  rcases Nat.eq_zero_or_pos r1z.length with h0 | hp
  ·have e0 : r1z = [] := List.length_eq_zero_iff.1 h0
   subst e0
   clear h0
   go_wp2_with fail
   refine bodyPost_ret (v := .agg #[.bool false, .slice r1a 0 r1c]) (by simp [results, Tryz.results113, go_sem, q0_0, q0_1]) rfl ?_
   exact ⟨false, r1a, r1c, [], r1B, rfl, (by omega), (Own.st (Own.st r1o (b := w.heap.size) (by omega) _ _) (b := w.heap.size) (by omega) _ _), (CanZ.pos r1k.out), (by unfold Hid; rw [iv_false, iv_true, ← r1v.out]; rfl), (by first | omega | (simp; done) | (simp; omega)), (Ext.st (Ext.st hE (b := w.heap.size) (by omega) _ _) (b := w.heap.size) (by omega) _ _)⟩
  ·have hp1 : decide (0 < r1z.length) = true := decide_eq_true hp
   go_wp2_with fail
   refine bodyPost_ret (v := .agg #[.bool true, .slice r1a r1z.length r1c]) (by simp [results, Tryz.results113, go_sem, q0_0, q0_1]) rfl ?_
   exact ⟨true, r1a, r1c, r1z, r1B, rfl, (by omega), (Own.st (Own.st r1o (b := w.heap.size) (by omega) _ _) (b := w.heap.size) (by omega) _ _), (CanZ.neg r1k.out hp _), (by unfold Hid; rw [iv_true, iv_true, r1v.out]), (by first | omega | (simp; done) | (simp; omega)), (Ext.st (Ext.st hE (b := w.heap.size) (by omega) _ _) (b := w.heap.size) (by omega) _ _)⟩
set_option maxHeartbeats 1000000 in
theorem clean_any (s : Bool) (ao : Option Addr) (n c : Nat) (zs : List Nat) (w : World) (hn : n = zs.length) (h : Rd w ao c zs) (hl : zs.length ≤ 400000) :
  Calls Tryz.prog 100 #[.agg #[.bool s, .slice ao n c]] w (GotZ w (iv s zs) zs.length) := by
 subst hn
 go_enter Tryz.func100, Tryz.ntmps100
 go_wp2_with fail
 refine (From_any s _ _ _ zs _ rfl (h.ext (((Ext.refl _).alloc _).alloc _)) (by first | omega | (simp; done) | (simp; omega))).mono ?_
 rintro e w1 ⟨r1s, r1a, r1c, r1z, r1B, rfl, r1b, r1o, r1k, r1v, r1l, xx⟩
 try simp at r1b
 try simp only [List.length_cons, List.length_nil] at r1l
 have hE : Ext w w1 := Ext.trans (((Ext.refl _).alloc _).alloc _) xx
 have hz1 : w.heap.size + 2 ≤ w1.heap.size := (by have hq := Ext.size xx; (try simp at hq); omega)
 have hb1 : w.heap.size + 1 < w1.heap.size := (by omega)
 have fq1_0 := Ext.free (p := ⟨w.heap.size + 1, 0, none⟩) (v := .bool false) xx (by first | exact True | go_simp | (repeat (first | assumption | (refine (World.cell?_setCell_far _ _ _ _ (by simp <;> omega)).trans ?_) | (refine (World.cell?_alloc_lt _ _ _ (World.block_lt_of_cell? _ _ (by assumption))).trans ?_) | go_simp))) (by first | assumption | go_simp)
 have q1_0 := Ext.cell (p := ⟨w.heap.size + 1, 0, none⟩) (v := .bool false) xx (by first | exact True | go_simp | (repeat (first | assumption | (refine (World.cell?_setCell_far _ _ _ _ (by simp <;> omega)).trans ?_) | (refine (World.cell?_alloc_lt _ _ _ (World.block_lt_of_cell? _ _ (by assumption))).trans ?_) | go_simp)))
 have fq1_1 := Ext.free (p := ⟨w.heap.size + 1, 1, none⟩) (v := .slice none 0 0) xx (by first | exact True | go_simp | (repeat (first | assumption | (refine (World.cell?_setCell_far _ _ _ _ (by simp <;> omega)).trans ?_) | (refine (World.cell?_alloc_lt _ _ _ (World.block_lt_of_cell? _ _ (by assumption))).trans ?_) | go_simp))) (by first | assumption | go_simp)
 have q1_1 := Ext.cell (p := ⟨w.heap.size + 1, 1, none⟩) (v := .slice none 0 0) xx (by first | exact True | go_simp | (repeat (first | assumption | (refine (World.cell?_setCell_far _ _ _ _ (by simp <;> omega)).trans ?_) | (refine (World.cell?_alloc_lt _ _ _ (World.block_lt_of_cell? _ _ (by assumption))).trans ?_) | go_simp)))
 clear xx
 go_wp2_with fail
 refine bodyPost_ret (v := .agg #[.bool r1s, .slice r1a r1z.length r1c]) (by simp [results, Tryz.results100, go_sem, q1_0, q1_1]) rfl ?_
 exact ⟨r1s, r1a, r1c, r1z, r1B, rfl, (by omega), (Own.st (Own.st r1o (b := w.heap.size + 1) (by omega) _ _) (b := w.heap.size + 1) (by omega) _ _), r1k, r1v, (by first | omega | (simp; done) | (simp; omega)), (Ext.st (Ext.st hE (b := w.heap.size + 1) (by omega) _ _) (b := w.heap.size + 1) (by omega) _ _)⟩
end Go.Proofs.YtoklkfmffmonoaaGreat
end
section
namespace Go.Proofs.YtoklkfmffmonoaaGreat
open Go.RowKit

end Go.Proofs.YtoklkfmffmonoaaGreat
end
section
namespace Go.Proofs.YtoklkfmffmonoaaGreat
open Go.RowKit

end Go.Proofs.YtoklkfmffmonoaaGreat
end
section
namespace Go.Proofs.YtoklkfmffmonoaaGreat
open Go.RowKit

theorem sgn_mul_range {x y : Int} (hx : -1 ≤ x ∧ x ≤ 1) (hy : -1 ≤ y ∧ y ≤ 1) : -1 ≤ x * y ∧ x * y ≤ 1 := by
 have h1 : x = -1 ∨ x = 0 ∨ x = 1 := by omega
 rcases h1 with rfl | rfl | rfl <;> omega

end Go.Proofs.YtoklkfmffmonoaaGreat
end
section
namespace Go.Proofs.YtoklkfmffmonoaaGreat
open Go.RowKit

theorem val_two (x : Nat) : val [x % 4294967296, x / 4294967296] = x := by simp only [val]; omega
end Go.Proofs.YtoklkfmffmonoaaGreat
end
