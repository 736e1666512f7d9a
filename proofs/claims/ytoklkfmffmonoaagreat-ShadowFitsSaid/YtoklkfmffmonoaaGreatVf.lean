/-
  The proof of the statement ShadowFits: the walk through the program and the references lifted to the given row. It holds for every input.
-/
import Derived.Test.YtoklkfmffmonoaaGreatVf5
import Derived.Test.YtoklkfmffmonoaaGreatVf4
import Derived.Test.YtoklkfmffmonoaaGreatVf2
import Derived.Test.YtoklkfmffmonoaaGreatRows
set_option maxRecDepth 100000
section
namespace Go.Proofs.YtoklkfmffmonoaaGreat.S
open Go.RowKit

theorem hp_1 : Bodied Tryz.prog 64 := Bodied.mk' (by kernel_rfl)
theorem hp_4 : Bodied Tryz.prog 66 := Bodied.mk' (by kernel_rfl)
theorem hp_5 : Bodied Tryz.prog 67 := Bodied.mk' (by kernel_rfl)
theorem hp_6 : Bodied Tryz.prog 68 := Bodied.mk' (by kernel_rfl)
theorem hp_11 : ElZ Tryz.prog 50 22 1 := ElZ.mk' Tryz.underlying50 _ _ rfl rfl (by kernel_rfl) (by kernel_rfl) (by kernel_rfl) (by decide)
theorem hp_12 : ElT Tryz.prog 50 22 1 24 := ElT.mk' Tryz.underlying50 _ _ rfl rfl (by kernel_rfl) (by kernel_rfl) (by kernel_rfl) (by decide) (by decide)
def plR (r : RelD) : RelD := ⟨plainT r.t, r.eq⟩
def pieceL (rs : List RelD) (v : Int) (low : SideD) (i : Nat) : List RelD := eqR low v (i : Int) :: rs.map plR
def pieces1 (rs : List RelD) (v : Int) (low : SideD) (n : Int) : List (List RelD) := (List.range (n + 1).toNat).map (pieceL rs v low)
def pieceGo (rs : List RelD) (v room m : Int) : List SideD → List (List RelD) → List (List RelD) × Int
  | [], out => (out, 0)
  | low :: ls, out => if lastZ low.times.val m < 0 then pieceGo rs v room m ls out else if lastZ low.times.val m ≥ room - (out.length : Int) then ([], 3) else pieceGo rs v room m ls (out ++ pieces1 rs v low (lastZ low.times.val m))
def piecesS (rs : List RelD) (v most : Int) : List (List RelD) × Int := if maxS (highsOf rs v) = 0 then ([], 0) else pieceGo rs v most (maxS (highsOf rs v)) (lowsOf rs v) []
theorem go_at {rs : List RelD} {v room m : Int} {ls : List SideD} {j : Nat} {low : SideD} {out : List (List RelD)} (h : ls[j]? = some low) : pieceGo rs v room m (ls.drop j) out = if lastZ low.times.val m < 0 then pieceGo rs v room m (ls.drop (j + 1)) out else if lastZ low.times.val m ≥ room - (out.length : Int) then ([], 3) else pieceGo rs v room m (ls.drop (j + 1)) (out ++ pieces1 rs v low (lastZ low.times.val m)) := by
 obtain ⟨hj, rfl⟩ := List.getElem?_eq_some_iff.1 h
 rw [List.drop_eq_getElem_cons hj]; rfl
theorem maxS_len {l : List SideD} (hl : ∀ s ∈ l, SideOk s) : (ZI.of (maxS l)).abs.length ≤ 9 := by
 suffices h : ∀ (l : List SideD) (m : Int), (∀ s ∈ l, SideOk s) → (ZI.of m).abs.length ≤ 9 → (ZI.of (l.foldl (fun m s => max m s.times.val) m)).abs.length ≤ 9 from h l 0 hl (Nat.zero_le _)
 intro l
 induction l with
 | nil => intro m _ h; exact h
 | cons s l ih =>
  intro m hl h
  refine ih _ (fun q hq => hl q (List.mem_cons_of_mem _ hq)) ?_
  have hs := hl s (List.mem_cons_self ..)
  have := max_len (x := ZI.of m) (y := s.times) (ZI.lb_of m) hs.lb h hs.len
  rwa [ZI.val_of] at this
theorem last_len {x y : ZI} (hx : Lb x.abs) (hy : Lb y.abs) (lx : x.abs.length ≤ 9) (ly : y.abs.length ≤ 9) (h0 : y.val ≠ 0) : (ZI.of (lastZ x.val y.val)).abs.length ≤ 40 := by
 have h1 := len_mul hy hx
 have h2 := len_sub (x := ZI.of (y.val * x.val)) (y := y) (ZI.lb_of _) hy
 rw [ZI.val_of] at h2
 have h3 := len_sub (x := ZI.of (y.val * x.val - y.val)) (y := x) (ZI.lb_of _) hx
 rw [ZI.val_of] at h3
 have h4 := len_fdiv (x := ZI.of (y.val * x.val - y.val - x.val)) (y := y) (ZI.lb_of _) h0
 rw [ZI.val_of] at h4
 unfold lastZ; omega
set_option maxHeartbeats 4000000 in
theorem SPieces (rs : List RelD) (v most : Int) (hrs : RsOk rs) (hm : 0 ≤ most ∧ most ≤ 1000) : Fn Tryz.prog 27 [] [.t (.c (.d (.sl 4 (rs.map RelD.d)))), vi .i64 v, vi .i64 most] (.tup [.c (.d (.sl 1 ((piecesS rs v most).1.map (slD 4 RelD.d)))), .c (.d (.raw (.int .i64 (piecesS rs v most).2)))]) [] := by
 have lrs := hrs.1
 have nl := lows_len hrs v
 have nh := highs_len hrs v
 refine Fn.body Tryz.func27 rfl 94 rfl fun w H B a h => ?_
 refine rSeq fam0ok 5 [] [(0, .t (.c (.d (.sl 4 (rs.map RelD.d))))), (1, vi .i64 v), (2, vi .i64 most), (6, .t (.c (.d (.raw nilV)))), (7, vi .i64 0)] [] (by kernel_rfl) h ?_; clear h; intro a w h
 refine rSeq fam0ok 5 [(2, .call (Ssplit rs v hrs) hb_15)] [(0, .t (.c (.d (.sl 4 (rs.map RelD.d))))), (1, vi .i64 v), (2, vi .i64 most), (6, .t (.c (.d (.raw nilV)))), (7, vi .i64 0), (8, vp 5 0)] [(5, .box [.d (.sl 5 ((lowsOf rs v).map SideD.d)), .d (.sl 5 ((highsOf rs v).map SideD.d)), .d (.sl 4 ((othersOf rs v).map RelD.d))])] (by kernel_rfl) h ?_; clear h; intro a w h
 obtain ⟨r2, er2, vr2, or2, lr2⟩ := mkZ (v := maxS (highsOf rs v)) (m := 9) (maxS_len (highs_ok hrs v))
 refine rSeq fam0ok 6 [(2, .call (Fn.cast (SGreatest (highsOf rs v) (highs_ok hrs v) (by omega)) (congrArg vz er2.symm)) hp_1)] [(0, .t (.c (.d (.sl 4 (rs.map RelD.d))))), (1, vi .i64 v), (2, vi .i64 most), (6, .t (.c (.d (.raw nilV)))), (7, vi .i64 0), (8, vp 5 0), (9, vp 6 0)] [(5, .box [.d (.sl 5 ((lowsOf rs v).map SideD.d)), .d (.sl 5 ((highsOf rs v).map SideD.d)), .d (.sl 4 ((othersOf rs v).map RelD.d))]), (6, .box (zi r2))] (by kernel_rfl) h ?_; clear h; intro a w h
 refine wp_seq ?_
 refine rSeq fam0ok 7 [(1, .call (SSign r2 or2 (by omega)) td_6)] [(0, .t (.c (.d (.sl 4 (rs.map RelD.d))))), (1, vi .i64 v), (2, vi .i64 most), (6, .t (.c (.d (.raw nilV)))), (7, vi .i64 0), (8, vp 5 0), (9, vp 6 0), (29, vb (sgn r2.val == 0))] [(5, .box [.d (.sl 5 ((lowsOf rs v).map SideD.d)), .d (.sl 5 ((highsOf rs v).map SideD.d)), .d (.sl 4 ((othersOf rs v).map RelD.d))]), (6, .box (zi r2))] (by kernel_rfl) h ?_; clear h; intro a w h
 refine condS (sgn r2.val == 0) h rfl (fun hc => ?_) (fun hc => ?_)
 ·have hc1 := hc; clear hc
  have hc1' := hc1; (try simp at hc1')
  refine rSeq fam0ok 7 [] [(0, .t (.c (.d (.sl 4 (rs.map RelD.d))))), (1, vi .i64 v), (2, vi .i64 most), (6, .t (.c (.d (.raw nilV)))), (7, vi .i64 0), (8, vp 5 0), (9, vp 6 0)] [(5, .box [.d (.sl 5 ((lowsOf rs v).map SideD.d)), .d (.sl 5 ((highsOf rs v).map SideD.d)), .d (.sl 4 ((othersOf rs v).map RelD.d))]), (6, .box (zi r2))] (by kernel_rfl) h ?_; clear h; intro a w h
  refine wp_ret ?_
  refine then_r ?_
  replace h := nilDSs 6 0 1 (.t (.c (.d (.raw nilV)))) [(0, .t (.c (.d (.sl 4 (rs.map RelD.d))))), (1, vi .i64 v), (2, vi .i64 most), (6, .t (.c (.d (.sl 1 ([].map (slD 4 RelD.d)))))), (7, vi .i64 0), (8, vp 5 0), (9, vp 6 0)] [(5, .box [.d (.sl 5 ((lowsOf rs v).map SideD.d)), .d (.sl 5 ((highsOf rs v).map SideD.d)), .d (.sl 4 ((othersOf rs v).map RelD.d))]), (6, .box (zi r2))] h rfl rfl (by kernel_rfl) (by kernel_rfl)
  refine retS [.c (.d (.sl 1 ([].map (slD 4 RelD.d)))), .c (.d (.raw (.int .i64 0)))] h Exit.ret (.inl rfl)  rfl ⟨RV.tmp _ _ rfl, RV.tmp _ _ rfl, trivial⟩ ?_ (by kernel_rfl) (by kernel_rfl)
  have hz : piecesS rs v most = ([], 0) := by unfold piecesS; rw [if_pos (by have h0 := sgn0_t hc1; rw [vr2] at h0; exact h0)]
  rw [hz]; first | done | rfl
 ·have hc2 := hc; clear hc
  have hc2' := hc2; (try simp at hc2')
  refine wp_skip ?_
  refine then_n ?_
  have hmx : maxS (highsOf rs v) ≠ 0 := by have := sgn0_f hc2; rw [vr2] at this; exact this
  refine rSeq fam0ok 7 [(1, .gen _ _ _ fun _ _ _ _ => Op.max2 (d := 31) (tys := #[3, 3]) (k := .i64) (m := most) (n := 0) (r := most) (OV.tmp 30 _) (OV.const (.int .i64 0) rfl) (Int.max_eq_left hm.1).symm)] [(0, .t (.c (.d (.sl 4 (rs.map RelD.d))))), (1, vi .i64 v), (6, .t (.c (.d (.raw nilV)))), (7, vi .i64 0), (8, vp 5 0), (9, vp 6 0), (10, vi .i64 most)] [(5, .box [.d (.sl 5 ((lowsOf rs v).map SideD.d)), .d (.sl 5 ((highsOf rs v).map SideD.d)), .d (.sl 4 ((othersOf rs v).map RelD.d))]), (6, .box (zi r2))] (by kernel_rfl) h ?_; clear h; intro a w h
  refine rSeq fam0ok 7 [] [(0, .t (.c (.d (.sl 4 (rs.map RelD.d))))), (1, vi .i64 v), (6, .t (.c (.d (.raw nilV)))), (7, vi .i64 0), (8, vp 5 0), (9, vp 6 0), (10, vi .i64 most), (11, .t (.c (.d (.raw nilV))))] [(5, .box [.d (.sl 5 ((lowsOf rs v).map SideD.d)), .d (.sl 5 ((highsOf rs v).map SideD.d)), .d (.sl 4 ((othersOf rs v).map RelD.d))]), (6, .box (zi r2))] (by kernel_rfl) h ?_; clear h; intro a w h
  refine wp_seq ?_
  replace h := nilOSs 11 0 7 1 22 (.t (.c (.d (.raw nilV)))) [(0, .t (.c (.d (.sl 4 (rs.map RelD.d))))), (1, vi .i64 v), (6, .t (.c (.d (.raw nilV)))), (7, vi .i64 0), (8, vp 5 0), (9, vp 6 0), (10, vi .i64 most), (11, .t (.c (.own 7 0)))] [(5, .box [.d (.sl 5 ((lowsOf rs v).map SideD.d)), .d (.sl 5 ((highsOf rs v).map SideD.d)), .d (.sl 4 ((othersOf rs v).map RelD.d))]), (6, .box (zi r2)), (7, .row 22 1 ([].map (slD 4 RelD.d)))] h (by kernel_rfl) rfl rfl (by kernel_rfl) (by kernel_rfl)
  refine rSeq fam0ok 8 [(2, .len (c := (.d (.sl 5 ((lowsOf rs v).map SideD.d)))) (n := (lowsOf rs v).length) (lenC_map _ _ _))] [(0, .t (.c (.d (.sl 4 (rs.map RelD.d))))), (1, vi .i64 v), (6, .t (.c (.d (.raw nilV)))), (7, vi .i64 0), (9, vp 6 0), (10, vi .i64 most), (11, .t (.c (.own 7 0))), (33, .t (.c (.d (.sl 5 ((lowsOf rs v).map SideD.d))))), (34, vi .i64 ((lowsOf rs v).length : Int)), (35, vi .i64 0)] [(6, .box (zi r2)), (7, .row 22 1 ([].map (slD 4 RelD.d)))] (by kernel_rfl) h ?_; clear h; intro a w h
  refine wp_block ?_
  refine loopS (ι := (Nat) × (List (List RelD))) (fun (z_ : (Nat) × (List (List RelD))) => match z_ with | (j, out) => j ≤ (lowsOf rs v).length ∧ piecesS rs v most = pieceGo rs v most (maxS (highsOf rs v)) ((lowsOf rs v).drop j) out ∧ (out.length : Int) ≤ most)
    (fun (z_ : (Nat) × (List (List RelD))) => match z_ with | (j, out) => [(0, .t (.c (.d (.sl 4 (rs.map RelD.d))))), (1, vi .i64 v), (9, vp 6 0), (10, vi .i64 most), (11, .t (.c (.own 7 out.length))), (33, .t (.c (.d (.sl 5 ((lowsOf rs v).map SideD.d))))), (34, vi .i64 ((lowsOf rs v).length : Int)), (35, vi .i64 (j : Int))])
    (fun (z_ : (Nat) × (List (List RelD))) => match z_ with | (j, out) => [(6, .box (zi r2)), (7, .row 22 1 (out.map (slD 4 RelD.d)))])
    (fun (z_ : (Nat) × (List (List RelD))) => match z_ with | (j, out) => (lowsOf rs v).length - j) (0, []) ?_ h (by kernel_rfl) (by kernel_rfl) ?_
  ·exact ⟨Nat.zero_le _, by unfold piecesS; rw [if_neg hmx]; rfl, by show (0 : Int) ≤ most; omega⟩
  ·clear h; rintro ⟨j, out⟩ a w hI h
   change St _ (F.of [(0, .t (.c (.d (.sl 4 (rs.map RelD.d))))), (1, vi .i64 v), (9, vp 6 0), (10, vi .i64 most), (11, .t (.c (.own 7 out.length))), (33, .t (.c (.d (.sl 5 ((lowsOf rs v).map SideD.d))))), (34, vi .i64 ((lowsOf rs v).length : Int)), (35, vi .i64 (j : Int))] [(6, .box (zi r2)), (7, .row 22 1 (out.map (slD 4 RelD.d)))]) a w at h
   obtain ⟨hI1, hI2, hI3⟩ := hI
   refine rSeq fam0ok 8 [] [(0, .t (.c (.d (.sl 4 (rs.map RelD.d))))), (1, vi .i64 v), (9, vp 6 0), (10, vi .i64 most), (11, .t (.c (.own 7 out.length))), (33, .t (.c (.d (.sl 5 ((lowsOf rs v).map SideD.d))))), (34, vi .i64 ((lowsOf rs v).length : Int)), (35, vi .i64 (j : Int)), (36, vb (decide ((j : Int) < ((lowsOf rs v).length : Int))))] [(6, .box (zi r2)), (7, .row 22 1 (out.map (slD 4 RelD.d)))] (by kernel_rfl) h ?_; clear h; intro a w h
   refine wp_seq ?_
   refine condS (decide ((j : Int) < ((lowsOf rs v).length : Int))) h rfl (fun hc => ?_) (fun hc => ?_)
   ·have hc3 := hc; clear hc
    have hc3' := of_decide_eq_true hc3
    refine wp_skip ?_
    refine then_n ?_
    refine wp_seq ?_
    refine wp_block ?_
    obtain ⟨x4, hx4⟩ : ∃ z_ : SideD, (lowsOf rs v)[j]? = some z_ := ⟨_, List.getElem?_eq_getElem (by first | omega | (simp at *; omega))⟩
    have gx4 := lows_ok hrs v x4 (List.mem_of_getElem? hx4)
    have lgx4 := gx4.len
    refine rSeq fam0ok 8 [(0, .gen _ _ _ fun _ _ _ _ => Op.idxD (d := 37) (t := 33) (k := .i64) hb_1 (map_at hx4 (f := SideD.d)) (OV.tmp 35 _))] [(0, .t (.c (.d (.sl 4 (rs.map RelD.d))))), (1, vi .i64 v), (9, vp 6 0), (10, vi .i64 most), (11, .t (.c (.own 7 out.length))), (13, vp 8 0), (33, .t (.c (.d (.sl 5 ((lowsOf rs v).map SideD.d))))), (34, vi .i64 ((lowsOf rs v).length : Int)), (35, vi .i64 (j : Int))] [(6, .box (zi r2)), (7, .row 22 1 (out.map (slD 4 RelD.d))), (8, .box (zi x4.times ++ [.d (.sl 3 (x4.rest.parts.map Part.d))] ++ zi x4.rest.k))] (by kernel_rfl) h ?_; clear h; intro a w h
    have h0x4 : r2.val ≠ 0 := by rw [vr2]; exact hmx
    obtain ⟨r5, er5, vr5, or5, lr5⟩ := mkZ (v := lastZ x4.times.val r2.val) (m := 40) (last_len gx4.lb or2 gx4.len lr2 h0x4)
    refine rSeq fam0ok 9 [(3, .call (Fn.cast (SLast x4.times r2 gx4.lb or2 gx4.len lr2 h0x4) (congrArg vz er5.symm)) hp_4)] [(0, .t (.c (.d (.sl 4 (rs.map RelD.d))))), (1, vi .i64 v), (9, vp 6 0), (10, vi .i64 most), (11, .t (.c (.own 7 out.length))), (13, vp 8 0), (14, vp 9 0), (33, .t (.c (.d (.sl 5 ((lowsOf rs v).map SideD.d))))), (34, vi .i64 ((lowsOf rs v).length : Int)), (35, vi .i64 (j : Int))] [(6, .box (zi r2)), (7, .row 22 1 (out.map (slD 4 RelD.d))), (8, .box (zi x4.times ++ [.d (.sl 3 (x4.rest.parts.map Part.d))] ++ zi x4.rest.k)), (9, .box (zi r5))] (by kernel_rfl) h ?_; clear h; intro a w h
    refine wp_seq ?_
    refine rSeq fam0ok 10 [(1, .call (SSign r5 or5 (by omega)) td_6)] [(0, .t (.c (.d (.sl 4 (rs.map RelD.d))))), (1, vi .i64 v), (9, vp 6 0), (10, vi .i64 most), (11, .t (.c (.own 7 out.length))), (13, vp 8 0), (14, vp 9 0), (33, .t (.c (.d (.sl 5 ((lowsOf rs v).map SideD.d))))), (34, vi .i64 ((lowsOf rs v).length : Int)), (35, vi .i64 (j : Int)), (45, vb (decide (sgn r5.val < 0)))] [(6, .box (zi r2)), (7, .row 22 1 (out.map (slD 4 RelD.d))), (8, .box (zi x4.times ++ [.d (.sl 3 (x4.rest.parts.map Part.d))] ++ zi x4.rest.k)), (9, .box (zi r5))] (by kernel_rfl) h ?_; clear h; intro a w h
    refine condS (decide (sgn r5.val < 0)) h rfl (fun hc => ?_) (fun hc => ?_)
    ·have hc4 := hc; clear hc
     have hc4' := of_decide_eq_true hc4
     refine wp_exit ?_
     refine then_x ?_
     refine inBlock_exit ?_
     refine then_n ?_
     refine rS fam0ok 10 [(0, .add .i64 (m := (j : Int)) (n := 1) (i64_id (by omega) (by omega)))] [(0, .t (.c (.d (.sl 4 (rs.map RelD.d))))), (1, vi .i64 v), (9, vp 6 0), (10, vi .i64 most), (11, .t (.c (.own 7 out.length))), (33, .t (.c (.d (.sl 5 ((lowsOf rs v).map SideD.d))))), (34, vi .i64 ((lowsOf rs v).length : Int)), (35, vi .i64 ((j : Int) + 1))] [(6, .box (zi r2)), (7, .row 22 1 (out.map (slD 4 RelD.d)))] (by kernel_rfl) h ?_; clear h; intro a w h
     refine then_n ?_
     refine roundS (x := (j, out)) (y := (j + 1, out)) h ?_ ?_ (by kernel_rfl) (by kernel_rfl)
     ·have := at_lt hx4
      exact ⟨by omega, by rw [hI2, go_at hx4, if_pos (by have h0 := sgn_lt_zero.1 (of_decide_eq_true hc4); rw [vr5, vr2] at h0; exact h0)], hI3⟩
     ·show (lowsOf rs v).length - (j + 1) < (lowsOf rs v).length - j
      have := at_lt hx4; omega
    ·have hc5 := hc; clear hc
     have hc5' := of_decide_eq_false hc5
     refine wp_skip ?_
     refine then_n ?_
     refine rSeq fam0ok 10 [(1, .call (SSmall r5 or5 (by omega)) hp_5)] [(0, .t (.c (.d (.sl 4 (rs.map RelD.d))))), (1, vi .i64 v), (9, vp 6 0), (10, vi .i64 most), (11, .t (.c (.own 7 out.length))), (13, vp 8 0), (15, vi .i64 (smallZ r5.val).1), (16, vb (smallZ r5.val).2), (33, .t (.c (.d (.sl 5 ((lowsOf rs v).map SideD.d))))), (34, vi .i64 ((lowsOf rs v).length : Int)), (35, vi .i64 (j : Int))] [(6, .box (zi r2)), (7, .row 22 1 (out.map (slD 4 RelD.d))), (8, .box (zi x4.times ++ [.d (.sl 3 (x4.rest.parts.map Part.d))] ++ zi x4.rest.k))] (by kernel_rfl) h ?_; clear h; intro a w h
     refine wp_seq ?_
     rcases Bool.eq_false_or_eq_true (smallZ r5.val).2 with hc | hc
     ·have hc6 := hc; clear hc
      rw [hc6] at h
      refine rSeq fam0ok 10 [(7, .sub .i64 (m := most) (n := (out.length : Int)) (i64_id (by omega) (by omega)))] [(0, .t (.c (.d (.sl 4 (rs.map RelD.d))))), (1, vi .i64 v), (9, vp 6 0), (10, vi .i64 most), (11, .t (.c (.own 7 out.length))), (13, vp 8 0), (15, vi .i64 (smallZ r5.val).1), (33, .t (.c (.d (.sl 5 ((lowsOf rs v).map SideD.d))))), (34, vi .i64 ((lowsOf rs v).length : Int)), (35, vi .i64 (j : Int)), (60, vb (decide ((smallZ r5.val).1 ≥ (most - (out.length : Int)))))] [(6, .box (zi r2)), (7, .row 22 1 (out.map (slD 4 RelD.d))), (8, .box (zi x4.times ++ [.d (.sl 3 (x4.rest.parts.map Part.d))] ++ zi x4.rest.k))] (by kernel_rfl) h ?_; clear h; intro a w h
      refine condS (decide ((smallZ r5.val).1 ≥ (most - (out.length : Int)))) h rfl (fun hc => ?_) (fun hc => ?_)
      ·have hc7 := hc; clear hc
       have hc7' := of_decide_eq_true hc7
       refine rSeq fam0ok 10 [] [(0, .t (.c (.d (.sl 4 (rs.map RelD.d))))), (1, vi .i64 v), (6, .t (.c (.d (.raw nilV)))), (7, vi .i64 3), (9, vp 6 0), (10, vi .i64 most), (11, .t (.c (.own 7 out.length))), (13, vp 8 0), (15, vi .i64 (smallZ r5.val).1), (33, .t (.c (.d (.sl 5 ((lowsOf rs v).map SideD.d))))), (34, vi .i64 ((lowsOf rs v).length : Int)), (35, vi .i64 (j : Int))] [(6, .box (zi r2)), (7, .row 22 1 (out.map (slD 4 RelD.d))), (8, .box (zi x4.times ++ [.d (.sl 3 (x4.rest.parts.map Part.d))] ++ zi x4.rest.k))] (by kernel_rfl) h ?_; clear h; intro a w h
       refine wp_ret ?_
       refine then_r ?_
       refine block_r ?_
       refine then_r ?_
       refine then_r ?_
       refine block_r ?_
       refine then_r ?_
       replace h := nilDSs 6 0 1 (.t (.c (.d (.raw nilV)))) [(0, .t (.c (.d (.sl 4 (rs.map RelD.d))))), (1, vi .i64 v), (6, .t (.c (.d (.sl 1 ([].map (slD 4 RelD.d)))))), (7, vi .i64 3), (9, vp 6 0), (10, vi .i64 most), (11, .t (.c (.own 7 out.length))), (13, vp 8 0), (15, vi .i64 (smallZ r5.val).1), (33, .t (.c (.d (.sl 5 ((lowsOf rs v).map SideD.d))))), (34, vi .i64 ((lowsOf rs v).length : Int)), (35, vi .i64 (j : Int))] [(6, .box (zi r2)), (7, .row 22 1 (out.map (slD 4 RelD.d))), (8, .box (zi x4.times ++ [.d (.sl 3 (x4.rest.parts.map Part.d))] ++ zi x4.rest.k))] h rfl rfl (by kernel_rfl) (by kernel_rfl)
       refine retS [.c (.d (.sl 1 ([].map (slD 4 RelD.d)))), .c (.d (.raw (.int .i64 3)))] h Exit.ret (.inl rfl)  rfl ⟨RV.tmp _ _ rfl, RV.tmp _ _ rfl, trivial⟩ ?_ (by kernel_rfl) (by kernel_rfl)
       have hn0 : 0 ≤ r5.val := by have h0 := of_decide_eq_false hc5; have h1 := mt (sgn_lt_zero (z := r5.val)).2 h0; omega
       have hsv := (small_val hc6).1
       have hv := vr5
       rw [vr2] at hv
       have hz : piecesS rs v most = ([], 3) := by rw [hI2, go_at hx4, if_neg (by rw [← hv]; omega), if_pos (by rw [← hv]; omega)]
       rw [hz]; first | done | rfl
      ·have hc8 := hc; clear hc
       have hc8' := of_decide_eq_false hc8
       refine wp_skip ?_
       refine then_n ?_
       obtain ⟨hs1, hs2, hs3⟩ := small_val hc6
       have hn0 : 0 ≤ r5.val := by have h0 := of_decide_eq_false hc5; have h1 := mt (sgn_lt_zero (z := r5.val)).2 h0; omega
       refine rSeq fam0ok 10 [(1, .add .i64 (m := (smallZ r5.val).1) (n := 1) (i64_id (by omega) (by omega)))] [(0, .t (.c (.d (.sl 4 (rs.map RelD.d))))), (1, vi .i64 v), (9, vp 6 0), (10, vi .i64 most), (11, .t (.c (.own 7 out.length))), (13, vp 8 0), (33, .t (.c (.d (.sl 5 ((lowsOf rs v).map SideD.d))))), (34, vi .i64 ((lowsOf rs v).length : Int)), (35, vi .i64 (j : Int)), (62, vi .i64 ((smallZ r5.val).1 + 1)), (63, vi .i64 0)] [(6, .box (zi r2)), (7, .row 22 1 (out.map (slD 4 RelD.d))), (8, .box (zi x4.times ++ [.d (.sl 3 (x4.rest.parts.map Part.d))] ++ zi x4.rest.k))] (by kernel_rfl) h ?_; clear h; intro a w h
       refine wp_block ?_
       replace h := h.conv (f' := F.of [(0, .t (.c (.d (.sl 4 (rs.map RelD.d))))), (1, vi .i64 v), (9, vp 6 0), (10, vi .i64 most), (11, .t (.c (.own 7 (out ++ (List.range 0).map (pieceL rs v x4)).length))), (13, vp 8 0), (33, .t (.c (.d (.sl 5 ((lowsOf rs v).map SideD.d))))), (34, vi .i64 ((lowsOf rs v).length : Int)), (35, vi .i64 (j : Int)), (62, vi .i64 ((smallZ r5.val).1 + 1)), (63, vi .i64 0)] [(6, .box (zi r2)), (7, .row 22 1 ((out ++ (List.range 0).map (pieceL rs v x4)).map (slD 4 RelD.d))), (8, .box (zi x4.times ++ [.d (.sl 3 (x4.rest.parts.map Part.d))] ++ zi x4.rest.k))]) (congrArg (fun (z_ : List (List RelD)) => F.of [(0, .t (.c (.d (.sl 4 (rs.map RelD.d))))), (1, vi .i64 v), (9, vp 6 0), (10, vi .i64 most), (11, .t (.c (.own 7 z_.length))), (13, vp 8 0), (33, .t (.c (.d (.sl 5 ((lowsOf rs v).map SideD.d))))), (34, vi .i64 ((lowsOf rs v).length : Int)), (35, vi .i64 (j : Int)), (62, vi .i64 ((smallZ r5.val).1 + 1)), (63, vi .i64 0)] [(6, .box (zi r2)), (7, .row 22 1 (z_.map (slD 4 RelD.d))), (8, .box (zi x4.times ++ [.d (.sl 3 (x4.rest.parts.map Part.d))] ++ zi x4.rest.k))]) (show (out : List (List RelD)) = (out ++ (List.range 0).map (pieceL rs v x4)) from (by simp)))
       refine loopS (ι := (Nat)) (fun (z_ : (Nat)) => match z_ with | i => (i : Int) ≤ (smallZ r5.val).1 + 1)
         (fun (z_ : (Nat)) => match z_ with | i => [(0, .t (.c (.d (.sl 4 (rs.map RelD.d))))), (1, vi .i64 v), (9, vp 6 0), (10, vi .i64 most), (11, .t (.c (.own 7 (out ++ (List.range i).map (pieceL rs v x4)).length))), (13, vp 8 0), (33, .t (.c (.d (.sl 5 ((lowsOf rs v).map SideD.d))))), (34, vi .i64 ((lowsOf rs v).length : Int)), (35, vi .i64 (j : Int)), (62, vi .i64 ((smallZ r5.val).1 + 1)), (63, vi .i64 (i : Int))])
         (fun (z_ : (Nat)) => match z_ with | i => [(6, .box (zi r2)), (7, .row 22 1 ((out ++ (List.range i).map (pieceL rs v x4)).map (slD 4 RelD.d))), (8, .box (zi x4.times ++ [.d (.sl 3 (x4.rest.parts.map Part.d))] ++ zi x4.rest.k))])
         (fun (z_ : (Nat)) => match z_ with | i => ((smallZ r5.val).1 + 1).toNat - i) 0 ?_ h (by kernel_rfl) (by kernel_rfl) ?_
       ·show ((0 : Nat) : Int) ≤ _; omega
       ·clear h; rintro i a w hI h
        change St _ (F.of [(0, .t (.c (.d (.sl 4 (rs.map RelD.d))))), (1, vi .i64 v), (9, vp 6 0), (10, vi .i64 most), (11, .t (.c (.own 7 (out ++ (List.range i).map (pieceL rs v x4)).length))), (13, vp 8 0), (33, .t (.c (.d (.sl 5 ((lowsOf rs v).map SideD.d))))), (34, vi .i64 ((lowsOf rs v).length : Int)), (35, vi .i64 (j : Int)), (62, vi .i64 ((smallZ r5.val).1 + 1)), (63, vi .i64 (i : Int))] [(6, .box (zi r2)), (7, .row 22 1 ((out ++ (List.range i).map (pieceL rs v x4)).map (slD 4 RelD.d))), (8, .box (zi x4.times ++ [.d (.sl 3 (x4.rest.parts.map Part.d))] ++ zi x4.rest.k))]) a w at h
        have hpl : (out ++ (List.range i).map (pieceL rs v x4)).length = out.length + i := by simp
        refine rSeq fam0ok 10 [] [(0, .t (.c (.d (.sl 4 (rs.map RelD.d))))), (1, vi .i64 v), (9, vp 6 0), (10, vi .i64 most), (11, .t (.c (.own 7 (out ++ (List.range i).map (pieceL rs v x4)).length))), (13, vp 8 0), (33, .t (.c (.d (.sl 5 ((lowsOf rs v).map SideD.d))))), (34, vi .i64 ((lowsOf rs v).length : Int)), (35, vi .i64 (j : Int)), (62, vi .i64 ((smallZ r5.val).1 + 1)), (63, vi .i64 (i : Int)), (64, vb (decide ((i : Int) < ((smallZ r5.val).1 + 1))))] [(6, .box (zi r2)), (7, .row 22 1 ((out ++ (List.range i).map (pieceL rs v x4)).map (slD 4 RelD.d))), (8, .box (zi x4.times ++ [.d (.sl 3 (x4.rest.parts.map Part.d))] ++ zi x4.rest.k))] (by kernel_rfl) h ?_; clear h; intro a w h
        refine wp_seq ?_
        refine condS (decide ((i : Int) < ((smallZ r5.val).1 + 1))) h rfl (fun hc => ?_) (fun hc => ?_)
        ·have hc9 := hc; clear hc
         have hc9' := of_decide_eq_true hc9
         refine wp_skip ?_
         refine then_n ?_
         refine wp_seq ?_
         refine wp_block ?_
         refine rSeq fam0ok 10 [] [(0, .t (.c (.d (.sl 4 (rs.map RelD.d))))), (1, vi .i64 v), (9, vp 6 0), (10, vi .i64 most), (11, .t (.c (.own 7 (out ++ (List.range i).map (pieceL rs v x4)).length))), (13, vp 8 0), (17, vi .i64 (i : Int)), (33, .t (.c (.d (.sl 5 ((lowsOf rs v).map SideD.d))))), (34, vi .i64 ((lowsOf rs v).length : Int)), (35, vi .i64 (j : Int)), (62, vi .i64 ((smallZ r5.val).1 + 1)), (63, vi .i64 (i : Int))] [(6, .box (zi r2)), (7, .row 22 1 ((out ++ (List.range i).map (pieceL rs v x4)).map (slD 4 RelD.d))), (8, .box (zi x4.times ++ [.d (.sl 3 (x4.rest.parts.map Part.d))] ++ zi x4.rest.k))] (by kernel_rfl) h ?_; clear h; intro a w h
         refine rSeq fam0ok 10 [(3, .call (SEqual x4 v (i : Int) gx4 ⟨by omega, by omega⟩) hp_6), (4, .gen _ _ _ fun _ _ _ _ => Op.buildO (d := 70) (n := 10) (len := 1) (rows := [(eqR x4 v (i : Int))].map RelD.d) (rs := [(69, .t (.agg ([.d (.sl 3 ((eqR x4 v (i : Int)).t.parts.map Part.d))] ++ zi (eqR x4 v (i : Int)).t.k ++ [.d (.raw (.bool (eqR x4 v (i : Int)).eq))])))]) kc_5 (.cons (i := 0) (OV.tmp 69 _) (.nil)) (by kernel_rfl) rfl (by simp [RelD.d]) (by decide) (by decide))] [(0, .t (.c (.d (.sl 4 (rs.map RelD.d))))), (1, vi .i64 v), (9, vp 6 0), (10, vi .i64 most), (11, .t (.c (.own 7 (out ++ (List.range i).map (pieceL rs v x4)).length))), (13, vp 8 0), (18, .t (.c (.own 10 1))), (33, .t (.c (.d (.sl 5 ((lowsOf rs v).map SideD.d))))), (34, vi .i64 ((lowsOf rs v).length : Int)), (35, vi .i64 (j : Int)), (62, vi .i64 ((smallZ r5.val).1 + 1)), (63, vi .i64 (i : Int))] [(6, .box (zi r2)), (7, .row 22 1 ((out ++ (List.range i).map (pieceL rs v x4)).map (slD 4 RelD.d))), (8, .box (zi x4.times ++ [.d (.sl 3 (x4.rest.parts.map Part.d))] ++ zi x4.rest.k)), (10, .row 45 4 ([(eqR x4 v (i : Int))].map RelD.d))] (by kernel_rfl) h ?_; clear h; intro a w h
         refine wp_seq ?_
         refine rSeq fam0ok 11 [(1, .len (c := (.d (.sl 4 (rs.map RelD.d)))) (n := rs.length) (lenC_map _ _ _))] [(0, .t (.c (.d (.sl 4 (rs.map RelD.d))))), (1, vi .i64 v), (9, vp 6 0), (10, vi .i64 most), (11, .t (.c (.own 7 (out ++ (List.range i).map (pieceL rs v x4)).length))), (13, vp 8 0), (18, .t (.c (.own 10 1))), (33, .t (.c (.d (.sl 5 ((lowsOf rs v).map SideD.d))))), (34, vi .i64 ((lowsOf rs v).length : Int)), (35, vi .i64 (j : Int)), (62, vi .i64 ((smallZ r5.val).1 + 1)), (63, vi .i64 (i : Int)), (71, .t (.c (.d (.sl 4 (rs.map RelD.d))))), (72, vi .i64 (rs.length : Int)), (73, vi .i64 0)] [(6, .box (zi r2)), (7, .row 22 1 ((out ++ (List.range i).map (pieceL rs v x4)).map (slD 4 RelD.d))), (8, .box (zi x4.times ++ [.d (.sl 3 (x4.rest.parts.map Part.d))] ++ zi x4.rest.k)), (10, .row 45 4 ([(eqR x4 v (i : Int))].map RelD.d))] (by kernel_rfl) h ?_; clear h; intro a w h
         refine wp_block ?_
         replace h := h.conv (f' := F.of [(0, .t (.c (.d (.sl 4 (rs.map RelD.d))))), (1, vi .i64 v), (9, vp 6 0), (10, vi .i64 most), (11, .t (.c (.own 7 (out ++ (List.range i).map (pieceL rs v x4)).length))), (13, vp 8 0), (18, .t (.c (.own 10 1))), (33, .t (.c (.d (.sl 5 ((lowsOf rs v).map SideD.d))))), (34, vi .i64 ((lowsOf rs v).length : Int)), (35, vi .i64 (j : Int)), (62, vi .i64 ((smallZ r5.val).1 + 1)), (63, vi .i64 (i : Int)), (71, .t (.c (.d (.sl 4 (rs.map RelD.d))))), (72, vi .i64 (rs.length : Int)), (73, vi .i64 0)] [(6, .box (zi r2)), (7, .row 22 1 ((out ++ (List.range i).map (pieceL rs v x4)).map (slD 4 RelD.d))), (8, .box (zi x4.times ++ [.d (.sl 3 (x4.rest.parts.map Part.d))] ++ zi x4.rest.k)), (10, .row 45 4 (([eqR x4 v (i : Int)] ++ (rs.take 0).map plR).map RelD.d))]) (congrArg (fun (z_ : List RelD) => F.of [(0, .t (.c (.d (.sl 4 (rs.map RelD.d))))), (1, vi .i64 v), (9, vp 6 0), (10, vi .i64 most), (11, .t (.c (.own 7 (out ++ (List.range i).map (pieceL rs v x4)).length))), (13, vp 8 0), (18, .t (.c (.own 10 1))), (33, .t (.c (.d (.sl 5 ((lowsOf rs v).map SideD.d))))), (34, vi .i64 ((lowsOf rs v).length : Int)), (35, vi .i64 (j : Int)), (62, vi .i64 ((smallZ r5.val).1 + 1)), (63, vi .i64 (i : Int)), (71, .t (.c (.d (.sl 4 (rs.map RelD.d))))), (72, vi .i64 (rs.length : Int)), (73, vi .i64 0)] [(6, .box (zi r2)), (7, .row 22 1 ((out ++ (List.range i).map (pieceL rs v x4)).map (slD 4 RelD.d))), (8, .box (zi x4.times ++ [.d (.sl 3 (x4.rest.parts.map Part.d))] ++ zi x4.rest.k)), (10, .row 45 4 (z_.map RelD.d))]) (show ([(eqR x4 v (i : Int))] : List RelD) = ([eqR x4 v (i : Int)] ++ (rs.take 0).map plR) from (by simp)))
         refine loopS (ι := (Nat)) (fun (z_ : (Nat)) => match z_ with | k => k ≤ rs.length)
           (fun (z_ : (Nat)) => match z_ with | k => [(0, .t (.c (.d (.sl 4 (rs.map RelD.d))))), (1, vi .i64 v), (9, vp 6 0), (10, vi .i64 most), (11, .t (.c (.own 7 (out ++ (List.range i).map (pieceL rs v x4)).length))), (13, vp 8 0), (18, .t (.c (.own 10 ([eqR x4 v (i : Int)] ++ (rs.take k).map plR).length))), (33, .t (.c (.d (.sl 5 ((lowsOf rs v).map SideD.d))))), (34, vi .i64 ((lowsOf rs v).length : Int)), (35, vi .i64 (j : Int)), (62, vi .i64 ((smallZ r5.val).1 + 1)), (63, vi .i64 (i : Int)), (71, .t (.c (.d (.sl 4 (rs.map RelD.d))))), (72, vi .i64 (rs.length : Int)), (73, vi .i64 (k : Int))])
           (fun (z_ : (Nat)) => match z_ with | k => [(6, .box (zi r2)), (7, .row 22 1 ((out ++ (List.range i).map (pieceL rs v x4)).map (slD 4 RelD.d))), (8, .box (zi x4.times ++ [.d (.sl 3 (x4.rest.parts.map Part.d))] ++ zi x4.rest.k)), (10, .row 45 4 (([eqR x4 v (i : Int)] ++ (rs.take k).map plR).map RelD.d))])
           (fun (z_ : (Nat)) => match z_ with | k => rs.length - k) 0 ?_ h (by kernel_rfl) (by kernel_rfl) ?_
         ·exact Nat.zero_le _
         ·clear h; rintro k a w hI h
          change St _ (F.of [(0, .t (.c (.d (.sl 4 (rs.map RelD.d))))), (1, vi .i64 v), (9, vp 6 0), (10, vi .i64 most), (11, .t (.c (.own 7 (out ++ (List.range i).map (pieceL rs v x4)).length))), (13, vp 8 0), (18, .t (.c (.own 10 ([eqR x4 v (i : Int)] ++ (rs.take k).map plR).length))), (33, .t (.c (.d (.sl 5 ((lowsOf rs v).map SideD.d))))), (34, vi .i64 ((lowsOf rs v).length : Int)), (35, vi .i64 (j : Int)), (62, vi .i64 ((smallZ r5.val).1 + 1)), (63, vi .i64 (i : Int)), (71, .t (.c (.d (.sl 4 (rs.map RelD.d))))), (72, vi .i64 (rs.length : Int)), (73, vi .i64 (k : Int))] [(6, .box (zi r2)), (7, .row 22 1 ((out ++ (List.range i).map (pieceL rs v x4)).map (slD 4 RelD.d))), (8, .box (zi x4.times ++ [.d (.sl 3 (x4.rest.parts.map Part.d))] ++ zi x4.rest.k)), (10, .row 45 4 (([eqR x4 v (i : Int)] ++ (rs.take k).map plR).map RelD.d))]) a w at h
          have hkl : ([eqR x4 v (i : Int)] ++ (rs.take k).map plR).length ≤ 21 := by simp; omega
          refine rSeq fam0ok 11 [] [(0, .t (.c (.d (.sl 4 (rs.map RelD.d))))), (1, vi .i64 v), (9, vp 6 0), (10, vi .i64 most), (11, .t (.c (.own 7 (out ++ (List.range i).map (pieceL rs v x4)).length))), (13, vp 8 0), (18, .t (.c (.own 10 ([eqR x4 v (i : Int)] ++ (rs.take k).map plR).length))), (33, .t (.c (.d (.sl 5 ((lowsOf rs v).map SideD.d))))), (34, vi .i64 ((lowsOf rs v).length : Int)), (35, vi .i64 (j : Int)), (62, vi .i64 ((smallZ r5.val).1 + 1)), (63, vi .i64 (i : Int)), (71, .t (.c (.d (.sl 4 (rs.map RelD.d))))), (72, vi .i64 (rs.length : Int)), (73, vi .i64 (k : Int)), (74, vb (decide ((k : Int) < (rs.length : Int))))] [(6, .box (zi r2)), (7, .row 22 1 ((out ++ (List.range i).map (pieceL rs v x4)).map (slD 4 RelD.d))), (8, .box (zi x4.times ++ [.d (.sl 3 (x4.rest.parts.map Part.d))] ++ zi x4.rest.k)), (10, .row 45 4 (([eqR x4 v (i : Int)] ++ (rs.take k).map plR).map RelD.d))] (by kernel_rfl) h ?_; clear h; intro a w h
          refine wp_seq ?_
          refine condS (decide ((k : Int) < (rs.length : Int))) h rfl (fun hc => ?_) (fun hc => ?_)
          ·have hc10 := hc; clear hc
           have hc10' := of_decide_eq_true hc10
           refine wp_skip ?_
           refine then_n ?_
           refine wp_seq ?_
           refine wp_block ?_
           obtain ⟨x9, hx9⟩ : ∃ z_ : RelD, rs[k]? = some z_ := ⟨_, List.getElem?_eq_getElem (by first | omega | (simp at *; omega))⟩
           have gx9 : TOk 20 8 x9.t := hrs.2 x9 (List.mem_of_getElem? hx9)
           refine rSeq fam0ok 11 [(0, .gen _ _ _ fun _ _ _ _ => Op.idxD (d := 75) (t := 71) (k := .i64) kc_3 (map_at hx9 (f := RelD.d)) (OV.tmp 73 _))] [(0, .t (.c (.d (.sl 4 (rs.map RelD.d))))), (1, vi .i64 v), (9, vp 6 0), (10, vi .i64 most), (11, .t (.c (.own 7 (out ++ (List.range i).map (pieceL rs v x4)).length))), (13, vp 8 0), (18, .t (.c (.own 10 ([eqR x4 v (i : Int)] ++ (rs.take k).map plR).length))), (20, vp 11 0), (33, .t (.c (.d (.sl 5 ((lowsOf rs v).map SideD.d))))), (34, vi .i64 ((lowsOf rs v).length : Int)), (35, vi .i64 (j : Int)), (62, vi .i64 ((smallZ r5.val).1 + 1)), (63, vi .i64 (i : Int)), (71, .t (.c (.d (.sl 4 (rs.map RelD.d))))), (72, vi .i64 (rs.length : Int)), (73, vi .i64 (k : Int))] [(6, .box (zi r2)), (7, .row 22 1 ((out ++ (List.range i).map (pieceL rs v x4)).map (slD 4 RelD.d))), (8, .box (zi x4.times ++ [.d (.sl 3 (x4.rest.parts.map Part.d))] ++ zi x4.rest.k)), (10, .row 45 4 (([eqR x4 v (i : Int)] ++ (rs.take k).map plR).map RelD.d)), (11, .box ([.d (.sl 3 (x9.t.parts.map Part.d))] ++ zi x9.t.k ++ [.d (.raw (.bool x9.eq))]))] (by kernel_rfl) h ?_; clear h; intro a w h
           refine rS fam0ok 12 [(3, .call (SPlain x9.t gx9 (by decide) (by decide)) tm_7), (7, .gen _ _ _ fun _ _ _ _ => Op.buildD (d := 84) (len := 1) (rows := [(RelD.mk (plainT x9.t) x9.eq)].map RelD.d) (rs := [(83, .t (.agg ([.d (.sl 3 ((plainT x9.t).parts.map Part.d))] ++ zi (plainT x9.t).k ++ [.d (.raw (.bool x9.eq))])))]) kc_5 (.cons (i := 0) (OV.tmp 83 _) (.nil)) (by kernel_rfl) rfl (by simp [RelD.d]) (by decide) (by decide)), (8, .gen _ _ _ fun _ _ _ _ => Op.appOD (d := 85) (t := 77) (u := 84) (n := 10) (n' := 12) (len := ([eqR x4 v (i : Int)] ++ (rs.take k).map plR).length) (len' := (([eqR x4 v (i : Int)] ++ (rs.take k).map plR) ++ [(RelD.mk (plainT x9.t) x9.eq)]).length) (rows := ([eqR x4 v (i : Int)] ++ (rs.take k).map plR).map RelD.d) (rows2 := [(RelD.mk (plainT x9.t) x9.eq)].map RelD.d) (rows' := (([eqR x4 v (i : Int)] ++ (rs.take k).map plR) ++ [(RelD.mk (plainT x9.t) x9.eq)]).map RelD.d) ha_11 (by first | exact (List.length_map _).symm | simp) (by first | (rw [List.length_append, List.length_map]; done) | simp) (by simp) (by simp [RelD.d]) (by first | omega | (simp at *; done) | (simp at *; omega)))] [(0, .t (.c (.d (.sl 4 (rs.map RelD.d))))), (1, vi .i64 v), (9, vp 6 0), (10, vi .i64 most), (11, .t (.c (.own 7 (out ++ (List.range i).map (pieceL rs v x4)).length))), (13, vp 8 0), (18, .t (.c (.own 12 (([eqR x4 v (i : Int)] ++ (rs.take k).map plR) ++ [(RelD.mk (plainT x9.t) x9.eq)]).length))), (33, .t (.c (.d (.sl 5 ((lowsOf rs v).map SideD.d))))), (34, vi .i64 ((lowsOf rs v).length : Int)), (35, vi .i64 (j : Int)), (62, vi .i64 ((smallZ r5.val).1 + 1)), (63, vi .i64 (i : Int)), (71, .t (.c (.d (.sl 4 (rs.map RelD.d))))), (72, vi .i64 (rs.length : Int)), (73, vi .i64 (k : Int))] [(6, .box (zi r2)), (7, .row 22 1 ((out ++ (List.range i).map (pieceL rs v x4)).map (slD 4 RelD.d))), (8, .box (zi x4.times ++ [.d (.sl 3 (x4.rest.parts.map Part.d))] ++ zi x4.rest.k)), (12, .row 45 4 ((([eqR x4 v (i : Int)] ++ (rs.take k).map plR) ++ [(RelD.mk (plainT x9.t) x9.eq)]).map RelD.d))] (by kernel_rfl) h ?_; clear h; intro a w h
           refine block_n ?_
           refine then_n ?_
           refine rS fam0ok 13 [(0, .add .i64 (m := (k : Int)) (n := 1) (i64_id (by omega) (by omega)))] [(0, .t (.c (.d (.sl 4 (rs.map RelD.d))))), (1, vi .i64 v), (9, vp 6 0), (10, vi .i64 most), (11, .t (.c (.own 7 (out ++ (List.range i).map (pieceL rs v x4)).length))), (13, vp 8 0), (18, .t (.c (.own 12 (([eqR x4 v (i : Int)] ++ (rs.take k).map plR) ++ [(RelD.mk (plainT x9.t) x9.eq)]).length))), (33, .t (.c (.d (.sl 5 ((lowsOf rs v).map SideD.d))))), (34, vi .i64 ((lowsOf rs v).length : Int)), (35, vi .i64 (j : Int)), (62, vi .i64 ((smallZ r5.val).1 + 1)), (63, vi .i64 (i : Int)), (71, .t (.c (.d (.sl 4 (rs.map RelD.d))))), (72, vi .i64 (rs.length : Int)), (73, vi .i64 ((k : Int) + 1))] [(6, .box (zi r2)), (7, .row 22 1 ((out ++ (List.range i).map (pieceL rs v x4)).map (slD 4 RelD.d))), (8, .box (zi x4.times ++ [.d (.sl 3 (x4.rest.parts.map Part.d))] ++ zi x4.rest.k)), (12, .row 45 4 ((([eqR x4 v (i : Int)] ++ (rs.take k).map plR) ++ [(RelD.mk (plainT x9.t) x9.eq)]).map RelD.d))] (by kernel_rfl) h ?_; clear h; intro a w h
           refine then_n ?_
           replace h := h.conv (f' := F.of [(0, .t (.c (.d (.sl 4 (rs.map RelD.d))))), (1, vi .i64 v), (9, vp 6 0), (10, vi .i64 most), (11, .t (.c (.own 7 (out ++ (List.range i).map (pieceL rs v x4)).length))), (13, vp 8 0), (18, .t (.c (.own 12 ([eqR x4 v (i : Int)] ++ (rs.take (k + 1)).map plR).length))), (33, .t (.c (.d (.sl 5 ((lowsOf rs v).map SideD.d))))), (34, vi .i64 ((lowsOf rs v).length : Int)), (35, vi .i64 (j : Int)), (62, vi .i64 ((smallZ r5.val).1 + 1)), (63, vi .i64 (i : Int)), (71, .t (.c (.d (.sl 4 (rs.map RelD.d))))), (72, vi .i64 (rs.length : Int)), (73, vi .i64 ((k : Int) + 1))] [(6, .box (zi r2)), (7, .row 22 1 ((out ++ (List.range i).map (pieceL rs v x4)).map (slD 4 RelD.d))), (8, .box (zi x4.times ++ [.d (.sl 3 (x4.rest.parts.map Part.d))] ++ zi x4.rest.k)), (12, .row 45 4 (([eqR x4 v (i : Int)] ++ (rs.take (k + 1)).map plR).map RelD.d))]) (congrArg (fun (z_ : List RelD) => F.of [(0, .t (.c (.d (.sl 4 (rs.map RelD.d))))), (1, vi .i64 v), (9, vp 6 0), (10, vi .i64 most), (11, .t (.c (.own 7 (out ++ (List.range i).map (pieceL rs v x4)).length))), (13, vp 8 0), (18, .t (.c (.own 12 z_.length))), (33, .t (.c (.d (.sl 5 ((lowsOf rs v).map SideD.d))))), (34, vi .i64 ((lowsOf rs v).length : Int)), (35, vi .i64 (j : Int)), (62, vi .i64 ((smallZ r5.val).1 + 1)), (63, vi .i64 (i : Int)), (71, .t (.c (.d (.sl 4 (rs.map RelD.d))))), (72, vi .i64 (rs.length : Int)), (73, vi .i64 ((k : Int) + 1))] [(6, .box (zi r2)), (7, .row 22 1 ((out ++ (List.range i).map (pieceL rs v x4)).map (slD 4 RelD.d))), (8, .box (zi x4.times ++ [.d (.sl 3 (x4.rest.parts.map Part.d))] ++ zi x4.rest.k)), (12, .row 45 4 (z_.map RelD.d))]) (show ((([eqR x4 v (i : Int)] ++ (rs.take k).map plR) ++ [(RelD.mk (plainT x9.t) x9.eq)]) : List RelD) = ([eqR x4 v (i : Int)] ++ (rs.take (k + 1)).map plR) from (by rw [List.append_assoc]; congr 1; exact mapSnoc (f := plR) hx9)))
           replace h := renS 12 10 [(0, .t (.c (.d (.sl 4 (rs.map RelD.d))))), (1, vi .i64 v), (9, vp 6 0), (10, vi .i64 most), (11, .t (.c (.own 7 (out ++ (List.range i).map (pieceL rs v x4)).length))), (13, vp 8 0), (18, .t (.c (.own 10 ([eqR x4 v (i : Int)] ++ (rs.take (k + 1)).map plR).length))), (33, .t (.c (.d (.sl 5 ((lowsOf rs v).map SideD.d))))), (34, vi .i64 ((lowsOf rs v).length : Int)), (35, vi .i64 (j : Int)), (62, vi .i64 ((smallZ r5.val).1 + 1)), (63, vi .i64 (i : Int)), (71, .t (.c (.d (.sl 4 (rs.map RelD.d))))), (72, vi .i64 (rs.length : Int)), (73, vi .i64 ((k : Int) + 1))] [(6, .box (zi r2)), (7, .row 22 1 ((out ++ (List.range i).map (pieceL rs v x4)).map (slD 4 RelD.d))), (8, .box (zi x4.times ++ [.d (.sl 3 (x4.rest.parts.map Part.d))] ++ zi x4.rest.k)), (10, .row 45 4 (([eqR x4 v (i : Int)] ++ (rs.take (k + 1)).map plR).map RelD.d))] h (by kernel_rfl) (by kernel_rfl) (by kernel_rfl)
           refine roundS (x := k) (y := k + 1) h ?_ ?_ (by kernel_rfl) (by kernel_rfl)
           ·have := at_lt hx9
            show k + 1 ≤ rs.length
            omega
           ·show rs.length - (k + 1) < rs.length - k
            have := at_lt hx9; omega
          ·have hc11 := hc; clear hc
           have hc11' := of_decide_eq_false hc11
           refine wp_exit ?_
           refine then_x ?_
           refine then_x ?_
           refine inBlock_exit ?_
           refine then_n ?_
           replace h := h.conv (f' := F.of [(0, .t (.c (.d (.sl 4 (rs.map RelD.d))))), (1, vi .i64 v), (9, vp 6 0), (10, vi .i64 most), (11, .t (.c (.own 7 (out ++ (List.range i).map (pieceL rs v x4)).length))), (13, vp 8 0), (18, .t (.c (.own 10 (pieceL rs v x4 i).length))), (33, .t (.c (.d (.sl 5 ((lowsOf rs v).map SideD.d))))), (34, vi .i64 ((lowsOf rs v).length : Int)), (35, vi .i64 (j : Int)), (62, vi .i64 ((smallZ r5.val).1 + 1)), (63, vi .i64 (i : Int)), (71, .t (.c (.d (.sl 4 (rs.map RelD.d))))), (72, vi .i64 (rs.length : Int)), (73, vi .i64 (k : Int)), (74, vb (decide ((k : Int) < (rs.length : Int))))] [(6, .box (zi r2)), (7, .row 22 1 ((out ++ (List.range i).map (pieceL rs v x4)).map (slD 4 RelD.d))), (8, .box (zi x4.times ++ [.d (.sl 3 (x4.rest.parts.map Part.d))] ++ zi x4.rest.k)), (10, .row 45 4 ((pieceL rs v x4 i).map RelD.d))]) (congrArg (fun (z_ : List RelD) => F.of [(0, .t (.c (.d (.sl 4 (rs.map RelD.d))))), (1, vi .i64 v), (9, vp 6 0), (10, vi .i64 most), (11, .t (.c (.own 7 (out ++ (List.range i).map (pieceL rs v x4)).length))), (13, vp 8 0), (18, .t (.c (.own 10 z_.length))), (33, .t (.c (.d (.sl 5 ((lowsOf rs v).map SideD.d))))), (34, vi .i64 ((lowsOf rs v).length : Int)), (35, vi .i64 (j : Int)), (62, vi .i64 ((smallZ r5.val).1 + 1)), (63, vi .i64 (i : Int)), (71, .t (.c (.d (.sl 4 (rs.map RelD.d))))), (72, vi .i64 (rs.length : Int)), (73, vi .i64 (k : Int)), (74, vb (decide ((k : Int) < (rs.length : Int))))] [(6, .box (zi r2)), (7, .row 22 1 ((out ++ (List.range i).map (pieceL rs v x4)).map (slD 4 RelD.d))), (8, .box (zi x4.times ++ [.d (.sl 3 (x4.rest.parts.map Part.d))] ++ zi x4.rest.k)), (10, .row 45 4 (z_.map RelD.d))]) (show (([eqR x4 v (i : Int)] ++ (rs.take k).map plR) : List RelD) = (pieceL rs v x4 i) from (by unfold pieceL; rw [List.take_of_length_le (by omega)]; rfl)))
           replace h := pubS 10 4 45 ((pieceL rs v x4 i).map RelD.d) [(0, .t (.c (.d (.sl 4 (rs.map RelD.d))))), (1, vi .i64 v), (9, vp 6 0), (10, vi .i64 most), (11, .t (.c (.own 7 (out ++ (List.range i).map (pieceL rs v x4)).length))), (13, vp 8 0), (18, .t (.c (.d (.sl 4 ((pieceL rs v x4 i).map RelD.d))))), (33, .t (.c (.d (.sl 5 ((lowsOf rs v).map SideD.d))))), (34, vi .i64 ((lowsOf rs v).length : Int)), (35, vi .i64 (j : Int)), (62, vi .i64 ((smallZ r5.val).1 + 1)), (63, vi .i64 (i : Int)), (71, .t (.c (.d (.sl 4 (rs.map RelD.d))))), (72, vi .i64 (rs.length : Int)), (73, vi .i64 (k : Int)), (74, vb (decide ((k : Int) < (rs.length : Int))))] [(6, .box (zi r2)), (7, .row 22 1 ((out ++ (List.range i).map (pieceL rs v x4)).map (slD 4 RelD.d))), (8, .box (zi x4.times ++ [.d (.sl 3 (x4.rest.parts.map Part.d))] ++ zi x4.rest.k))] h rfl (show AllEq _ [(pieceL rs v x4 i).length] from ⟨by first | exact (List.length_map _).symm | (simp; done) | (simp; omega), trivial⟩) trivial (by kernel_rfl) (by kernel_rfl)
           refine rS fam0ok 13 [(2, .gen _ _ _ fun _ _ _ _ => Op.buildD (d := 89) (len := 1) (rows := [(pieceL rs v x4 i)].map (slD 4 RelD.d)) (rs := [(88, .t (.c (.d (.sl 4 ((pieceL rs v x4 i).map RelD.d)))))]) hp_11 (.cons (i := 0) (OV.tmp 88 _) (.nil)) (by kernel_rfl) rfl (by simp [slD]) (by decide) (by decide)), (3, .gen _ _ _ fun _ _ _ _ => Op.appOD (d := 90) (t := 87) (u := 89) (n := 7) (n' := 13) (len := (out ++ (List.range i).map (pieceL rs v x4)).length) (len' := ((out ++ (List.range i).map (pieceL rs v x4)) ++ [(pieceL rs v x4 i)]).length) (rows := (out ++ (List.range i).map (pieceL rs v x4)).map (slD 4 RelD.d)) (rows2 := [(pieceL rs v x4 i)].map (slD 4 RelD.d)) (rows' := ((out ++ (List.range i).map (pieceL rs v x4)) ++ [(pieceL rs v x4 i)]).map (slD 4 RelD.d)) hp_12 (by first | exact (List.length_map _).symm | simp) (by first | (rw [List.length_append, List.length_map]; done) | simp) (by simp) (by simp [slD]) (by first | omega | (simp at *; done) | (simp at *; omega)))] [(0, .t (.c (.d (.sl 4 (rs.map RelD.d))))), (1, vi .i64 v), (9, vp 6 0), (10, vi .i64 most), (11, .t (.c (.own 13 ((out ++ (List.range i).map (pieceL rs v x4)) ++ [(pieceL rs v x4 i)]).length))), (13, vp 8 0), (33, .t (.c (.d (.sl 5 ((lowsOf rs v).map SideD.d))))), (34, vi .i64 ((lowsOf rs v).length : Int)), (35, vi .i64 (j : Int)), (62, vi .i64 ((smallZ r5.val).1 + 1)), (63, vi .i64 (i : Int))] [(6, .box (zi r2)), (8, .box (zi x4.times ++ [.d (.sl 3 (x4.rest.parts.map Part.d))] ++ zi x4.rest.k)), (13, .row 22 1 (((out ++ (List.range i).map (pieceL rs v x4)) ++ [(pieceL rs v x4 i)]).map (slD 4 RelD.d)))] (by kernel_rfl) h ?_; clear h; intro a w h
           refine block_n ?_
           refine then_n ?_
           refine rS fam0ok 14 [(0, .add .i64 (m := (i : Int)) (n := 1) (i64_id (by omega) (by omega)))] [(0, .t (.c (.d (.sl 4 (rs.map RelD.d))))), (1, vi .i64 v), (9, vp 6 0), (10, vi .i64 most), (11, .t (.c (.own 13 ((out ++ (List.range i).map (pieceL rs v x4)) ++ [(pieceL rs v x4 i)]).length))), (13, vp 8 0), (33, .t (.c (.d (.sl 5 ((lowsOf rs v).map SideD.d))))), (34, vi .i64 ((lowsOf rs v).length : Int)), (35, vi .i64 (j : Int)), (62, vi .i64 ((smallZ r5.val).1 + 1)), (63, vi .i64 ((i : Int) + 1))] [(6, .box (zi r2)), (8, .box (zi x4.times ++ [.d (.sl 3 (x4.rest.parts.map Part.d))] ++ zi x4.rest.k)), (13, .row 22 1 (((out ++ (List.range i).map (pieceL rs v x4)) ++ [(pieceL rs v x4 i)]).map (slD 4 RelD.d)))] (by kernel_rfl) h ?_; clear h; intro a w h
           refine then_n ?_
           replace h := h.conv (f' := F.of [(0, .t (.c (.d (.sl 4 (rs.map RelD.d))))), (1, vi .i64 v), (9, vp 6 0), (10, vi .i64 most), (11, .t (.c (.own 13 (out ++ (List.range (i + 1)).map (pieceL rs v x4)).length))), (13, vp 8 0), (33, .t (.c (.d (.sl 5 ((lowsOf rs v).map SideD.d))))), (34, vi .i64 ((lowsOf rs v).length : Int)), (35, vi .i64 (j : Int)), (62, vi .i64 ((smallZ r5.val).1 + 1)), (63, vi .i64 ((i : Int) + 1))] [(6, .box (zi r2)), (8, .box (zi x4.times ++ [.d (.sl 3 (x4.rest.parts.map Part.d))] ++ zi x4.rest.k)), (13, .row 22 1 ((out ++ (List.range (i + 1)).map (pieceL rs v x4)).map (slD 4 RelD.d)))]) (congrArg (fun (z_ : List (List RelD)) => F.of [(0, .t (.c (.d (.sl 4 (rs.map RelD.d))))), (1, vi .i64 v), (9, vp 6 0), (10, vi .i64 most), (11, .t (.c (.own 13 z_.length))), (13, vp 8 0), (33, .t (.c (.d (.sl 5 ((lowsOf rs v).map SideD.d))))), (34, vi .i64 ((lowsOf rs v).length : Int)), (35, vi .i64 (j : Int)), (62, vi .i64 ((smallZ r5.val).1 + 1)), (63, vi .i64 ((i : Int) + 1))] [(6, .box (zi r2)), (8, .box (zi x4.times ++ [.d (.sl 3 (x4.rest.parts.map Part.d))] ++ zi x4.rest.k)), (13, .row 22 1 (z_.map (slD 4 RelD.d)))]) (show (((out ++ (List.range i).map (pieceL rs v x4)) ++ [(pieceL rs v x4 i)]) : List (List RelD)) = (out ++ (List.range (i + 1)).map (pieceL rs v x4)) from (by rw [List.append_assoc, List.range_succ, List.map_append]; rfl)))
           replace h := renS 13 7 [(0, .t (.c (.d (.sl 4 (rs.map RelD.d))))), (1, vi .i64 v), (9, vp 6 0), (10, vi .i64 most), (11, .t (.c (.own 7 (out ++ (List.range (i + 1)).map (pieceL rs v x4)).length))), (13, vp 8 0), (33, .t (.c (.d (.sl 5 ((lowsOf rs v).map SideD.d))))), (34, vi .i64 ((lowsOf rs v).length : Int)), (35, vi .i64 (j : Int)), (62, vi .i64 ((smallZ r5.val).1 + 1)), (63, vi .i64 ((i : Int) + 1))] [(6, .box (zi r2)), (8, .box (zi x4.times ++ [.d (.sl 3 (x4.rest.parts.map Part.d))] ++ zi x4.rest.k)), (7, .row 22 1 ((out ++ (List.range (i + 1)).map (pieceL rs v x4)).map (slD 4 RelD.d)))] h (by kernel_rfl) (by kernel_rfl) (by kernel_rfl)
           refine roundS (x := i) (y := i + 1) h ?_ ?_ (by kernel_rfl) (by kernel_rfl)
           ·show ((i + 1 : Nat) : Int) ≤ _
            omega
           ·show ((smallZ r5.val).1 + 1).toNat - (i + 1) < ((smallZ r5.val).1 + 1).toNat - i
            omega
        ·have hc12 := hc; clear hc
         have hc12' := of_decide_eq_false hc12
         refine wp_exit ?_
         refine then_x ?_
         refine then_x ?_
         refine inBlock_exit ?_
         refine block_n ?_
         refine then_n ?_
         refine rS fam0ok 14 [(0, .add .i64 (m := (j : Int)) (n := 1) (i64_id (by omega) (by omega)))] [(0, .t (.c (.d (.sl 4 (rs.map RelD.d))))), (1, vi .i64 v), (9, vp 6 0), (10, vi .i64 most), (11, .t (.c (.own 7 (out ++ (List.range i).map (pieceL rs v x4)).length))), (33, .t (.c (.d (.sl 5 ((lowsOf rs v).map SideD.d))))), (34, vi .i64 ((lowsOf rs v).length : Int)), (35, vi .i64 ((j : Int) + 1))] [(6, .box (zi r2)), (7, .row 22 1 ((out ++ (List.range i).map (pieceL rs v x4)).map (slD 4 RelD.d)))] (by kernel_rfl) h ?_; clear h; intro a w h
         refine then_n ?_
         replace h := h.conv (f' := F.of [(0, .t (.c (.d (.sl 4 (rs.map RelD.d))))), (1, vi .i64 v), (9, vp 6 0), (10, vi .i64 most), (11, .t (.c (.own 7 (out ++ pieces1 rs v x4 (lastZ x4.times.val (maxS (highsOf rs v)))).length))), (33, .t (.c (.d (.sl 5 ((lowsOf rs v).map SideD.d))))), (34, vi .i64 ((lowsOf rs v).length : Int)), (35, vi .i64 ((j : Int) + 1))] [(6, .box (zi r2)), (7, .row 22 1 ((out ++ pieces1 rs v x4 (lastZ x4.times.val (maxS (highsOf rs v)))).map (slD 4 RelD.d)))]) (congrArg (fun (z_ : List (List RelD)) => F.of [(0, .t (.c (.d (.sl 4 (rs.map RelD.d))))), (1, vi .i64 v), (9, vp 6 0), (10, vi .i64 most), (11, .t (.c (.own 7 z_.length))), (33, .t (.c (.d (.sl 5 ((lowsOf rs v).map SideD.d))))), (34, vi .i64 ((lowsOf rs v).length : Int)), (35, vi .i64 ((j : Int) + 1))] [(6, .box (zi r2)), (7, .row 22 1 (z_.map (slD 4 RelD.d)))]) (show ((out ++ (List.range i).map (pieceL rs v x4)) : List (List RelD)) = (out ++ pieces1 rs v x4 (lastZ x4.times.val (maxS (highsOf rs v)))) from (by unfold pieces1; rw [show i = (lastZ x4.times.val (maxS (highsOf rs v)) + 1).toNat by rw [vr5, vr2] at *; omega])))
         refine roundS (x := (j, out)) (y := (j + 1, (out ++ pieces1 rs v x4 (lastZ x4.times.val (maxS (highsOf rs v)))))) h ?_ ?_ (by kernel_rfl) (by kernel_rfl)
         ·have := at_lt hx4
          have hv := vr5
          rw [vr2] at hv
          exact ⟨by omega, by rw [hI2, go_at hx4, if_neg (by rw [← hv]; omega), if_neg (by rw [← hv]; omega)], by show (((out ++ pieces1 rs v x4 (lastZ x4.times.val (maxS (highsOf rs v)))).length : Nat) : Int) ≤ most; unfold pieces1; rw [List.length_append, List.length_map, List.length_range, ← hv]; omega⟩
         ·show (lowsOf rs v).length - (j + 1) < (lowsOf rs v).length - j
          have := at_lt hx4; omega
     ·have hc13 := hc; clear hc
      rw [hc13] at h
      refine rSeq fam0ok 14 [] [(0, .t (.c (.d (.sl 4 (rs.map RelD.d))))), (1, vi .i64 v), (9, vp 6 0), (10, vi .i64 most), (11, .t (.c (.own 7 out.length))), (13, vp 8 0), (15, vi .i64 (smallZ r5.val).1), (33, .t (.c (.d (.sl 5 ((lowsOf rs v).map SideD.d))))), (34, vi .i64 ((lowsOf rs v).length : Int)), (35, vi .i64 (j : Int)), (60, vb true)] [(6, .box (zi r2)), (7, .row 22 1 (out.map (slD 4 RelD.d))), (8, .box (zi x4.times ++ [.d (.sl 3 (x4.rest.parts.map Part.d))] ++ zi x4.rest.k))] (by kernel_rfl) h ?_; clear h; intro a w h
      refine condS true h rfl (fun hc => ?_) (fun hc => ?_)
      ·clear hc
       refine rSeq fam0ok 14 [] [(0, .t (.c (.d (.sl 4 (rs.map RelD.d))))), (1, vi .i64 v), (6, .t (.c (.d (.raw nilV)))), (7, vi .i64 3), (9, vp 6 0), (10, vi .i64 most), (11, .t (.c (.own 7 out.length))), (13, vp 8 0), (15, vi .i64 (smallZ r5.val).1), (33, .t (.c (.d (.sl 5 ((lowsOf rs v).map SideD.d))))), (34, vi .i64 ((lowsOf rs v).length : Int)), (35, vi .i64 (j : Int))] [(6, .box (zi r2)), (7, .row 22 1 (out.map (slD 4 RelD.d))), (8, .box (zi x4.times ++ [.d (.sl 3 (x4.rest.parts.map Part.d))] ++ zi x4.rest.k))] (by kernel_rfl) h ?_; clear h; intro a w h
       refine wp_ret ?_
       refine then_r ?_
       refine block_r ?_
       refine then_r ?_
       refine then_r ?_
       refine block_r ?_
       refine then_r ?_
       replace h := nilDSs 6 0 1 (.t (.c (.d (.raw nilV)))) [(0, .t (.c (.d (.sl 4 (rs.map RelD.d))))), (1, vi .i64 v), (6, .t (.c (.d (.sl 1 ([].map (slD 4 RelD.d)))))), (7, vi .i64 3), (9, vp 6 0), (10, vi .i64 most), (11, .t (.c (.own 7 out.length))), (13, vp 8 0), (15, vi .i64 (smallZ r5.val).1), (33, .t (.c (.d (.sl 5 ((lowsOf rs v).map SideD.d))))), (34, vi .i64 ((lowsOf rs v).length : Int)), (35, vi .i64 (j : Int))] [(6, .box (zi r2)), (7, .row 22 1 (out.map (slD 4 RelD.d))), (8, .box (zi x4.times ++ [.d (.sl 3 (x4.rest.parts.map Part.d))] ++ zi x4.rest.k))] h rfl rfl (by kernel_rfl) (by kernel_rfl)
       refine retS [.c (.d (.sl 1 ([].map (slD 4 RelD.d)))), .c (.d (.raw (.int .i64 3)))] h Exit.ret (.inl rfl)  rfl ⟨RV.tmp _ _ rfl, RV.tmp _ _ rfl, trivial⟩ ?_ (by kernel_rfl) (by kernel_rfl)
       have hn0 : 0 ≤ r5.val := by have h0 := of_decide_eq_false hc5; have h1 := mt (sgn_lt_zero (z := r5.val)).2 h0; omega
       have hbig := small_big (m := 9223372036854775807) hc13 hn0 (by omega)
       have hv := vr5
       rw [vr2] at hv
       have hz : piecesS rs v most = ([], 3) := by rw [hI2, go_at hx4, if_neg (by rw [← hv]; omega), if_pos (by rw [← hv]; omega)]
       rw [hz]; first | done | rfl
      ·cases hc
   ·have hc14 := hc; clear hc
    have hc14' := of_decide_eq_false hc14
    refine wp_exit ?_
    refine then_x ?_
    refine then_x ?_
    refine inBlock_exit ?_
    refine then_n ?_
    refine rSeq fam0ok 14 [] [(6, .t (.c (.own 7 out.length))), (7, vi .i64 0)] [(7, .row 22 1 (out.map (slD 4 RelD.d)))] (by kernel_rfl) h ?_; clear h; intro a w h
    refine wp_ret ?_
    replace h := pubS 7 1 22 (out.map (slD 4 RelD.d)) [(6, .t (.c (.d (.sl 1 (out.map (slD 4 RelD.d)))))), (7, vi .i64 0)] [] h rfl (show AllEq _ [out.length] from ⟨by first | exact (List.length_map _).symm | (simp; done) | (simp; omega), trivial⟩) trivial (by kernel_rfl) (by kernel_rfl)
    refine retS [.c (.d (.sl 1 (out.map (slD 4 RelD.d)))), .c (.d (.raw (.int .i64 0)))] h Exit.ret (.inl rfl)  rfl ⟨RV.tmp _ _ rfl, RV.tmp _ _ rfl, trivial⟩ ?_ (by kernel_rfl) (by kernel_rfl)
    have hz : piecesS rs v most = (out, 0) := by rw [hI2, List.drop_of_length_le (by omega)]; rfl
    rw [hz]; first | done | rfl
end Go.Proofs.YtoklkfmffmonoaaGreat.S
end
section
namespace Go.Proofs.YtoklkfmffmonoaaGreat.S
open Go.RowKit

end Go.Proofs.YtoklkfmffmonoaaGreat.S
end
section
namespace Go.Proofs.YtoklkfmffmonoaaGreat.S
open Go.RowKit

end Go.Proofs.YtoklkfmffmonoaaGreat.S
end
section
namespace Go.Proofs.YtoklkfmffmonoaaGreat.S
open Go.RowKit

end Go.Proofs.YtoklkfmffmonoaaGreat.S
end
section
namespace Go.Proofs.YtoklkfmffmonoaaGreat.S
open Go.RowKit

end Go.Proofs.YtoklkfmffmonoaaGreat.S
end
section
namespace Go.Proofs.YtoklkfmffmonoaaGreat.S
open Go.RowKit

end Go.Proofs.YtoklkfmffmonoaaGreat.S
end
section
namespace Go.Proofs.YtoklkfmffmonoaaGreat.S
open Go.RowKit

end Go.Proofs.YtoklkfmffmonoaaGreat.S
end
section
namespace Go.Proofs.YtoklkfmffmonoaaGreat.S
open Go.RowKit

end Go.Proofs.YtoklkfmffmonoaaGreat.S
end
section
namespace Go.Proofs.YtoklkfmffmonoaaGreat.S
open Go.RowKit

end Go.Proofs.YtoklkfmffmonoaaGreat.S
end
section
namespace Go.Proofs.YtoklkfmffmonoaaGreat.S
open Go.RowKit

end Go.Proofs.YtoklkfmffmonoaaGreat.S
end
section
namespace Go.Proofs.YtoklkfmffmonoaaGreat.S
open Go.RowKit

end Go.Proofs.YtoklkfmffmonoaaGreat.S
end
section
namespace Go.Proofs.YtoklkfmffmonoaaGreat.S
open Go.RowKit

end Go.Proofs.YtoklkfmffmonoaaGreat.S
end
section
namespace Go.Proofs.YtoklkfmffmonoaaGreat.S
open Go.RowKit

end Go.Proofs.YtoklkfmffmonoaaGreat.S
end
section
namespace Go.Proofs.YtoklkfmffmonoaaGreat.S
open Go.RowKit

end Go.Proofs.YtoklkfmffmonoaaGreat.S
end
section
namespace Go.Proofs.YtoklkfmffmonoaaGreat.S
open Go.RowKit

end Go.Proofs.YtoklkfmffmonoaaGreat.S
end
section
namespace Go.Proofs.YtoklkfmffmonoaaGreat.S
open Go.RowKit

end Go.Proofs.YtoklkfmffmonoaaGreat.S
end
section
namespace Go.Proofs.YtoklkfmffmonoaaGreat.S
open Go.RowKit

end Go.Proofs.YtoklkfmffmonoaaGreat.S
end
section
namespace Go.Proofs.YtoklkfmffmonoaaGreat.S
open Go.RowKit

mutual
/-- y is x, with nil read as an empty slice here and there -/
inductive Wk : D → D → Prop
  | refl (x : D) : Wk x x
  | nil (es : Nat) : Wk (.raw nilV) (.sl es [])
  | sl (es : Nat) (a b : List (List D)) (h : WkR a b) : Wk (.sl es a) (.sl es b)
inductive WkL : List D → List D → Prop
  | nil : WkL [] []
  | cons (x y : D) (xs ys : List D) (h : Wk x y) (hs : WkL xs ys) : WkL (x :: xs) (y :: ys)
inductive WkR : List (List D) → List (List D) → Prop
  | nil : WkR [] []
  | cons (x y : List D) (xs ys : List (List D)) (h : WkL x y) (hs : WkR xs ys) : WkR (x :: xs) (y :: ys)
end
def WkM (x y : D) : Prop := ∀ (H : Im) (v : Value), DR H x v → DR H y v
def WkLM (xs ys : List D) : Prop := xs.length = ys.length ∧ ∀ j (h : j < xs.length) (h' : j < ys.length), WkM xs[j] ys[j]
def WkRM (xs ys : List (List D)) : Prop := xs.length = ys.length ∧ ∀ i (h : i < xs.length) (h' : i < ys.length), WkLM xs[i] ys[i]
theorem Wk.sound {x y : D} (h : Wk x y) : WkM x y := by
 refine Wk.rec (motive_1 := fun x y _ => WkM x y) (motive_2 := fun x y _ => WkLM x y) (motive_3 := fun x y _ => WkRM x y) ?_ ?_ ?_ ?_ ?_ ?_ ?_ h
 ·intro x H v h; exact h
 ·intro es H v h
  cases h with
  | raw v h => exact DR.nil _ _ _ (fun _ => rfl) (Nat.zero_le _)
 ·intro es a b _ ih H v h
  cases h with
  | nil es ao c h hc =>
   have : b = [] := List.length_eq_zero_iff.1 ih.1.symm
   subst this
   exact DR.nil _ _ _ h hc
  | sl es rows bb o c arr ty fz vs hp hb hl hc hes hv hr =>
   rw [ih.1] at hp hl ⊢
   refine DR.sl es b bb o c arr ty fz vs hp hb hl hc (fun i hi => ?_) (fun i hi => ?_) (fun i hi j hj => ?_)
   ·have h0 : i < a.length := by rw [ih.1]; exact hi
    rw [← (ih.2 i h0 hi).1]; exact hes i h0
   ·exact hv i (by rw [ih.1]; exact hi)
   ·have h0 : i < a.length := by rw [ih.1]; exact hi
    have hj0 : j < a[i].length := by rw [(ih.2 i h0 hi).1]; exact hj
    exact (ih.2 i h0 hi).2 j hj0 hj _ _ (hr i h0 j hj0)
 ·exact ⟨rfl, fun j h => absurd h (Nat.not_lt_zero j)⟩
 ·intro x y xs ys _ _ h hs
  refine ⟨by simp [hs.1], fun j hj hj' => ?_⟩
  cases j with
  | zero => exact h
  | succ j => exact hs.2 j (by simpa using hj) (by simpa using hj')
 ·exact ⟨rfl, fun j h => absurd h (Nat.not_lt_zero j)⟩
 ·intro x y xs ys _ _ h hs
  refine ⟨by simp [hs.1], fun j hj hj' => ?_⟩
  cases j with
  | zero => exact h
  | succ j => exact hs.2 j (by simpa using hj) (by simpa using hj')
inductive WkC : List C → List C → Prop
  | nil : WkC [] []
  | same (x : C) (xs ys : List C) (hs : WkC xs ys) : WkC (x :: xs) (x :: ys)
  | d (x y : D) (xs ys : List C) (h : Wk x y) (hs : WkC xs ys) : WkC (.d x :: xs) (.d y :: ys)
theorem WkC.sound {H : Im} {B : Bl} {xs ys : List C} (h : WkC xs ys) : ∀ {vs : List Value}, All2 (CR H B) xs vs → All2 (CR H B) ys vs := by
 induction h with
 | nil => exact fun h => h
 | same x xs ys _ ih =>
  intro vs k
  cases vs with
  | nil => exact k.elim
  | cons v vs => exact ⟨k.1, ih k.2⟩
 | d x y xs ys h _ ih =>
  intro vs k
  cases vs with
  | nil => exact k.elim
  | cons v vs => exact ⟨h.sound H v k.1, ih k.2⟩
inductive WkV : V → V → Prop
  | refl (x : V) : WkV x x
  | c (x y : D) (h : Wk x y) : WkV (.t (.c (.d x))) (.t (.c (.d y)))
  | agg (xs ys : List C) (h : WkC xs ys) : WkV (.t (.agg xs)) (.t (.agg ys))
theorem WkV.sound {H : Im} {B : Bl} {x y : V} (h : WkV x y) {v : Value} (k : VR H B x v) : VR H B y v := by
 cases h with
 | refl => exact k
 | c x y h => exact h.sound H v k
 | agg xs ys h => obtain ⟨vs, e, k⟩ := k; exact ⟨vs, e, h.sound k⟩
inductive WkA : List V → List V → Prop
  | nil : WkA [] []
  | cons (x y : V) (xs ys : List V) (h : WkV x y) (hs : WkA xs ys) : WkA (x :: xs) (y :: ys)
theorem WkA.sound {H : Im} {B : Bl} {xs ys : List V} (h : WkA xs ys) : ∀ {vs : List Value}, All2 (VR H B) xs vs → All2 (VR H B) ys vs := by
 induction h with
 | nil => exact fun h => h
 | cons x y xs ys h _ ih =>
  intro vs k
  cases vs with
  | nil => exact k.elim
  | cons v vs => exact ⟨h.sound k.1, ih k.2⟩
theorem Fn.argw {P : Program} {k : FuncId} {ps qs : List (Nat × L)} {args args' : List V} {res : V} (h : Fn P k ps args' res qs) (hw : WkA args args') : Fn P k ps args res qs :=
 fun w H B vals pre => h w H B vals ⟨pre.sat, pre.loc, pre.priv, pre.inj, hw.sound pre.arg⟩
end Go.Proofs.YtoklkfmffmonoaaGreat.S
end
section
namespace Go.Proofs.YtoklkfmffmonoaaGreat.S
open Go.RowKit

theorem he_6 : Bodied Tryz.prog 28 := Bodied.mk' (by kernel_rfl)
theorem he_8 : Bodied Tryz.prog 27 := Bodied.mk' (by kernel_rfl)
theorem he_10 : Bodied Tryz.prog 12 := Bodied.mk' (by kernel_rfl)
theorem he_11 : SlT Tryz.prog 50 22 1 := SlT.mk' Tryz.underlying50 (by kernel_rfl)
theorem he_14 : Bodied Tryz.prog 9 := Bodied.mk' (by kernel_rfl)
theorem he_16 : Bodied Tryz.prog 11 := Bodied.mk' (by kernel_rfl)
theorem he_17 : Bodied Tryz.prog 13 := Bodied.mk' (by kernel_rfl)
def ofP7 : List Int → Nat → List Part
  | [], _ => []
  | c :: cs, i => (if c ≠ 0 then [⟨(i : Int), ZI.of c⟩] else []) ++ ofP7 cs (i + 1)
def ofR (k : Int) (cs : List Int) : RelD := ⟨⟨ofP7 cs 0, ZI.of k⟩, false⟩
theorem ofP7_app : ∀ (xs ys : List Int) (i : Nat), ofP7 (xs ++ ys) i = ofP7 xs i ++ ofP7 ys (i + xs.length)
 | [], ys, i => by simp [ofP7]
 | x :: xs, ys, i => by
  simp only [List.cons_append, ofP7, ofP7_app xs ys (i + 1), List.append_assoc, List.length_cons]
  rw [show i + 1 + xs.length = i + (xs.length + 1) by omega]
theorem ofP7_take {cs : List Int} {j : Nat} {c : Int} (h : cs[j]? = some c) : ofP7 (cs.take (j + 1)) 0 = ofP7 (cs.take j) 0 ++ (if c ≠ 0 then [⟨(j : Int), ZI.of c⟩] else []) := by
 have hj := (List.getElem?_eq_some_iff.1 h).1
 rw [List.take_add_one, h, ofP7_app, List.length_take, Nat.min_eq_left (by omega), Nat.zero_add]; simp [ofP7]
theorem ofP7_len : ∀ (cs : List Int) (i : Nat), (ofP7 cs i).length ≤ cs.length
 | [], _ => Nat.le_refl _
 | c :: cs, i => by
  have := ofP7_len cs (i + 1)
  simp only [ofP7, List.length_append, List.length_cons]
  split <;> simp <;> omega
theorem ofP7_mem : ∀ (cs : List Int) (i : Nat), ∀ p ∈ ofP7 cs i, ∃ c ∈ cs, p.c = ZI.of c
 | [], _, p, hp => by cases hp
 | c :: cs, i, p, hp => by
  rcases List.mem_append.1 hp with h | h
  ·split at h
   ·exact ⟨c, List.mem_cons_self .., by rw [List.mem_singleton.1 h]⟩
   ·cases h
  ·obtain ⟨d, hd, e⟩ := ofP7_mem cs (i + 1) p h
   exact ⟨d, List.mem_cons_of_mem _ hd, e⟩
theorem small_len {c : Int} (h : -1000 ≤ c ∧ c ≤ 1000) : (ZI.of c).abs.length ≤ 2 := ZI.len_of (by have := pw2; omega)
theorem ofR_ok (k : Int) (cs : List Int) (hk : -1000 ≤ k ∧ k ≤ 1000) (hc : ∀ c ∈ cs, -1000 ≤ c ∧ c ≤ 1000) (hl : cs.length ≤ 20) : TokR 8 (ofR k cs) := ⟨Nat.le_trans (ofP7_len cs 0) hl, fun p hp => by
 obtain ⟨c, h1, h2⟩ := ofP7_mem cs 0 p hp
 rw [h2]; exact ⟨ZI.lb_of _, Nat.le_trans (small_len (hc c h1)) (by decide)⟩, ZI.lb_of _, Nat.le_trans (small_len hk) (by decide)⟩
theorem rs2_ok {x y : RelD} (hx : TokR 8 x) (hy : TokR 8 y) : RsOk [x, y] := ⟨by show 2 ≤ 20; decide, fun r hr => by
 rcases List.mem_cons.1 hr with rfl | hr
 ·exact hx
 ·rw [List.mem_singleton.1 hr]; exact hy⟩
theorem same7 (z : ZI) : (z.neg == z.neg && decide (z.abs = z.abs)) = true := by simp
theorem SSame7 (z : ZI) (h : Lb z.abs) : Fn Tryz.prog 14 [] [vz z, vz z] (vb true) [] := by have := SRSame z z h h; rwa [same7] at this
theorem fewRs_ok {rs : List RelD} {n : Int} {L : Nat} (h : fewRs rs n L = true) (hl : ∀ r ∈ rs, TLb r.t) : (rs.length : Int) ≤ n ∧ ∀ r ∈ rs, TokR L r := by
 unfold fewRs at h
 rw [Bool.and_eq_true, decide_eq_true_eq, List.all_eq_true] at h
 exact ⟨h.1, fun r hr => fewR_ok (h.2 r hr) (hl r hr)⟩
theorem fewRs_rs {rs : List RelD} {n : Int} (hn : n ≤ 20) (h : fewRs rs n 8 = true) (hl : ∀ r ∈ rs, TLb r.t) : RsOk rs := by
 have := fewRs_ok (L := 8) h hl; exact ⟨by omega, this.2⟩
theorem fewVs_ok {vs : List ZI} (h : fewVs vs 20 8 = true) (hl : ∀ z ∈ vs, Lb z.abs) : VOk 8 vs ∧ vs.length ≤ 20 := by
 unfold fewVs at h
 rw [Bool.and_eq_true, decide_eq_true_eq, List.all_eq_true] at h
 exact ⟨⟨by omega, fun z hz => ⟨hl z hz, by have := of_decide_eq_true (h.2 z hz); omega⟩⟩, by omega⟩
abbrev hardE : List RelD := [(ofR 0 [2, (-1)]), (ofR 1 [(-3), 1])]
def pcE : List (List RelD) := (piecesS hardE 0 9).1
def pE : List RelD := (pcE[0]?).getD []
def qE : RelD := RelD.mk ((pE[0]?).getD (RelD.mk (Term.mk [] (ZI.mk false [])) false)).t true
theorem pe1 : piecesS hardE 0 9 = (pcE, 0) := by kernel_rfl
theorem pe2 : piecesS hardE 0 0 = ([], 3) := by kernel_rfl
theorem pe3 : fitS (lowsOf hardE 0) (highsOf hardE 0) [(ZI.mk false []), (ZI.of 2)] = (ZI.of 1, true) := by kernel_rfl
theorem pe4 : fitS (lowsOf [(ofR (-1) [2]), (ofR 1 [(-2)])] 0) (highsOf [(ofR (-1) [2]), (ofR 1 [(-2)])] 0) [] = (ZI.of 0, false) := by kernel_rfl
theorem pe5 : pcE[0]? = some pE := by kernel_rfl
theorem pe6 : pE[0]? = some qE := by kernel_rfl
theorem pe8 : pcE.length = 1 ∧ pE.length = 3 := ⟨by kernel_rfl, by kernel_rfl⟩
theorem hardE_ok : RsOk hardE := rs2_ok (ofR_ok 0 [2, (-1)] (by decide) (by decide) (by decide)) (ofR_ok 1 [(-3), 1] (by decide) (by decide) (by decide))
theorem tightE_ok : RsOk [(ofR (-1) [2]), (ofR 1 [(-2)])] := rs2_ok (ofR_ok (-1) [2] (by decide) (by decide) (by decide)) (ofR_ok 1 [(-2)] (by decide) (by decide) (by decide))
set_option maxHeartbeats 4000000 in
theorem SofR (k : Int) (cs : List Int) (hk : -1000 ≤ k ∧ k ≤ 1000) (hc : ∀ c ∈ cs, -1000 ≤ c ∧ c ≤ 1000) (hl : cs.length ≤ 20) : Fn Tryz.prog 28 [] [vi .i64 k, .t (.c (.d (.sl 1 (cs.map intD))))] (.t (.agg ([.d (.sl 3 ((ofR k cs).t.parts.map Part.d))] ++ zi (ofR k cs).t.k ++ [.d (.raw (.bool (ofR k cs).eq))]))) [] := by
 refine Fn.body Tryz.func28 rfl 34 rfl fun w H B a h => ?_
 refine rSeq fam0ok 5 [] [(0, vi .i64 k), (1, .t (.c (.d (.sl 1 (cs.map intD))))), (4, vp 5 0)] [(5, .box [.d (.raw nilV), .d (.raw (.bool false)), .d (nsl []), .d (.raw (.bool false))])] (by kernel_rfl) h ?_; clear h; intro a w h
 obtain ⟨r1, er1, vr1, or1, lr1⟩ := mkZ (v := k) (m := 2) (small_len ⟨by omega, by omega⟩)
 refine rSeq fam0ok 6 [(1, .call (Fn.cast (SROf k ⟨by omega, by omega⟩) (congrArg vz er1.symm)) tc_0)] [(1, .t (.c (.d (.sl 1 (cs.map intD))))), (4, vp 5 0), (5, vp 6 0)] [(5, .box [.d (.raw nilV), .d (.raw (.bool false)), .d (nsl []), .d (.raw (.bool false))]), (6, .box ([.d (.raw nilV)] ++ zi r1 ++ [.d (.raw (.bool false))]))] (by kernel_rfl) h ?_; clear h; intro a w h
 refine wp_seq ?_
 replace h := nilOLs 6 0 7 3 57 ([.d (.raw nilV)] ++ zi r1 ++ [.d (.raw (.bool false))]) [(1, .t (.c (.d (.sl 1 (cs.map intD))))), (4, vp 5 0), (5, vp 6 0)] [(5, .box [.d (.raw nilV), .d (.raw (.bool false)), .d (nsl []), .d (.raw (.bool false))]), (6, .box ([.own 7 0] ++ zi r1 ++ [.d (.raw (.bool false))])), (7, .row 57 3 ([].map Part.d))] h (by kernel_rfl) rfl rfl (by kernel_rfl) (by kernel_rfl)
 refine rSeq fam0ok 8 [(1, .len (c := (.d (.sl 1 (cs.map intD)))) (n := cs.length) (lenC_map _ _ _))] [(4, vp 5 0), (5, vp 6 0), (12, .t (.c (.d (.sl 1 (cs.map intD))))), (13, vi .i64 (cs.length : Int)), (14, vi .i64 0)] [(5, .box [.d (.raw nilV), .d (.raw (.bool false)), .d (nsl []), .d (.raw (.bool false))]), (6, .box ([.own 7 0] ++ zi r1 ++ [.d (.raw (.bool false))])), (7, .row 57 3 ([].map Part.d))] (by kernel_rfl) h ?_; clear h; intro a w h
 refine wp_block ?_
 replace h := h.conv (f' := F.of [(4, vp 5 0), (5, vp 6 0), (12, .t (.c (.d (.sl 1 (cs.map intD))))), (13, vi .i64 (cs.length : Int)), (14, vi .i64 0)] [(5, .box [.d (.raw nilV), .d (.raw (.bool false)), .d (nsl []), .d (.raw (.bool false))]), (6, .box ([.own 7 0] ++ zi r1 ++ [.d (.raw (.bool false))])), (7, .row 57 3 ((ofP7 (cs.take 0) 0).map Part.d))]) (congrArg (fun (z_ : List Part) => F.of [(4, vp 5 0), (5, vp 6 0), (12, .t (.c (.d (.sl 1 (cs.map intD))))), (13, vi .i64 (cs.length : Int)), (14, vi .i64 0)] [(5, .box [.d (.raw nilV), .d (.raw (.bool false)), .d (nsl []), .d (.raw (.bool false))]), (6, .box ([.own 7 0] ++ zi r1 ++ [.d (.raw (.bool false))])), (7, .row 57 3 (z_.map Part.d))]) (show ([] : List Part) = (ofP7 (cs.take 0) 0) from rfl))
 refine loopS (ι := (Nat)) (fun (z_ : (Nat)) => match z_ with | j => j ≤ cs.length)
   (fun (z_ : (Nat)) => match z_ with | j => [(4, vp 5 0), (5, vp 6 0), (12, .t (.c (.d (.sl 1 (cs.map intD))))), (13, vi .i64 (cs.length : Int)), (14, vi .i64 (j : Int))])
   (fun (z_ : (Nat)) => match z_ with | j => [(5, .box [.d (.raw nilV), .d (.raw (.bool false)), .d (nsl []), .d (.raw (.bool false))]), (6, .box ([.own 7 (ofP7 (cs.take j) 0).length] ++ zi r1 ++ [.d (.raw (.bool false))])), (7, .row 57 3 ((ofP7 (cs.take j) 0).map Part.d))])
   (fun (z_ : (Nat)) => match z_ with | j => cs.length - j) 0 ?_ h (by kernel_rfl) (by kernel_rfl) ?_
 ·exact Nat.zero_le _
 ·clear h; rintro j a w hI h
  change St _ (F.of [(4, vp 5 0), (5, vp 6 0), (12, .t (.c (.d (.sl 1 (cs.map intD))))), (13, vi .i64 (cs.length : Int)), (14, vi .i64 (j : Int))] [(5, .box [.d (.raw nilV), .d (.raw (.bool false)), .d (nsl []), .d (.raw (.bool false))]), (6, .box ([.own 7 (ofP7 (cs.take j) 0).length] ++ zi r1 ++ [.d (.raw (.bool false))])), (7, .row 57 3 ((ofP7 (cs.take j) 0).map Part.d))]) a w at h
  have ol := ofP7_len (cs.take j) 0
  rw [List.length_take] at ol
  refine rSeq fam0ok 8 [] [(4, vp 5 0), (5, vp 6 0), (12, .t (.c (.d (.sl 1 (cs.map intD))))), (13, vi .i64 (cs.length : Int)), (14, vi .i64 (j : Int)), (15, vb (decide ((j : Int) < (cs.length : Int))))] [(5, .box [.d (.raw nilV), .d (.raw (.bool false)), .d (nsl []), .d (.raw (.bool false))]), (6, .box ([.own 7 (ofP7 (cs.take j) 0).length] ++ zi r1 ++ [.d (.raw (.bool false))])), (7, .row 57 3 ((ofP7 (cs.take j) 0).map Part.d))] (by kernel_rfl) h ?_; clear h; intro a w h
  refine wp_seq ?_
  refine condS (decide ((j : Int) < (cs.length : Int))) h rfl (fun hc => ?_) (fun hc => ?_)
  ·have hc1 := hc; clear hc
   have hc1' := of_decide_eq_true hc1
   refine wp_skip ?_
   refine then_n ?_
   refine wp_seq ?_
   refine wp_block ?_
   obtain ⟨x2, hx2⟩ : ∃ z_ : Int, cs[j]? = some z_ := ⟨_, List.getElem?_eq_getElem (by first | omega | (simp at *; omega))⟩
   have bx2 := hc x2 (List.mem_of_getElem? hx2)
   refine rSeq fam0ok 8 [(1, .gen _ _ _ fun _ _ _ _ => Op.idxD (d := 17) (t := 12) (k := .i64) tn_1 (map_at hx2 (f := intD)) (OV.tmp 14 _))] [(4, vp 5 0), (5, vp 6 0), (6, vi .i64 (j : Int)), (7, vi .i64 x2), (12, .t (.c (.d (.sl 1 (cs.map intD))))), (13, vi .i64 (cs.length : Int)), (14, vi .i64 (j : Int))] [(5, .box [.d (.raw nilV), .d (.raw (.bool false)), .d (nsl []), .d (.raw (.bool false))]), (6, .box ([.own 7 (ofP7 (cs.take j) 0).length] ++ zi r1 ++ [.d (.raw (.bool false))])), (7, .row 57 3 ((ofP7 (cs.take j) 0).map Part.d))] (by kernel_rfl) h ?_; clear h; intro a w h
   refine rSeq fam0ok 8 [] [(4, vp 5 0), (5, vp 6 0), (6, vi .i64 (j : Int)), (7, vi .i64 x2), (12, .t (.c (.d (.sl 1 (cs.map intD))))), (13, vi .i64 (cs.length : Int)), (14, vi .i64 (j : Int)), (20, vb (x2 != 0))] [(5, .box [.d (.raw nilV), .d (.raw (.bool false)), .d (nsl []), .d (.raw (.bool false))]), (6, .box ([.own 7 (ofP7 (cs.take j) 0).length] ++ zi r1 ++ [.d (.raw (.bool false))])), (7, .row 57 3 ((ofP7 (cs.take j) 0).map Part.d))] (by kernel_rfl) h ?_; clear h; intro a w h
   refine condS (x2 != 0) h rfl (fun hc => ?_) (fun hc => ?_)
   ·have hc2 := hc; clear hc
    have hc2' := hc2; (try simp at hc2')
    obtain ⟨r3, er3, vr3, or3, lr3⟩ := mkZ (v := x2) (m := 2) (small_len ⟨by omega, by omega⟩)
    refine rS fam0ok 8 [(5, .call (Fn.cast (SROf x2 ⟨by omega, by omega⟩) (congrArg vz er3.symm)) tc_0), (7, .gen _ _ _ fun _ _ _ _ => Op.buildD (d := 28) (len := 1) (rows := [(Part.mk (j : Int) r3)].map Part.d) (rs := [(27, .t (.agg ([.d (.raw (.int .i64 (j : Int)))] ++ zi r3)))]) tb_9 (.cons (i := 0) (OV.tmp 27 _) (.nil)) (by kernel_rfl) rfl (by simp [Part.d]) (by decide) (by decide)), (8, .gen _ _ _ fun _ _ _ _ => Op.appOD (d := 29) (t := 23) (u := 28) (n := 7) (n' := 8) (len := (ofP7 (cs.take j) 0).length) (len' := ((ofP7 (cs.take j) 0) ++ [(Part.mk (j : Int) r3)]).length) (rows := (ofP7 (cs.take j) 0).map Part.d) (rows2 := [(Part.mk (j : Int) r3)].map Part.d) (rows' := ((ofP7 (cs.take j) 0) ++ [(Part.mk (j : Int) r3)]).map Part.d) tb_10 (by first | exact (List.length_map _).symm | simp) (by first | (rw [List.length_append, List.length_map]; done) | simp) (by simp) (by simp [Part.d]) (by first | omega | (simp at *; done) | (simp at *; omega)))] [(4, vp 5 0), (5, vp 6 0), (12, .t (.c (.d (.sl 1 (cs.map intD))))), (13, vi .i64 (cs.length : Int)), (14, vi .i64 (j : Int))] [(5, .box [.d (.raw nilV), .d (.raw (.bool false)), .d (nsl []), .d (.raw (.bool false))]), (6, .box ([.own 8 ((ofP7 (cs.take j) 0) ++ [(Part.mk (j : Int) r3)]).length] ++ zi r1 ++ [.d (.raw (.bool false))])), (8, .row 57 3 (((ofP7 (cs.take j) 0) ++ [(Part.mk (j : Int) r3)]).map Part.d))] (by kernel_rfl) h ?_; clear h; intro a w h
    refine block_n ?_
    refine then_n ?_
    refine rS fam0ok 9 [(0, .add .i64 (m := (j : Int)) (n := 1) (i64_id (by omega) (by omega)))] [(4, vp 5 0), (5, vp 6 0), (12, .t (.c (.d (.sl 1 (cs.map intD))))), (13, vi .i64 (cs.length : Int)), (14, vi .i64 ((j : Int) + 1))] [(5, .box [.d (.raw nilV), .d (.raw (.bool false)), .d (nsl []), .d (.raw (.bool false))]), (6, .box ([.own 8 ((ofP7 (cs.take j) 0) ++ [(Part.mk (j : Int) r3)]).length] ++ zi r1 ++ [.d (.raw (.bool false))])), (8, .row 57 3 (((ofP7 (cs.take j) 0) ++ [(Part.mk (j : Int) r3)]).map Part.d))] (by kernel_rfl) h ?_; clear h; intro a w h
    refine then_n ?_
    replace h := h.conv (f' := F.of [(4, vp 5 0), (5, vp 6 0), (12, .t (.c (.d (.sl 1 (cs.map intD))))), (13, vi .i64 (cs.length : Int)), (14, vi .i64 ((j : Int) + 1))] [(5, .box [.d (.raw nilV), .d (.raw (.bool false)), .d (nsl []), .d (.raw (.bool false))]), (6, .box ([.own 8 (ofP7 (cs.take (j + 1)) 0).length] ++ zi r1 ++ [.d (.raw (.bool false))])), (8, .row 57 3 ((ofP7 (cs.take (j + 1)) 0).map Part.d))]) (congrArg (fun (z_ : List Part) => F.of [(4, vp 5 0), (5, vp 6 0), (12, .t (.c (.d (.sl 1 (cs.map intD))))), (13, vi .i64 (cs.length : Int)), (14, vi .i64 ((j : Int) + 1))] [(5, .box [.d (.raw nilV), .d (.raw (.bool false)), .d (nsl []), .d (.raw (.bool false))]), (6, .box ([.own 8 z_.length] ++ zi r1 ++ [.d (.raw (.bool false))])), (8, .row 57 3 (z_.map Part.d))]) (show (((ofP7 (cs.take j) 0) ++ [(Part.mk (j : Int) r3)]) : List Part) = (ofP7 (cs.take (j + 1)) 0) from (by rw [ofP7_take hx2, if_pos (by simpa using hc2), er3])))
    replace h := renS 8 7 [(4, vp 5 0), (5, vp 6 0), (12, .t (.c (.d (.sl 1 (cs.map intD))))), (13, vi .i64 (cs.length : Int)), (14, vi .i64 ((j : Int) + 1))] [(5, .box [.d (.raw nilV), .d (.raw (.bool false)), .d (nsl []), .d (.raw (.bool false))]), (6, .box ([.own 7 (ofP7 (cs.take (j + 1)) 0).length] ++ zi r1 ++ [.d (.raw (.bool false))])), (7, .row 57 3 ((ofP7 (cs.take (j + 1)) 0).map Part.d))] h (by kernel_rfl) (by kernel_rfl) (by kernel_rfl)
    refine roundS (x := j) (y := j + 1) h ?_ ?_ (by kernel_rfl) (by kernel_rfl)
    ·have := at_lt hx2
     show j + 1 ≤ cs.length
     omega
    ·show cs.length - (j + 1) < cs.length - j
     have := at_lt hx2; omega
   ·have hc3 := hc; clear hc
    have hc3' := hc3; (try simp at hc3')
    refine wp_skip ?_
    refine block_n ?_
    refine then_n ?_
    refine rS fam0ok 9 [(0, .add .i64 (m := (j : Int)) (n := 1) (i64_id (by omega) (by omega)))] [(4, vp 5 0), (5, vp 6 0), (12, .t (.c (.d (.sl 1 (cs.map intD))))), (13, vi .i64 (cs.length : Int)), (14, vi .i64 ((j : Int) + 1))] [(5, .box [.d (.raw nilV), .d (.raw (.bool false)), .d (nsl []), .d (.raw (.bool false))]), (6, .box ([.own 7 (ofP7 (cs.take j) 0).length] ++ zi r1 ++ [.d (.raw (.bool false))])), (7, .row 57 3 ((ofP7 (cs.take j) 0).map Part.d))] (by kernel_rfl) h ?_; clear h; intro a w h
    refine then_n ?_
    replace h := h.conv (f' := F.of [(4, vp 5 0), (5, vp 6 0), (12, .t (.c (.d (.sl 1 (cs.map intD))))), (13, vi .i64 (cs.length : Int)), (14, vi .i64 ((j : Int) + 1))] [(5, .box [.d (.raw nilV), .d (.raw (.bool false)), .d (nsl []), .d (.raw (.bool false))]), (6, .box ([.own 7 (ofP7 (cs.take (j + 1)) 0).length] ++ zi r1 ++ [.d (.raw (.bool false))])), (7, .row 57 3 ((ofP7 (cs.take (j + 1)) 0).map Part.d))]) (congrArg (fun (z_ : List Part) => F.of [(4, vp 5 0), (5, vp 6 0), (12, .t (.c (.d (.sl 1 (cs.map intD))))), (13, vi .i64 (cs.length : Int)), (14, vi .i64 ((j : Int) + 1))] [(5, .box [.d (.raw nilV), .d (.raw (.bool false)), .d (nsl []), .d (.raw (.bool false))]), (6, .box ([.own 7 z_.length] ++ zi r1 ++ [.d (.raw (.bool false))])), (7, .row 57 3 (z_.map Part.d))]) (show ((ofP7 (cs.take j) 0) : List Part) = (ofP7 (cs.take (j + 1)) 0) from (by rw [ofP7_take hx2, if_neg (by simpa using hc3), List.append_nil])))
    refine roundS (x := j) (y := j + 1) h ?_ ?_ (by kernel_rfl) (by kernel_rfl)
    ·have := at_lt hx2
     show j + 1 ≤ cs.length
     omega
    ·show cs.length - (j + 1) < cs.length - j
     have := at_lt hx2; omega
  ·have hc4 := hc; clear hc
   have hc4' := of_decide_eq_false hc4
   refine wp_exit ?_
   refine then_x ?_
   refine then_x ?_
   refine inBlock_exit ?_
   refine then_n ?_
   refine rSeq fam0ok 9 [] [(4, vp 5 0)] [(5, .box ([.own 7 (ofP7 (cs.take j) 0).length] ++ zi r1 ++ [.d (.raw (.bool false))])), (7, .row 57 3 ((ofP7 (cs.take j) 0).map Part.d))] (by kernel_rfl) h ?_; clear h; intro a w h
   refine wp_ret ?_
   replace h := h.conv (f' := F.of [(4, vp 5 0)] [(5, .box ([.own 7 (ofP7 cs 0).length] ++ zi r1 ++ [.d (.raw (.bool false))])), (7, .row 57 3 ((ofP7 cs 0).map Part.d))]) (congrArg (fun (z_ : List Part) => F.of [(4, vp 5 0)] [(5, .box ([.own 7 z_.length] ++ zi r1 ++ [.d (.raw (.bool false))])), (7, .row 57 3 (z_.map Part.d))]) (show ((ofP7 (cs.take j) 0) : List Part) = (ofP7 cs 0) from (by rw [List.take_of_length_le (by omega)])))
   replace h := pubS 7 3 57 ((ofP7 cs 0).map Part.d) [(4, vp 5 0)] [(5, .box ([.d (.sl 3 ((ofP7 cs 0).map Part.d))] ++ zi r1 ++ [.d (.raw (.bool false))]))] h rfl trivial (show AllEq _ [(ofP7 cs 0).length] from ⟨by first | exact (List.length_map _).symm | (simp; done) | (simp; omega), trivial⟩) (by kernel_rfl) (by kernel_rfl)
   refine retS [.agg ([.d (.sl 3 ((ofP7 cs 0).map Part.d))] ++ zi r1 ++ [.d (.raw (.bool false))])] h Exit.ret (.inl rfl)  rfl ⟨RV.agg _ 5 0 _ _ _ _ ha_1 rfl rfl rfl rfl, trivial⟩ ?_ (by kernel_rfl) (by kernel_rfl)
   first | rfl | (rw [er1]; first | done | rfl)
set_option maxHeartbeats 4000000 in
theorem SPiecing  : Fn Tryz.prog 9 [] [] (vb true) [] := by
 refine Fn.body Tryz.func9 rfl 80 rfl fun w H B a h => ?_
 refine rSeq fam0ok 0 [] [(0, vb false)] [] (by kernel_rfl) h ?_; clear h; intro a w h
 refine rSeq fam0ok 0 [(0, .gen _ _ _ fun _ _ _ _ => Op.buildD (d := 10) (len := 2) (rows := [2, (-1)].map intD) (rs := []) to_1 (.cons (i := 0) (OV.const (.int .i64 2) rfl) (.cons (i := 1) (OV.const (.int .i64 (-1)) rfl) (.nil))) (by kernel_rfl) rfl (by simp [intD]) (by decide) (by decide)), (1, .call (SofR 0 [2, (-1)] (by decide) (by decide) (by decide)) he_6), (2, .gen _ _ _ fun _ _ _ _ => Op.buildD (d := 12) (len := 2) (rows := [(-3), 1].map intD) (rs := []) to_1 (.cons (i := 0) (OV.const (.int .i64 (-3)) rfl) (.cons (i := 1) (OV.const (.int .i64 1) rfl) (.nil))) (by kernel_rfl) rfl (by simp [intD]) (by decide) (by decide)), (3, .call (SofR 1 [(-3), 1] (by decide) (by decide) (by decide)) he_6), (4, .gen _ _ _ fun _ _ _ _ => Op.buildD (d := 14) (len := 2) (rows := [(ofR 0 [2, (-1)]), (ofR 1 [(-3), 1])].map RelD.d) (rs := [(11, .t (.agg ([.d (.sl 3 ((ofR 0 [2, (-1)]).t.parts.map Part.d))] ++ zi (ofR 0 [2, (-1)]).t.k ++ [.d (.raw (.bool (ofR 0 [2, (-1)]).eq))]))), (13, .t (.agg ([.d (.sl 3 ((ofR 1 [(-3), 1]).t.parts.map Part.d))] ++ zi (ofR 1 [(-3), 1]).t.k ++ [.d (.raw (.bool (ofR 1 [(-3), 1]).eq))])))]) kc_5 (.cons (i := 0) (OV.tmp 11 _) (.cons (i := 1) (OV.tmp 13 _) (.nil))) (by kernel_rfl) rfl (by simp [RelD.d]) (by decide) (by decide))] [(0, vb false), (1, .t (.c (.d (.sl 4 ([(ofR 0 [2, (-1)]), (ofR 1 [(-3), 1])].map RelD.d)))))] [] (by kernel_rfl) h ?_; clear h; intro a w h
 refine rSeq fam0ok 0 [(1, .call (Fn.cast (SPieces hardE 0 9 hardE_ok (by decide)) (show (.tup [.c (.d (.sl 1 ((piecesS hardE 0 9).1.map (slD 4 RelD.d)))), .c (.d (.raw (.int .i64 (piecesS hardE 0 9).2)))] : V) = .tup [.c (.d (.sl 1 (pcE.map (slD 4 RelD.d)))), .c (.d (.raw (.int .i64 0)))] from by rw [pe1])) he_8)] [(0, vb false), (1, .t (.c (.d (.sl 4 ([(ofR 0 [2, (-1)]), (ofR 1 [(-3), 1])].map RelD.d))))), (2, .t (.c (.d (.sl 1 (pcE.map (slD 4 RelD.d)))))), (3, vi .i64 0)] [] (by kernel_rfl) h ?_; clear h; intro a w h
 refine rSeq fam0ok 0 [(1, .call (Fn.cast (SPieces hardE 0 0 hardE_ok (by decide)) (show (.tup [.c (.d (.sl 1 ((piecesS hardE 0 0).1.map (slD 4 RelD.d)))), .c (.d (.raw (.int .i64 (piecesS hardE 0 0).2)))] : V) = .tup [.c (.d (.sl 1 ([].map (slD 4 RelD.d)))), .c (.d (.raw (.int .i64 3)))] from by rw [pe2])) he_8)] [(0, vb false), (1, .t (.c (.d (.sl 4 ([(ofR 0 [2, (-1)]), (ofR 1 [(-3), 1])].map RelD.d))))), (2, .t (.c (.d (.sl 1 (pcE.map (slD 4 RelD.d)))))), (3, vi .i64 0), (5, vi .i64 3)] [] (by kernel_rfl) h ?_; clear h; intro a w h
 refine rSeq fam0ok 0 [(2, .call (SROf 2 ⟨by decide, by decide⟩) tc_0), (3, .gen _ _ _ fun _ _ _ _ => Op.buildD (d := 29) (len := 2) (rows := [(ZI.mk false []), (ZI.of 2)].map ziD) (rs := [(27, .t (.agg [.d (.raw (.bool false)), .d (nsl [])])), (28, vz (ZI.of 2))]) ty_5 (.cons (i := 0) (OV.tmp 27 _) (.cons (i := 1) (OV.tmp 28 _) (.nil))) (by kernel_rfl) rfl (by simp [ziD]) (by decide) (by decide)), (4, .call (Fn.cast (SFit hardE 0 [(ZI.mk false []), (ZI.of 2)] hardE_ok ⟨by decide, fun z hz => by rcases List.mem_cons.1 hz with rfl | hz; exact ⟨Lb_nil, by decide⟩; rw [List.mem_singleton.1 hz]; exact ⟨ZI.lb_of 2, by decide⟩⟩) (show (.tup [.agg (zi (fitS (lowsOf hardE 0) (highsOf hardE 0) [(ZI.mk false []), (ZI.of 2)]).1), .c (.d (.raw (.bool (fitS (lowsOf hardE 0) (highsOf hardE 0) [(ZI.mk false []), (ZI.of 2)]).2)))] : V) = .tup [.agg (zi (ZI.of 1)), .c (.d (.raw (.bool true)))] from by rw [pe3])) he_10)] [(0, vb false), (2, .t (.c (.d (.sl 1 (pcE.map (slD 4 RelD.d)))))), (3, vi .i64 0), (5, vi .i64 3), (6, vp 0 0), (7, vb true)] [(0, .box (zi (ZI.of 1)))] (by kernel_rfl) h ?_; clear h; intro a w h
 refine rSeq fam0ok 1 [(0, .gen _ _ _ fun _ _ _ _ => Op.buildD (d := 34) (len := 1) (rows := [2].map intD) (rs := []) to_1 (.cons (i := 0) (OV.const (.int .i64 2) rfl) (.nil)) (by kernel_rfl) rfl (by simp [intD]) (by decide) (by decide)), (1, .call (SofR (-1) [2] (by decide) (by decide) (by decide)) he_6), (2, .gen _ _ _ fun _ _ _ _ => Op.buildD (d := 36) (len := 1) (rows := [(-2)].map intD) (rs := []) to_1 (.cons (i := 0) (OV.const (.int .i64 (-2)) rfl) (.nil)) (by kernel_rfl) rfl (by simp [intD]) (by decide) (by decide)), (3, .call (SofR 1 [(-2)] (by decide) (by decide) (by decide)) he_6), (4, .gen _ _ _ fun _ _ _ _ => Op.buildD (d := 38) (len := 2) (rows := [(ofR (-1) [2]), (ofR 1 [(-2)])].map RelD.d) (rs := [(35, .t (.agg ([.d (.sl 3 ((ofR (-1) [2]).t.parts.map Part.d))] ++ zi (ofR (-1) [2]).t.k ++ [.d (.raw (.bool (ofR (-1) [2]).eq))]))), (37, .t (.agg ([.d (.sl 3 ((ofR 1 [(-2)]).t.parts.map Part.d))] ++ zi (ofR 1 [(-2)]).t.k ++ [.d (.raw (.bool (ofR 1 [(-2)]).eq))])))]) kc_5 (.cons (i := 0) (OV.tmp 35 _) (.cons (i := 1) (OV.tmp 37 _) (.nil))) (by kernel_rfl) rfl (by simp [RelD.d]) (by decide) (by decide)), (5, .call (Fn.argw (Fn.cast (SFit [(ofR (-1) [2]), (ofR 1 [(-2)])] 0 [] tightE_ok ⟨by decide, fun z hz => by cases hz⟩) (show (.tup [.agg (zi (fitS (lowsOf [(ofR (-1) [2]), (ofR 1 [(-2)])] 0) (highsOf [(ofR (-1) [2]), (ofR 1 [(-2)])] 0) []).1), .c (.d (.raw (.bool (fitS (lowsOf [(ofR (-1) [2]), (ofR 1 [(-2)])] 0) (highsOf [(ofR (-1) [2]), (ofR 1 [(-2)])] 0) []).2)))] : V) = .tup [.agg (zi (ZI.of 0)), .c (.d (.raw (.bool false)))] from by rw [pe4])) (.cons _ _ _ _ (.refl _) (.cons _ _ _ _ (.refl _) (.cons _ _ _ _ (.c _ _ (.nil _)) .nil)))) he_10)] [(0, vb false), (2, .t (.c (.d (.sl 1 (pcE.map (slD 4 RelD.d)))))), (3, vi .i64 0), (5, vi .i64 3), (6, vp 0 0), (7, vb true), (9, vb false)] [(0, .box (zi (ZI.of 1)))] (by kernel_rfl) h ?_; clear h; intro a w h
 refine rSeq fam0ok 2 [(1, .cmp (op := .eql) (m := 0) (n := 0) (b := true) .i64 rfl), (4, .len (c := (.d (.sl 1 (pcE.map (slD 4 RelD.d))))) (n := pcE.length) (lenC_map _ _ _)), (5, .cmp (op := .eql) (m := (pcE.length : Int)) (n := 1) (b := true) .i64 (show ((pcE.length : Int) == 1) = true from by rw [beq_iff_eq]; have := pe8; omega)), (9, .gen _ _ _ fun _ _ _ _ => Op.idxD (d := 51) (t := 50) (k := .i64) he_11 (map_at pe5 (f := (slD 4 RelD.d))) (OV.const (.int .i64 0) rfl)), (11, .len (c := (.d (.sl 4 (pE.map RelD.d)))) (n := pE.length) (lenC_map _ _ _)), (12, .cmp (op := .eql) (m := (pE.length : Int)) (n := 3) (b := true) .i64 (show ((pE.length : Int) == 3) = true from by rw [beq_iff_eq]; have := pe8; omega)), (16, .gen _ _ _ fun _ _ _ _ => Op.idxD (d := 58) (t := 57) (k := .i64) he_11 (map_at pe5 (f := (slD 4 RelD.d))) (OV.const (.int .i64 0) rfl)), (18, .gen _ _ _ fun _ _ _ _ => Op.idxD (d := 60) (t := 59) (k := .i64) kc_3 (map_at pe6 (f := RelD.d)) (OV.const (.int .i64 0) rfl)), (24, .cmp (op := .eql) (m := 3) (n := 3) (b := true) .i64 rfl), (31, .call (SROf 1 ⟨by decide, by decide⟩) tc_0), (32, .call (SSame7 (ZI.of 1) (ZI.lb_of _)) td_0)] [(0, vb true)] [] (by kernel_rfl) h ?_; clear h; intro a w h
 refine wp_ret ?_
 refine retS [.c (.d (.raw (.bool true)))] h Exit.ret (.inl rfl)  rfl ⟨RV.tmp _ _ rfl, trivial⟩ ?_ (by kernel_rfl) (by kernel_rfl)
 first | rfl | (rw [pe7]; rfl)
theorem fit_lb {L H : List SideD} {vs : List ZI} : Lb (fitS L H vs).1.abs := by
 unfold fitS
 split
 ·split <;> exact ZI.lb_of _
 ·exact ZI.lb_of _
set_option maxHeartbeats 4000000 in
theorem SShadowFits (rs : List RelD) (v : Int) (vs : List ZI) (hrl : ∀ r ∈ rs, TLb r.t) (hl : rs.length ≤ 9223372036854775807) (hvb : ∀ z ∈ vs, Lb z.abs) (hvl : vs.length ≤ 9223372036854775807) : Fn Tryz.prog 3 [] [.t (.c (.d (.sl 4 (rs.map RelD.d)))), vi .i64 v, .t (.c (.d (.sl 2 (vs.map ziD))))] (vb true) [] := by
 refine Fn.body Tryz.func3 rfl 43 rfl fun w H B a h => ?_
 refine rSeq fam0ok 0 [] [(0, .t (.c (.d (.sl 4 (rs.map RelD.d))))), (1, vi .i64 v), (2, .t (.c (.d (.sl 2 (vs.map ziD))))), (6, vb false)] [] (by kernel_rfl) h ?_; clear h; intro a w h
 refine wp_seq ?_
 refine rSeq fam0ok 0 [(0, .call (SPiecing) he_14)] [(0, .t (.c (.d (.sl 4 (rs.map RelD.d))))), (1, vi .i64 v), (2, .t (.c (.d (.sl 2 (vs.map ziD))))), (6, vb false), (12, vb false)] [] (by kernel_rfl) h ?_; clear h; intro a w h
 refine condS false h rfl (fun hc => ?_) (fun hc => ?_)
 ·cases hc
 ·clear hc
  refine wp_skip ?_
  refine then_n ?_
  refine wp_seq ?_
  rcases Bool.eq_false_or_eq_true (fewRs rs 10 8) with hc | hc
  ·have hc1 := hc; clear hc
   refine rSeq fam0ok 0 [(1, .call (Fn.cast (SFewRsL rs 10 8 hl) (congrArg vb hc1)) kc_6), (5, .call (SFewVs vs 20 8 hvl) he_16)] [(0, .t (.c (.d (.sl 4 (rs.map RelD.d))))), (1, vi .i64 v), (2, .t (.c (.d (.sl 2 (vs.map ziD))))), (6, vb false), (20, vb (!(fewVs vs 20 8)))] [] (by kernel_rfl) h ?_; clear h; intro a w h
   refine condS (!(fewVs vs 20 8)) h rfl (fun hc => ?_) (fun hc => ?_)
   ·have hc2 := hc; clear hc
    have hc2' := hc2; (try simp at hc2')
    refine rSeq fam0ok 0 [] [(0, .t (.c (.d (.sl 4 (rs.map RelD.d))))), (1, vi .i64 v), (2, .t (.c (.d (.sl 2 (vs.map ziD))))), (6, vb true)] [] (by kernel_rfl) h ?_; clear h; intro a w h
    refine wp_ret ?_
    refine then_r ?_
    refine retS [.c (.d (.raw (.bool true)))] h Exit.ret (.inl rfl)  rfl ⟨RV.tmp _ _ rfl, trivial⟩ ?_ (by kernel_rfl) (by kernel_rfl)
    rfl
   ·have hc3 := hc; clear hc
    have hc3' := hc3; (try simp at hc3')
    refine wp_skip ?_
    refine then_n ?_
    have hrs : RsOk rs := fewRs_rs (by decide) hc1 hrl
    obtain ⟨hv, hv20⟩ := fewVs_ok (show (fewVs vs 20 8) = true from by simpa using hc3) hvb
    refine rSeq fam0ok 0 [(3, .call (SFit rs v vs hrs hv) he_10)] [(0, .t (.c (.d (.sl 4 (rs.map RelD.d))))), (1, vi .i64 v), (2, .t (.c (.d (.sl 2 (vs.map ziD))))), (6, vb false), (7, vp 0 0), (8, vb (fitS (lowsOf rs v) (highsOf rs v) vs).2)] [(0, .box (zi (fitS (lowsOf rs v) (highsOf rs v) vs).1))] (by kernel_rfl) h ?_; clear h; intro a w h
    refine rSeq fam0ok 1 [(3, .call (SRFit rs v vs hrs hv) he_17)] [(6, vb false), (7, vp 0 0), (8, vb (fitS (lowsOf rs v) (highsOf rs v) vs).2), (9, vp 1 0), (10, vb (fitS (lowsOf rs v) (highsOf rs v) vs).2)] [(0, .box (zi (fitS (lowsOf rs v) (highsOf rs v) vs).1)), (1, .box (zi (fitS (lowsOf rs v) (highsOf rs v) vs).1))] (by kernel_rfl) h ?_; clear h; intro a w h
    refine rSeq fam0ok 2 [(2, .cmpb .eql (m := (fitS (lowsOf rs v) (highsOf rs v) vs).2) (n := (fitS (lowsOf rs v) (highsOf rs v) vs).2) (b := true) (.inl ⟨rfl, (show ((fitS (lowsOf rs v) (highsOf rs v) vs).2 == (fitS (lowsOf rs v) (highsOf rs v) vs).2) = true from by simp).symm⟩)), (6, .call (SSame7 (fitS (lowsOf rs v) (highsOf rs v) vs).1 fit_lb) td_0)] [(6, vb true)] [] (by kernel_rfl) h ?_; clear h; intro a w h
    refine wp_ret ?_
    refine retS [.c (.d (.raw (.bool true)))] h Exit.ret (.inl rfl)  rfl ⟨RV.tmp _ _ rfl, trivial⟩ ?_ (by kernel_rfl) (by kernel_rfl)
    rfl
  ·have hc4 := hc; clear hc
   refine rSeq fam0ok 2 [(1, .call (Fn.cast (SFewRsL rs 10 8 hl) (congrArg vb hc4)) kc_6)] [(0, .t (.c (.d (.sl 4 (rs.map RelD.d))))), (1, vi .i64 v), (2, .t (.c (.d (.sl 2 (vs.map ziD))))), (6, vb false), (20, vb true)] [] (by kernel_rfl) h ?_; clear h; intro a w h
   refine condS true h rfl (fun hc => ?_) (fun hc => ?_)
   ·clear hc
    refine rSeq fam0ok 2 [] [(0, .t (.c (.d (.sl 4 (rs.map RelD.d))))), (1, vi .i64 v), (2, .t (.c (.d (.sl 2 (vs.map ziD))))), (6, vb true)] [] (by kernel_rfl) h ?_; clear h; intro a w h
    refine wp_ret ?_
    refine then_r ?_
    refine retS [.c (.d (.raw (.bool true)))] h Exit.ret (.inl rfl)  rfl ⟨RV.tmp _ _ rfl, trivial⟩ ?_ (by kernel_rfl) (by kernel_rfl)
    rfl
   ·cases hc
end Go.Proofs.YtoklkfmffmonoaaGreat.S
end
section
namespace Go.Proofs.YtoklkfmffmonoaaGreat.S
open Go.RowKit

end Go.Proofs.YtoklkfmffmonoaaGreat.S
end
section
namespace Go.Proofs.YtoklkfmffmonoaaGreat.S
open Go.RowKit

end Go.Proofs.YtoklkfmffmonoaaGreat.S
end
section
namespace Go.Proofs.YtoklkfmffmonoaaGreat.S
open Go.RowKit

end Go.Proofs.YtoklkfmffmonoaaGreat.S
end
section
namespace Go.Proofs.YtoklkfmffmonoaaGreat.S
open Go.RowKit

section
variable {w : World} {n : Nat}
theorem rep_ZIl : RepN w n 23 (slD 2 ziD) (fun xs => xs.length ≤ maxLen ∧ ∀ x ∈ xs, Lb x.abs) :=
 rep_slice (k := 2) Tryz.underlying23 (by kernel_rfl) (by decide) (fun _ => rfl) rep_ZI
theorem rep_Rel : RepN w n 45 RelD.d (fun r => TLb r.t) :=
 ((rep_struct (n := n) Tryz.underlying45 (by kernel_rfl) (.cons (k0 := 3) rfl (by kernel_rfl) rep_Term (.cons (k0 := 1) rfl (by kernel_rfl) (rep_bool Tryz.underlying4) .nil))).map (fun p => ⟨p.1, p.2.1⟩) (fun _ => rfl) fun _ h => h.1).mono (Nat.le_succ n)
end
end Go.Proofs.YtoklkfmffmonoaaGreat.S
end
section
namespace Go.Proofs.YtoklkfmffmonoaaGreat.S
open Go.RowKit

section
variable {w : World} {n : Nat}
theorem rep_Rels : RepN w n 22 (slD 4 RelD.d) (fun xs => xs.length ≤ maxLen ∧ ∀ x ∈ xs, TLb x.t) :=
 rep_slice (k := 4) Tryz.underlying22 (by kernel_rfl) (by decide) (fun _ => rfl) rep_Rel
end
theorem SShadowFitsW (rs : List RelD) (v : Int) (vs : List ZI) (hr : rs.length ≤ maxLen ∧ ∀ r ∈ rs, TLb r.t) (hz : vs.length ≤ maxLen ∧ ∀ z ∈ vs, Lb z.abs) : Fn Tryz.prog 3 [] [.t (.c (.d (.sl 4 (rs.map RelD.d)))), vi .i64 v, .t (.c (.d (.sl 2 (vs.map ziD))))] (vb true) [] :=
 SShadowFits rs v vs hr.2 (Nat.le_trans hr.1 (by decide)) hz.2 (Nat.le_trans hz.1 (by decide))
end Go.Proofs.YtoklkfmffmonoaaGreat.S
end
section
namespace Go.Proofs.YtoklkfmffmonoaaGreat.shadowFitsDone
open Go.ChangeShapes Go.WideShapes Go.ChangeAt Go.RowKit
open Go.ChangeMaps (open_string shut_string)
open Go.Proofs.YtoklkfmffmonoaaGreat.S

theorem own : ownKnob Tryz.prog.godebug = none := by kernel_rfl
theorem laidOut : laidOutB Tryz.prog = true := by kernel_rfl

theorem lifted (os : Os) (started : os.Started) (H : Type) (enc : TypeId × Value → H) :
  ReturnsInHanded {} Tryz.checked os 3 .any (Rows.shadowFitsSpec.pre6 enc Tryz.prog Tryz.f3 Rows.shadowFitsRow.domain false) (Rows.shadowFitsSpec.post enc Tryz.prog Tryz.f3 false true false false) := by
 refine returnsInHanded_of_change (C := Tryz.checked) own started (by kernel_rfl) Tryz.func3
  (ChangeSpec.witness6 (enc := enc) (C := Tryz.checked) false ⟨#[], #[.slice none 0 0, .int .i64 0, .slice none 0 0], []⟩ 12 (by kernel_rfl) (by kernel_rfl) (by kernel_rfl) (by kernel_rfl)) ?_
 intro W base args ds gs before hval0 hW hcnd _
 have hval : ∀ (j : Nat) t v, Tryz.f3.params[j]? = some t → args[j]? = some v → Value.okWide Tryz.prog W .any base t v := hval0
 have hW' := hW
 obtain ⟨p, q, hA0, hV, rfl, hfz, hnd⟩ := hW
 have hA : DataW.TrodAll enc Tryz.prog W 0 (fun _ => true) true Tryz.f3.params.toList args.toList ds p := hA0
 rw [Tryz.params3] at hA hval
 obtain ⟨v0, vs0, d0, ds0, p0, q0, hargs, rfl, rfl, h0, r0⟩ := trodAll_cons hA
 obtain ⟨v1, vs1, d1, ds1, p1, q1, rfl, rfl, rfl, h1, r1⟩ := trodAll_cons r0
 obtain ⟨v2, vs2, d2, ds2, p2, q2, rfl, rfl, rfl, h2, r2⟩ := trodAll_cons r1
 obtain ⟨rfl, rfl, rfl⟩ := trodAll_nil r2
 obtain rfl : args = #[v0, v1, v2] := by cases args; simp_all
 obtain ⟨rfl, rfl⟩ := trodVars_none hV
 have k0 := h0
 have lt0 : ∀ x ∈ p0, x.block < W.heap.size := by obtain ⟨m, hm⟩ := k0; exact DataW.trod_lt m _ _ _ hm
 obtain ⟨a0, ao0, len0, cap0, g0, rfl, dr0⟩ := rep_one Tryz.underlying22 (fun _ => rep_Rels) (hval 0 22 v0 rfl rfl) h0
 obtain ⟨a1, rfl, rfl, rfl, g10⟩ := open_int Tryz.underlying3 (hval 1 3 v1 rfl rfl) h1
 have g1 : -9223372036854775808 ≤ a1 ∧ a1 ≤ 9223372036854775807 := by have := bounds_i64 g10; omega
 have k2 := h2
 have lt2 : ∀ x ∈ p2, x.block < W.heap.size := by obtain ⟨m, hm⟩ := k2; exact DataW.trod_lt m _ _ _ hm
 obtain ⟨a2, ao2, len2, cap2, g2, rfl, dr2⟩ := rep_one Tryz.underlying23 (fun _ => rep_ZIl) (hval 2 23 v2 rfl rfl) h2
 clear hA0 hval0
 refine ((SShadowFitsW a0 a1 a2 g0 g2).calls (w := W) (vals := [.slice ao0 len0 cap0, .int .i64 a1, .slice ao2 len2 cap2]) fun B => ⟨dr0, DR.raw _ rfl, dr2, trivial⟩).mono fun e W' ⟨he, bel⟩ => ?_
 subst he
 exact ⟨_, rfl, _, _, _, [], _, [], hW', trodAll_mk1 (shut_bool Tryz.underlying4 _), (trodAll_cons_mk (Below.trod laidOut (by kernel_rfl) (of_decide_eq_true (by kernel_rfl)) k0 bel lt0) (trodAll_cons_mk (shut_int Tryz.underlying3 g10) (trodAll_cons_mk (Below.trod laidOut (by kernel_rfl) (of_decide_eq_true (by kernel_rfl)) k2 bel lt2) trodAll_mk0))), rfl, bel.below.frame _, fun h => by cases h⟩

theorem over : Rows.shadowFitsRow.holds Tryz.pinned (OpenSpec.ofChange Rows.shadowFitsSpec) :=
 OpenClaim.holds_of_wide 3 Tryz.f3 rfl rfl rfl rfl rfl rfl rfl ⟨rfl, rfl, rfl, rfl, rfl⟩ rfl rfl rfl rfl rfl (by kernel_rfl) Tryz.func3 (by kernel_rfl)
  (of_decide_eq_true (by kernel_rfl)) (by unfold Func.isWrapper; first | (rw [if_pos (by decide +kernel)]; kernel_rfl) | (rw [if_neg (by decide +kernel)]; exact ⟨rfl, rfl⟩))
  (fun os started H enc _ => lifted os started H enc)

theorem proved : Rows.ShadowFitsSaid := over
end Go.Proofs.YtoklkfmffmonoaaGreat.shadowFitsDone
end
