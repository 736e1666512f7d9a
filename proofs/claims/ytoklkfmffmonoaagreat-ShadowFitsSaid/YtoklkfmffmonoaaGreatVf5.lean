/-
  Part 5 of the proof of the statement ShadowFits: the walk through the program and the references lifted to the given row. It holds for every input.
-/
import Derived.Test.YtoklkfmffmonoaaGreatVf4
import Derived.Laws.Strings
import Derived.Laws.MakeOwn
import Derived.Test.YtoklkfmffmonoaaGreatVf3
import Derived.Test.YtoklkfmffmonoaaGreatVf1
import Derived.Test.YtoklkfmffmonoaaGreatVf2
set_option maxRecDepth 100000
section
namespace Go.Proofs.YtoklkfmffmonoaaGreat.S
open Go.RowKit

theorem tv_2 : Bodied Tryz.prog 114 := Bodied.mk' (by kernel_rfl)
def isVar (v : Int) (p : Part) : Bool := p.v == v
theorem coefZ_strike (v : Int) (ps : List Part) (u : Int) : coefZ (ps.filter fun p => !isVar v p) u = if u = v then 0 else coefZ ps u := by
 induction ps with
 | nil => simp [coefZ]
 | cons p ps ih =>
  by_cases h : p.v = v
  ·rw [List.filter_cons_of_neg (by simp [isVar, h]), ih]
   by_cases hu : u = v
   ·rw [if_pos hu, if_pos hu]
   ·rw [if_neg hu, if_neg hu]
    simp only [coefZ]
    rw [if_neg (fun e => hu (e.1.symm.trans h)), Int.zero_add]
  ·rw [List.filter_cons_of_pos (by simpa [isVar] using h)]
   simp only [coefZ]
   rw [ih]
   by_cases hu : u = v
   ·rw [if_pos hu, if_pos hu, if_neg (fun e => h (e.1.trans hu)), Int.zero_add]
   ·rw [if_neg hu, if_neg hu]
def woT (t : Term) (v : Int) : Term := plainT ⟨t.parts.filter fun p => !isVar v p, t.k⟩
theorem wo_law (t : Term) (v : Int) : (⟨(plainT t).parts.filter fun p => !isVar v p, (plainT t).k⟩ : Term) = woT t v := by
 obtain ⟨h1, h2, h3⟩ := plainT_parts t
 refine (plainT_eq ?_ (fun q hq => h2 q (List.mem_filter.1 hq).1) (fun u => ?_) rfl).symm
 ·exact List.Pairwise.filter _ h1
 ·show coefZ (t.parts.filter fun p => !isVar v p) u = coefZ ((plainT t).parts.filter fun p => !isVar v p) u
  rw [coefZ_strike, coefZ_strike, h3]
theorem filt_snoc2 {pr : Part → Bool} {xs : List Part} {j : Nat} {x : Part} (h : xs[j]? = some x) : (xs.take (j + 1)).filter pr = (xs.take j).filter pr ++ (if pr x then [x] else []) := by
 have : xs.take (j + 1) = xs.take j ++ [x] := by rw [List.take_add_one, h]; rfl
 rw [this, List.filter_append]
 by_cases hp : pr x = true
 ·simp [hp]
 ·simp [hp]
theorem TOk.strike {n L : Nat} {t : Term} (h : TOk n L t) (pr : Part → Bool) : TOk n L ⟨t.parts.filter pr, t.k⟩ := ⟨Nat.le_trans (List.length_filter_le _ _) h.len, fun p hp => h.ps p (List.mem_filter.1 hp).1, h.kb, h.kl⟩
theorem SWo1 (p : Part) (v : Int)  : Fn Tryz.prog 114 [(1, .box [.d (.raw (.int .i64 v))])] [.t (.agg ([.d (.raw (.int .i64 p.v))] ++ zi p.c)), vp 1 0] (vb (isVar v p)) [(1, .box [.d (.raw (.int .i64 v))])] := by
 refine Fn.body Tryz.func114 rfl 8 rfl fun w H B a h => ?_
 refine rSeq fam0ok 2 [] [(1, vp 1 0), (2, vp 2 0), (3, vb false)] [(1, .box [.d (.raw (.int .i64 v))]), (2, .box ([.d (.raw (.int .i64 p.v))] ++ zi p.c))] (by kernel_rfl) h ?_; clear h; intro a w h
 refine rSeq fam0ok 3 [] [(3, vb (p.v == v))] [(1, .box [.d (.raw (.int .i64 v))])] (by kernel_rfl) h ?_; clear h; intro a w h
 refine wp_ret ?_
 refine retS [.c (.d (.raw (.bool (p.v == v))))] h Exit.ret (.inl rfl)  rfl ⟨RV.tmp _ _ rfl, trivial⟩ ?_ (by kernel_rfl) (by kernel_rfl)
 rfl
theorem SIndexFV (pr : Part → Bool) (xs : List Part) (v : Int) (hf : ∀ p ∈ xs, Fn Tryz.prog 114 [(1, .box [.d (.raw (.int .i64 v))])] [vd p.d, vp 1 0] (vb (pr p)) [(1, .box [.d (.raw (.int .i64 v))])]) (hl : xs.length ≤ 1000000) : Fn Tryz.prog 143 [(0, .row 57 3 (xs.map Part.d)), (1, .box [.d (.raw (.int .i64 v))])] [.t (.c (.own 0 xs.length)), .t (.c (.fn (.func 114) [] [.ptr 1 0]))] (vi .i64 (idxF pr xs 0)) [(0, .row 57 3 (xs.map Part.d)), (1, .box [.d (.raw (.int .i64 v))])] := by
 refine Fn.body Tryz.func143 rfl 19 rfl fun w H B a h => ?_
 refine rSeq fam0ok 2 [] [(0, .t (.c (.own 0 xs.length))), (1, .t (.c (.fn (.func 114) [] [.ptr 1 0]))), (4, vi .i64 0)] [(0, .row 57 3 (xs.map Part.d)), (1, .box [.d (.raw (.int .i64 v))])] (by kernel_rfl) h ?_; clear h; intro a w h
 refine wp_seq ?_
 refine rSeq fam0ok 2 [] [(0, .t (.c (.own 0 xs.length))), (1, .t (.c (.fn (.func 114) [] [.ptr 1 0]))), (4, vi .i64 0), (7, vi .i64 (xs.length : Int)), (8, vi .i64 0)] [(0, .row 57 3 (xs.map Part.d)), (1, .box [.d (.raw (.int .i64 v))])] (by kernel_rfl) h ?_; clear h; intro a w h
 refine wp_block ?_
 refine loopS (ι := (Nat)) (fun (z_ : (Nat)) => match z_ with | j => j ≤ xs.length ∧ idxF pr xs 0 = idxF pr (xs.drop j) j)
   (fun (z_ : (Nat)) => match z_ with | j => [(0, .t (.c (.own 0 xs.length))), (1, .t (.c (.fn (.func 114) [] [.ptr 1 0]))), (7, vi .i64 (xs.length : Int)), (8, vi .i64 (j : Int))])
   (fun (z_ : (Nat)) => match z_ with | j => [(0, .row 57 3 (xs.map Part.d)), (1, .box [.d (.raw (.int .i64 v))])])
   (fun (z_ : (Nat)) => match z_ with | j => xs.length - j) 0 ?_ h (by kernel_rfl) (by kernel_rfl) ?_
 ·exact ⟨Nat.zero_le _, rfl⟩
 ·clear h; rintro j a w hI h
  change St _ (F.of [(0, .t (.c (.own 0 xs.length))), (1, .t (.c (.fn (.func 114) [] [.ptr 1 0]))), (7, vi .i64 (xs.length : Int)), (8, vi .i64 (j : Int))] [(0, .row 57 3 (xs.map Part.d)), (1, .box [.d (.raw (.int .i64 v))])]) a w at h
  obtain ⟨hI1, hI2⟩ := hI
  refine rSeq fam0ok 2 [] [(0, .t (.c (.own 0 xs.length))), (1, .t (.c (.fn (.func 114) [] [.ptr 1 0]))), (7, vi .i64 (xs.length : Int)), (8, vi .i64 (j : Int)), (9, vb (decide ((j : Int) < (xs.length : Int))))] [(0, .row 57 3 (xs.map Part.d)), (1, .box [.d (.raw (.int .i64 v))])] (by kernel_rfl) h ?_; clear h; intro a w h
  refine wp_seq ?_
  refine condS (decide ((j : Int) < (xs.length : Int))) h rfl (fun hc => ?_) (fun hc => ?_)
  ·have hc1 := hc; clear hc
   have hc1' := of_decide_eq_true hc1
   refine wp_skip ?_
   refine then_n ?_
   refine wp_seq ?_
   refine wp_block ?_
   refine rSeq fam0ok 2 [] [(0, .t (.c (.own 0 xs.length))), (1, .t (.c (.fn (.func 114) [] [.ptr 1 0]))), (5, vi .i64 (j : Int)), (7, vi .i64 (xs.length : Int)), (8, vi .i64 (j : Int))] [(0, .row 57 3 (xs.map Part.d)), (1, .box [.d (.raw (.int .i64 v))])] (by kernel_rfl) h ?_; clear h; intro a w h
   obtain ⟨x1, hx1⟩ : ∃ z_ : Part, xs[j]? = some z_ := ⟨_, List.getElem?_eq_getElem (by first | omega | (simp at *; omega))⟩
   refine rSeq fam0ok 2 [(3, .gen _ _ _ fun _ _ _ _ => Op.idxO (d := 14) (t := 12) (k := .i64) (n := 0) (len := xs.length) (i := j) ta_0 (by first | omega | (simp at *; omega)) (OV.tmp 13 _)), (4, .gen _ _ _ fun _ _ _ _ => Op.loadR_agg (d := 15) (t := 14) (n := 0) (i := j) (fo := 0) (rty := 57) (es := 3) (xs := [.raw (.int .i64 x1.v), .raw (.bool x1.c.neg), nsl x1.c.abs]) te_1 rfl (map_at hx1 (f := Part.d)) rfl rfl), (5, .gen _ _ _ fun _ _ _ _ => Op.callV (d := 16) (t := 11) (cap := [.ptr 1 0]) (args := [.t (.agg ([.d (.raw (.int .i64 x1.v))] ++ zi x1.c))]) (rs := [(15, .t (.agg ([.d (.raw (.int .i64 x1.v))] ++ zi x1.c)))]) (tys := #[57]) (hf x1 (List.mem_of_getElem? hx1)) tv_2 (OVs.cons (OV.tmp 15 _) (OVs.nil)))] [(0, .t (.c (.own 0 xs.length))), (1, .t (.c (.fn (.func 114) [] [.ptr 1 0]))), (5, vi .i64 (j : Int)), (7, vi .i64 (xs.length : Int)), (8, vi .i64 (j : Int)), (16, vb (pr x1))] [(0, .row 57 3 (xs.map Part.d)), (1, .box [.d (.raw (.int .i64 v))])] (by kernel_rfl) h ?_; clear h; intro a w h
   refine condS (pr x1) h rfl (fun hc => ?_) (fun hc => ?_)
   ·have hc2 := hc; clear hc
    refine rSeq fam0ok 2 [] [(0, .t (.c (.own 0 xs.length))), (1, .t (.c (.fn (.func 114) [] [.ptr 1 0]))), (4, vi .i64 (j : Int)), (7, vi .i64 (xs.length : Int)), (8, vi .i64 (j : Int))] [(0, .row 57 3 (xs.map Part.d)), (1, .box [.d (.raw (.int .i64 v))])] (by kernel_rfl) h ?_; clear h; intro a w h
    refine wp_ret ?_
    refine block_r ?_
    refine then_r ?_
    refine then_r ?_
    refine block_r ?_
    refine then_r ?_
    refine retS [.c (.d (.raw (.int .i64 (j : Int))))] h Exit.ret (.inl rfl)  rfl ⟨RV.tmp _ _ rfl, trivial⟩ ?_ (by kernel_rfl) (by kernel_rfl)
    have hz : idxF pr xs 0 = (j : Int) := by rw [hI2, idxF_at hx1, if_pos hc2]
    rw [hz]; first | done | rfl
   ·have hc3 := hc; clear hc
    refine wp_skip ?_
    refine block_n ?_
    refine then_n ?_
    refine rS fam0ok 2 [(0, .add .i64 (m := (j : Int)) (n := 1) (i64_id (by omega) (by omega)))] [(0, .t (.c (.own 0 xs.length))), (1, .t (.c (.fn (.func 114) [] [.ptr 1 0]))), (7, vi .i64 (xs.length : Int)), (8, vi .i64 ((j : Int) + 1))] [(0, .row 57 3 (xs.map Part.d)), (1, .box [.d (.raw (.int .i64 v))])] (by kernel_rfl) h ?_; clear h; intro a w h
    refine then_n ?_
    refine roundS (x := j) (y := j + 1) h ?_ ?_ (by kernel_rfl) (by kernel_rfl)
    ·exact ⟨by have := at_lt hx1; omega, by rw [hI2, idxF_at hx1, if_neg (by rw [hc3]; exact Bool.noConfusion)]⟩
    ·simp; omega
  ·have hc4 := hc; clear hc
   have hc4' := of_decide_eq_false hc4
   refine wp_exit ?_
   refine then_x ?_
   refine then_x ?_
   refine inBlock_exit ?_
   refine then_n ?_
   refine rSeq fam0ok 2 [] [(4, vi .i64 (-1))] [(0, .row 57 3 (xs.map Part.d)), (1, .box [.d (.raw (.int .i64 v))])] (by kernel_rfl) h ?_; clear h; intro a w h
   refine wp_ret ?_
   refine retS [.c (.d (.raw (.int .i64 (-1))))] h Exit.ret (.inl rfl)  rfl ⟨RV.tmp _ _ rfl, trivial⟩ ?_ (by kernel_rfl) (by kernel_rfl)
   have hz : idxF pr xs 0 = -1 := by rw [hI2, List.drop_of_length_le (by omega)]; rfl
   rw [hz]; first | done | rfl
theorem SDeleteFV (pr : Part → Bool) (xs : List Part) (v : Int) (hf : ∀ p ∈ xs, Fn Tryz.prog 114 [(1, .box [.d (.raw (.int .i64 v))])] [vd p.d, vp 1 0] (vb (pr p)) [(1, .box [.d (.raw (.int .i64 v))])]) (hl : xs.length ≤ 1000000) : Fn Tryz.prog 109 [(0, .row 57 3 (xs.map Part.d)), (1, .box [.d (.raw (.int .i64 v))])] [.t (.c (.own 0 xs.length)), .t (.c (.fn (.func 114) [] [.ptr 1 0]))] (.t (.c (.own 0 (xs.filter (fun p => !pr p)).length))) [(0, .row 57 3 ((xs.filter (fun p => !pr p)).map Part.d)), (1, .box [.d (.raw (.int .i64 v))])] := by
 refine Fn.body Tryz.func109 rfl 42 rfl fun w H B a h => ?_
 refine rSeq fam0ok 2 [] [(0, .t (.c (.own 0 xs.length))), (1, .t (.c (.fn (.func 114) [] [.ptr 1 0]))), (4, .t (.c (.d (.raw nilV))))] [(0, .row 57 3 (xs.map Part.d)), (1, .box [.d (.raw (.int .i64 v))])] (by kernel_rfl) h ?_; clear h; intro a w h
 refine rSeq fam0ok 2 [(2, .call (SIndexFV pr xs v hf hl) tk_3)] [(0, .t (.c (.own 0 xs.length))), (1, .t (.c (.fn (.func 114) [] [.ptr 1 0]))), (4, .t (.c (.d (.raw nilV)))), (5, vi .i64 (idxF pr xs 0))] [(0, .row 57 3 (xs.map Part.d)), (1, .box [.d (.raw (.int .i64 v))])] (by kernel_rfl) h ?_; clear h; intro a w h
 refine wp_seq ?_
 rcases idxF_cases pr xs 0 with ⟨hz, hz2⟩ | ⟨k, x0, hz, hk, hk2, hk3⟩
 ·rw [hz] at h
  refine rSeq fam0ok 2 [(1, .cmp (op := .eql) (m := (-1)) (n := (-1)) (b := true) .i64 rfl)] [(0, .t (.c (.own 0 xs.length))), (1, .t (.c (.fn (.func 114) [] [.ptr 1 0]))), (4, .t (.c (.d (.raw nilV)))), (5, vi .i64 (-1)), (12, vb true)] [(0, .row 57 3 (xs.map Part.d)), (1, .box [.d (.raw (.int .i64 v))])] (by kernel_rfl) h ?_; clear h; intro a w h
  refine condS true h rfl (fun hc => ?_) (fun hc => ?_)
  ·clear hc
   refine rSeq fam0ok 2 [] [(0, .t (.c (.own 0 xs.length))), (1, .t (.c (.fn (.func 114) [] [.ptr 1 0]))), (4, .t (.c (.own 0 xs.length))), (5, vi .i64 (-1))] [(0, .row 57 3 (xs.map Part.d)), (1, .box [.d (.raw (.int .i64 v))])] (by kernel_rfl) h ?_; clear h; intro a w h
   refine wp_ret ?_
   refine then_r ?_
   replace h := h.conv (f' := F.of [(0, .t (.c (.own 0 xs.length))), (1, .t (.c (.fn (.func 114) [] [.ptr 1 0]))), (4, .t (.c (.own 0 (xs.filter (fun p => !pr p)).length))), (5, vi .i64 (-1))] [(0, .row 57 3 (xs.map Part.d)), (1, .box [.d (.raw (.int .i64 v))])]) (by rw [hz2])
   replace h := h.conv (f' := F.of [(0, .t (.c (.own 0 xs.length))), (1, .t (.c (.fn (.func 114) [] [.ptr 1 0]))), (4, .t (.c (.own 0 (xs.filter (fun p => !pr p)).length))), (5, vi .i64 (-1))] [(0, .row 57 3 ((xs.filter (fun p => !pr p)).map Part.d)), (1, .box [.d (.raw (.int .i64 v))])]) (congrArg (fun (z_ : List Part) => F.of [(0, .t (.c (.own 0 xs.length))), (1, .t (.c (.fn (.func 114) [] [.ptr 1 0]))), (4, .t (.c (.own 0 (xs.filter (fun p => !pr p)).length))), (5, vi .i64 (-1))] [(0, .row 57 3 (z_.map Part.d)), (1, .box [.d (.raw (.int .i64 v))])]) (show (xs : List Part) = (xs.filter (fun p => !pr p)) from hz2.symm))
   refine retS [.c (.own 0 (xs.filter (fun p => !pr p)).length)] h Exit.ret (.inl rfl)  rfl ⟨RV.tmp _ _ rfl, trivial⟩ ?_ (by kernel_rfl) (by kernel_rfl)
   rfl
  ·cases hc
 ·rw [Nat.zero_add] at hz
  have hkl := at_lt hk
  have hf2 : ((xs.take (k + 1)).filter (fun p => !pr p)) = xs.take k := by rw [List.take_add_one, hk]; simp [List.filter_append, hk2, hk3]
  have hf3 : ((xs.take (k + 1)).filter (fun p => !pr p)).length = k := by rw [hf2, List.length_take]; omega
  rw [hz] at h
  refine rSeq fam0ok 2 [(1, .cmp (op := .eql) (m := (k : Int)) (n := (-1)) (b := false) .i64 (beq_eq_false_iff_ne.2 (by omega)))] [(0, .t (.c (.own 0 xs.length))), (1, .t (.c (.fn (.func 114) [] [.ptr 1 0]))), (4, .t (.c (.d (.raw nilV)))), (5, vi .i64 (k : Int)), (12, vb false)] [(0, .row 57 3 (xs.map Part.d)), (1, .box [.d (.raw (.int .i64 v))])] (by kernel_rfl) h ?_; clear h; intro a w h
  refine condS false h rfl (fun hc => ?_) (fun hc => ?_)
  ·cases hc
  ·clear hc
   refine wp_skip ?_
   refine then_n ?_
   refine wp_seq ?_
   refine rSeq fam0ok 2 [(1, .gen _ _ _ fun _ _ _ _ => Op.arith (op := .add) (d := 15) (xt := 3) (yt := 3) (k := .i64) (m := (k : Int)) (n := 1) (r := ((k + 1 : Nat) : Int)) (OV.tmp 14 _) (OV.const (.int .i64 1) rfl) (.inl ⟨rfl, (by omega)⟩) (i64_id (by omega) (by omega)))] [(0, .t (.c (.own 0 xs.length))), (1, .t (.c (.fn (.func 114) [] [.ptr 1 0]))), (4, .t (.c (.d (.raw nilV)))), (5, vi .i64 (k : Int)), (6, vi .i64 ((k + 1 : Nat) : Int))] [(0, .row 57 3 (xs.map Part.d)), (1, .box [.d (.raw (.int .i64 v))])] (by kernel_rfl) h ?_; clear h; intro a w h
   refine wp_block ?_
   replace h := h.conv (f' := F.of [(0, .t (.c (.own 0 xs.length))), (1, .t (.c (.fn (.func 114) [] [.ptr 1 0]))), (4, .t (.c (.d (.raw nilV)))), (5, vi .i64 (((xs.take (k + 1)).filter (fun p => !pr p)).length : Int)), (6, vi .i64 ((k + 1 : Nat) : Int))] [(0, .row 57 3 (xs.map Part.d)), (1, .box [.d (.raw (.int .i64 v))])]) (by rw [hf3])
   replace h := h.conv (f' := F.of [(0, .t (.c (.own 0 xs.length))), (1, .t (.c (.fn (.func 114) [] [.ptr 1 0]))), (4, .t (.c (.d (.raw nilV)))), (5, vi .i64 (((xs.take (k + 1)).filter (fun p => !pr p)).length : Int)), (6, vi .i64 ((k + 1 : Nat) : Int))] [(0, .row 57 3 ((((xs.take (k + 1)).filter (fun p => !pr p)) ++ [x0] ++ xs.drop (k + 1)).map Part.d)), (1, .box [.d (.raw (.int .i64 v))])]) (congrArg (fun (z_ : List Part) => F.of [(0, .t (.c (.own 0 xs.length))), (1, .t (.c (.fn (.func 114) [] [.ptr 1 0]))), (4, .t (.c (.d (.raw nilV)))), (5, vi .i64 (((xs.take (k + 1)).filter (fun p => !pr p)).length : Int)), (6, vi .i64 ((k + 1 : Nat) : Int))] [(0, .row 57 3 (z_.map Part.d)), (1, .box [.d (.raw (.int .i64 v))])]) (show (xs : List Part) = (((xs.take (k + 1)).filter (fun p => !pr p)) ++ [x0] ++ xs.drop (k + 1)) from by rw [hf2]; obtain ⟨g1, g2⟩ := List.getElem?_eq_some_iff.1 hk; subst g2; simp))
   refine loopS (ι := (Nat) × (List Part)) (fun (z_ : (Nat) × (List Part)) => match z_ with | (j, G) => j ≤ xs.length ∧ ((xs.take j).filter (fun p => !pr p)).length + G.length = j ∧ 0 < G.length)
     (fun (z_ : (Nat) × (List Part)) => match z_ with | (j, G) => [(0, .t (.c (.own 0 xs.length))), (1, .t (.c (.fn (.func 114) [] [.ptr 1 0]))), (4, .t (.c (.d (.raw nilV)))), (5, vi .i64 (((xs.take j).filter (fun p => !pr p)).length : Int)), (6, vi .i64 (j : Int))])
     (fun (z_ : (Nat) × (List Part)) => match z_ with | (j, G) => [(0, .row 57 3 ((((xs.take j).filter (fun p => !pr p)) ++ G ++ xs.drop j).map Part.d)), (1, .box [.d (.raw (.int .i64 v))])])
     (fun (z_ : (Nat) × (List Part)) => match z_ with | (j, G) => xs.length - j) ((k + 1), [x0]) ?_ h (by kernel_rfl) (by kernel_rfl) ?_
   ·exact ⟨by omega, by rw [hf3]; rfl, Nat.one_pos⟩
   ·clear h; rintro ⟨j, G⟩ a w hI h
    change St _ (F.of [(0, .t (.c (.own 0 xs.length))), (1, .t (.c (.fn (.func 114) [] [.ptr 1 0]))), (4, .t (.c (.d (.raw nilV)))), (5, vi .i64 (((xs.take j).filter (fun p => !pr p)).length : Int)), (6, vi .i64 (j : Int))] [(0, .row 57 3 ((((xs.take j).filter (fun p => !pr p)) ++ G ++ xs.drop j).map Part.d)), (1, .box [.d (.raw (.int .i64 v))])]) a w at h
    obtain ⟨hI1, hI2, hI3⟩ := hI
    have hrl : (((xs.take j).filter (fun p => !pr p)) ++ G ++ xs.drop j).length = xs.length := by simp only [List.length_append, List.length_drop]; omega
    refine wp_seq ?_
    refine rSeq fam0ok 2 [] [(0, .t (.c (.own 0 xs.length))), (1, .t (.c (.fn (.func 114) [] [.ptr 1 0]))), (4, .t (.c (.d (.raw nilV)))), (5, vi .i64 (((xs.take j).filter (fun p => !pr p)).length : Int)), (6, vi .i64 (j : Int)), (19, vb (decide ((j : Int) < (xs.length : Int))))] [(0, .row 57 3 ((((xs.take j).filter (fun p => !pr p)) ++ G ++ xs.drop j).map Part.d)), (1, .box [.d (.raw (.int .i64 v))])] (by kernel_rfl) h ?_; clear h; intro a w h
    refine condS (decide ((j : Int) < (xs.length : Int))) h rfl (fun hc => ?_) (fun hc => ?_)
    ·have hc1 := hc; clear hc
     have hc1' := of_decide_eq_true hc1
     refine wp_skip ?_
     refine then_n ?_
     refine wp_seq ?_
     refine wp_block ?_
     obtain ⟨x, hx⟩ : ∃ z_ : Part, xs[j]? = some z_ := ⟨_, List.getElem?_eq_getElem (by omega)⟩
     refine rSeq fam0ok 2 [(2, .gen _ _ _ fun _ _ _ _ => Op.idxO (d := 24) (t := 22) (k := .i64) (n := 0) (len := xs.length) (i := j) ta_0 (by first | omega | (simp at *; omega)) (OV.tmp 23 _)), (3, .gen _ _ _ fun _ _ _ _ => Op.loadR_agg (d := 25) (t := 24) (n := 0) (i := j) (fo := 0) (rty := 57) (es := 3) (xs := [.raw (.int .i64 x.v), .raw (.bool x.c.neg), nsl x.c.abs]) te_1 rfl (map_at (show ((((xs.take j).filter (fun p => !pr p)) ++ G ++ xs.drop j) : List Part)[j]? = some x from del_at (pr := pr) hI2 hx) (f := Part.d)) rfl rfl)] [(0, .t (.c (.own 0 xs.length))), (1, .t (.c (.fn (.func 114) [] [.ptr 1 0]))), (4, .t (.c (.d (.raw nilV)))), (5, vi .i64 (((xs.take j).filter (fun p => !pr p)).length : Int)), (6, vi .i64 (j : Int)), (7, vp 2 0)] [(0, .row 57 3 ((((xs.take j).filter (fun p => !pr p)) ++ G ++ xs.drop j).map Part.d)), (1, .box [.d (.raw (.int .i64 v))]), (2, .box ([.d (.raw (.int .i64 x.v))] ++ zi x.c))] (by kernel_rfl) h ?_; clear h; intro a w h
     refine rSeq fam0ok 3 [(2, .gen _ _ _ fun _ _ _ _ => Op.callV (d := 28) (t := 26) (cap := [.ptr 1 0]) (args := [.t (.agg ([.d (.raw (.int .i64 x.v))] ++ zi x.c))]) (rs := [(27, .t (.agg ([.d (.raw (.int .i64 x.v))] ++ zi x.c)))]) (tys := #[57]) (hf x (List.mem_of_getElem? hx)) tv_2 (OVs.cons (OV.tmp 27 _) (OVs.nil)))] [(0, .t (.c (.own 0 xs.length))), (1, .t (.c (.fn (.func 114) [] [.ptr 1 0]))), (4, .t (.c (.d (.raw nilV)))), (5, vi .i64 (((xs.take j).filter (fun p => !pr p)).length : Int)), (6, vi .i64 (j : Int)), (7, vp 2 0), (29, vb (!(pr x)))] [(0, .row 57 3 ((((xs.take j).filter (fun p => !pr p)) ++ G ++ xs.drop j).map Part.d)), (1, .box [.d (.raw (.int .i64 v))]), (2, .box ([.d (.raw (.int .i64 x.v))] ++ zi x.c))] (by kernel_rfl) h ?_; clear h; intro a w h
     refine condS (!(pr x)) h rfl (fun hc => ?_) (fun hc => ?_)
     ·have hc2 := hc; clear hc
      have hc2' := hc2; (try simp at hc2')
      obtain ⟨x3, hx3⟩ : ∃ z_ : Part, (((xs.take j).filter (fun p => !pr p)) ++ G ++ xs.drop j)[((xs.take j).filter (fun p => !pr p)).length]? = some z_ := ⟨_, List.getElem?_eq_getElem (by first | omega | (simp at *; omega))⟩
      refine rSeq fam0ok 3 [(3, .gen _ _ _ fun _ _ _ _ => Op.idxO (d := 33) (t := 30) (k := .i64) (n := 0) (len := xs.length) (i := ((xs.take j).filter (fun p => !pr p)).length) ta_0 (by first | omega | (simp at *; omega)) (OV.tmp 31 _)), (4, .gen _ _ _ fun _ _ _ _ => Op.storeR (t := 33) (n := 0) (i := ((xs.take j).filter (fun p => !pr p)).length) (fo := 0) (rty := 57) (es := 3) (r := Part.d x3) (ds := [.raw (.int .i64 x.v), .raw (.bool x.c.neg), nsl x.c.abs]) (rs := [(32, .t (.agg ([.d (.raw (.int .i64 x.v))] ++ zi x.c)))]) (rows := (((xs.take j).filter (fun p => !pr p)) ++ G ++ xs.drop j).map Part.d) (rows' := ((((xs.take j).filter (fun p => !pr p)) ++ G ++ xs.drop j).set ((xs.take j).filter (fun p => !pr p)).length x).map Part.d) te_1 (OV.tmp 32 _) rfl rfl rfl (map_at hx3 (f := Part.d)) (by simp [Part.d]) (set_map (xs := (((xs.take j).filter (fun p => !pr p)) ++ G ++ xs.drop j)) (F := Part.d) ((xs.take j).filter (fun p => !pr p)).length _ _ rfl))] [(0, .t (.c (.own 0 xs.length))), (1, .t (.c (.fn (.func 114) [] [.ptr 1 0]))), (4, .t (.c (.d (.raw nilV)))), (5, vi .i64 (((xs.take j).filter (fun p => !pr p)).length : Int)), (6, vi .i64 (j : Int))] [(0, .row 57 3 (((((xs.take j).filter (fun p => !pr p)) ++ G ++ xs.drop j).set ((xs.take j).filter (fun p => !pr p)).length x).map Part.d)), (1, .box [.d (.raw (.int .i64 v))])] (by kernel_rfl) h ?_; clear h; intro a w h
      refine rS fam0ok 3 [(1, .gen _ _ _ fun _ _ _ _ => Op.arith (op := .add) (d := 35) (xt := 3) (yt := 3) (k := .i64) (m := (((xs.take j).filter (fun p => !pr p)).length : Int)) (n := 1) (r := ((((xs.take j).filter (fun p => !pr p)).length + 1 : Nat) : Int)) (OV.tmp 34 _) (OV.const (.int .i64 1) rfl) (.inl ⟨rfl, (by omega)⟩) (i64_id (by omega) (by omega)))] [(0, .t (.c (.own 0 xs.length))), (1, .t (.c (.fn (.func 114) [] [.ptr 1 0]))), (4, .t (.c (.d (.raw nilV)))), (5, vi .i64 ((((xs.take j).filter (fun p => !pr p)).length + 1 : Nat) : Int)), (6, vi .i64 (j : Int))] [(0, .row 57 3 (((((xs.take j).filter (fun p => !pr p)) ++ G ++ xs.drop j).set ((xs.take j).filter (fun p => !pr p)).length x).map Part.d)), (1, .box [.d (.raw (.int .i64 v))])] (by kernel_rfl) h ?_; clear h; intro a w h
      refine block_n ?_
      refine then_n ?_
      refine rS fam0ok 3 [(1, .add .i64 (m := (j : Int)) (n := 1) (i64_id (by omega) (by omega)))] [(0, .t (.c (.own 0 xs.length))), (1, .t (.c (.fn (.func 114) [] [.ptr 1 0]))), (4, .t (.c (.d (.raw nilV)))), (5, vi .i64 ((((xs.take j).filter (fun p => !pr p)).length + 1 : Nat) : Int)), (6, vi .i64 ((j : Int) + 1))] [(0, .row 57 3 (((((xs.take j).filter (fun p => !pr p)) ++ G ++ xs.drop j).set ((xs.take j).filter (fun p => !pr p)).length x).map Part.d)), (1, .box [.d (.raw (.int .i64 v))])] (by kernel_rfl) h ?_; clear h; intro a w h
      refine then_n ?_
      have hp : pr x = false := (by simpa using hc2)
      replace h := h.conv (f' := F.of [(0, .t (.c (.own 0 xs.length))), (1, .t (.c (.fn (.func 114) [] [.ptr 1 0]))), (4, .t (.c (.d (.raw nilV)))), (5, vi .i64 (((xs.take (j + 1)).filter (fun p => !pr p)).length : Int)), (6, vi .i64 ((j : Int) + 1))] [(0, .row 57 3 (((((xs.take j).filter (fun p => !pr p)) ++ G ++ xs.drop j).set ((xs.take j).filter (fun p => !pr p)).length x).map Part.d)), (1, .box [.d (.raw (.int .i64 v))])]) (by rw [← filt_len hx hp])
      replace h := h.conv (f' := F.of [(0, .t (.c (.own 0 xs.length))), (1, .t (.c (.fn (.func 114) [] [.ptr 1 0]))), (4, .t (.c (.d (.raw nilV)))), (5, vi .i64 (((xs.take (j + 1)).filter (fun p => !pr p)).length : Int)), (6, vi .i64 ((j : Int) + 1))] [(0, .row 57 3 ((((xs.take (j + 1)).filter (fun p => !pr p)) ++ (G.tail ++ [x]) ++ xs.drop (j + 1)).map Part.d)), (1, .box [.d (.raw (.int .i64 v))])]) (congrArg (fun (z_ : List Part) => F.of [(0, .t (.c (.own 0 xs.length))), (1, .t (.c (.fn (.func 114) [] [.ptr 1 0]))), (4, .t (.c (.d (.raw nilV)))), (5, vi .i64 (((xs.take (j + 1)).filter (fun p => !pr p)).length : Int)), (6, vi .i64 ((j : Int) + 1))] [(0, .row 57 3 (z_.map Part.d)), (1, .box [.d (.raw (.int .i64 v))])]) (show (((((xs.take j).filter (fun p => !pr p)) ++ G ++ xs.drop j).set ((xs.take j).filter (fun p => !pr p)).length x) : List Part) = (((xs.take (j + 1)).filter (fun p => !pr p)) ++ (G.tail ++ [x]) ++ xs.drop (j + 1)) from del_keep hx hp hI3))
      refine roundS (x := (j, G)) (y := ((j + 1), (G.tail ++ [x]))) h ?_ ?_ (by kernel_rfl) (by kernel_rfl)
      ·exact ⟨by have := at_lt hx; omega, by rw [← filt_len hx hp, List.length_append, List.length_tail]; simp only [List.length_cons, List.length_nil]; omega, by rw [List.length_append]; simp only [List.length_cons, List.length_nil]; omega⟩
      ·show xs.length - (j + 1) < xs.length - j
       have := at_lt hx; omega
     ·have hc3 := hc; clear hc
      have hc3' := hc3; (try simp at hc3')
      refine wp_skip ?_
      refine block_n ?_
      refine then_n ?_
      refine rS fam0ok 3 [(1, .add .i64 (m := (j : Int)) (n := 1) (i64_id (by omega) (by omega)))] [(0, .t (.c (.own 0 xs.length))), (1, .t (.c (.fn (.func 114) [] [.ptr 1 0]))), (4, .t (.c (.d (.raw nilV)))), (5, vi .i64 (((xs.take j).filter (fun p => !pr p)).length : Int)), (6, vi .i64 ((j : Int) + 1))] [(0, .row 57 3 ((((xs.take j).filter (fun p => !pr p)) ++ G ++ xs.drop j).map Part.d)), (1, .box [.d (.raw (.int .i64 v))])] (by kernel_rfl) h ?_; clear h; intro a w h
      refine then_n ?_
      have hp : pr x = true := (by simpa using hc3)
      replace h := h.conv (f' := F.of [(0, .t (.c (.own 0 xs.length))), (1, .t (.c (.fn (.func 114) [] [.ptr 1 0]))), (4, .t (.c (.d (.raw nilV)))), (5, vi .i64 (((xs.take (j + 1)).filter (fun p => !pr p)).length : Int)), (6, vi .i64 ((j : Int) + 1))] [(0, .row 57 3 ((((xs.take j).filter (fun p => !pr p)) ++ G ++ xs.drop j).map Part.d)), (1, .box [.d (.raw (.int .i64 v))])]) (by rw [← filt_len0 hx hp])
      replace h := h.conv (f' := F.of [(0, .t (.c (.own 0 xs.length))), (1, .t (.c (.fn (.func 114) [] [.ptr 1 0]))), (4, .t (.c (.d (.raw nilV)))), (5, vi .i64 (((xs.take (j + 1)).filter (fun p => !pr p)).length : Int)), (6, vi .i64 ((j : Int) + 1))] [(0, .row 57 3 ((((xs.take (j + 1)).filter (fun p => !pr p)) ++ (G ++ [x]) ++ xs.drop (j + 1)).map Part.d)), (1, .box [.d (.raw (.int .i64 v))])]) (congrArg (fun (z_ : List Part) => F.of [(0, .t (.c (.own 0 xs.length))), (1, .t (.c (.fn (.func 114) [] [.ptr 1 0]))), (4, .t (.c (.d (.raw nilV)))), (5, vi .i64 (((xs.take (j + 1)).filter (fun p => !pr p)).length : Int)), (6, vi .i64 ((j : Int) + 1))] [(0, .row 57 3 (z_.map Part.d)), (1, .box [.d (.raw (.int .i64 v))])]) (show ((((xs.take j).filter (fun p => !pr p)) ++ G ++ xs.drop j) : List Part) = (((xs.take (j + 1)).filter (fun p => !pr p)) ++ (G ++ [x]) ++ xs.drop (j + 1)) from del_skip hx hp))
      refine roundS (x := (j, G)) (y := ((j + 1), (G ++ [x]))) h ?_ ?_ (by kernel_rfl) (by kernel_rfl)
      ·exact ⟨by have := at_lt hx; omega, by rw [← filt_len0 hx hp, List.length_append]; simp only [List.length_cons, List.length_nil]; omega, by rw [List.length_append]; simp only [List.length_cons, List.length_nil]; omega⟩
      ·show xs.length - (j + 1) < xs.length - j
       have := at_lt hx; omega
    ·have hc4 := hc; clear hc
     have hc4' := of_decide_eq_false hc4
     refine wp_exit ?_
     refine then_x ?_
     refine then_x ?_
     refine inBlock_exit ?_
     refine then_n ?_
     have hj : j = xs.length := by omega
     have hF : ((xs.take j).filter (fun p => !pr p)) = (xs.filter (fun p => !pr p)) := by rw [hj, List.take_length]
     refine rSeq fam0ok 3 [(2, .gen _ _ _ fun _ _ _ _ => Op.sliceLo (d := 38) (t := 36) (k := .i64) (n := 0) (len := xs.length) (l := ((xs.take j).filter (fun p => !pr p)).length) (rows := (((xs.take j).filter (fun p => !pr p)) ++ G ++ xs.drop j).map Part.d) (rty := 57) ta_0 (by first | omega | (simp only [List.length_map, List.length_append, List.length_drop]; omega)) (OV.tmp 37 _) (by first | omega | (simp at *; omega)) rfl), (3, .gen _ _ _ fun _ _ _ _ => Op.clearCut' (rows' := ((xs.take j).filter (fun p => !pr p)).map Part.d) (o := none) (t := 38) (n := 0) (off := ((xs.take j).filter (fun p => !pr p)).length * 3) (len := (xs.length - ((xs.take j).filter (fun p => !pr p)).length)) (l := ((xs.take j).filter (fun p => !pr p)).length) (es := 3) (rows := (((xs.take j).filter (fun p => !pr p)) ++ G ++ xs.drop j).map Part.d) (rty := 57) (zs := [.d (.raw (.int .i64 0)), .d (.raw (.bool false)), .d (nsl [])]) ta_0.hu tk_4 rfl rfl (by first | omega | (simp only [List.length_map, List.length_append, List.length_drop]; omega)) _ rfl (by simp [List.map_append]))] [(0, .t (.c (.own 0 xs.length))), (4, .t (.c (.d (.raw nilV)))), (5, vi .i64 (((xs.take j).filter (fun p => !pr p)).length : Int))] [(0, .row 57 3 (((xs.take j).filter (fun p => !pr p)).map Part.d)), (1, .box [.d (.raw (.int .i64 v))])] (by kernel_rfl) h ?_; clear h; intro a w h
     refine rSeq fam0ok 3 [(2, .gen _ _ _ fun _ _ _ _ => Op.sliceHi (d := 41) (t := 39) (k := .i64) (n := 0) (len := xs.length) (h := ((xs.take j).filter (fun p => !pr p)).length) (rows := ((xs.take j).filter (fun p => !pr p)).map Part.d) (rty := 57) ta_0 (by first | omega | (simp only [List.length_map]; omega)) (OV.tmp 40 _))] [(4, .t (.c (.own 0 ((xs.take j).filter (fun p => !pr p)).length)))] [(0, .row 57 3 (((xs.take j).filter (fun p => !pr p)).map Part.d)), (1, .box [.d (.raw (.int .i64 v))])] (by kernel_rfl) h ?_; clear h; intro a w h
     refine wp_ret ?_
     replace h := h.conv (f' := F.of [(4, .t (.c (.own 0 (xs.filter (fun p => !pr p)).length)))] [(0, .row 57 3 (((xs.take j).filter (fun p => !pr p)).map Part.d)), (1, .box [.d (.raw (.int .i64 v))])]) (by rw [hF])
     replace h := h.conv (f' := F.of [(4, .t (.c (.own 0 (xs.filter (fun p => !pr p)).length)))] [(0, .row 57 3 ((xs.filter (fun p => !pr p)).map Part.d)), (1, .box [.d (.raw (.int .i64 v))])]) (congrArg (fun (z_ : List Part) => F.of [(4, .t (.c (.own 0 (xs.filter (fun p => !pr p)).length)))] [(0, .row 57 3 (z_.map Part.d)), (1, .box [.d (.raw (.int .i64 v))])]) (show (((xs.take j).filter (fun p => !pr p)) : List Part) = (xs.filter (fun p => !pr p)) from hF))
     refine retS [.c (.own 0 (xs.filter (fun p => !pr p)).length)] h Exit.ret (.inl rfl)  rfl ⟨RV.tmp _ _ rfl, trivial⟩ ?_ (by kernel_rfl) (by kernel_rfl)
     rfl
theorem SWithout (t : Term) (v : Int) {n L : Nat} (ht : TOk n L t) (hn : n ≤ 1000) (hL : L ≤ 20000) : Fn Tryz.prog 74 [] [.t (.agg ([.d (.sl 3 (t.parts.map Part.d))] ++ zi t.k)), vi .i64 v] (vd (woT t v).d) [] := by
 have lnp := (ht.plain hn).len
 have lnf : ((plainT t).parts.filter (fun p => !isVar v p)).length ≤ (plainT t).parts.length := List.length_filter_le _ _
 refine Fn.body Tryz.func74 rfl 14 rfl fun w H B a h => ?_
 refine rSeq fam0ok 5 [] [(2, vp 5 0), (3, vp 6 0), (4, vp 7 0)] [(5, .box ([.d (.sl 3 (t.parts.map Part.d))] ++ zi t.k)), (6, .box [.d (.raw (.int .i64 v))]), (7, .box [.d (.raw nilV), .d (.raw (.bool false)), .d (nsl [])])] (by kernel_rfl) h ?_; clear h; intro a w h
 refine rSeq fam0ok 8 [(1, .call (SPlainO t ht (by omega) (by omega)) tm_7)] [(3, vp 6 0), (4, vp 7 0), (5, vp 8 0)] [(6, .box [.d (.raw (.int .i64 v))]), (7, .box [.d (.raw nilV), .d (.raw (.bool false)), .d (nsl [])]), (0, .row 57 3 ((plainT t).parts.map Part.d)), (8, .box ([.own 0 (plainT t).parts.length] ++ zi (plainT t).k))] (by kernel_rfl) h ?_; clear h; intro a w h
 replace h := renS 6 1 [(3, vp 1 0), (4, vp 7 0), (5, vp 8 0)] [(7, .box [.d (.raw nilV), .d (.raw (.bool false)), .d (nsl [])]), (0, .row 57 3 ((plainT t).parts.map Part.d)), (8, .box ([.own 0 (plainT t).parts.length] ++ zi (plainT t).k)), (1, .box [.d (.raw (.int .i64 v))])] h (by kernel_rfl) (by kernel_rfl) (by kernel_rfl)
 refine rSeq fam0ok 9 [(2, .gen _ _ _ fun _ _ _ _ => Op.makeF1 (d := 10) (t := 3) (fn := .func 114) (x := .ptr 1 0)), (3, .call (SDeleteFV (isVar v) (plainT t).parts v (fun p _ => SWo1 p v) (by omega)) tl_10)] [(4, vp 7 0), (5, vp 8 0)] [(7, .box [.d (.raw nilV), .d (.raw (.bool false)), .d (nsl [])]), (0, .row 57 3 (((plainT t).parts.filter (fun p => !isVar v p)).map Part.d)), (8, .box ([.own 0 ((plainT t).parts.filter (fun p => !isVar v p)).length] ++ zi (plainT t).k))] (by kernel_rfl) h ?_; clear h; intro a w h
 replace h := pubS 0 3 57 (((plainT t).parts.filter (fun p => !isVar v p)).map Part.d) [(4, vp 7 0), (5, vp 8 0)] [(7, .box [.d (.raw nilV), .d (.raw (.bool false)), .d (nsl [])]), (8, .box ([.d (.sl 3 (((plainT t).parts.filter (fun p => !isVar v p)).map Part.d))] ++ zi (plainT t).k))] h rfl trivial (show AllEq _ [((plainT t).parts.filter (fun p => !isVar v p)).length] from ⟨by first | exact (List.length_map _).symm | simp, trivial⟩) (by kernel_rfl) (by kernel_rfl)
 refine rSeq fam0ok 9 [] [(4, vp 7 0)] [(7, .box ([.d (.sl 3 (((plainT t).parts.filter (fun p => !isVar v p)).map Part.d))] ++ zi (plainT t).k))] (by kernel_rfl) h ?_; clear h; intro a w h
 refine wp_ret ?_
 refine retS [.agg ([.d (.sl 3 (((plainT t).parts.filter (fun p => !isVar v p)).map Part.d))] ++ zi (plainT t).k)] h Exit.ret (.inl rfl)  rfl ⟨RV.agg _ 7 0 _ _ _ _ tb_11 rfl rfl rfl rfl, trivial⟩ ?_ (by kernel_rfl) (by kernel_rfl)
 rw [← wo_law]; first | done | rfl
theorem SRWithout (t : Term) (v : Int) {n L : Nat} (ht : TOk n L t) (hn : n ≤ 1000) (hL : L ≤ 20000) : Fn Tryz.prog 35 [] [.t (.agg ([.d (.sl 3 (t.parts.map Part.d))] ++ zi t.k)), vi .i64 v] (vd (woT t v).d) [] := by
 refine Fn.body Tryz.func35 rfl 37 rfl fun w H B a h => ?_
 refine rSeq fam0ok 5 [] [(1, vi .i64 v), (2, vp 5 0), (4, vp 6 0)] [(5, .box ([.d (.sl 3 (t.parts.map Part.d))] ++ zi t.k)), (6, .box [.d (.raw nilV), .d (.raw (.bool false)), .d (nsl [])])] (by kernel_rfl) h ?_; clear h; intro a w h
 refine rSeq fam0ok 7 [] [(1, vi .i64 v), (2, vp 5 0), (4, vp 6 0), (5, vp 7 0)] [(5, .box ([.d (.sl 3 (t.parts.map Part.d))] ++ zi t.k)), (6, .box [.d (.raw nilV), .d (.raw (.bool false)), .d (nsl [])]), (7, .box ([.d (.raw nilV)] ++ zi t.k))] (by kernel_rfl) h ?_; clear h; intro a w h
 refine wp_seq ?_
 replace h := nilOLs 7 0 8 3 57 ([.d (.raw nilV)] ++ zi t.k) [(1, vi .i64 v), (2, vp 5 0), (4, vp 6 0), (5, vp 7 0)] [(5, .box ([.d (.sl 3 (t.parts.map Part.d))] ++ zi t.k)), (6, .box [.d (.raw nilV), .d (.raw (.bool false)), .d (nsl [])]), (7, .box ([.own 8 0] ++ zi t.k)), (8, .row 57 3 ([].map Part.d))] h (by kernel_rfl) rfl rfl (by kernel_rfl) (by kernel_rfl)
 refine rSeq fam0ok 9 [] [(1, vi .i64 v), (2, vp 5 0), (4, vp 6 0), (5, vp 7 0), (6, vi .i64 0)] [(5, .box ([.d (.sl 3 (t.parts.map Part.d))] ++ zi t.k)), (6, .box [.d (.raw nilV), .d (.raw (.bool false)), .d (nsl [])]), (7, .box ([.own 8 0] ++ zi t.k)), (8, .row 57 3 ([].map Part.d))] (by kernel_rfl) h ?_; clear h; intro a w h
 refine wp_block ?_
 refine loopS (ι := (Nat) × (List Part)) (fun (z_ : (Nat) × (List Part)) => match z_ with | (j, out) => out = ((t.parts.take j).filter (fun p => !isVar v p)) ∧ j ≤ t.parts.length ∧ out.length ≤ j)
   (fun (z_ : (Nat) × (List Part)) => match z_ with | (j, out) => [(1, vi .i64 v), (2, vp 5 0), (4, vp 6 0), (5, vp 7 0), (6, vi .i64 (j : Int))])
   (fun (z_ : (Nat) × (List Part)) => match z_ with | (j, out) => [(5, .box ([.d (.sl 3 (t.parts.map Part.d))] ++ zi t.k)), (6, .box [.d (.raw nilV), .d (.raw (.bool false)), .d (nsl [])]), (7, .box ([.own 8 out.length] ++ zi t.k)), (8, .row 57 3 (out.map Part.d))])
   (fun (z_ : (Nat) × (List Part)) => match z_ with | (j, out) => t.parts.length - j) (0, []) ?_ h (by kernel_rfl) (by kernel_rfl) ?_
 ·exact ⟨by simp, Nat.zero_le _, Nat.zero_le _⟩
 ·clear h; rintro ⟨j, out⟩ a w hI h
  change St _ (F.of [(1, vi .i64 v), (2, vp 5 0), (4, vp 6 0), (5, vp 7 0), (6, vi .i64 (j : Int))] [(5, .box ([.d (.sl 3 (t.parts.map Part.d))] ++ zi t.k)), (6, .box [.d (.raw nilV), .d (.raw (.bool false)), .d (nsl [])]), (7, .box ([.own 8 out.length] ++ zi t.k)), (8, .row 57 3 (out.map Part.d))]) a w at h
  obtain ⟨hI1, hI2, hI3⟩ := hI
  have ln := ht.len
  refine wp_seq ?_
  refine rSeq fam0ok 9 [(3, .len (c := (.d (.sl 3 (t.parts.map Part.d)))) (n := t.parts.length) (lenC_map _ _ _))] [(1, vi .i64 v), (2, vp 5 0), (4, vp 6 0), (5, vp 7 0), (6, vi .i64 (j : Int)), (14, vb (decide ((j : Int) < (t.parts.length : Int))))] [(5, .box ([.d (.sl 3 (t.parts.map Part.d))] ++ zi t.k)), (6, .box [.d (.raw nilV), .d (.raw (.bool false)), .d (nsl [])]), (7, .box ([.own 8 out.length] ++ zi t.k)), (8, .row 57 3 (out.map Part.d))] (by kernel_rfl) h ?_; clear h; intro a w h
  refine condS (decide ((j : Int) < (t.parts.length : Int))) h rfl (fun hc => ?_) (fun hc => ?_)
  ·have hc1 := hc; clear hc
   have hc1' := of_decide_eq_true hc1
   refine wp_skip ?_
   refine then_n ?_
   refine wp_seq ?_
   refine wp_block ?_
   obtain ⟨x1, hx1⟩ : ∃ z_ : Part, t.parts[j]? = some z_ := ⟨_, List.getElem?_eq_getElem (by first | omega | (simp at *; omega))⟩
   obtain ⟨ox1, lx1⟩ := ht.get hx1
   refine rSeq fam0ok 9 [(3, .gen _ _ _ fun _ _ _ _ => Op.idxD (d := 20) (t := 18) (k := .i64) ta_0 (map_at hx1 (f := Part.d)) (OV.tmp 19 _))] [(1, vi .i64 v), (2, vp 5 0), (4, vp 6 0), (5, vp 7 0), (6, vi .i64 (j : Int)), (24, vb (x1.v != v))] [(5, .box ([.d (.sl 3 (t.parts.map Part.d))] ++ zi t.k)), (6, .box [.d (.raw nilV), .d (.raw (.bool false)), .d (nsl [])]), (7, .box ([.own 8 out.length] ++ zi t.k)), (8, .row 57 3 (out.map Part.d))] (by kernel_rfl) h ?_; clear h; intro a w h
   refine condS (x1.v != v) h rfl (fun hc => ?_) (fun hc => ?_)
   ·have hc2 := hc; clear hc
    have hc2' := hc2; (try simp at hc2')
    refine rS fam0ok 9 [(5, .gen _ _ _ fun _ _ _ _ => Op.idxD (d := 30) (t := 28) (k := .i64) ta_0 (map_at hx1 (f := Part.d)) (OV.tmp 29 _)), (7, .gen _ _ _ fun _ _ _ _ => Op.buildD (d := 32) (len := 1) (rows := [x1].map Part.d) (rs := [(31, .t (.agg ([.d (.raw (.int .i64 x1.v))] ++ zi x1.c)))]) tb_9 (.cons (i := 0) (OV.tmp 31 _) (.nil)) (by kernel_rfl) rfl (by simp [Part.d]) (by decide) (by decide)), (8, .gen _ _ _ fun _ _ _ _ => Op.appOD (d := 33) (t := 26) (u := 32) (n := 8) (n' := 9) (len := out.length) (len' := (out ++ [x1]).length) (rows := out.map Part.d) (rows2 := [x1].map Part.d) (rows' := (out ++ [x1]).map Part.d) tb_10 (by first | exact (List.length_map _).symm | simp) (by first | (rw [List.length_append, List.length_map]; done) | simp) (by simp) (by simp [Part.d]) (by first | omega | (simp at *; done) | (simp at *; omega)))] [(1, vi .i64 v), (2, vp 5 0), (4, vp 6 0), (5, vp 7 0), (6, vi .i64 (j : Int))] [(5, .box ([.d (.sl 3 (t.parts.map Part.d))] ++ zi t.k)), (6, .box [.d (.raw nilV), .d (.raw (.bool false)), .d (nsl [])]), (7, .box ([.own 9 (out ++ [x1]).length] ++ zi t.k)), (9, .row 57 3 ((out ++ [x1]).map Part.d))] (by kernel_rfl) h ?_; clear h; intro a w h
    refine block_n ?_
    refine then_n ?_
    refine rS fam0ok 10 [(1, .add .i64 (m := (j : Int)) (n := 1) (i64_id (by omega) (by omega)))] [(1, vi .i64 v), (2, vp 5 0), (4, vp 6 0), (5, vp 7 0), (6, vi .i64 ((j : Int) + 1))] [(5, .box ([.d (.sl 3 (t.parts.map Part.d))] ++ zi t.k)), (6, .box [.d (.raw nilV), .d (.raw (.bool false)), .d (nsl [])]), (7, .box ([.own 9 (out ++ [x1]).length] ++ zi t.k)), (9, .row 57 3 ((out ++ [x1]).map Part.d))] (by kernel_rfl) h ?_; clear h; intro a w h
    refine then_n ?_
    have hst : ((t.parts.take (j + 1)).filter (fun p => !isVar v p)) = out ++ (if !isVar v x1 then [x1] else []) := by rw [filt_snoc2 hx1, ← hI1]
    have hb : isVar v x1 = false := by simpa [isVar] using hc2
    rw [hb] at hst
    replace h := renS 9 8 [(1, vi .i64 v), (2, vp 5 0), (4, vp 6 0), (5, vp 7 0), (6, vi .i64 ((j : Int) + 1))] [(5, .box ([.d (.sl 3 (t.parts.map Part.d))] ++ zi t.k)), (6, .box [.d (.raw nilV), .d (.raw (.bool false)), .d (nsl [])]), (7, .box ([.own 8 (out ++ [x1]).length] ++ zi t.k)), (8, .row 57 3 ((out ++ [x1]).map Part.d))] h (by kernel_rfl) (by kernel_rfl) (by kernel_rfl)
    refine roundS (x := (j, out)) (y := ((j + 1), (out ++ [x1]))) h ?_ ?_ (by kernel_rfl) (by kernel_rfl)
    ·have := at_lt hx1
     exact ⟨by rw [hst]; simp, by omega, by first | omega | (simp; omega)⟩
    ·show t.parts.length - (j + 1) < t.parts.length - j
     have := at_lt hx1; omega
   ·have hc3 := hc; clear hc
    have hc3' := hc3; (try simp at hc3')
    refine wp_skip ?_
    refine block_n ?_
    refine then_n ?_
    refine rS fam0ok 10 [(1, .add .i64 (m := (j : Int)) (n := 1) (i64_id (by omega) (by omega)))] [(1, vi .i64 v), (2, vp 5 0), (4, vp 6 0), (5, vp 7 0), (6, vi .i64 ((j : Int) + 1))] [(5, .box ([.d (.sl 3 (t.parts.map Part.d))] ++ zi t.k)), (6, .box [.d (.raw nilV), .d (.raw (.bool false)), .d (nsl [])]), (7, .box ([.own 8 out.length] ++ zi t.k)), (8, .row 57 3 (out.map Part.d))] (by kernel_rfl) h ?_; clear h; intro a w h
    refine then_n ?_
    have hst : ((t.parts.take (j + 1)).filter (fun p => !isVar v p)) = out ++ (if !isVar v x1 then [x1] else []) := by rw [filt_snoc2 hx1, ← hI1]
    have hb : isVar v x1 = true := by simpa [isVar] using hc3
    rw [hb] at hst
    refine roundS (x := (j, out)) (y := ((j + 1), out)) h ?_ ?_ (by kernel_rfl) (by kernel_rfl)
    ·have := at_lt hx1
     exact ⟨by rw [hst]; simp, by omega, by first | omega | (simp; omega)⟩
    ·show t.parts.length - (j + 1) < t.parts.length - j
     have := at_lt hx1; omega
  ·have hc4 := hc; clear hc
   have hc4' := of_decide_eq_false hc4
   refine wp_exit ?_
   refine then_x ?_
   refine then_x ?_
   refine inBlock_exit ?_
   refine then_n ?_
   have hj : j = t.parts.length := by omega
   rw [hj, List.take_length] at hI1
   replace h := pubS 8 3 57 (out.map Part.d) [(1, vi .i64 v), (2, vp 5 0), (4, vp 6 0), (5, vp 7 0), (6, vi .i64 (j : Int)), (14, vb (decide ((j : Int) < (t.parts.length : Int))))] [(5, .box ([.d (.sl 3 (t.parts.map Part.d))] ++ zi t.k)), (6, .box [.d (.raw nilV), .d (.raw (.bool false)), .d (nsl [])]), (7, .box ([.d (.sl 3 (out.map Part.d))] ++ zi t.k))] h rfl trivial (show AllEq _ [out.length] from ⟨by first | exact (List.length_map _).symm | simp, trivial⟩) (by kernel_rfl) (by kernel_rfl)
   refine rSeq fam0ok 10 [(1, .call ((show Fn _ _ _ [vd (Term.mk out t.k).d] _ _ from by rw [hI1]; exact SRPlain' _ (ht.strike _) hn (by omega))) tc_2)] [(4, vp 6 0)] [(6, .box ([.d (.sl 3 ((woT t v).parts.map Part.d))] ++ zi (woT t v).k))] (by kernel_rfl) h ?_; clear h; intro a w h
   refine wp_ret ?_
   refine retS [.agg ([.d (.sl 3 ((woT t v).parts.map Part.d))] ++ zi (woT t v).k)] h Exit.ret (.inl rfl)  rfl ⟨RV.agg _ 6 0 _ _ _ _ tb_11 rfl rfl rfl rfl, trivial⟩ ?_ (by kernel_rfl) (by kernel_rfl)
   rfl
end Go.Proofs.YtoklkfmffmonoaaGreat.S
end
section
namespace Go.Proofs.YtoklkfmffmonoaaGreat.S
open Go.RowKit

theorem tw_15 : Bodied Tryz.prog 41 := Bodied.mk' (by kernel_rfl)
end Go.Proofs.YtoklkfmffmonoaaGreat.S
end
section
namespace Go.Proofs.YtoklkfmffmonoaaGreat.S
open Go.RowKit

theorem tx_2 : Bodied Tryz.prog 32 := Bodied.mk' (by kernel_rfl)
end Go.Proofs.YtoklkfmffmonoaaGreat.S
end
section
namespace Go.Proofs.YtoklkfmffmonoaaGreat.S
open Go.RowKit

end Go.Proofs.YtoklkfmffmonoaaGreat.S
end
section
namespace Go.Proofs.YtoklkfmffmonoaaGreat.S
open Go.RowKit

theorem ty_5 : ElZ Tryz.prog 23 30 2 := ElZ.mk' Tryz.underlying23 _ _ rfl rfl (by kernel_rfl) (by kernel_rfl) (by kernel_rfl) (by decide)
theorem ty_12 : Bodied Tryz.prog 74 := Bodied.mk' (by kernel_rfl)
end Go.Proofs.YtoklkfmffmonoaaGreat.S
end
section
namespace Go.Proofs.YtoklkfmffmonoaaGreat.S
open Go.RowKit

theorem ua_10 : Bodied Tryz.prog 35 := Bodied.mk' (by kernel_rfl)
end Go.Proofs.YtoklkfmffmonoaaGreat.S
end
section
namespace Go.Proofs.YtoklkfmffmonoaaGreat.S
open Go.RowKit

theorem ub_1 : Bodied Tryz.prog 40 := Bodied.mk' (by kernel_rfl)
theorem valT_len {n L M : Nat} {t : Term} {vs : List ZI} (ht : TOk n L t) (hn : n ≤ 1000) (hv : VOk M vs) : (ZI.of (valT t vs)).abs.length ≤ L + M + 1 := val_len ht hn hv (fun _ h => h) (Nat.le_refl _)
end Go.Proofs.YtoklkfmffmonoaaGreat.S
end
section
namespace Go.Proofs.YtoklkfmffmonoaaGreat.S
open Go.RowKit

theorem ha_1 : Sz Tryz.prog 45 4 true := Sz.mk' (by kernel_rfl) Tryz.underlying45 _ rfl
theorem ha_4 : Bodied Tryz.prog 73 := Bodied.mk' (by kernel_rfl)
theorem ha_7 : ElZ Tryz.prog 58 63 5 := ElZ.mk' Tryz.underlying58 _ _ rfl rfl (by kernel_rfl) (by kernel_rfl) (by kernel_rfl) (by decide)
theorem ha_8 : ElT Tryz.prog 58 63 5 88 := ElT.mk' Tryz.underlying58 _ _ rfl rfl (by kernel_rfl) (by kernel_rfl) (by kernel_rfl) (by decide) (by decide)
theorem ha_9 : Bodied Tryz.prog 75 := Bodied.mk' (by kernel_rfl)
theorem ha_11 : ElT Tryz.prog 22 45 4 64 := ElT.mk' Tryz.underlying22 _ _ rfl rfl (by kernel_rfl) (by kernel_rfl) (by kernel_rfl) (by decide) (by decide)
theorem ha_12 : Sz Tryz.prog 60 3 true := Sz.mk' (by kernel_rfl) Tryz.underlying60 _ rfl
structure SideD where
  times : ZI
  rest : Term
def SideD.d (x : SideD) : List D := [.raw (.bool x.times.neg), nsl x.times.abs, .sl 3 (x.rest.parts.map Part.d), .raw (.bool x.rest.k.neg), nsl x.rest.k.abs]
def lstR (t : Term) : RelD := ⟨plainT t, false⟩
def sideOf (v : Int) (r : RelD) : SideD := ⟨ZI.of ((coefZ r.t.parts v).natAbs : Int), woT r.t v⟩
def lowF (v : Int) (r : RelD) : List SideD := if 0 < coefZ r.t.parts v then [sideOf v r] else []
def highF (v : Int) (r : RelD) : List SideD := if coefZ r.t.parts v < 0 then [sideOf v r] else []
def othF (v : Int) (r : RelD) : List RelD := if coefZ r.t.parts v = 0 then [lstR r.t] else []
def lowsOf (rs : List RelD) (v : Int) : List SideD := rs.flatMap (lowF v)
def highsOf (rs : List RelD) (v : Int) : List SideD := rs.flatMap (highF v)
def othersOf (rs : List RelD) (v : Int) : List RelD := rs.flatMap (othF v)
def RsOk (rs : List RelD) : Prop := rs.length ≤ 20 ∧ ∀ r ∈ rs, TokR 8 r
theorem flat_snoc {α β : Type} {g : α → List β} {xs : List α} {j : Nat} {x : α} {ys : List β} (h : xs[j]? = some x) (e : g x = ys) : (xs.take j).flatMap g ++ ys = (xs.take (j + 1)).flatMap g := by
 rw [List.take_add_one, h, List.flatMap_append]; simp [e]
theorem flat_skip {α β : Type} {g : α → List β} {xs : List α} {j : Nat} {x : α} (h : xs[j]? = some x) (e : g x = []) : (xs.take j).flatMap g = (xs.take (j + 1)).flatMap g := by
 rw [← flat_snoc h e, List.append_nil]
theorem flat_le {α β : Type} {g : α → List β} (hg : ∀ x, (g x).length ≤ 1) : ∀ xs : List α, (xs.flatMap g).length ≤ xs.length
 | [] => Nat.le_refl _
 | x :: xs => by
  rw [List.flatMap_cons, List.length_append, List.length_cons]
  have := flat_le hg xs; have := hg x; omega
theorem low_le (v : Int) (r : RelD) : (lowF v r).length ≤ 1 := by unfold lowF; split <;> simp
theorem high_le (v : Int) (r : RelD) : (highF v r).length ≤ 1 := by unfold highF; split <;> simp
theorem oth_le (v : Int) (r : RelD) : (othF v r).length ≤ 1 := by unfold othF; split <;> simp
theorem sgn1_t {z : Int} (h : (sgn z == 1) = true) : 0 < z := sgn_gt_zero.1 (by have h1 : sgn z = 1 := (by simpa using h); omega)
theorem sgn1_f {z : Int} (h : (sgn z == 1) = false) : ¬ 0 < z := fun e => by rw [sgn_pos e] at h; cases h
theorem sgnm_t {z : Int} (h : (sgn z == (-1)) = true) : z < 0 := sgn_lt_zero.1 (by have h1 : sgn z = -1 := (by simpa using h); omega)
theorem sgnm_f {z : Int} (h : (sgn z == (-1)) = false) : ¬ z < 0 := fun e => by rw [sgn_neg e] at h; cases h
theorem wo_ok {n L : Nat} {t : Term} (h : TOk n L t) (hn : n ≤ 1000) (v : Int) : TOk n (L + 1) (woT t v) :=
 TOk.plain (t := ⟨t.parts.filter fun p => !isVar v p, t.k⟩) ⟨Nat.le_trans (List.length_filter_le _ _) h.len, fun p hp => h.ps p (List.mem_filter.1 hp).1, h.kb, h.kl⟩ hn
structure SideOk (s : SideD) : Prop where
  lb : Lb s.times.abs
  len : s.times.abs.length ≤ 9
  rest : TOk 20 9 s.rest
theorem side_ok {r : RelD} (h : TokR 8 r) (v : Int) : SideOk (sideOf v r) := ⟨ZI.lb_of _, by
 have h1 := coef_len (L := 8) (h.mono (show 20 ≤ 1000 by decide) (Nat.le_refl 8)).psok v
 have h2 := len_abs (ZI.lb_of (coefZ r.t.parts v))
 rw [ZI.val_of] at h2
 exact Nat.le_trans h2 h1, wo_ok h (by decide) v⟩
theorem lows_ok {rs : List RelD} (h : RsOk rs) (v : Int) : ∀ s ∈ lowsOf rs v, SideOk s := fun s hs => by
 obtain ⟨r, hr, hm⟩ := List.mem_flatMap.1 hs
 unfold lowF at hm
 split at hm
 ·rw [List.mem_singleton.1 hm]; exact side_ok (h.2 r hr) v
 ·cases hm
theorem highs_ok {rs : List RelD} (h : RsOk rs) (v : Int) : ∀ s ∈ highsOf rs v, SideOk s := fun s hs => by
 obtain ⟨r, hr, hm⟩ := List.mem_flatMap.1 hs
 unfold highF at hm
 split at hm
 ·rw [List.mem_singleton.1 hm]; exact side_ok (h.2 r hr) v
 ·cases hm
theorem lows_len {rs : List RelD} (h : RsOk rs) (v : Int) : (lowsOf rs v).length ≤ 20 := Nat.le_trans (flat_le (low_le v) rs) h.1
theorem highs_len {rs : List RelD} (h : RsOk rs) (v : Int) : (highsOf rs v).length ≤ 20 := Nat.le_trans (flat_le (high_le v) rs) h.1
set_option maxHeartbeats 4000000 in
theorem SLeast (t : Term) (ht : TOk 400 10000 t) : Fn Tryz.prog 75 [] [.t (.agg ([.d (.sl 3 (t.parts.map Part.d))] ++ zi t.k))] (.t (.agg ([.d (.sl 3 ((lstR t).t.parts.map Part.d))] ++ zi (lstR t).t.k ++ [.d (.raw (.bool (lstR t).eq))]))) [] := by
 refine Fn.body Tryz.func75 rfl 6 rfl fun w H B a h => ?_
 refine rSeq fam0ok 0 [] [(1, vp 0 0), (2, vp 1 0)] [(0, .box ([.d (.sl 3 (t.parts.map Part.d))] ++ zi t.k)), (1, .box [.d (.raw nilV), .d (.raw (.bool false)), .d (nsl []), .d (.raw (.bool false))])] (by kernel_rfl) h ?_; clear h; intro a w h
 refine rSeq fam0ok 2 [(1, .call (SPlain t ht (by decide) (by decide)) tm_7)] [(2, vp 1 0)] [(1, .box ([.d (.sl 3 ((plainT t).parts.map Part.d))] ++ zi (plainT t).k ++ [.d (.raw (.bool false))]))] (by kernel_rfl) h ?_; clear h; intro a w h
 refine wp_ret ?_
 refine retS [.agg ([.d (.sl 3 ((plainT t).parts.map Part.d))] ++ zi (plainT t).k ++ [.d (.raw (.bool false))])] h Exit.ret (.inl rfl)  rfl ⟨RV.agg _ 1 0 _ _ _ _ ha_1 rfl rfl rfl rfl, trivial⟩ ?_ (by kernel_rfl) (by kernel_rfl)
 rfl
set_option maxHeartbeats 4000000 in
theorem Ssplit (rs : List RelD) (v : Int) (hrs : RsOk rs) : Fn Tryz.prog 30 [] [.t (.c (.d (.sl 4 (rs.map RelD.d)))), vi .i64 v] (.t (.agg [.d (.sl 5 ((lowsOf rs v).map SideD.d)), .d (.sl 5 ((highsOf rs v).map SideD.d)), .d (.sl 4 ((othersOf rs v).map RelD.d))])) [] := by
 have lrs := hrs.1
 refine Fn.body Tryz.func30 rfl 55 rfl fun w H B a h => ?_
 refine rSeq fam0ok 5 [] [(0, .t (.c (.d (.sl 4 (rs.map RelD.d))))), (1, vi .i64 v), (4, vp 5 0)] [(5, .box [.d (.raw nilV), .d (.raw nilV), .d (.raw nilV)])] (by kernel_rfl) h ?_; clear h; intro a w h
 refine rSeq fam0ok 6 [] [(0, .t (.c (.d (.sl 4 (rs.map RelD.d))))), (1, vi .i64 v), (4, vp 5 0), (5, vp 6 0)] [(5, .box [.d (.raw nilV), .d (.raw nilV), .d (.raw nilV)]), (6, .box [.d (.raw nilV), .d (.raw nilV), .d (.raw nilV)])] (by kernel_rfl) h ?_; clear h; intro a w h
 refine wp_seq ?_
 replace h := nilOLs 6 0 7 5 63 [.d (.raw nilV), .d (.raw nilV), .d (.raw nilV)] [(0, .t (.c (.d (.sl 4 (rs.map RelD.d))))), (1, vi .i64 v), (4, vp 5 0), (5, vp 6 0)] [(5, .box [.d (.raw nilV), .d (.raw nilV), .d (.raw nilV)]), (6, .box [.own 7 0, .d (.raw nilV), .d (.raw nilV)]), (7, .row 63 5 ([].map SideD.d))] h (by kernel_rfl) rfl rfl (by kernel_rfl) (by kernel_rfl)
 replace h := nilOLs 6 1 8 5 63 [.own 7 0, .d (.raw nilV), .d (.raw nilV)] [(0, .t (.c (.d (.sl 4 (rs.map RelD.d))))), (1, vi .i64 v), (4, vp 5 0), (5, vp 6 0)] [(5, .box [.d (.raw nilV), .d (.raw nilV), .d (.raw nilV)]), (6, .box [.own 7 0, .own 8 0, .d (.raw nilV)]), (7, .row 63 5 ([].map SideD.d)), (8, .row 63 5 ([].map SideD.d))] h (by kernel_rfl) rfl rfl (by kernel_rfl) (by kernel_rfl)
 replace h := nilOLs 6 2 9 4 45 [.own 7 0, .own 8 0, .d (.raw nilV)] [(0, .t (.c (.d (.sl 4 (rs.map RelD.d))))), (1, vi .i64 v), (4, vp 5 0), (5, vp 6 0)] [(5, .box [.d (.raw nilV), .d (.raw nilV), .d (.raw nilV)]), (6, .box [.own 7 0, .own 8 0, .own 9 0]), (7, .row 63 5 ([].map SideD.d)), (8, .row 63 5 ([].map SideD.d)), (9, .row 45 4 ([].map RelD.d))] h (by kernel_rfl) rfl rfl (by kernel_rfl) (by kernel_rfl)
 refine rSeq fam0ok 10 [(1, .len (c := (.d (.sl 4 (rs.map RelD.d)))) (n := rs.length) (lenC_map _ _ _))] [(1, vi .i64 v), (4, vp 5 0), (5, vp 6 0), (10, .t (.c (.d (.sl 4 (rs.map RelD.d))))), (11, vi .i64 (rs.length : Int)), (12, vi .i64 0)] [(5, .box [.d (.raw nilV), .d (.raw nilV), .d (.raw nilV)]), (6, .box [.own 7 0, .own 8 0, .own 9 0]), (7, .row 63 5 ([].map SideD.d)), (8, .row 63 5 ([].map SideD.d)), (9, .row 45 4 ([].map RelD.d))] (by kernel_rfl) h ?_; clear h; intro a w h
 refine wp_block ?_
 refine loopS (ι := (Nat)) (fun (z_ : (Nat)) => match z_ with | j => j ≤ rs.length)
   (fun (z_ : (Nat)) => match z_ with | j => [(1, vi .i64 v), (4, vp 5 0), (5, vp 6 0), (10, .t (.c (.d (.sl 4 (rs.map RelD.d))))), (11, vi .i64 (rs.length : Int)), (12, vi .i64 (j : Int))])
   (fun (z_ : (Nat)) => match z_ with | j => [(5, .box [.d (.raw nilV), .d (.raw nilV), .d (.raw nilV)]), (6, .box [.own 7 ((rs.take j).flatMap (lowF v)).length, .own 8 ((rs.take j).flatMap (highF v)).length, .own 9 ((rs.take j).flatMap (othF v)).length]), (7, .row 63 5 (((rs.take j).flatMap (lowF v)).map SideD.d)), (8, .row 63 5 (((rs.take j).flatMap (highF v)).map SideD.d)), (9, .row 45 4 (((rs.take j).flatMap (othF v)).map RelD.d))])
   (fun (z_ : (Nat)) => match z_ with | j => rs.length - j) 0 ?_ h (by kernel_rfl) (by kernel_rfl) ?_
 ·exact Nat.zero_le _
 ·clear h; rintro j a w hI h
  change St _ (F.of [(1, vi .i64 v), (4, vp 5 0), (5, vp 6 0), (10, .t (.c (.d (.sl 4 (rs.map RelD.d))))), (11, vi .i64 (rs.length : Int)), (12, vi .i64 (j : Int))] [(5, .box [.d (.raw nilV), .d (.raw nilV), .d (.raw nilV)]), (6, .box [.own 7 ((rs.take j).flatMap (lowF v)).length, .own 8 ((rs.take j).flatMap (highF v)).length, .own 9 ((rs.take j).flatMap (othF v)).length]), (7, .row 63 5 (((rs.take j).flatMap (lowF v)).map SideD.d)), (8, .row 63 5 (((rs.take j).flatMap (highF v)).map SideD.d)), (9, .row 45 4 (((rs.take j).flatMap (othF v)).map RelD.d))]) a w at h
  have fl1 := flat_le (low_le v) (rs.take j)
  have fl2 := flat_le (high_le v) (rs.take j)
  have fl3 := flat_le (oth_le v) (rs.take j)
  rw [List.length_take] at fl1 fl2 fl3
  refine rSeq fam0ok 10 [] [(1, vi .i64 v), (4, vp 5 0), (5, vp 6 0), (10, .t (.c (.d (.sl 4 (rs.map RelD.d))))), (11, vi .i64 (rs.length : Int)), (12, vi .i64 (j : Int)), (13, vb (decide ((j : Int) < (rs.length : Int))))] [(5, .box [.d (.raw nilV), .d (.raw nilV), .d (.raw nilV)]), (6, .box [.own 7 ((rs.take j).flatMap (lowF v)).length, .own 8 ((rs.take j).flatMap (highF v)).length, .own 9 ((rs.take j).flatMap (othF v)).length]), (7, .row 63 5 (((rs.take j).flatMap (lowF v)).map SideD.d)), (8, .row 63 5 (((rs.take j).flatMap (highF v)).map SideD.d)), (9, .row 45 4 (((rs.take j).flatMap (othF v)).map RelD.d))] (by kernel_rfl) h ?_; clear h; intro a w h
  refine wp_seq ?_
  refine condS (decide ((j : Int) < (rs.length : Int))) h rfl (fun hc => ?_) (fun hc => ?_)
  ·have hc1 := hc; clear hc
   have hc1' := of_decide_eq_true hc1
   refine wp_skip ?_
   refine then_n ?_
   refine wp_seq ?_
   refine wp_block ?_
   obtain ⟨x1, hx1⟩ : ∃ z_ : RelD, rs[j]? = some z_ := ⟨_, List.getElem?_eq_getElem (by first | omega | (simp at *; omega))⟩
   have gx1 : TOk 20 8 x1.t := hrs.2 x1 (List.mem_of_getElem? hx1)
   refine rSeq fam0ok 10 [(0, .gen _ _ _ fun _ _ _ _ => Op.idxD (d := 14) (t := 10) (k := .i64) kc_3 (map_at hx1 (f := RelD.d)) (OV.tmp 12 _))] [(1, vi .i64 v), (4, vp 5 0), (5, vp 6 0), (7, vp 10 0), (10, .t (.c (.d (.sl 4 (rs.map RelD.d))))), (11, vi .i64 (rs.length : Int)), (12, vi .i64 (j : Int))] [(5, .box [.d (.raw nilV), .d (.raw nilV), .d (.raw nilV)]), (6, .box [.own 7 ((rs.take j).flatMap (lowF v)).length, .own 8 ((rs.take j).flatMap (highF v)).length, .own 9 ((rs.take j).flatMap (othF v)).length]), (7, .row 63 5 (((rs.take j).flatMap (lowF v)).map SideD.d)), (8, .row 63 5 (((rs.take j).flatMap (highF v)).map SideD.d)), (9, .row 45 4 (((rs.take j).flatMap (othF v)).map RelD.d)), (10, .box ([.d (.sl 3 (x1.t.parts.map Part.d))] ++ zi x1.t.k ++ [.d (.raw (.bool x1.eq))]))] (by kernel_rfl) h ?_; clear h; intro a w h
   obtain ⟨r2, er2, vr2, or2, lr2⟩ := mkZ (v := coefZ x1.t.parts v) (m := 9) (coef_len (TOk.mono gx1 (show 20 ≤ 1000 by decide) (Nat.le_refl 8)).psok v)
   refine rSeq fam0ok 11 [(3, .call (Fn.cast (STCoef x1.t v (TOk.mono (n' := 1000) (L' := 40000) gx1 (by decide) (by decide)).psok) (congrArg vz er2.symm)) tt_3)] [(1, vi .i64 v), (4, vp 5 0), (5, vp 6 0), (7, vp 10 0), (8, vp 11 0), (10, .t (.c (.d (.sl 4 (rs.map RelD.d))))), (11, vi .i64 (rs.length : Int)), (12, vi .i64 (j : Int))] [(5, .box [.d (.raw nilV), .d (.raw nilV), .d (.raw nilV)]), (6, .box [.own 7 ((rs.take j).flatMap (lowF v)).length, .own 8 ((rs.take j).flatMap (highF v)).length, .own 9 ((rs.take j).flatMap (othF v)).length]), (7, .row 63 5 (((rs.take j).flatMap (lowF v)).map SideD.d)), (8, .row 63 5 (((rs.take j).flatMap (highF v)).map SideD.d)), (9, .row 45 4 (((rs.take j).flatMap (othF v)).map RelD.d)), (10, .box ([.d (.sl 3 (x1.t.parts.map Part.d))] ++ zi x1.t.k ++ [.d (.raw (.bool x1.eq))])), (11, .box (zi r2))] (by kernel_rfl) h ?_; clear h; intro a w h
   obtain ⟨r3, er3, vr3, or3, lr3⟩ := mkZ (v := (r2.val.natAbs : Int)) (m := r2.abs.length) (len_abs or2)
   refine rSeq fam0ok 12 [(1, .call (Fn.cast (SAbs r2 or2 (by omega)) (congrArg vz er3.symm)) ha_4), (5, .call (SWithout x1.t v gx1 (by decide) (by decide)) ty_12)] [(1, vi .i64 v), (4, vp 5 0), (5, vp 6 0), (7, vp 10 0), (8, vp 11 0), (9, vp 12 0), (10, .t (.c (.d (.sl 4 (rs.map RelD.d))))), (11, vi .i64 (rs.length : Int)), (12, vi .i64 (j : Int))] [(5, .box [.d (.raw nilV), .d (.raw nilV), .d (.raw nilV)]), (6, .box [.own 7 ((rs.take j).flatMap (lowF v)).length, .own 8 ((rs.take j).flatMap (highF v)).length, .own 9 ((rs.take j).flatMap (othF v)).length]), (7, .row 63 5 (((rs.take j).flatMap (lowF v)).map SideD.d)), (8, .row 63 5 (((rs.take j).flatMap (highF v)).map SideD.d)), (9, .row 45 4 (((rs.take j).flatMap (othF v)).map RelD.d)), (10, .box ([.d (.sl 3 (x1.t.parts.map Part.d))] ++ zi x1.t.k ++ [.d (.raw (.bool x1.eq))])), (11, .box (zi r2)), (12, .box (zi r3 ++ [.d (.sl 3 ((woT x1.t v).parts.map Part.d))] ++ zi (woT x1.t v).k))] (by kernel_rfl) h ?_; clear h; intro a w h
   refine rSeq fam0ok 13 [(1, .call (SSign r2 or2 (by omega)) td_6)] [(1, vi .i64 v), (4, vp 5 0), (5, vp 6 0), (7, vp 10 0), (9, vp 12 0), (10, .t (.c (.d (.sl 4 (rs.map RelD.d))))), (11, vi .i64 (rs.length : Int)), (12, vi .i64 (j : Int)), (28, vi .i64 (sgn r2.val))] [(5, .box [.d (.raw nilV), .d (.raw nilV), .d (.raw nilV)]), (6, .box [.own 7 ((rs.take j).flatMap (lowF v)).length, .own 8 ((rs.take j).flatMap (highF v)).length, .own 9 ((rs.take j).flatMap (othF v)).length]), (7, .row 63 5 (((rs.take j).flatMap (lowF v)).map SideD.d)), (8, .row 63 5 (((rs.take j).flatMap (highF v)).map SideD.d)), (9, .row 45 4 (((rs.take j).flatMap (othF v)).map RelD.d)), (10, .box ([.d (.sl 3 (x1.t.parts.map Part.d))] ++ zi x1.t.k ++ [.d (.raw (.bool x1.eq))])), (12, .box (zi r3 ++ [.d (.sl 3 ((woT x1.t v).parts.map Part.d))] ++ zi (woT x1.t v).k))] (by kernel_rfl) h ?_; clear h; intro a w h
   refine wp_block ?_
   refine rSeq fam0ok 13 [] [(1, vi .i64 v), (4, vp 5 0), (5, vp 6 0), (7, vp 10 0), (9, vp 12 0), (10, .t (.c (.d (.sl 4 (rs.map RelD.d))))), (11, vi .i64 (rs.length : Int)), (12, vi .i64 (j : Int)), (28, vi .i64 (sgn r2.val)), (37, vb (sgn r2.val == 1))] [(5, .box [.d (.raw nilV), .d (.raw nilV), .d (.raw nilV)]), (6, .box [.own 7 ((rs.take j).flatMap (lowF v)).length, .own 8 ((rs.take j).flatMap (highF v)).length, .own 9 ((rs.take j).flatMap (othF v)).length]), (7, .row 63 5 (((rs.take j).flatMap (lowF v)).map SideD.d)), (8, .row 63 5 (((rs.take j).flatMap (highF v)).map SideD.d)), (9, .row 45 4 (((rs.take j).flatMap (othF v)).map RelD.d)), (10, .box ([.d (.sl 3 (x1.t.parts.map Part.d))] ++ zi x1.t.k ++ [.d (.raw (.bool x1.eq))])), (12, .box (zi r3 ++ [.d (.sl 3 ((woT x1.t v).parts.map Part.d))] ++ zi (woT x1.t v).k))] (by kernel_rfl) h ?_; clear h; intro a w h
   refine condS (sgn r2.val == 1) h rfl (fun hc => ?_) (fun hc => ?_)
   ·have hc2 := hc; clear hc
    have hc2' := hc2; (try simp at hc2')
    refine rS fam0ok 13 [(3, .gen _ _ _ fun _ _ _ _ => Op.buildD (d := 42) (len := 1) (rows := [(SideD.mk r3 (woT x1.t v))].map SideD.d) (rs := [(41, .t (.agg (zi r3 ++ [.d (.sl 3 ((woT x1.t v).parts.map Part.d))] ++ zi (woT x1.t v).k)))]) ha_7 (.cons (i := 0) (OV.tmp 41 _) (.nil)) (by kernel_rfl) rfl (by simp [SideD.d]) (by decide) (by decide)), (4, .gen _ _ _ fun _ _ _ _ => Op.appOD (d := 43) (t := 40) (u := 42) (n := 7) (n' := 13) (len := ((rs.take j).flatMap (lowF v)).length) (len' := (((rs.take j).flatMap (lowF v)) ++ [(SideD.mk r3 (woT x1.t v))]).length) (rows := ((rs.take j).flatMap (lowF v)).map SideD.d) (rows2 := [(SideD.mk r3 (woT x1.t v))].map SideD.d) (rows' := (((rs.take j).flatMap (lowF v)) ++ [(SideD.mk r3 (woT x1.t v))]).map SideD.d) ha_8 (by first | exact (List.length_map _).symm | simp) (by first | (rw [List.length_append, List.length_map]; done) | simp) (by simp) (by simp [SideD.d]) (by first | omega | (simp at *; done) | (simp at *; omega)))] [(1, vi .i64 v), (4, vp 5 0), (5, vp 6 0), (10, .t (.c (.d (.sl 4 (rs.map RelD.d))))), (11, vi .i64 (rs.length : Int)), (12, vi .i64 (j : Int))] [(5, .box [.d (.raw nilV), .d (.raw nilV), .d (.raw nilV)]), (6, .box ([.own 13 (((rs.take j).flatMap (lowF v)) ++ [(SideD.mk r3 (woT x1.t v))]).length, .own 8 ((rs.take j).flatMap (highF v)).length, .own 9 ((rs.take j).flatMap (othF v)).length])), (8, .row 63 5 (((rs.take j).flatMap (highF v)).map SideD.d)), (9, .row 45 4 (((rs.take j).flatMap (othF v)).map RelD.d)), (13, .row 63 5 ((((rs.take j).flatMap (lowF v)) ++ [(SideD.mk r3 (woT x1.t v))]).map SideD.d))] (by kernel_rfl) h ?_; clear h; intro a w h
    refine block_n ?_
    refine block_n ?_
    refine then_n ?_
    refine rS fam0ok 14 [(0, .add .i64 (m := (j : Int)) (n := 1) (i64_id (by omega) (by omega)))] [(1, vi .i64 v), (4, vp 5 0), (5, vp 6 0), (10, .t (.c (.d (.sl 4 (rs.map RelD.d))))), (11, vi .i64 (rs.length : Int)), (12, vi .i64 ((j : Int) + 1))] [(5, .box [.d (.raw nilV), .d (.raw nilV), .d (.raw nilV)]), (6, .box ([.own 13 (((rs.take j).flatMap (lowF v)) ++ [(SideD.mk r3 (woT x1.t v))]).length, .own 8 ((rs.take j).flatMap (highF v)).length, .own 9 ((rs.take j).flatMap (othF v)).length])), (8, .row 63 5 (((rs.take j).flatMap (highF v)).map SideD.d)), (9, .row 45 4 (((rs.take j).flatMap (othF v)).map RelD.d)), (13, .row 63 5 ((((rs.take j).flatMap (lowF v)) ++ [(SideD.mk r3 (woT x1.t v))]).map SideD.d))] (by kernel_rfl) h ?_; clear h; intro a w h
    refine then_n ?_
    have hcz := sgn1_t hc2
    rw [vr2] at hcz
    replace h := h.conv (f' := F.of [(1, vi .i64 v), (4, vp 5 0), (5, vp 6 0), (10, .t (.c (.d (.sl 4 (rs.map RelD.d))))), (11, vi .i64 (rs.length : Int)), (12, vi .i64 ((j : Int) + 1))] [(5, .box [.d (.raw nilV), .d (.raw nilV), .d (.raw nilV)]), (6, .box [.own 13 ((rs.take (j + 1)).flatMap (lowF v)).length, .own 8 ((rs.take j).flatMap (highF v)).length, .own 9 ((rs.take j).flatMap (othF v)).length]), (8, .row 63 5 (((rs.take j).flatMap (highF v)).map SideD.d)), (9, .row 45 4 (((rs.take j).flatMap (othF v)).map RelD.d)), (13, .row 63 5 (((rs.take (j + 1)).flatMap (lowF v)).map SideD.d))]) (congrArg (fun (z_ : List SideD) => F.of [(1, vi .i64 v), (4, vp 5 0), (5, vp 6 0), (10, .t (.c (.d (.sl 4 (rs.map RelD.d))))), (11, vi .i64 (rs.length : Int)), (12, vi .i64 ((j : Int) + 1))] [(5, .box [.d (.raw nilV), .d (.raw nilV), .d (.raw nilV)]), (6, .box [.own 13 z_.length, .own 8 ((rs.take j).flatMap (highF v)).length, .own 9 ((rs.take j).flatMap (othF v)).length]), (8, .row 63 5 (((rs.take j).flatMap (highF v)).map SideD.d)), (9, .row 45 4 (((rs.take j).flatMap (othF v)).map RelD.d)), (13, .row 63 5 (z_.map SideD.d))]) (show ((((rs.take j).flatMap (lowF v)) ++ [(SideD.mk r3 (woT x1.t v))]) : List SideD) = ((rs.take (j + 1)).flatMap (lowF v)) from (flat_snoc hx1 (by unfold lowF; rw [if_pos (by omega)]; unfold sideOf; rw [er3, vr2]))))
    replace h := h.conv (f' := F.of [(1, vi .i64 v), (4, vp 5 0), (5, vp 6 0), (10, .t (.c (.d (.sl 4 (rs.map RelD.d))))), (11, vi .i64 (rs.length : Int)), (12, vi .i64 ((j : Int) + 1))] [(5, .box [.d (.raw nilV), .d (.raw nilV), .d (.raw nilV)]), (6, .box [.own 13 ((rs.take (j + 1)).flatMap (lowF v)).length, .own 8 ((rs.take (j + 1)).flatMap (highF v)).length, .own 9 ((rs.take j).flatMap (othF v)).length]), (8, .row 63 5 (((rs.take (j + 1)).flatMap (highF v)).map SideD.d)), (9, .row 45 4 (((rs.take j).flatMap (othF v)).map RelD.d)), (13, .row 63 5 (((rs.take (j + 1)).flatMap (lowF v)).map SideD.d))]) (congrArg (fun (z_ : List SideD) => F.of [(1, vi .i64 v), (4, vp 5 0), (5, vp 6 0), (10, .t (.c (.d (.sl 4 (rs.map RelD.d))))), (11, vi .i64 (rs.length : Int)), (12, vi .i64 ((j : Int) + 1))] [(5, .box [.d (.raw nilV), .d (.raw nilV), .d (.raw nilV)]), (6, .box [.own 13 ((rs.take (j + 1)).flatMap (lowF v)).length, .own 8 z_.length, .own 9 ((rs.take j).flatMap (othF v)).length]), (8, .row 63 5 (z_.map SideD.d)), (9, .row 45 4 (((rs.take j).flatMap (othF v)).map RelD.d)), (13, .row 63 5 (((rs.take (j + 1)).flatMap (lowF v)).map SideD.d))]) (show (((rs.take j).flatMap (highF v)) : List SideD) = ((rs.take (j + 1)).flatMap (highF v)) from (flat_skip hx1 (by unfold highF; rw [if_neg (by omega)]))))
    replace h := h.conv (f' := F.of [(1, vi .i64 v), (4, vp 5 0), (5, vp 6 0), (10, .t (.c (.d (.sl 4 (rs.map RelD.d))))), (11, vi .i64 (rs.length : Int)), (12, vi .i64 ((j : Int) + 1))] [(5, .box [.d (.raw nilV), .d (.raw nilV), .d (.raw nilV)]), (6, .box [.own 13 ((rs.take (j + 1)).flatMap (lowF v)).length, .own 8 ((rs.take (j + 1)).flatMap (highF v)).length, .own 9 ((rs.take (j + 1)).flatMap (othF v)).length]), (8, .row 63 5 (((rs.take (j + 1)).flatMap (highF v)).map SideD.d)), (9, .row 45 4 (((rs.take (j + 1)).flatMap (othF v)).map RelD.d)), (13, .row 63 5 (((rs.take (j + 1)).flatMap (lowF v)).map SideD.d))]) (congrArg (fun (z_ : List RelD) => F.of [(1, vi .i64 v), (4, vp 5 0), (5, vp 6 0), (10, .t (.c (.d (.sl 4 (rs.map RelD.d))))), (11, vi .i64 (rs.length : Int)), (12, vi .i64 ((j : Int) + 1))] [(5, .box [.d (.raw nilV), .d (.raw nilV), .d (.raw nilV)]), (6, .box [.own 13 ((rs.take (j + 1)).flatMap (lowF v)).length, .own 8 ((rs.take (j + 1)).flatMap (highF v)).length, .own 9 z_.length]), (8, .row 63 5 (((rs.take (j + 1)).flatMap (highF v)).map SideD.d)), (9, .row 45 4 (z_.map RelD.d)), (13, .row 63 5 (((rs.take (j + 1)).flatMap (lowF v)).map SideD.d))]) (show (((rs.take j).flatMap (othF v)) : List RelD) = ((rs.take (j + 1)).flatMap (othF v)) from (flat_skip hx1 (by unfold othF; rw [if_neg (by omega)]))))
    replace h := renS 13 7 [(1, vi .i64 v), (4, vp 5 0), (5, vp 6 0), (10, .t (.c (.d (.sl 4 (rs.map RelD.d))))), (11, vi .i64 (rs.length : Int)), (12, vi .i64 ((j : Int) + 1))] [(5, .box [.d (.raw nilV), .d (.raw nilV), .d (.raw nilV)]), (6, .box [.own 7 ((rs.take (j + 1)).flatMap (lowF v)).length, .own 8 ((rs.take (j + 1)).flatMap (highF v)).length, .own 9 ((rs.take (j + 1)).flatMap (othF v)).length]), (8, .row 63 5 (((rs.take (j + 1)).flatMap (highF v)).map SideD.d)), (9, .row 45 4 (((rs.take (j + 1)).flatMap (othF v)).map RelD.d)), (7, .row 63 5 (((rs.take (j + 1)).flatMap (lowF v)).map SideD.d))] h (by kernel_rfl) (by kernel_rfl) (by kernel_rfl)
    refine roundS (x := j) (y := j + 1) h ?_ ?_ (by kernel_rfl) (by kernel_rfl)
    ·have := at_lt hx1
     show j + 1 ≤ rs.length
     omega
    ·show rs.length - (j + 1) < rs.length - j
     have := at_lt hx1; omega
   ·have hc3 := hc; clear hc
    have hc3' := hc3; (try simp at hc3')
    refine rSeq fam0ok 14 [] [(1, vi .i64 v), (4, vp 5 0), (5, vp 6 0), (7, vp 10 0), (9, vp 12 0), (10, .t (.c (.d (.sl 4 (rs.map RelD.d))))), (11, vi .i64 (rs.length : Int)), (12, vi .i64 (j : Int)), (45, vb (sgn r2.val == (-1)))] [(5, .box [.d (.raw nilV), .d (.raw nilV), .d (.raw nilV)]), (6, .box [.own 7 ((rs.take j).flatMap (lowF v)).length, .own 8 ((rs.take j).flatMap (highF v)).length, .own 9 ((rs.take j).flatMap (othF v)).length]), (7, .row 63 5 (((rs.take j).flatMap (lowF v)).map SideD.d)), (8, .row 63 5 (((rs.take j).flatMap (highF v)).map SideD.d)), (9, .row 45 4 (((rs.take j).flatMap (othF v)).map RelD.d)), (10, .box ([.d (.sl 3 (x1.t.parts.map Part.d))] ++ zi x1.t.k ++ [.d (.raw (.bool x1.eq))])), (12, .box (zi r3 ++ [.d (.sl 3 ((woT x1.t v).parts.map Part.d))] ++ zi (woT x1.t v).k))] (by kernel_rfl) h ?_; clear h; intro a w h
    refine condS (sgn r2.val == (-1)) h rfl (fun hc => ?_) (fun hc => ?_)
    ·have hc4 := hc; clear hc
     have hc4' := hc4; (try simp at hc4')
     refine rS fam0ok 14 [(3, .gen _ _ _ fun _ _ _ _ => Op.buildD (d := 50) (len := 1) (rows := [(SideD.mk r3 (woT x1.t v))].map SideD.d) (rs := [(49, .t (.agg (zi r3 ++ [.d (.sl 3 ((woT x1.t v).parts.map Part.d))] ++ zi (woT x1.t v).k)))]) ha_7 (.cons (i := 0) (OV.tmp 49 _) (.nil)) (by kernel_rfl) rfl (by simp [SideD.d]) (by decide) (by decide)), (4, .gen _ _ _ fun _ _ _ _ => Op.appOD (d := 51) (t := 48) (u := 50) (n := 8) (n' := 14) (len := ((rs.take j).flatMap (highF v)).length) (len' := (((rs.take j).flatMap (highF v)) ++ [(SideD.mk r3 (woT x1.t v))]).length) (rows := ((rs.take j).flatMap (highF v)).map SideD.d) (rows2 := [(SideD.mk r3 (woT x1.t v))].map SideD.d) (rows' := (((rs.take j).flatMap (highF v)) ++ [(SideD.mk r3 (woT x1.t v))]).map SideD.d) ha_8 (by first | exact (List.length_map _).symm | simp) (by first | (rw [List.length_append, List.length_map]; done) | simp) (by simp) (by simp [SideD.d]) (by first | omega | (simp at *; done) | (simp at *; omega)))] [(1, vi .i64 v), (4, vp 5 0), (5, vp 6 0), (10, .t (.c (.d (.sl 4 (rs.map RelD.d))))), (11, vi .i64 (rs.length : Int)), (12, vi .i64 (j : Int))] [(5, .box [.d (.raw nilV), .d (.raw nilV), .d (.raw nilV)]), (6, .box ([.own 7 ((rs.take j).flatMap (lowF v)).length, .own 14 (((rs.take j).flatMap (highF v)) ++ [(SideD.mk r3 (woT x1.t v))]).length, .own 9 ((rs.take j).flatMap (othF v)).length])), (7, .row 63 5 (((rs.take j).flatMap (lowF v)).map SideD.d)), (9, .row 45 4 (((rs.take j).flatMap (othF v)).map RelD.d)), (14, .row 63 5 ((((rs.take j).flatMap (highF v)) ++ [(SideD.mk r3 (woT x1.t v))]).map SideD.d))] (by kernel_rfl) h ?_; clear h; intro a w h
     refine block_n ?_
     refine block_n ?_
     refine then_n ?_
     refine rS fam0ok 15 [(0, .add .i64 (m := (j : Int)) (n := 1) (i64_id (by omega) (by omega)))] [(1, vi .i64 v), (4, vp 5 0), (5, vp 6 0), (10, .t (.c (.d (.sl 4 (rs.map RelD.d))))), (11, vi .i64 (rs.length : Int)), (12, vi .i64 ((j : Int) + 1))] [(5, .box [.d (.raw nilV), .d (.raw nilV), .d (.raw nilV)]), (6, .box ([.own 7 ((rs.take j).flatMap (lowF v)).length, .own 14 (((rs.take j).flatMap (highF v)) ++ [(SideD.mk r3 (woT x1.t v))]).length, .own 9 ((rs.take j).flatMap (othF v)).length])), (7, .row 63 5 (((rs.take j).flatMap (lowF v)).map SideD.d)), (9, .row 45 4 (((rs.take j).flatMap (othF v)).map RelD.d)), (14, .row 63 5 ((((rs.take j).flatMap (highF v)) ++ [(SideD.mk r3 (woT x1.t v))]).map SideD.d))] (by kernel_rfl) h ?_; clear h; intro a w h
     refine then_n ?_
     have hcz := sgn1_f hc3
     rw [vr2] at hcz
     have hcy := sgnm_t hc4
     rw [vr2] at hcy
     replace h := h.conv (f' := F.of [(1, vi .i64 v), (4, vp 5 0), (5, vp 6 0), (10, .t (.c (.d (.sl 4 (rs.map RelD.d))))), (11, vi .i64 (rs.length : Int)), (12, vi .i64 ((j : Int) + 1))] [(5, .box [.d (.raw nilV), .d (.raw nilV), .d (.raw nilV)]), (6, .box ([.own 7 ((rs.take (j + 1)).flatMap (lowF v)).length, .own 14 (((rs.take j).flatMap (highF v)) ++ [(SideD.mk r3 (woT x1.t v))]).length, .own 9 ((rs.take j).flatMap (othF v)).length])), (7, .row 63 5 (((rs.take (j + 1)).flatMap (lowF v)).map SideD.d)), (9, .row 45 4 (((rs.take j).flatMap (othF v)).map RelD.d)), (14, .row 63 5 ((((rs.take j).flatMap (highF v)) ++ [(SideD.mk r3 (woT x1.t v))]).map SideD.d))]) (congrArg (fun (z_ : List SideD) => F.of [(1, vi .i64 v), (4, vp 5 0), (5, vp 6 0), (10, .t (.c (.d (.sl 4 (rs.map RelD.d))))), (11, vi .i64 (rs.length : Int)), (12, vi .i64 ((j : Int) + 1))] [(5, .box [.d (.raw nilV), .d (.raw nilV), .d (.raw nilV)]), (6, .box ([.own 7 z_.length, .own 14 (((rs.take j).flatMap (highF v)) ++ [(SideD.mk r3 (woT x1.t v))]).length, .own 9 ((rs.take j).flatMap (othF v)).length])), (7, .row 63 5 (z_.map SideD.d)), (9, .row 45 4 (((rs.take j).flatMap (othF v)).map RelD.d)), (14, .row 63 5 ((((rs.take j).flatMap (highF v)) ++ [(SideD.mk r3 (woT x1.t v))]).map SideD.d))]) (show (((rs.take j).flatMap (lowF v)) : List SideD) = ((rs.take (j + 1)).flatMap (lowF v)) from (flat_skip hx1 (by unfold lowF; rw [if_neg (by omega)]))))
     replace h := h.conv (f' := F.of [(1, vi .i64 v), (4, vp 5 0), (5, vp 6 0), (10, .t (.c (.d (.sl 4 (rs.map RelD.d))))), (11, vi .i64 (rs.length : Int)), (12, vi .i64 ((j : Int) + 1))] [(5, .box [.d (.raw nilV), .d (.raw nilV), .d (.raw nilV)]), (6, .box [.own 7 ((rs.take (j + 1)).flatMap (lowF v)).length, .own 14 ((rs.take (j + 1)).flatMap (highF v)).length, .own 9 ((rs.take j).flatMap (othF v)).length]), (7, .row 63 5 (((rs.take (j + 1)).flatMap (lowF v)).map SideD.d)), (9, .row 45 4 (((rs.take j).flatMap (othF v)).map RelD.d)), (14, .row 63 5 (((rs.take (j + 1)).flatMap (highF v)).map SideD.d))]) (congrArg (fun (z_ : List SideD) => F.of [(1, vi .i64 v), (4, vp 5 0), (5, vp 6 0), (10, .t (.c (.d (.sl 4 (rs.map RelD.d))))), (11, vi .i64 (rs.length : Int)), (12, vi .i64 ((j : Int) + 1))] [(5, .box [.d (.raw nilV), .d (.raw nilV), .d (.raw nilV)]), (6, .box [.own 7 ((rs.take (j + 1)).flatMap (lowF v)).length, .own 14 z_.length, .own 9 ((rs.take j).flatMap (othF v)).length]), (7, .row 63 5 (((rs.take (j + 1)).flatMap (lowF v)).map SideD.d)), (9, .row 45 4 (((rs.take j).flatMap (othF v)).map RelD.d)), (14, .row 63 5 (z_.map SideD.d))]) (show ((((rs.take j).flatMap (highF v)) ++ [(SideD.mk r3 (woT x1.t v))]) : List SideD) = ((rs.take (j + 1)).flatMap (highF v)) from (flat_snoc hx1 (by unfold highF; rw [if_pos (by omega)]; unfold sideOf; rw [er3, vr2]))))
     replace h := h.conv (f' := F.of [(1, vi .i64 v), (4, vp 5 0), (5, vp 6 0), (10, .t (.c (.d (.sl 4 (rs.map RelD.d))))), (11, vi .i64 (rs.length : Int)), (12, vi .i64 ((j : Int) + 1))] [(5, .box [.d (.raw nilV), .d (.raw nilV), .d (.raw nilV)]), (6, .box [.own 7 ((rs.take (j + 1)).flatMap (lowF v)).length, .own 14 ((rs.take (j + 1)).flatMap (highF v)).length, .own 9 ((rs.take (j + 1)).flatMap (othF v)).length]), (7, .row 63 5 (((rs.take (j + 1)).flatMap (lowF v)).map SideD.d)), (9, .row 45 4 (((rs.take (j + 1)).flatMap (othF v)).map RelD.d)), (14, .row 63 5 (((rs.take (j + 1)).flatMap (highF v)).map SideD.d))]) (congrArg (fun (z_ : List RelD) => F.of [(1, vi .i64 v), (4, vp 5 0), (5, vp 6 0), (10, .t (.c (.d (.sl 4 (rs.map RelD.d))))), (11, vi .i64 (rs.length : Int)), (12, vi .i64 ((j : Int) + 1))] [(5, .box [.d (.raw nilV), .d (.raw nilV), .d (.raw nilV)]), (6, .box [.own 7 ((rs.take (j + 1)).flatMap (lowF v)).length, .own 14 ((rs.take (j + 1)).flatMap (highF v)).length, .own 9 z_.length]), (7, .row 63 5 (((rs.take (j + 1)).flatMap (lowF v)).map SideD.d)), (9, .row 45 4 (z_.map RelD.d)), (14, .row 63 5 (((rs.take (j + 1)).flatMap (highF v)).map SideD.d))]) (show (((rs.take j).flatMap (othF v)) : List RelD) = ((rs.take (j + 1)).flatMap (othF v)) from (flat_skip hx1 (by unfold othF; rw [if_neg (by omega)]))))
     replace h := renS 14 8 [(1, vi .i64 v), (4, vp 5 0), (5, vp 6 0), (10, .t (.c (.d (.sl 4 (rs.map RelD.d))))), (11, vi .i64 (rs.length : Int)), (12, vi .i64 ((j : Int) + 1))] [(5, .box [.d (.raw nilV), .d (.raw nilV), .d (.raw nilV)]), (6, .box [.own 7 ((rs.take (j + 1)).flatMap (lowF v)).length, .own 8 ((rs.take (j + 1)).flatMap (highF v)).length, .own 9 ((rs.take (j + 1)).flatMap (othF v)).length]), (7, .row 63 5 (((rs.take (j + 1)).flatMap (lowF v)).map SideD.d)), (9, .row 45 4 (((rs.take (j + 1)).flatMap (othF v)).map RelD.d)), (8, .row 63 5 (((rs.take (j + 1)).flatMap (highF v)).map SideD.d))] h (by kernel_rfl) (by kernel_rfl) (by kernel_rfl)
     refine roundS (x := j) (y := j + 1) h ?_ ?_ (by kernel_rfl) (by kernel_rfl)
     ·have := at_lt hx1
      show j + 1 ≤ rs.length
      omega
     ·show rs.length - (j + 1) < rs.length - j
      have := at_lt hx1; omega
    ·have hc5 := hc; clear hc
     have hc5' := hc5; (try simp at hc5')
     refine rS fam0ok 15 [(4, .call (SLeast x1.t (gx1.mono (by decide) (by decide))) ha_9), (5, .gen _ _ _ fun _ _ _ _ => Op.buildD (d := 34) (len := 1) (rows := [(lstR x1.t)].map RelD.d) (rs := [(33, .t (.agg ([.d (.sl 3 ((lstR x1.t).t.parts.map Part.d))] ++ zi (lstR x1.t).t.k ++ [.d (.raw (.bool (lstR x1.t).eq))])))]) kc_5 (.cons (i := 0) (OV.tmp 33 _) (.nil)) (by kernel_rfl) rfl (by simp [RelD.d]) (by decide) (by decide)), (6, .gen _ _ _ fun _ _ _ _ => Op.appOD (d := 35) (t := 30) (u := 34) (n := 9) (n' := 15) (len := ((rs.take j).flatMap (othF v)).length) (len' := (((rs.take j).flatMap (othF v)) ++ [(lstR x1.t)]).length) (rows := ((rs.take j).flatMap (othF v)).map RelD.d) (rows2 := [(lstR x1.t)].map RelD.d) (rows' := (((rs.take j).flatMap (othF v)) ++ [(lstR x1.t)]).map RelD.d) ha_11 (by first | exact (List.length_map _).symm | simp) (by first | (rw [List.length_append, List.length_map]; done) | simp) (by simp) (by simp [RelD.d]) (by first | omega | (simp at *; done) | (simp at *; omega)))] [(1, vi .i64 v), (4, vp 5 0), (5, vp 6 0), (10, .t (.c (.d (.sl 4 (rs.map RelD.d))))), (11, vi .i64 (rs.length : Int)), (12, vi .i64 (j : Int))] [(5, .box [.d (.raw nilV), .d (.raw nilV), .d (.raw nilV)]), (6, .box ([.own 7 ((rs.take j).flatMap (lowF v)).length, .own 8 ((rs.take j).flatMap (highF v)).length, .own 15 (((rs.take j).flatMap (othF v)) ++ [(lstR x1.t)]).length])), (7, .row 63 5 (((rs.take j).flatMap (lowF v)).map SideD.d)), (8, .row 63 5 (((rs.take j).flatMap (highF v)).map SideD.d)), (15, .row 45 4 ((((rs.take j).flatMap (othF v)) ++ [(lstR x1.t)]).map RelD.d))] (by kernel_rfl) h ?_; clear h; intro a w h
     refine block_n ?_
     refine block_n ?_
     refine then_n ?_
     refine rS fam0ok 16 [(0, .add .i64 (m := (j : Int)) (n := 1) (i64_id (by omega) (by omega)))] [(1, vi .i64 v), (4, vp 5 0), (5, vp 6 0), (10, .t (.c (.d (.sl 4 (rs.map RelD.d))))), (11, vi .i64 (rs.length : Int)), (12, vi .i64 ((j : Int) + 1))] [(5, .box [.d (.raw nilV), .d (.raw nilV), .d (.raw nilV)]), (6, .box ([.own 7 ((rs.take j).flatMap (lowF v)).length, .own 8 ((rs.take j).flatMap (highF v)).length, .own 15 (((rs.take j).flatMap (othF v)) ++ [(lstR x1.t)]).length])), (7, .row 63 5 (((rs.take j).flatMap (lowF v)).map SideD.d)), (8, .row 63 5 (((rs.take j).flatMap (highF v)).map SideD.d)), (15, .row 45 4 ((((rs.take j).flatMap (othF v)) ++ [(lstR x1.t)]).map RelD.d))] (by kernel_rfl) h ?_; clear h; intro a w h
     refine then_n ?_
     have hcz := sgn1_f hc3
     rw [vr2] at hcz
     have hcy := sgnm_f hc5
     rw [vr2] at hcy
     replace h := h.conv (f' := F.of [(1, vi .i64 v), (4, vp 5 0), (5, vp 6 0), (10, .t (.c (.d (.sl 4 (rs.map RelD.d))))), (11, vi .i64 (rs.length : Int)), (12, vi .i64 ((j : Int) + 1))] [(5, .box [.d (.raw nilV), .d (.raw nilV), .d (.raw nilV)]), (6, .box ([.own 7 ((rs.take (j + 1)).flatMap (lowF v)).length, .own 8 ((rs.take j).flatMap (highF v)).length, .own 15 (((rs.take j).flatMap (othF v)) ++ [(lstR x1.t)]).length])), (7, .row 63 5 (((rs.take (j + 1)).flatMap (lowF v)).map SideD.d)), (8, .row 63 5 (((rs.take j).flatMap (highF v)).map SideD.d)), (15, .row 45 4 ((((rs.take j).flatMap (othF v)) ++ [(lstR x1.t)]).map RelD.d))]) (congrArg (fun (z_ : List SideD) => F.of [(1, vi .i64 v), (4, vp 5 0), (5, vp 6 0), (10, .t (.c (.d (.sl 4 (rs.map RelD.d))))), (11, vi .i64 (rs.length : Int)), (12, vi .i64 ((j : Int) + 1))] [(5, .box [.d (.raw nilV), .d (.raw nilV), .d (.raw nilV)]), (6, .box ([.own 7 z_.length, .own 8 ((rs.take j).flatMap (highF v)).length, .own 15 (((rs.take j).flatMap (othF v)) ++ [(lstR x1.t)]).length])), (7, .row 63 5 (z_.map SideD.d)), (8, .row 63 5 (((rs.take j).flatMap (highF v)).map SideD.d)), (15, .row 45 4 ((((rs.take j).flatMap (othF v)) ++ [(lstR x1.t)]).map RelD.d))]) (show (((rs.take j).flatMap (lowF v)) : List SideD) = ((rs.take (j + 1)).flatMap (lowF v)) from (flat_skip hx1 (by unfold lowF; rw [if_neg (by omega)]))))
     replace h := h.conv (f' := F.of [(1, vi .i64 v), (4, vp 5 0), (5, vp 6 0), (10, .t (.c (.d (.sl 4 (rs.map RelD.d))))), (11, vi .i64 (rs.length : Int)), (12, vi .i64 ((j : Int) + 1))] [(5, .box [.d (.raw nilV), .d (.raw nilV), .d (.raw nilV)]), (6, .box ([.own 7 ((rs.take (j + 1)).flatMap (lowF v)).length, .own 8 ((rs.take (j + 1)).flatMap (highF v)).length, .own 15 (((rs.take j).flatMap (othF v)) ++ [(lstR x1.t)]).length])), (7, .row 63 5 (((rs.take (j + 1)).flatMap (lowF v)).map SideD.d)), (8, .row 63 5 (((rs.take (j + 1)).flatMap (highF v)).map SideD.d)), (15, .row 45 4 ((((rs.take j).flatMap (othF v)) ++ [(lstR x1.t)]).map RelD.d))]) (congrArg (fun (z_ : List SideD) => F.of [(1, vi .i64 v), (4, vp 5 0), (5, vp 6 0), (10, .t (.c (.d (.sl 4 (rs.map RelD.d))))), (11, vi .i64 (rs.length : Int)), (12, vi .i64 ((j : Int) + 1))] [(5, .box [.d (.raw nilV), .d (.raw nilV), .d (.raw nilV)]), (6, .box ([.own 7 ((rs.take (j + 1)).flatMap (lowF v)).length, .own 8 z_.length, .own 15 (((rs.take j).flatMap (othF v)) ++ [(lstR x1.t)]).length])), (7, .row 63 5 (((rs.take (j + 1)).flatMap (lowF v)).map SideD.d)), (8, .row 63 5 (z_.map SideD.d)), (15, .row 45 4 ((((rs.take j).flatMap (othF v)) ++ [(lstR x1.t)]).map RelD.d))]) (show (((rs.take j).flatMap (highF v)) : List SideD) = ((rs.take (j + 1)).flatMap (highF v)) from (flat_skip hx1 (by unfold highF; rw [if_neg (by omega)]))))
     replace h := h.conv (f' := F.of [(1, vi .i64 v), (4, vp 5 0), (5, vp 6 0), (10, .t (.c (.d (.sl 4 (rs.map RelD.d))))), (11, vi .i64 (rs.length : Int)), (12, vi .i64 ((j : Int) + 1))] [(5, .box [.d (.raw nilV), .d (.raw nilV), .d (.raw nilV)]), (6, .box [.own 7 ((rs.take (j + 1)).flatMap (lowF v)).length, .own 8 ((rs.take (j + 1)).flatMap (highF v)).length, .own 15 ((rs.take (j + 1)).flatMap (othF v)).length]), (7, .row 63 5 (((rs.take (j + 1)).flatMap (lowF v)).map SideD.d)), (8, .row 63 5 (((rs.take (j + 1)).flatMap (highF v)).map SideD.d)), (15, .row 45 4 (((rs.take (j + 1)).flatMap (othF v)).map RelD.d))]) (congrArg (fun (z_ : List RelD) => F.of [(1, vi .i64 v), (4, vp 5 0), (5, vp 6 0), (10, .t (.c (.d (.sl 4 (rs.map RelD.d))))), (11, vi .i64 (rs.length : Int)), (12, vi .i64 ((j : Int) + 1))] [(5, .box [.d (.raw nilV), .d (.raw nilV), .d (.raw nilV)]), (6, .box [.own 7 ((rs.take (j + 1)).flatMap (lowF v)).length, .own 8 ((rs.take (j + 1)).flatMap (highF v)).length, .own 15 z_.length]), (7, .row 63 5 (((rs.take (j + 1)).flatMap (lowF v)).map SideD.d)), (8, .row 63 5 (((rs.take (j + 1)).flatMap (highF v)).map SideD.d)), (15, .row 45 4 (z_.map RelD.d))]) (show ((((rs.take j).flatMap (othF v)) ++ [(lstR x1.t)]) : List RelD) = ((rs.take (j + 1)).flatMap (othF v)) from (flat_snoc hx1 (by unfold othF; rw [if_pos (by omega)]))))
     replace h := renS 15 9 [(1, vi .i64 v), (4, vp 5 0), (5, vp 6 0), (10, .t (.c (.d (.sl 4 (rs.map RelD.d))))), (11, vi .i64 (rs.length : Int)), (12, vi .i64 ((j : Int) + 1))] [(5, .box [.d (.raw nilV), .d (.raw nilV), .d (.raw nilV)]), (6, .box [.own 7 ((rs.take (j + 1)).flatMap (lowF v)).length, .own 8 ((rs.take (j + 1)).flatMap (highF v)).length, .own 9 ((rs.take (j + 1)).flatMap (othF v)).length]), (7, .row 63 5 (((rs.take (j + 1)).flatMap (lowF v)).map SideD.d)), (8, .row 63 5 (((rs.take (j + 1)).flatMap (highF v)).map SideD.d)), (9, .row 45 4 (((rs.take (j + 1)).flatMap (othF v)).map RelD.d))] h (by kernel_rfl) (by kernel_rfl) (by kernel_rfl)
     refine roundS (x := j) (y := j + 1) h ?_ ?_ (by kernel_rfl) (by kernel_rfl)
     ·have := at_lt hx1
      show j + 1 ≤ rs.length
      omega
     ·show rs.length - (j + 1) < rs.length - j
      have := at_lt hx1; omega
  ·have hc6 := hc; clear hc
   have hc6' := of_decide_eq_false hc6
   refine wp_exit ?_
   refine then_x ?_
   refine then_x ?_
   refine inBlock_exit ?_
   refine then_n ?_
   refine rSeq fam0ok 16 [] [(4, vp 5 0)] [(5, .box [.own 7 ((rs.take j).flatMap (lowF v)).length, .own 8 ((rs.take j).flatMap (highF v)).length, .own 9 ((rs.take j).flatMap (othF v)).length]), (7, .row 63 5 (((rs.take j).flatMap (lowF v)).map SideD.d)), (8, .row 63 5 (((rs.take j).flatMap (highF v)).map SideD.d)), (9, .row 45 4 (((rs.take j).flatMap (othF v)).map RelD.d))] (by kernel_rfl) h ?_; clear h; intro a w h
   refine wp_ret ?_
   replace h := h.conv (f' := F.of [(4, vp 5 0)] [(5, .box [.own 7 (lowsOf rs v).length, .own 8 ((rs.take j).flatMap (highF v)).length, .own 9 ((rs.take j).flatMap (othF v)).length]), (7, .row 63 5 ((lowsOf rs v).map SideD.d)), (8, .row 63 5 (((rs.take j).flatMap (highF v)).map SideD.d)), (9, .row 45 4 (((rs.take j).flatMap (othF v)).map RelD.d))]) (congrArg (fun (z_ : List SideD) => F.of [(4, vp 5 0)] [(5, .box [.own 7 z_.length, .own 8 ((rs.take j).flatMap (highF v)).length, .own 9 ((rs.take j).flatMap (othF v)).length]), (7, .row 63 5 (z_.map SideD.d)), (8, .row 63 5 (((rs.take j).flatMap (highF v)).map SideD.d)), (9, .row 45 4 (((rs.take j).flatMap (othF v)).map RelD.d))]) (show (((rs.take j).flatMap (lowF v)) : List SideD) = (lowsOf rs v) from (by unfold lowsOf; rw [List.take_of_length_le (by omega)])))
   replace h := h.conv (f' := F.of [(4, vp 5 0)] [(5, .box [.own 7 (lowsOf rs v).length, .own 8 (highsOf rs v).length, .own 9 ((rs.take j).flatMap (othF v)).length]), (7, .row 63 5 ((lowsOf rs v).map SideD.d)), (8, .row 63 5 ((highsOf rs v).map SideD.d)), (9, .row 45 4 (((rs.take j).flatMap (othF v)).map RelD.d))]) (congrArg (fun (z_ : List SideD) => F.of [(4, vp 5 0)] [(5, .box [.own 7 (lowsOf rs v).length, .own 8 z_.length, .own 9 ((rs.take j).flatMap (othF v)).length]), (7, .row 63 5 ((lowsOf rs v).map SideD.d)), (8, .row 63 5 (z_.map SideD.d)), (9, .row 45 4 (((rs.take j).flatMap (othF v)).map RelD.d))]) (show (((rs.take j).flatMap (highF v)) : List SideD) = (highsOf rs v) from (by unfold highsOf; rw [List.take_of_length_le (by omega)])))
   replace h := h.conv (f' := F.of [(4, vp 5 0)] [(5, .box [.own 7 (lowsOf rs v).length, .own 8 (highsOf rs v).length, .own 9 (othersOf rs v).length]), (7, .row 63 5 ((lowsOf rs v).map SideD.d)), (8, .row 63 5 ((highsOf rs v).map SideD.d)), (9, .row 45 4 ((othersOf rs v).map RelD.d))]) (congrArg (fun (z_ : List RelD) => F.of [(4, vp 5 0)] [(5, .box [.own 7 (lowsOf rs v).length, .own 8 (highsOf rs v).length, .own 9 z_.length]), (7, .row 63 5 ((lowsOf rs v).map SideD.d)), (8, .row 63 5 ((highsOf rs v).map SideD.d)), (9, .row 45 4 (z_.map RelD.d))]) (show (((rs.take j).flatMap (othF v)) : List RelD) = (othersOf rs v) from (by unfold othersOf; rw [List.take_of_length_le (by omega)])))
   replace h := pubS 7 5 63 ((lowsOf rs v).map SideD.d) [(4, vp 5 0)] [(5, .box [.d (.sl 5 ((lowsOf rs v).map SideD.d)), .own 8 (highsOf rs v).length, .own 9 (othersOf rs v).length]), (8, .row 63 5 ((highsOf rs v).map SideD.d)), (9, .row 45 4 ((othersOf rs v).map RelD.d))] h rfl trivial (show AllEq _ [(lowsOf rs v).length] from ⟨by first | exact (List.length_map _).symm | (simp; done) | (simp; omega), trivial⟩) (by kernel_rfl) (by kernel_rfl)
   replace h := pubS 8 5 63 ((highsOf rs v).map SideD.d) [(4, vp 5 0)] [(5, .box [.d (.sl 5 ((lowsOf rs v).map SideD.d)), .d (.sl 5 ((highsOf rs v).map SideD.d)), .own 9 (othersOf rs v).length]), (9, .row 45 4 ((othersOf rs v).map RelD.d))] h rfl trivial (show AllEq _ [(highsOf rs v).length] from ⟨by first | exact (List.length_map _).symm | (simp; done) | (simp; omega), trivial⟩) (by kernel_rfl) (by kernel_rfl)
   replace h := pubS 9 4 45 ((othersOf rs v).map RelD.d) [(4, vp 5 0)] [(5, .box [.d (.sl 5 ((lowsOf rs v).map SideD.d)), .d (.sl 5 ((highsOf rs v).map SideD.d)), .d (.sl 4 ((othersOf rs v).map RelD.d))])] h rfl trivial (show AllEq _ [(othersOf rs v).length] from ⟨by first | exact (List.length_map _).symm | (simp; done) | (simp; omega), trivial⟩) (by kernel_rfl) (by kernel_rfl)
   refine retS [.agg [.d (.sl 5 ((lowsOf rs v).map SideD.d)), .d (.sl 5 ((highsOf rs v).map SideD.d)), .d (.sl 4 ((othersOf rs v).map RelD.d))]] h Exit.ret (.inl rfl)  rfl ⟨RV.agg _ 5 0 _ _ _ _ ha_12 rfl rfl rfl rfl, trivial⟩ ?_ (by kernel_rfl) (by kernel_rfl)
   rfl
end Go.Proofs.YtoklkfmffmonoaaGreat.S
end
section
namespace Go.Proofs.YtoklkfmffmonoaaGreat.S
open Go.RowKit

end Go.Proofs.YtoklkfmffmonoaaGreat.S
end
section
namespace Go.Proofs.YtoklkfmffmonoaaGreat.S
open Go.RowKit

theorem hb_1 : SlT Tryz.prog 58 63 5 := SlT.mk' Tryz.underlying58 (by kernel_rfl)
theorem hb_15 : Bodied Tryz.prog 30 := Bodied.mk' (by kernel_rfl)
theorem hb_23 : Bodied Tryz.prog 99 := Bodied.mk' (by kernel_rfl)
def maxS (l : List SideD) : Int := l.foldl (fun m s => max m s.times.val) 0
def lastZ (a b : Int) : Int := (b * a - b - a).fdiv b
def eqR (l : SideD) (v i : Int) : RelD := ⟨plainT (subT (addT (scaleT (varT v) l.times) l.rest) (numT (ZI.of i))), true⟩
def leastZ (s : SideD) (vs : List ZI) : Int := -((-(-valT s.rest vs)).fdiv s.times.val)
def mostZ (s : SideD) (vs : List ZI) : Int := (valT s.rest vs).fdiv s.times.val
theorem mapSnoc {α β : Type} {f : α → β} {xs : List α} {j : Nat} {x : α} (h : xs[j]? = some x) : (xs.take j).map f ++ [f x] = (xs.take (j + 1)).map f := by rw [List.take_add_one, h, List.map_append]; rfl
theorem subT_ok {n m L : Nat} {s t : Term} (hs : TOk n L s) (ht : TOk m L t) (hnm : n + m ≤ 1000) : TOk (n + m) (L + L + 8) (subT s t) := by
 have h1 : TOk m (L + 2 + 1) (scaleT t (ZI.of (-1))) := (TOk.mul (M := 2) ht (ZI.lb_of _) (by decide)).plain (by omega)
 exact (addT_ok (L := L + 3) (hs.mono (Nat.le_refl _) (by omega)) (h1.mono (Nat.le_refl _) (by omega)) hnm).mono (Nat.le_refl _) (by omega)
theorem scaleT_ok {n L M : Nat} {t : Term} {q : ZI} (ht : TOk n L t) (hq : Lb q.abs) (lq : q.abs.length ≤ M) (hn : n ≤ 1000) : TOk n (L + M + 1) (scaleT t q) := (TOk.mul ht hq lq).plain hn
theorem max_len {x y : ZI} {L : Nat} (hx : Lb x.abs) (hy : Lb y.abs) (lx : x.abs.length ≤ L) (ly : y.abs.length ≤ L) : (ZI.of (max x.val y.val)).abs.length ≤ L := by
 rcases Int.le_total x.val y.val with h | h
 ·rw [Int.max_eq_right h]; exact Nat.le_trans (len_id hy) ly
 ·rw [Int.max_eq_left h]; exact Nat.le_trans (len_id hx) lx
theorem max_take {l : List SideD} {j : Nat} {s : SideD} (h : l[j]? = some s) : maxS (l.take (j + 1)) = max (maxS (l.take j)) s.times.val := by
 unfold maxS; rw [List.take_add_one, h, List.foldl_append]; rfl
theorem num_len {k : ZI} {L : Nat} (hk : Lb k.abs) (lk : k.abs.length ≤ L) : (ZI.of k.val).abs.length ≤ L := Nat.le_trans (len_id hk) lk
set_option maxHeartbeats 4000000 in
theorem SMaxN (x y : ZI) (hx : Lb x.abs) (hy : Lb y.abs) (lx : x.abs.length ≤ 1000) (ly : y.abs.length ≤ 1000) : Fn Tryz.prog 99 [] [vz x, vz y] (vz (ZI.of (max x.val y.val))) [] := by
 refine Fn.body Tryz.func99 rfl 13 rfl fun w H B a h => ?_
 refine rSeq fam0ok 0 [] [(2, vp 0 0), (3, vp 1 0), (4, vp 2 0)] [(0, .box (zi x)), (1, .box (zi y)), (2, .box [.d (.raw (.bool false)), .d (nsl [])])] (by kernel_rfl) h ?_; clear h; intro a w h
 refine wp_seq ?_
 refine rSeq fam0ok 3 [(2, .call (SCmp x y hx hy (by omega) (by omega)) tx_2)] [(2, vp 0 0), (3, vp 1 0), (4, vp 2 0), (8, vb (decide (cmpZ x.val y.val ≥ 0)))] [(0, .box (zi x)), (1, .box (zi y)), (2, .box [.d (.raw (.bool false)), .d (nsl [])])] (by kernel_rfl) h ?_; clear h; intro a w h
 refine condS (decide (cmpZ x.val y.val ≥ 0)) h rfl (fun hc => ?_) (fun hc => ?_)
 ·have hc1 := hc; clear hc
  have hc1' := of_decide_eq_true hc1
  obtain ⟨r2, er2, vr2, or2, lr2⟩ := mkZ (v := x.val) (m := x.abs.length) (len_id hx)
  refine rSeq fam0ok 3 [(1, .call (Fn.cast (SClean x hx (by omega)) (congrArg vz er2.symm)) ia_5)] [(3, vp 1 0), (4, vp 2 0)] [(1, .box (zi y)), (2, .box (zi r2))] (by kernel_rfl) h ?_; clear h; intro a w h
  refine wp_ret ?_
  refine then_r ?_
  refine retS [.agg (zi r2)] h Exit.ret (.inl rfl)  rfl ⟨RV.agg _ 2 0 _ _ _ _ ia_1 rfl rfl rfl rfl, trivial⟩ ?_ (by kernel_rfl) (by kernel_rfl)
  have hz : max x.val y.val = x.val := by have := of_decide_eq_true hc1; unfold cmpZ at this; (split at this; omega; split at this <;> omega)
  rw [hz]; first | (rw [er2]; done) | (rw [er2]; rfl)
 ·have hc2 := hc; clear hc
  have hc2' := of_decide_eq_false hc2
  refine wp_skip ?_
  refine then_n ?_
  obtain ⟨r3, er3, vr3, or3, lr3⟩ := mkZ (v := y.val) (m := y.abs.length) (len_id hy)
  refine rSeq fam0ok 3 [(1, .call (Fn.cast (SClean y hy (by omega)) (congrArg vz er3.symm)) ia_5)] [(4, vp 2 0)] [(2, .box (zi r3))] (by kernel_rfl) h ?_; clear h; intro a w h
  refine wp_ret ?_
  refine retS [.agg (zi r3)] h Exit.ret (.inl rfl)  rfl ⟨RV.agg _ 2 0 _ _ _ _ ia_1 rfl rfl rfl rfl, trivial⟩ ?_ (by kernel_rfl) (by kernel_rfl)
  have hz : max x.val y.val = y.val := by have := of_decide_eq_false hc2; unfold cmpZ at this; (split at this; omega; split at this <;> omega)
  rw [hz]; first | (rw [er3]; done) | (rw [er3]; rfl)
set_option maxHeartbeats 4000000 in
theorem SGreatest (l : List SideD) (hl : ∀ s ∈ l, SideOk s) (hn : l.length ≤ 1000) : Fn Tryz.prog 64 [] [.t (.c (.d (.sl 5 (l.map SideD.d))))] (vz (ZI.of (maxS l))) [] := by
 refine Fn.body Tryz.func64 rfl 19 rfl fun w H B a h => ?_
 refine rSeq fam0ok 0 [] [(0, .t (.c (.d (.sl 5 (l.map SideD.d))))), (2, vp 0 0)] [(0, .box [.d (.raw (.bool false)), .d (nsl [])])] (by kernel_rfl) h ?_; clear h; intro a w h
 refine rSeq fam0ok 1 [] [(0, .t (.c (.d (.sl 5 (l.map SideD.d))))), (2, vp 0 0), (3, vp 1 0)] [(0, .box [.d (.raw (.bool false)), .d (nsl [])]), (1, .box [.d (.raw (.bool false)), .d (nsl [])])] (by kernel_rfl) h ?_; clear h; intro a w h
 refine wp_seq ?_
 refine rSeq fam0ok 2 [(1, .len (c := (.d (.sl 5 (l.map SideD.d)))) (n := l.length) (lenC_map _ _ _))] [(2, vp 0 0), (3, vp 1 0), (7, .t (.c (.d (.sl 5 (l.map SideD.d))))), (8, vi .i64 (l.length : Int)), (9, vi .i64 0)] [(0, .box [.d (.raw (.bool false)), .d (nsl [])]), (1, .box [.d (.raw (.bool false)), .d (nsl [])])] (by kernel_rfl) h ?_; clear h; intro a w h
 refine wp_block ?_
 refine loopS (ι := (Nat) × (ZI)) (fun (z_ : (Nat) × (ZI)) => match z_ with | (j, out) => j ≤ l.length ∧ out = ZI.of (maxS (l.take j)) ∧ out.abs.length ≤ 9)
   (fun (z_ : (Nat) × (ZI)) => match z_ with | (j, out) => [(2, vp 0 0), (3, vp 1 0), (7, .t (.c (.d (.sl 5 (l.map SideD.d))))), (8, vi .i64 (l.length : Int)), (9, vi .i64 (j : Int))])
   (fun (z_ : (Nat) × (ZI)) => match z_ with | (j, out) => [(0, .box [.d (.raw (.bool false)), .d (nsl [])]), (1, .box (zi out))])
   (fun (z_ : (Nat) × (ZI)) => match z_ with | (j, out) => l.length - j) (0, (ZI.of 0)) ?_ h (by kernel_rfl) (by kernel_rfl) ?_
 ·exact ⟨Nat.zero_le _, rfl, Nat.zero_le _⟩
 ·clear h; rintro ⟨j, out⟩ a w hI h
  change St _ (F.of [(2, vp 0 0), (3, vp 1 0), (7, .t (.c (.d (.sl 5 (l.map SideD.d))))), (8, vi .i64 (l.length : Int)), (9, vi .i64 (j : Int))] [(0, .box [.d (.raw (.bool false)), .d (nsl [])]), (1, .box (zi out))]) a w at h
  obtain ⟨hI1, hI2, hI3⟩ := hI
  have lout : Lb out.abs := by rw [hI2]; exact ZI.lb_of _
  refine rSeq fam0ok 2 [] [(2, vp 0 0), (3, vp 1 0), (7, .t (.c (.d (.sl 5 (l.map SideD.d))))), (8, vi .i64 (l.length : Int)), (9, vi .i64 (j : Int)), (10, vb (decide ((j : Int) < (l.length : Int))))] [(0, .box [.d (.raw (.bool false)), .d (nsl [])]), (1, .box (zi out))] (by kernel_rfl) h ?_; clear h; intro a w h
  refine wp_seq ?_
  refine condS (decide ((j : Int) < (l.length : Int))) h rfl (fun hc => ?_) (fun hc => ?_)
  ·have hc1 := hc; clear hc
   have hc1' := of_decide_eq_true hc1
   refine wp_skip ?_
   refine then_n ?_
   refine wp_seq ?_
   refine wp_block ?_
   obtain ⟨x1, hx1⟩ : ∃ z_ : SideD, l[j]? = some z_ := ⟨_, List.getElem?_eq_getElem (by first | omega | (simp at *; omega))⟩
   have gx1 := hl x1 (List.mem_of_getElem? hx1)
   have lgx1 := gx1.len
   refine rSeq fam0ok 2 [(0, .gen _ _ _ fun _ _ _ _ => Op.idxD (d := 11) (t := 7) (k := .i64) hb_1 (map_at hx1 (f := SideD.d)) (OV.tmp 9 _))] [(2, vp 0 0), (3, vp 1 0), (5, vp 2 0), (7, .t (.c (.d (.sl 5 (l.map SideD.d))))), (8, vi .i64 (l.length : Int)), (9, vi .i64 (j : Int))] [(0, .box [.d (.raw (.bool false)), .d (nsl [])]), (1, .box (zi out)), (2, .box (zi x1.times ++ [.d (.sl 3 (x1.rest.parts.map Part.d))] ++ zi x1.rest.k))] (by kernel_rfl) h ?_; clear h; intro a w h
   obtain ⟨r2, er2, vr2, or2, lr2⟩ := mkZ (v := max out.val x1.times.val) (m := 1000) (max_len lout gx1.lb (by omega) (by omega))
   refine rS fam0ok 3 [(3, .call (Fn.cast (SMaxN out x1.times lout gx1.lb (by omega) (by omega)) (congrArg vz er2.symm)) hb_23)] [(2, vp 0 0), (3, vp 1 0), (7, .t (.c (.d (.sl 5 (l.map SideD.d))))), (8, vi .i64 (l.length : Int)), (9, vi .i64 (j : Int))] [(0, .box [.d (.raw (.bool false)), .d (nsl [])]), (1, .box (zi r2))] (by kernel_rfl) h ?_; clear h; intro a w h
   refine block_n ?_
   refine then_n ?_
   refine rS fam0ok 3 [(0, .add .i64 (m := (j : Int)) (n := 1) (i64_id (by omega) (by omega)))] [(2, vp 0 0), (3, vp 1 0), (7, .t (.c (.d (.sl 5 (l.map SideD.d))))), (8, vi .i64 (l.length : Int)), (9, vi .i64 ((j : Int) + 1))] [(0, .box [.d (.raw (.bool false)), .d (nsl [])]), (1, .box (zi r2))] (by kernel_rfl) h ?_; clear h; intro a w h
   refine then_n ?_
   refine roundS (x := (j, out)) (y := (j + 1, r2)) h ?_ ?_ (by kernel_rfl) (by kernel_rfl)
   ·have := at_lt hx1
    exact ⟨by omega, by rw [er2, max_take hx1, hI2, ZI.val_of], by rw [er2]; exact max_len lout gx1.lb hI3 gx1.len⟩
   ·show l.length - (j + 1) < l.length - j
    have := at_lt hx1; omega
  ·have hc2 := hc; clear hc
   have hc2' := of_decide_eq_false hc2
   refine wp_exit ?_
   refine then_x ?_
   refine then_x ?_
   refine inBlock_exit ?_
   refine then_n ?_
   refine rSeq fam0ok 3 [] [(2, vp 0 0)] [(0, .box (zi out))] (by kernel_rfl) h ?_; clear h; intro a w h
   refine wp_ret ?_
   refine retS [.agg (zi out)] h Exit.ret (.inl rfl)  rfl ⟨RV.agg _ 0 0 _ _ _ _ ia_1 rfl rfl rfl rfl, trivial⟩ ?_ (by kernel_rfl) (by kernel_rfl)
   rw [hI2, List.take_of_length_le (by omega)]; first | done | rfl
set_option maxHeartbeats 4000000 in
theorem SLast (x y : ZI) (hx : Lb x.abs) (hy : Lb y.abs) (lx : x.abs.length ≤ 9) (ly : y.abs.length ≤ 9) (h0 : y.val ≠ 0) : Fn Tryz.prog 66 [] [vz x, vz y] (vz (ZI.of (lastZ x.val y.val))) [] := by
 refine Fn.body Tryz.func66 rfl 22 rfl fun w H B a h => ?_
 refine rSeq fam0ok 0 [] [(2, vp 0 0), (3, vp 1 0), (4, vp 2 0)] [(0, .box (zi x)), (1, .box (zi y)), (2, .box [.d (.raw (.bool false)), .d (nsl [])])] (by kernel_rfl) h ?_; clear h; intro a w h
 obtain ⟨r1, er1, vr1, or1, lr1⟩ := mkZ (v := y.val * x.val) (m := y.abs.length + x.abs.length) (len_mul hy hx)
 obtain ⟨r2, er2, vr2, or2, lr2⟩ := mkZ (v := r1.val - y.val) (m := r1.abs.length + y.abs.length + 1) (len_sub or1 hy)
 obtain ⟨r3, er3, vr3, or3, lr3⟩ := mkZ (v := r2.val - x.val) (m := r2.abs.length + x.abs.length + 1) (len_sub or2 hx)
 obtain ⟨r4q, er4q, vr4q, or4q, lr4q⟩ := mkZ (v := r3.val.fdiv y.val) (m := r3.abs.length) (len_fdiv or3 h0)
 obtain ⟨r4r, er4r, vr4r, or4r, lr4r⟩ := mkZ (v := r3.val.fmod y.val) (m := y.abs.length) (len_fmod hy h0)
 refine rSeq fam0ok 3 [(2, .call (Fn.cast (SMul y x hy hx (by omega) (by omega)) (congrArg vz er1.symm)) tm_12), (4, .call (Fn.cast (SSub r1 y or1 hy (by omega) (by omega)) (congrArg vz er2.symm)) zs_16), (6, .call (Fn.cast (SSub r2 x or2 hx (by omega) (by omega)) (congrArg vz er3.symm)) zs_16), (8, .call (Fn.cast (SDiv r3 y or3 hy (by omega) (by omega) h0) (show _ = (.tup [.agg (zi r4q), .agg (zi r4r), .c (.d (.raw (.int .i64 0)))] : V) by rw [er4q, er4r]; first | done | rfl)) zs_20)] [(4, vp 2 0), (5, vp 3 0)] [(2, .box [.d (.raw (.bool false)), .d (nsl [])]), (3, .box (zi r4q))] (by kernel_rfl) h ?_; clear h; intro a w h
 refine rSeq fam0ok 5 [] [(4, vp 2 0)] [(2, .box (zi r4q))] (by kernel_rfl) h ?_; clear h; intro a w h
 refine wp_ret ?_
 refine retS [.agg (zi r4q)] h Exit.ret (.inl rfl)  rfl ⟨RV.agg _ 2 0 _ _ _ _ ia_1 rfl rfl rfl rfl, trivial⟩ ?_ (by kernel_rfl) (by kernel_rfl)
 have hz : lastZ x.val y.val = r3.val.fdiv y.val := by unfold lastZ; rw [vr3, vr2, vr1]
 rw [hz]; first | (rw [er4q]; done) | (rw [er4q]; rfl)
end Go.Proofs.YtoklkfmffmonoaaGreat.S
end
section
namespace Go.Proofs.YtoklkfmffmonoaaGreat.S
open Go.RowKit

theorem hc_14 : Bodied Tryz.prog 102 := Bodied.mk' (by kernel_rfl)
theorem hc_17 : Bodied Tryz.prog 76 := Bodied.mk' (by kernel_rfl)
theorem hc_20 : Bodied Tryz.prog 31 := Bodied.mk' (by kernel_rfl)
theorem hc_22 : Bodied Tryz.prog 33 := Bodied.mk' (by kernel_rfl)
theorem len_ceil {x y : ZI} (hx : Lb x.abs) (h : y.val ≠ 0) : (ZI.of (-((-x.val).fdiv y.val))).abs.length ≤ x.abs.length :=
 ZI.len_of (by rw [Int.natAbs_neg]; exact Nat.lt_of_le_of_lt (fdiv_natAbs_le _ h) (by rw [Int.natAbs_neg]; exact ZI.abs_lt hx))
theorem SCeil (x y : ZI) (hx : Lb x.abs) (hy : Lb y.abs) (lx : x.abs.length ≤ 15000) (ly : y.abs.length ≤ 15000) (h0 : y.val ≠ 0) : Fn Tryz.prog 76 [] [vz x, vz y] (.tup [.agg (zi (ZI.of (-((-x.val).fdiv y.val)))), .c (.d (.raw (.int .i64 0)))]) [] := by
 refine Fn.body Tryz.func76 rfl 28 rfl fun w H B a h => ?_
 refine rSeq fam0ok 0 [] [(2, vp 0 0), (3, vp 1 0), (4, vp 2 0), (5, vi .i64 0)] [(0, .box (zi x)), (1, .box (zi y)), (2, .box [.d (.raw (.bool false)), .d (nsl [])])] (by kernel_rfl) h ?_; clear h; intro a w h
 obtain ⟨r1q, er1q, vr1q, or1q, lr1q⟩ := mkZ (v := x.val.fdiv y.val) (m := x.abs.length) (len_fdiv hx h0)
 obtain ⟨r1r, er1r, vr1r, or1r, lr1r⟩ := mkZ (v := x.val.fmod y.val) (m := y.abs.length) (len_fmod hy h0)
 refine rSeq fam0ok 3 [(2, .call (Fn.cast (SDiv x y hx hy (by omega) (by omega) h0) (show _ = (.tup [.agg (zi r1q), .agg (zi r1r), .c (.d (.raw (.int .i64 0)))] : V) by rw [er1q, er1r]; first | done | rfl)) zs_20)] [(4, vp 2 0), (5, vi .i64 0), (6, vp 3 0), (7, vp 4 0), (8, vi .i64 0)] [(2, .box [.d (.raw (.bool false)), .d (nsl [])]), (3, .box (zi r1q)), (4, .box (zi r1r))] (by kernel_rfl) h ?_; clear h; intro a w h
 refine wp_seq ?_
 refine rSeq fam0ok 5 [(1, .cmp (op := .eql) (m := 0) (n := 0) (b := true) .i64 rfl), (4, .call (SSign r1r or1r (by omega)) td_6)] [(4, vp 2 0), (5, vi .i64 0), (6, vp 3 0), (8, vi .i64 0), (22, vb (sgn r1r.val != 0))] [(2, .box [.d (.raw (.bool false)), .d (nsl [])]), (3, .box (zi r1q))] (by kernel_rfl) h ?_; clear h; intro a w h
 refine condS (sgn r1r.val != 0) h rfl (fun hc => ?_) (fun hc => ?_)
 ·have hc1 := hc; clear hc
  have hc1' := hc1; (try simp at hc1')
  obtain ⟨r3, er3, vr3, or3, lr3⟩ := mkZ (v := 1) (m := 2) (ZI.len_of (by have := pw2; omega))
  obtain ⟨r4, er4, vr4, or4, lr4⟩ := mkZ (v := r1q.val + r3.val) (m := r1q.abs.length + r3.abs.length + 1) (len_add or1q or3)
  refine rS fam0ok 5 [(1, .call (Fn.cast (SOf 1 ⟨by omega, by omega⟩) (congrArg vz er3.symm)) tm_10), (2, .call (Fn.cast (SAdd r1q r3 or1q or3 (by omega) (by omega)) (congrArg vz er4.symm)) tl_9)] [(4, vp 2 0), (5, vi .i64 0), (6, vp 3 0), (8, vi .i64 0)] [(2, .box [.d (.raw (.bool false)), .d (nsl [])]), (3, .box (zi r4))] (by kernel_rfl) h ?_; clear h; intro a w h
  refine then_n ?_
  refine rSeq fam0ok 5 [] [(4, vp 2 0), (5, vi .i64 0)] [(2, .box (zi r4))] (by kernel_rfl) h ?_; clear h; intro a w h
  refine wp_ret ?_
  refine retS [.agg (zi r4), .c (.d (.raw (.int .i64 0)))] h Exit.ret (.inl rfl)  rfl ⟨RV.agg _ 2 0 _ _ _ _ ia_1 rfl rfl rfl rfl, RV.tmp _ _ rfl, trivial⟩ ?_ (by kernel_rfl) (by kernel_rfl)
  have k := ceil_turn h0 (by rw [← vr1r]; exact fun e => by rw [sgn_zero e] at hc1; simp at hc1)
  rw [er4, vr1q, vr3, k]; first | done | rfl
 ·have hc2 := hc; clear hc
  have hc2' := hc2; (try simp at hc2')
  refine wp_skip ?_
  refine then_n ?_
  refine rSeq fam0ok 5 [] [(4, vp 2 0), (5, vi .i64 0)] [(2, .box (zi r1q))] (by kernel_rfl) h ?_; clear h; intro a w h
  refine wp_ret ?_
  refine retS [.agg (zi r1q), .c (.d (.raw (.int .i64 0)))] h Exit.ret (.inl rfl)  rfl ⟨RV.agg _ 2 0 _ _ _ _ ia_1 rfl rfl rfl rfl, RV.tmp _ _ rfl, trivial⟩ ?_ (by kernel_rfl) (by kernel_rfl)
  have k := ceil_stay h0 (by rw [← vr1r]; exact sgn_eq0.1 (by simpa using hc2))
  rw [er1q, k]; first | done | rfl
theorem SRCeil (x y : ZI) (hx : Lb x.abs) (hy : Lb y.abs) (lx : x.abs.length ≤ 15000) (ly : y.abs.length ≤ 15000) (h0 : y.val ≠ 0) : Fn Tryz.prog 38 [] [vz x, vz y] (.tup [.agg (zi (ZI.of (-((-x.val).fdiv y.val)))), .c (.d (.raw (.int .i64 0)))]) [] := by
 refine Fn.body Tryz.func38 rfl 20 rfl fun w H B a h => ?_
 refine rSeq fam0ok 0 [] [(2, vp 0 0), (3, vp 1 0), (4, vp 2 0), (5, vi .i64 0)] [(0, .box (zi x)), (1, .box (zi y)), (2, .box [.d (.raw (.bool false)), .d (nsl [])])] (by kernel_rfl) h ?_; clear h; intro a w h
 obtain ⟨r1, er1, vr1, or1, lr1⟩ := mkZ (v := -x.val) (m := x.abs.length) (len_neg hx)
 obtain ⟨r2q, er2q, vr2q, or2q, lr2q⟩ := mkZ (v := r1.val.fdiv y.val) (m := r1.abs.length) (len_fdiv or1 h0)
 obtain ⟨r2r, er2r, vr2r, or2r, lr2r⟩ := mkZ (v := r1.val.fmod y.val) (m := y.abs.length) (len_fmod hy h0)
 refine rSeq fam0ok 3 [(1, .call (Fn.cast (SRNeg x hx (by omega)) (congrArg vz er1.symm)) zs_3), (3, .call (Fn.cast (SRDiv r1 y or1 hy (by omega) (by omega) h0) (show _ = (.tup [.agg (zi r2q), .agg (zi r2r), .c (.d (.raw (.int .i64 0)))] : V) by rw [er2q, er2r]; first | done | rfl)) tw_15)] [(4, vp 2 0), (5, vi .i64 0), (6, vp 3 0), (8, vi .i64 0)] [(2, .box [.d (.raw (.bool false)), .d (nsl [])]), (3, .box (zi r2q))] (by kernel_rfl) h ?_; clear h; intro a w h
 obtain ⟨r3, er3, vr3, or3, lr3⟩ := mkZ (v := -r2q.val) (m := r2q.abs.length) (len_neg or2q)
 refine rSeq fam0ok 5 [(1, .call (Fn.cast (SRNeg r2q or2q (by omega)) (congrArg vz er3.symm)) zs_3)] [(4, vp 2 0), (5, vi .i64 0)] [(2, .box (zi r3))] (by kernel_rfl) h ?_; clear h; intro a w h
 refine wp_ret ?_
 refine retS [.agg (zi r3), .c (.d (.raw (.int .i64 0)))] h Exit.ret (.inl rfl)  rfl ⟨RV.agg _ 2 0 _ _ _ _ ia_1 rfl rfl rfl rfl, RV.tmp _ _ rfl, trivial⟩ ?_ (by kernel_rfl) (by kernel_rfl)
 rw [er3, vr2q, vr1]; first | done | rfl
def zeroR (t : Term) : RelD := ⟨plainT t, true⟩
def best (c : Int → Int → Bool) (f : SideD → Int) (l : List SideD) : Option Int := l.foldl (fun m s => some (match m with | none => f s | some m => if c (f s) m = true then f s else m)) none
def gtB (x y : Int) : Bool := decide (cmpZ x y > 0)
def ltB (x y : Int) : Bool := decide (cmpZ x y < 0)
theorem best_snoc (c : Int → Int → Bool) (f : SideD → Int) (l : List SideD) (s : SideD) : best c f (l ++ [s]) = some (match best c f l with | none => f s | some m => if c (f s) m = true then f s else m) := by unfold best; rw [List.foldl_append]; rfl
theorem best_take {c : Int → Int → Bool} {f : SideD → Int} {l : List SideD} {j : Nat} {s : SideD} (h : l[j]? = some s) : best c f (l.take (j + 1)) = some (match best c f (l.take j) with | none => f s | some m => if c (f s) m = true then f s else m) := by
 rw [List.take_add_one, h]; exact best_snoc c f _ s
theorem best_first {c : Int → Int → Bool} {f : SideD → Int} {l : List SideD} {j : Nat} {s : SideD} (h : l[j]? = some s) (ha : (best c f (l.take j)).isSome = false) : best c f (l.take (j + 1)) = some (f s) := by
 rw [best_take h]; cases hb : best c f (l.take j) with
 | none => rfl
 | some m => rw [hb] at ha; cases ha
theorem best_more {c : Int → Int → Bool} {f : SideD → Int} {l : List SideD} {j : Nat} {s : SideD} (h : l[j]? = some s) (_ha : (best c f (l.take j)).isSome = true) (hc : c (f s) ((best c f (l.take j)).getD 0) = true) : best c f (l.take (j + 1)) = some (f s) := by
 rw [best_take h]; cases hb : best c f (l.take j) with
 | none => rfl
 | some m => rw [hb] at hc; simp only [Option.getD_some] at hc; simp [hc]
theorem best_keep {c : Int → Int → Bool} {f : SideD → Int} {l : List SideD} {j : Nat} {s : SideD} (h : l[j]? = some s) (ha : (best c f (l.take j)).isSome = true) (hc : c (f s) ((best c f (l.take j)).getD 0) = false) : best c f (l.take (j + 1)) = best c f (l.take j) := by
 rw [best_take h]; cases hb : best c f (l.take j) with
 | none => rw [hb] at ha; cases ha
 | some m => rw [hb] at hc; simp only [Option.getD_some] at hc; simp [hc]
theorem best_some (c : Int → Int → Bool) (f : SideD → Int) : ∀ l : List SideD, (best c f l).isSome = decide (0 < l.length) := by
 intro l
 rcases List.eq_nil_or_concat l with rfl | ⟨l', s, rfl⟩
 ·rfl
 ·rw [List.concat_eq_append, best_snoc]; simp
def fitS (L H : List SideD) (vs : List ZI) : ZI × Bool := match best gtB (leastZ · vs) L with
  | some m => if H.any (fun s => ltB (mostZ s vs) m) = true then (ZI.of 0, false) else (ZI.of m, true)
  | none => (ZI.of ((best ltB (mostZ · vs) H).getD 0), true)
theorem least_len {s : SideD} {vs : List ZI} (hs : SideOk s) (hv : VOk 8 vs) (h0 : s.times.val ≠ 0) : (ZI.of (leastZ s vs)).abs.length ≤ 19 := by
 have h1 := valT_len hs.rest (by decide) hv
 have h2 : (ZI.of (-valT s.rest vs)).abs.length ≤ 18 := by have := len_neg (ZI.lb_of (valT s.rest vs)); rw [ZI.val_of] at this; omega
 have h3 := len_ceil (x := ZI.of (-valT s.rest vs)) (y := s.times) (ZI.lb_of _) h0
 rw [ZI.val_of] at h3
 unfold leastZ; omega
theorem most_len {s : SideD} {vs : List ZI} (hs : SideOk s) (hv : VOk 8 vs) (h0 : s.times.val ≠ 0) : (ZI.of (mostZ s vs)).abs.length ≤ 19 := by
 have h1 := valT_len hs.rest (by decide) hv
 have h3 := len_fdiv (x := ZI.of (valT s.rest vs)) (y := s.times) (ZI.lb_of _) h0
 rw [ZI.val_of] at h3
 unfold mostZ; omega
theorem low_ne {rs : List RelD} {v : Int} : ∀ s ∈ lowsOf rs v, s.times.val ≠ 0 := fun s hs => by
 obtain ⟨r, _, hm⟩ := List.mem_flatMap.1 hs
 unfold lowF at hm
 split at hm
 ·rw [List.mem_singleton.1 hm]; show (ZI.of _).val ≠ 0; rw [ZI.val_of]; omega
 ·cases hm
theorem high_ne {rs : List RelD} {v : Int} : ∀ s ∈ highsOf rs v, s.times.val ≠ 0 := fun s hs => by
 obtain ⟨r, _, hm⟩ := List.mem_flatMap.1 hs
 unfold highF at hm
 split at hm
 ·rw [List.mem_singleton.1 hm]; show (ZI.of _).val ≠ 0; rw [ZI.val_of]; omega
 ·cases hm
set_option maxHeartbeats 4000000 in
theorem SZero (t : Term) (ht : TOk 400 10000 t) : Fn Tryz.prog 102 [] [.t (.agg ([.d (.sl 3 (t.parts.map Part.d))] ++ zi t.k))] (.t (.agg ([.d (.sl 3 ((zeroR t).t.parts.map Part.d))] ++ zi (zeroR t).t.k ++ [.d (.raw (.bool (zeroR t).eq))]))) [] := by
 refine Fn.body Tryz.func102 rfl 6 rfl fun w H B a h => ?_
 refine rSeq fam0ok 0 [] [(1, vp 0 0), (2, vp 1 0)] [(0, .box ([.d (.sl 3 (t.parts.map Part.d))] ++ zi t.k)), (1, .box [.d (.raw nilV), .d (.raw (.bool false)), .d (nsl []), .d (.raw (.bool false))])] (by kernel_rfl) h ?_; clear h; intro a w h
 refine rSeq fam0ok 2 [(1, .call (SPlain t ht (by decide) (by decide)) tm_7)] [(2, vp 1 0)] [(1, .box ([.d (.sl 3 ((plainT t).parts.map Part.d))] ++ zi (plainT t).k ++ [.d (.raw (.bool true))]))] (by kernel_rfl) h ?_; clear h; intro a w h
 refine wp_ret ?_
 refine retS [.agg ([.d (.sl 3 ((plainT t).parts.map Part.d))] ++ zi (plainT t).k ++ [.d (.raw (.bool true))])] h Exit.ret (.inl rfl)  rfl ⟨RV.agg _ 1 0 _ _ _ _ ha_1 rfl rfl rfl rfl, trivial⟩ ?_ (by kernel_rfl) (by kernel_rfl)
 rfl
set_option maxHeartbeats 4000000 in
theorem SEqual (low : SideD) (v i : Int) (hlow : SideOk low) (hi : -9223372036854775808 ≤ i ∧ i ≤ 9223372036854775807) : Fn Tryz.prog 68 [] [.t (.agg (zi low.times ++ [.d (.sl 3 (low.rest.parts.map Part.d))] ++ zi low.rest.k)), vi .i64 v, vi .i64 i] (.t (.agg ([.d (.sl 3 ((eqR low v i).t.parts.map Part.d))] ++ zi (eqR low v i).t.k ++ [.d (.raw (.bool (eqR low v i).eq))]))) [] := by
 have ll := hlow.len
 refine Fn.body Tryz.func68 rfl 22 rfl fun w H B a h => ?_
 refine rSeq fam0ok 0 [] [(1, vi .i64 v), (2, vi .i64 i), (3, vp 0 0), (6, vp 1 0)] [(0, .box (zi low.times ++ [.d (.sl 3 (low.rest.parts.map Part.d))] ++ zi low.rest.k)), (1, .box [.d (.raw nilV), .d (.raw (.bool false)), .d (nsl []), .d (.raw (.bool false))])] (by kernel_rfl) h ?_; clear h; intro a w h
 refine rSeq fam0ok 2 [(1, .call (SVar v) to_0), (4, .call (SScale (varT v) low.times ((TOk.one (v := v)).plain (by decide)) (by decide) hlow.lb hlow.len (by decide)) tm_13), (7, .call (STAdd (scaleT (varT v) low.times) low.rest ((scaleT_ok ((TOk.one (v := v)).plain (by decide)) hlow.lb hlow.len (by decide)).mono (by decide) (by decide)) (hlow.rest.mono (by decide) (by decide))) tm_15)] [(2, vi .i64 i), (6, vp 1 0), (7, vp 2 0)] [(1, .box [.d (.raw nilV), .d (.raw (.bool false)), .d (nsl []), .d (.raw (.bool false))]), (2, .box ([.d (.sl 3 ((addT (scaleT (varT v) low.times) low.rest).parts.map Part.d))] ++ zi (addT (scaleT (varT v) low.times) low.rest).k))] (by kernel_rfl) h ?_; clear h; intro a w h
 obtain ⟨r4, er4, vr4, or4, lr4⟩ := mkZ (v := i) (m := 2) (ZI.len_of (by have := pw2; omega))
 refine rSeq fam0ok 3 [(2, .call (Fn.cast (SOf i ⟨by omega, by omega⟩) (congrArg vz er4.symm)) tm_10), (3, .call (SNumber r4 or4 (by omega)) to_7), (4, .call (STSub (addT (scaleT (varT v) low.times) low.rest) (numT r4) ((addT_ok ((scaleT_ok ((TOk.one (v := v)).plain (by decide)) hlow.lb hlow.len (by decide)).mono (Nat.le_refl 1) (show 13 ≤ 13 by decide)) (hlow.rest.mono (Nat.le_refl 20) (show 9 ≤ 13 by decide)) (by decide)).mono (by decide) (by decide)) ((TOk.num (L := 60) (ZI.lb_of _) (num_len or4 (show r4.abs.length ≤ 60 by omega))).mono (by decide) (by decide))) to_9), (5, .call (SZero (subT (addT (scaleT (varT v) low.times) low.rest) (numT r4)) ((subT_ok ((addT_ok ((scaleT_ok ((TOk.one (v := v)).plain (by decide)) hlow.lb hlow.len (by decide)).mono (Nat.le_refl 1) (show 13 ≤ 13 by decide)) (hlow.rest.mono (Nat.le_refl 20) (show 9 ≤ 13 by decide)) (by decide)).mono (Nat.le_refl 21) (show 28 ≤ 60 by decide)) ((TOk.num (L := 60) (ZI.lb_of _) (num_len or4 (show r4.abs.length ≤ 60 by omega))).mono (Nat.le_refl 0) (show 60 ≤ 60 by decide)) (by decide)).mono (by decide) (by decide))) hc_14)] [(6, vp 1 0)] [(1, .box ([.d (.sl 3 ((zeroR (subT (addT (scaleT (varT v) low.times) low.rest) (numT r4))).t.parts.map Part.d))] ++ zi (zeroR (subT (addT (scaleT (varT v) low.times) low.rest) (numT r4))).t.k ++ [.d (.raw (.bool (zeroR (subT (addT (scaleT (varT v) low.times) low.rest) (numT r4))).eq))]))] (by kernel_rfl) h ?_; clear h; intro a w h
 refine wp_ret ?_
 refine retS [.agg ([.d (.sl 3 ((zeroR (subT (addT (scaleT (varT v) low.times) low.rest) (numT r4))).t.parts.map Part.d))] ++ zi (zeroR (subT (addT (scaleT (varT v) low.times) low.rest) (numT r4))).t.k ++ [.d (.raw (.bool (zeroR (subT (addT (scaleT (varT v) low.times) low.rest) (numT r4))).eq))])] h Exit.ret (.inl rfl)  rfl ⟨RV.agg _ 1 0 _ _ _ _ ha_1 rfl rfl rfl rfl, trivial⟩ ?_ (by kernel_rfl) (by kernel_rfl)
 have hz : eqR low v i = zeroR (subT (addT (scaleT (varT v) low.times) low.rest) (numT r4)) := by unfold eqR zeroR; rw [er4]
 rw [hz]; first | done | rfl
set_option maxHeartbeats 4000000 in
theorem SLeastV (s : SideD) (vs : List ZI) (hs : SideOk s) (hv : VOk 8 vs) (h0 : s.times.val ≠ 0) : Fn Tryz.prog 31 [] [.t (.agg (zi s.times ++ [.d (.sl 3 (s.rest.parts.map Part.d))] ++ zi s.rest.k)), .t (.c (.d (.sl 2 (vs.map ziD))))] (vz (ZI.of (leastZ s vs))) [] := by
 have ls := hs.len
 refine Fn.body Tryz.func31 rfl 19 rfl fun w H B a h => ?_
 refine rSeq fam0ok 0 [] [(1, .t (.c (.d (.sl 2 (vs.map ziD))))), (2, vp 0 0), (4, vp 1 0)] [(0, .box (zi s.times ++ [.d (.sl 3 (s.rest.parts.map Part.d))] ++ zi s.rest.k)), (1, .box [.d (.raw (.bool false)), .d (nsl [])])] (by kernel_rfl) h ?_; clear h; intro a w h
 obtain ⟨r1, er1, vr1, or1, lr1⟩ := mkZ (v := valT s.rest vs) (m := 18) (valT_len hs.rest (by decide) hv)
 obtain ⟨r2, er2, vr2, or2, lr2⟩ := mkZ (v := -r1.val) (m := r1.abs.length) (len_neg or1)
 obtain ⟨r3, er3, vr3, or3, lr3⟩ := mkZ (v := -((-r2.val).fdiv s.times.val)) (m := r2.abs.length) (len_ceil or2 h0)
 refine rSeq fam0ok 2 [(3, .call (Fn.cast (SValue s.rest vs hs.rest (by decide) (by decide) hv) (congrArg vz er1.symm)) ke_0), (4, .call (Fn.cast (SNeg r1 or1 (by omega)) (congrArg vz er2.symm)) zs_0), (7, .call (Fn.cast (SCeil r2 s.times or2 hs.lb (by omega) (by omega) h0) (show _ = (.tup [.agg (zi r3), .c (.d (.raw (.int .i64 0)))] : V) by rw [er3]; first | done | rfl)) hc_17)] [(4, vp 1 0), (5, vp 2 0)] [(1, .box [.d (.raw (.bool false)), .d (nsl [])]), (2, .box (zi r3))] (by kernel_rfl) h ?_; clear h; intro a w h
 refine rSeq fam0ok 3 [] [(4, vp 1 0)] [(1, .box (zi r3))] (by kernel_rfl) h ?_; clear h; intro a w h
 refine wp_ret ?_
 refine retS [.agg (zi r3)] h Exit.ret (.inl rfl)  rfl ⟨RV.agg _ 1 0 _ _ _ _ ia_1 rfl rfl rfl rfl, trivial⟩ ?_ (by kernel_rfl) (by kernel_rfl)
 have hz : leastZ s vs = -((-r2.val).fdiv s.times.val) := by unfold leastZ; rw [vr2, vr1]
 rw [hz]; first | (rw [er3]; done) | (rw [er3]; rfl)
set_option maxHeartbeats 4000000 in
theorem SMostV (s : SideD) (vs : List ZI) (hs : SideOk s) (hv : VOk 8 vs) (h0 : s.times.val ≠ 0) : Fn Tryz.prog 33 [] [.t (.agg (zi s.times ++ [.d (.sl 3 (s.rest.parts.map Part.d))] ++ zi s.rest.k)), .t (.c (.d (.sl 2 (vs.map ziD))))] (vz (ZI.of (mostZ s vs))) [] := by
 have ls := hs.len
 refine Fn.body Tryz.func33 rfl 20 rfl fun w H B a h => ?_
 refine rSeq fam0ok 0 [] [(1, .t (.c (.d (.sl 2 (vs.map ziD))))), (2, vp 0 0), (4, vp 1 0)] [(0, .box (zi s.times ++ [.d (.sl 3 (s.rest.parts.map Part.d))] ++ zi s.rest.k)), (1, .box [.d (.raw (.bool false)), .d (nsl [])])] (by kernel_rfl) h ?_; clear h; intro a w h
 obtain ⟨r1, er1, vr1, or1, lr1⟩ := mkZ (v := valT s.rest vs) (m := 18) (valT_len hs.rest (by decide) hv)
 obtain ⟨r2q, er2q, vr2q, or2q, lr2q⟩ := mkZ (v := r1.val.fdiv s.times.val) (m := r1.abs.length) (len_fdiv or1 h0)
 obtain ⟨r2r, er2r, vr2r, or2r, lr2r⟩ := mkZ (v := r1.val.fmod s.times.val) (m := s.times.abs.length) (len_fmod hs.lb h0)
 refine rSeq fam0ok 2 [(3, .call (Fn.cast (SValue s.rest vs hs.rest (by decide) (by decide) hv) (congrArg vz er1.symm)) ke_0), (6, .call (Fn.cast (SDiv r1 s.times or1 hs.lb (by omega) (by omega) h0) (show _ = (.tup [.agg (zi r2q), .agg (zi r2r), .c (.d (.raw (.int .i64 0)))] : V) by rw [er2q, er2r]; first | done | rfl)) zs_20)] [(4, vp 1 0), (5, vp 2 0)] [(1, .box [.d (.raw (.bool false)), .d (nsl [])]), (2, .box (zi r2q))] (by kernel_rfl) h ?_; clear h; intro a w h
 refine rSeq fam0ok 4 [] [(4, vp 1 0)] [(1, .box (zi r2q))] (by kernel_rfl) h ?_; clear h; intro a w h
 refine wp_ret ?_
 refine retS [.agg (zi r2q)] h Exit.ret (.inl rfl)  rfl ⟨RV.agg _ 1 0 _ _ _ _ ia_1 rfl rfl rfl rfl, trivial⟩ ?_ (by kernel_rfl) (by kernel_rfl)
 have hz : mostZ s vs = r1.val.fdiv s.times.val := by unfold mostZ; rw [vr1]
 rw [hz]; first | (rw [er2q]; done) | (rw [er2q]; rfl)
set_option maxHeartbeats 4000000 in
theorem SFit (rs : List RelD) (v : Int) (vs : List ZI) (hrs : RsOk rs) (hv : VOk 8 vs) : Fn Tryz.prog 12 [] [.t (.c (.d (.sl 4 (rs.map RelD.d)))), vi .i64 v, .t (.c (.d (.sl 2 (vs.map ziD))))] (.tup [.agg (zi (fitS (lowsOf rs v) (highsOf rs v) vs).1), .c (.d (.raw (.bool (fitS (lowsOf rs v) (highsOf rs v) vs).2)))]) [] := by
  have lrs := hrs.1
  have nl := lows_len hrs v
  have nh := highs_len hrs v
  refine Fn.body Tryz.func12 rfl 81 rfl fun w H B a h => ?_
  refine rSeq fam0ok 0 [] [(0, .t (.c (.d (.sl 4 (rs.map RelD.d))))), (1, vi .i64 v), (2, .t (.c (.d (.sl 2 (vs.map ziD))))), (6, vp 0 0), (7, vb false)] [(0, .box [.d (.raw (.bool false)), .d (nsl [])])] (by kernel_rfl) h ?_; clear h; intro a w h
  refine rSeq fam0ok 1 [(2, .call (Ssplit rs v hrs) hb_15)] [(2, .t (.c (.d (.sl 2 (vs.map ziD))))), (6, vp 0 0), (7, vb false), (8, vp 1 0)] [(0, .box [.d (.raw (.bool false)), .d (nsl [])]), (1, .box [.d (.sl 5 ((lowsOf rs v).map SideD.d)), .d (.sl 5 ((highsOf rs v).map SideD.d)), .d (.sl 4 ((othersOf rs v).map RelD.d))])] (by kernel_rfl) h ?_; clear h; intro a w h
  refine rSeq fam0ok 2 [] [(2, .t (.c (.d (.sl 2 (vs.map ziD))))), (6, vp 0 0), (7, vb false), (8, vp 1 0), (9, vp 2 0), (10, vb false)] [(0, .box [.d (.raw (.bool false)), .d (nsl [])]), (1, .box [.d (.sl 5 ((lowsOf rs v).map SideD.d)), .d (.sl 5 ((highsOf rs v).map SideD.d)), .d (.sl 4 ((othersOf rs v).map RelD.d))]), (2, .box [.d (.raw (.bool false)), .d (nsl [])])] (by kernel_rfl) h ?_; clear h; intro a w h
  refine wp_seq ?_
  refine rSeq fam0ok 3 [(2, .len (c := (.d (.sl 5 ((lowsOf rs v).map SideD.d)))) (n := (lowsOf rs v).length) (lenC_map _ _ _))] [(2, .t (.c (.d (.sl 2 (vs.map ziD))))), (6, vp 0 0), (7, vb false), (8, vp 1 0), (9, vp 2 0), (10, vb false), (22, .t (.c (.d (.sl 5 ((lowsOf rs v).map SideD.d))))), (23, vi .i64 ((lowsOf rs v).length : Int)), (24, vi .i64 0)] [(0, .box [.d (.raw (.bool false)), .d (nsl [])]), (1, .box [.d (.sl 5 ((lowsOf rs v).map SideD.d)), .d (.sl 5 ((highsOf rs v).map SideD.d)), .d (.sl 4 ((othersOf rs v).map RelD.d))]), (2, .box [.d (.raw (.bool false)), .d (nsl [])])] (by kernel_rfl) h ?_; clear h; intro a w h
  refine wp_block ?_
  refine loopS (ι := (Nat) × (ZI) × (Bool)) (fun (z_ : (Nat) × (ZI) × (Bool)) => match z_ with | (j, out, any) => j ≤ (lowsOf rs v).length ∧ out = ZI.of ((best gtB (leastZ · vs) ((lowsOf rs v).take j)).getD 0) ∧ any = (best gtB (leastZ · vs) ((lowsOf rs v).take j)).isSome ∧ out.abs.length ≤ 19)
      (fun (z_ : (Nat) × (ZI) × (Bool)) => match z_ with | (j, out, any) => [(2, .t (.c (.d (.sl 2 (vs.map ziD))))), (6, vp 0 0), (7, vb false), (8, vp 1 0), (9, vp 2 0), (10, vb any), (22, .t (.c (.d (.sl 5 ((lowsOf rs v).map SideD.d))))), (23, vi .i64 ((lowsOf rs v).length : Int)), (24, vi .i64 (j : Int))])
      (fun (z_ : (Nat) × (ZI) × (Bool)) => match z_ with | (j, out, any) => [(0, .box [.d (.raw (.bool false)), .d (nsl [])]), (1, .box [.d (.sl 5 ((lowsOf rs v).map SideD.d)), .d (.sl 5 ((highsOf rs v).map SideD.d)), .d (.sl 4 ((othersOf rs v).map RelD.d))]), (2, .box (zi out))])
      (fun (z_ : (Nat) × (ZI) × (Bool)) => match z_ with | (j, out, any) => (lowsOf rs v).length - j) (0, (ZI.of 0), false) ?_ h (by kernel_rfl) (by kernel_rfl) ?_
  · exact ⟨Nat.zero_le _, rfl, rfl, Nat.zero_le _⟩
  · clear h; rintro ⟨j, out, any⟩ a w hI h
    change St _ (F.of [(2, .t (.c (.d (.sl 2 (vs.map ziD))))), (6, vp 0 0), (7, vb false), (8, vp 1 0), (9, vp 2 0), (10, vb any), (22, .t (.c (.d (.sl 5 ((lowsOf rs v).map SideD.d))))), (23, vi .i64 ((lowsOf rs v).length : Int)), (24, vi .i64 (j : Int))] [(0, .box [.d (.raw (.bool false)), .d (nsl [])]), (1, .box [.d (.sl 5 ((lowsOf rs v).map SideD.d)), .d (.sl 5 ((highsOf rs v).map SideD.d)), .d (.sl 4 ((othersOf rs v).map RelD.d))]), (2, .box (zi out))]) a w at h
    obtain ⟨hI1, hI2, hI3, hI4⟩ := hI
    have lout : Lb out.abs := by rw [hI2]; exact ZI.lb_of _
    refine rSeq fam0ok 3 [] [(2, .t (.c (.d (.sl 2 (vs.map ziD))))), (6, vp 0 0), (7, vb false), (8, vp 1 0), (9, vp 2 0), (10, vb any), (22, .t (.c (.d (.sl 5 ((lowsOf rs v).map SideD.d))))), (23, vi .i64 ((lowsOf rs v).length : Int)), (24, vi .i64 (j : Int)), (25, vb (decide ((j : Int) < ((lowsOf rs v).length : Int))))] [(0, .box [.d (.raw (.bool false)), .d (nsl [])]), (1, .box [.d (.sl 5 ((lowsOf rs v).map SideD.d)), .d (.sl 5 ((highsOf rs v).map SideD.d)), .d (.sl 4 ((othersOf rs v).map RelD.d))]), (2, .box (zi out))] (by kernel_rfl) h ?_; clear h; intro a w h
    refine wp_seq ?_
    refine condS (decide ((j : Int) < ((lowsOf rs v).length : Int))) h rfl (fun hc => ?_) (fun hc => ?_)
    · have hc1 := hc; clear hc
      have hc1' := of_decide_eq_true hc1
      refine wp_skip ?_
      refine then_n ?_
      refine wp_seq ?_
      refine wp_block ?_
      obtain ⟨x2, hx2⟩ : ∃ z_ : SideD, (lowsOf rs v)[j]? = some z_ := ⟨_, List.getElem?_eq_getElem (by first | omega | (simp at *; omega))⟩
      refine rSeq fam0ok 3 [(0, .gen _ _ _ fun _ _ _ _ => Op.idxD (d := 26) (t := 22) (k := .i64) hb_1 (map_at hx2 (f := SideD.d)) (OV.tmp 24 _))] [(2, .t (.c (.d (.sl 2 (vs.map ziD))))), (6, vp 0 0), (7, vb false), (8, vp 1 0), (9, vp 2 0), (10, vb any), (12, vp 3 0), (22, .t (.c (.d (.sl 5 ((lowsOf rs v).map SideD.d))))), (23, vi .i64 ((lowsOf rs v).length : Int)), (24, vi .i64 (j : Int))] [(0, .box [.d (.raw (.bool false)), .d (nsl [])]), (1, .box [.d (.sl 5 ((lowsOf rs v).map SideD.d)), .d (.sl 5 ((highsOf rs v).map SideD.d)), .d (.sl 4 ((othersOf rs v).map RelD.d))]), (2, .box (zi out)), (3, .box (zi x2.times ++ [.d (.sl 3 (x2.rest.parts.map Part.d))] ++ zi x2.rest.k))] (by kernel_rfl) h ?_; clear h; intro a w h
      obtain ⟨r3, er3, vr3, or3, lr3⟩ := mkZ (v := leastZ x2 vs) (m := 19) (least_len (lows_ok hrs v x2 (List.mem_of_getElem? hx2)) hv (low_ne x2 (List.mem_of_getElem? hx2)))
      refine rSeq fam0ok 4 [(2, .call (Fn.cast (SLeastV x2 vs (lows_ok hrs v x2 (List.mem_of_getElem? hx2)) hv (low_ne x2 (List.mem_of_getElem? hx2))) (congrArg vz er3.symm)) hc_20)] [(2, .t (.c (.d (.sl 2 (vs.map ziD))))), (6, vp 0 0), (7, vb false), (8, vp 1 0), (9, vp 2 0), (10, vb any), (13, vp 4 0), (22, .t (.c (.d (.sl 5 ((lowsOf rs v).map SideD.d))))), (23, vi .i64 ((lowsOf rs v).length : Int)), (24, vi .i64 (j : Int))] [(0, .box [.d (.raw (.bool false)), .d (nsl [])]), (1, .box [.d (.sl 5 ((lowsOf rs v).map SideD.d)), .d (.sl 5 ((highsOf rs v).map SideD.d)), .d (.sl 4 ((othersOf rs v).map RelD.d))]), (2, .box (zi out)), (4, .box (zi r3))] (by kernel_rfl) h ?_; clear h; intro a w h
      rcases Bool.eq_false_or_eq_true any with hc | hc
      · have hc2 := hc; clear hc
        rw [hc2] at h
        refine rSeq fam0ok 5 [(5, .call (SCmp r3 out or3 lout (by omega) (by omega)) tx_2)] [(2, .t (.c (.d (.sl 2 (vs.map ziD))))), (6, vp 0 0), (7, vb false), (8, vp 1 0), (9, vp 2 0), (10, vb true), (13, vp 4 0), (22, .t (.c (.d (.sl 5 ((lowsOf rs v).map SideD.d))))), (23, vi .i64 ((lowsOf rs v).length : Int)), (24, vi .i64 (j : Int)), (38, vb (decide (cmpZ r3.val out.val > 0)))] [(0, .box [.d (.raw (.bool false)), .d (nsl [])]), (1, .box [.d (.sl 5 ((lowsOf rs v).map SideD.d)), .d (.sl 5 ((highsOf rs v).map SideD.d)), .d (.sl 4 ((othersOf rs v).map RelD.d))]), (2, .box (zi out)), (4, .box (zi r3))] (by kernel_rfl) h ?_; clear h; intro a w h
        refine condS (decide (cmpZ r3.val out.val > 0)) h rfl (fun hc => ?_) (fun hc => ?_)
        · have hc3 := hc; clear hc
          have hc3' := of_decide_eq_true hc3
          refine rS fam0ok 5 [] [(2, .t (.c (.d (.sl 2 (vs.map ziD))))), (6, vp 0 0), (7, vb false), (8, vp 1 0), (9, vp 2 0), (10, vb true), (22, .t (.c (.d (.sl 5 ((lowsOf rs v).map SideD.d))))), (23, vi .i64 ((lowsOf rs v).length : Int)), (24, vi .i64 (j : Int))] [(0, .box [.d (.raw (.bool false)), .d (nsl [])]), (1, .box [.d (.sl 5 ((lowsOf rs v).map SideD.d)), .d (.sl 5 ((highsOf rs v).map SideD.d)), .d (.sl 4 ((othersOf rs v).map RelD.d))]), (2, .box (zi r3))] (by kernel_rfl) h ?_; clear h; intro a w h
          refine block_n ?_
          refine then_n ?_
          refine rS fam0ok 5 [(0, .add .i64 (m := (j : Int)) (n := 1) (i64_id (by omega) (by omega)))] [(2, .t (.c (.d (.sl 2 (vs.map ziD))))), (6, vp 0 0), (7, vb false), (8, vp 1 0), (9, vp 2 0), (10, vb true), (22, .t (.c (.d (.sl 5 ((lowsOf rs v).map SideD.d))))), (23, vi .i64 ((lowsOf rs v).length : Int)), (24, vi .i64 ((j : Int) + 1))] [(0, .box [.d (.raw (.bool false)), .d (nsl [])]), (1, .box [.d (.sl 5 ((lowsOf rs v).map SideD.d)), .d (.sl 5 ((highsOf rs v).map SideD.d)), .d (.sl 4 ((othersOf rs v).map RelD.d))]), (2, .box (zi r3))] (by kernel_rfl) h ?_; clear h; intro a w h
          refine then_n ?_
          have hbe := (best_more hx2 (by rw [← hI3, hc2]) (by have hq := hc3; rw [vr3, hI2, ZI.val_of] at hq; exact hq) : best gtB (leastZ · vs) ((lowsOf rs v).take (j + 1)) = _)
          refine roundS (x := (j, out, any)) (y := (j + 1, r3, true)) h ?_ ?_ (by kernel_rfl) (by kernel_rfl)
          · have := at_lt hx2
            exact ⟨by omega, by rw [hbe, er3]; rfl, by rw [hbe]; rfl, lr3⟩
          · show (lowsOf rs v).length - (j + 1) < (lowsOf rs v).length - j
            have := at_lt hx2; omega
        · have hc4 := hc; clear hc
          have hc4' := of_decide_eq_false hc4
          refine wp_skip ?_
          refine block_n ?_
          refine then_n ?_
          refine rS fam0ok 5 [(0, .add .i64 (m := (j : Int)) (n := 1) (i64_id (by omega) (by omega)))] [(2, .t (.c (.d (.sl 2 (vs.map ziD))))), (6, vp 0 0), (7, vb false), (8, vp 1 0), (9, vp 2 0), (10, vb true), (22, .t (.c (.d (.sl 5 ((lowsOf rs v).map SideD.d))))), (23, vi .i64 ((lowsOf rs v).length : Int)), (24, vi .i64 ((j : Int) + 1))] [(0, .box [.d (.raw (.bool false)), .d (nsl [])]), (1, .box [.d (.sl 5 ((lowsOf rs v).map SideD.d)), .d (.sl 5 ((highsOf rs v).map SideD.d)), .d (.sl 4 ((othersOf rs v).map RelD.d))]), (2, .box (zi out))] (by kernel_rfl) h ?_; clear h; intro a w h
          refine then_n ?_
          have hbe := (best_keep hx2 (by rw [← hI3, hc2]) (by have hq := hc4; rw [vr3, hI2, ZI.val_of] at hq; exact hq) : best gtB (leastZ · vs) ((lowsOf rs v).take (j + 1)) = _)
          refine roundS (x := (j, out, any)) (y := (j + 1, out, true)) h ?_ ?_ (by kernel_rfl) (by kernel_rfl)
          · have := at_lt hx2
            exact ⟨by omega, by rw [hbe]; exact hI2, by rw [hbe, ← hI3, hc2], hI4⟩
          · show (lowsOf rs v).length - (j + 1) < (lowsOf rs v).length - j
            have := at_lt hx2; omega
      · have hc5 := hc; clear hc
        rw [hc5] at h
        refine rSeq fam0ok 5 [] [(2, .t (.c (.d (.sl 2 (vs.map ziD))))), (6, vp 0 0), (7, vb false), (8, vp 1 0), (9, vp 2 0), (10, vb false), (13, vp 4 0), (22, .t (.c (.d (.sl 5 ((lowsOf rs v).map SideD.d))))), (23, vi .i64 ((lowsOf rs v).length : Int)), (24, vi .i64 (j : Int)), (38, vb true)] [(0, .box [.d (.raw (.bool false)), .d (nsl [])]), (1, .box [.d (.sl 5 ((lowsOf rs v).map SideD.d)), .d (.sl 5 ((highsOf rs v).map SideD.d)), .d (.sl 4 ((othersOf rs v).map RelD.d))]), (2, .box (zi out)), (4, .box (zi r3))] (by kernel_rfl) h ?_; clear h; intro a w h
        refine condS true h rfl (fun hc => ?_) (fun hc => ?_)
        · clear hc
          refine rS fam0ok 5 [] [(2, .t (.c (.d (.sl 2 (vs.map ziD))))), (6, vp 0 0), (7, vb false), (8, vp 1 0), (9, vp 2 0), (10, vb true), (22, .t (.c (.d (.sl 5 ((lowsOf rs v).map SideD.d))))), (23, vi .i64 ((lowsOf rs v).length : Int)), (24, vi .i64 (j : Int))] [(0, .box [.d (.raw (.bool false)), .d (nsl [])]), (1, .box [.d (.sl 5 ((lowsOf rs v).map SideD.d)), .d (.sl 5 ((highsOf rs v).map SideD.d)), .d (.sl 4 ((othersOf rs v).map RelD.d))]), (2, .box (zi r3))] (by kernel_rfl) h ?_; clear h; intro a w h
          refine block_n ?_
          refine then_n ?_
          refine rS fam0ok 5 [(0, .add .i64 (m := (j : Int)) (n := 1) (i64_id (by omega) (by omega)))] [(2, .t (.c (.d (.sl 2 (vs.map ziD))))), (6, vp 0 0), (7, vb false), (8, vp 1 0), (9, vp 2 0), (10, vb true), (22, .t (.c (.d (.sl 5 ((lowsOf rs v).map SideD.d))))), (23, vi .i64 ((lowsOf rs v).length : Int)), (24, vi .i64 ((j : Int) + 1))] [(0, .box [.d (.raw (.bool false)), .d (nsl [])]), (1, .box [.d (.sl 5 ((lowsOf rs v).map SideD.d)), .d (.sl 5 ((highsOf rs v).map SideD.d)), .d (.sl 4 ((othersOf rs v).map RelD.d))]), (2, .box (zi r3))] (by kernel_rfl) h ?_; clear h; intro a w h
          refine then_n ?_
          have hbe := (best_first hx2 (by rw [← hI3, hc5]) : best gtB (leastZ · vs) ((lowsOf rs v).take (j + 1)) = _)
          refine roundS (x := (j, out, any)) (y := (j + 1, r3, true)) h ?_ ?_ (by kernel_rfl) (by kernel_rfl)
          · have := at_lt hx2
            exact ⟨by omega, by rw [hbe, er3]; rfl, by rw [hbe]; rfl, lr3⟩
          · show (lowsOf rs v).length - (j + 1) < (lowsOf rs v).length - j
            have := at_lt hx2; omega
        · cases hc
    · have hc6 := hc; clear hc
      have hc6' := of_decide_eq_false hc6
      refine wp_exit ?_
      refine then_x ?_
      refine then_x ?_
      refine inBlock_exit ?_
      refine then_n ?_
      refine wp_seq ?_
      have hlj : j = (lowsOf rs v).length := by omega
      refine rSeq fam0ok 5 [(2, .len (c := (.d (.sl 5 ((highsOf rs v).map SideD.d)))) (n := (highsOf rs v).length) (lenC_map _ _ _))] [(2, .t (.c (.d (.sl 2 (vs.map ziD))))), (6, vp 0 0), (7, vb false), (8, vp 1 0), (9, vp 2 0), (10, vb any), (42, .t (.c (.d (.sl 5 ((highsOf rs v).map SideD.d))))), (43, vi .i64 ((highsOf rs v).length : Int)), (44, vi .i64 0)] [(0, .box [.d (.raw (.bool false)), .d (nsl [])]), (1, .box [.d (.sl 5 ((lowsOf rs v).map SideD.d)), .d (.sl 5 ((highsOf rs v).map SideD.d)), .d (.sl 4 ((othersOf rs v).map RelD.d))]), (2, .box (zi out))] (by kernel_rfl) h ?_; clear h; intro a w h
      refine wp_block ?_
      refine loopS (ι := (Nat) × (ZI) × (Bool)) (fun (z_ : (Nat) × (ZI) × (Bool)) => match z_ with | (i, ou, an) => i ≤ (highsOf rs v).length ∧ ou.abs.length ≤ 19 ∧ (0 < (lowsOf rs v).length → ou = out ∧ an = true ∧ ((highsOf rs v).take i).any (fun s => ltB (mostZ s vs) out.val) = false) ∧ ((lowsOf rs v).length = 0 → ou = ZI.of ((best ltB (mostZ · vs) ((highsOf rs v).take i)).getD 0) ∧ an = (best ltB (mostZ · vs) ((highsOf rs v).take i)).isSome))
          (fun (z_ : (Nat) × (ZI) × (Bool)) => match z_ with | (i, ou, an) => [(2, .t (.c (.d (.sl 2 (vs.map ziD))))), (6, vp 0 0), (8, vp 1 0), (9, vp 2 0), (10, vb an), (42, .t (.c (.d (.sl 5 ((highsOf rs v).map SideD.d))))), (43, vi .i64 ((highsOf rs v).length : Int)), (44, vi .i64 (i : Int))])
          (fun (z_ : (Nat) × (ZI) × (Bool)) => match z_ with | (i, ou, an) => [(0, .box [.d (.raw (.bool false)), .d (nsl [])]), (1, .box [.d (.sl 5 ((lowsOf rs v).map SideD.d)), .d (.sl 5 ((highsOf rs v).map SideD.d)), .d (.sl 4 ((othersOf rs v).map RelD.d))]), (2, .box (zi ou))])
          (fun (z_ : (Nat) × (ZI) × (Bool)) => match z_ with | (i, ou, an) => (highsOf rs v).length - i) (0, out, any) ?_ h (by kernel_rfl) (by kernel_rfl) ?_
      · exact ⟨Nat.zero_le _, hI4, fun hp => ⟨rfl, by rw [hI3, hlj, List.take_length, best_some, decide_eq_true hp], rfl⟩, fun hp => ⟨by rw [hI2, hlj, List.take_length, List.length_eq_zero_iff.1 hp]; rfl, by rw [hI3, hlj, List.take_length, List.length_eq_zero_iff.1 hp]; rfl⟩⟩
      · clear h; rintro ⟨i, ou, an⟩ a w hI h
        change St _ (F.of [(2, .t (.c (.d (.sl 2 (vs.map ziD))))), (6, vp 0 0), (8, vp 1 0), (9, vp 2 0), (10, vb an), (42, .t (.c (.d (.sl 5 ((highsOf rs v).map SideD.d))))), (43, vi .i64 ((highsOf rs v).length : Int)), (44, vi .i64 (i : Int))] [(0, .box [.d (.raw (.bool false)), .d (nsl [])]), (1, .box [.d (.sl 5 ((lowsOf rs v).map SideD.d)), .d (.sl 5 ((highsOf rs v).map SideD.d)), .d (.sl 4 ((othersOf rs v).map RelD.d))]), (2, .box (zi ou))]) a w at h
        obtain ⟨hJ1, hJ2, hJ3, hJ4⟩ := hI
        have lou : Lb ou.abs := by
          by_cases hp : 0 < (lowsOf rs v).length
          · rw [(hJ3 hp).1]; exact lout
          · rw [(hJ4 (by omega)).1]; exact ZI.lb_of _
        refine rSeq fam0ok 5 [] [(2, .t (.c (.d (.sl 2 (vs.map ziD))))), (6, vp 0 0), (8, vp 1 0), (9, vp 2 0), (10, vb an), (42, .t (.c (.d (.sl 5 ((highsOf rs v).map SideD.d))))), (43, vi .i64 ((highsOf rs v).length : Int)), (44, vi .i64 (i : Int)), (45, vb (decide ((i : Int) < ((highsOf rs v).length : Int))))] [(0, .box [.d (.raw (.bool false)), .d (nsl [])]), (1, .box [.d (.sl 5 ((lowsOf rs v).map SideD.d)), .d (.sl 5 ((highsOf rs v).map SideD.d)), .d (.sl 4 ((othersOf rs v).map RelD.d))]), (2, .box (zi ou))] (by kernel_rfl) h ?_; clear h; intro a w h
        refine wp_seq ?_
        refine condS (decide ((i : Int) < ((highsOf rs v).length : Int))) h rfl (fun hc => ?_) (fun hc => ?_)
        · have hc7 := hc; clear hc
          have hc7' := of_decide_eq_true hc7
          refine wp_skip ?_
          refine then_n ?_
          refine wp_seq ?_
          refine wp_block ?_
          obtain ⟨x5, hx5⟩ : ∃ z_ : SideD, (highsOf rs v)[i]? = some z_ := ⟨_, List.getElem?_eq_getElem (by first | omega | (simp at *; omega))⟩
          refine rSeq fam0ok 5 [(0, .gen _ _ _ fun _ _ _ _ => Op.idxD (d := 46) (t := 42) (k := .i64) hb_1 (map_at hx5 (f := SideD.d)) (OV.tmp 44 _))] [(2, .t (.c (.d (.sl 2 (vs.map ziD))))), (6, vp 0 0), (8, vp 1 0), (9, vp 2 0), (10, vb an), (15, vp 5 0), (42, .t (.c (.d (.sl 5 ((highsOf rs v).map SideD.d))))), (43, vi .i64 ((highsOf rs v).length : Int)), (44, vi .i64 (i : Int))] [(0, .box [.d (.raw (.bool false)), .d (nsl [])]), (1, .box [.d (.sl 5 ((lowsOf rs v).map SideD.d)), .d (.sl 5 ((highsOf rs v).map SideD.d)), .d (.sl 4 ((othersOf rs v).map RelD.d))]), (2, .box (zi ou)), (5, .box (zi x5.times ++ [.d (.sl 3 (x5.rest.parts.map Part.d))] ++ zi x5.rest.k))] (by kernel_rfl) h ?_; clear h; intro a w h
          obtain ⟨r6, er6, vr6, or6, lr6⟩ := mkZ (v := mostZ x5 vs) (m := 19) (most_len (highs_ok hrs v x5 (List.mem_of_getElem? hx5)) hv (high_ne x5 (List.mem_of_getElem? hx5)))
          refine rSeq fam0ok 6 [(2, .call (Fn.cast (SMostV x5 vs (highs_ok hrs v x5 (List.mem_of_getElem? hx5)) hv (high_ne x5 (List.mem_of_getElem? hx5))) (congrArg vz er6.symm)) hc_22)] [(2, .t (.c (.d (.sl 2 (vs.map ziD))))), (6, vp 0 0), (8, vp 1 0), (9, vp 2 0), (10, vb an), (16, vp 6 0), (42, .t (.c (.d (.sl 5 ((highsOf rs v).map SideD.d))))), (43, vi .i64 ((highsOf rs v).length : Int)), (44, vi .i64 (i : Int))] [(0, .box [.d (.raw (.bool false)), .d (nsl [])]), (1, .box [.d (.sl 5 ((lowsOf rs v).map SideD.d)), .d (.sl 5 ((highsOf rs v).map SideD.d)), .d (.sl 4 ((othersOf rs v).map RelD.d))]), (2, .box (zi ou)), (6, .box (zi r6))] (by kernel_rfl) h ?_; clear h; intro a w h
          refine wp_block ?_
          rcases Bool.eq_false_or_eq_true (decide (((lowsOf rs v).length : Int) > 0)) with hc | hc
          · have hc8 := hc; clear hc
            have hc8' := of_decide_eq_true hc8
            refine rSeq fam0ok 7 [(2, .len (c := (.d (.sl 5 ((lowsOf rs v).map SideD.d)))) (n := (lowsOf rs v).length) (lenC_map _ _ _)), (3, .cmp (op := .gtr) (m := ((lowsOf rs v).length : Int)) (n := 0) (b := true) .i64 hc8), (7, .call (SCmp r6 ou or6 lou (by omega) (by omega)) tx_2)] [(2, .t (.c (.d (.sl 2 (vs.map ziD))))), (6, vp 0 0), (8, vp 1 0), (9, vp 2 0), (10, vb an), (16, vp 6 0), (42, .t (.c (.d (.sl 5 ((highsOf rs v).map SideD.d))))), (43, vi .i64 ((highsOf rs v).length : Int)), (44, vi .i64 (i : Int)), (51, vb (decide (cmpZ r6.val ou.val < 0)))] [(0, .box [.d (.raw (.bool false)), .d (nsl [])]), (1, .box [.d (.sl 5 ((lowsOf rs v).map SideD.d)), .d (.sl 5 ((highsOf rs v).map SideD.d)), .d (.sl 4 ((othersOf rs v).map RelD.d))]), (2, .box (zi ou)), (6, .box (zi r6))] (by kernel_rfl) h ?_; clear h; intro a w h
            refine condS (decide (cmpZ r6.val ou.val < 0)) h rfl (fun hc => ?_) (fun hc => ?_)
            · have hc9 := hc; clear hc
              have hc9' := of_decide_eq_true hc9
              refine rSeq fam0ok 7 [] [(2, .t (.c (.d (.sl 2 (vs.map ziD))))), (6, vp 0 0), (7, vb false), (8, vp 1 0), (9, vp 2 0), (10, vb an), (42, .t (.c (.d (.sl 5 ((highsOf rs v).map SideD.d))))), (43, vi .i64 ((highsOf rs v).length : Int)), (44, vi .i64 (i : Int))] [(0, .box [.d (.raw (.bool false)), .d (nsl [])]), (1, .box [.d (.sl 5 ((lowsOf rs v).map SideD.d)), .d (.sl 5 ((highsOf rs v).map SideD.d)), .d (.sl 4 ((othersOf rs v).map RelD.d))]), (2, .box (zi ou))] (by kernel_rfl) h ?_; clear h; intro a w h
              refine wp_ret ?_
              refine block_r ?_
              refine block_r ?_
              refine then_r ?_
              refine then_r ?_
              refine block_r ?_
              refine then_r ?_
              refine retS [.agg [.d (.raw (.bool false)), .d (nsl [])], .c (.d (.raw (.bool false)))] h Exit.ret (.inl rfl)  rfl ⟨RV.agg _ 0 0 _ _ _ _ ia_1 rfl rfl rfl rfl, RV.tmp _ _ rfl, trivial⟩ ?_ (by kernel_rfl) (by kernel_rfl)
              have hp : 0 < (lowsOf rs v).length := by have := of_decide_eq_true hc8; omega
              obtain ⟨k1, k2, k3⟩ := hJ3 hp
              have hbo : best gtB (leastZ · vs) (lowsOf rs v) = some out.val := by
                cases hb : best gtB (leastZ · vs) (lowsOf rs v) with
                | none => have := best_some gtB (leastZ · vs) (lowsOf rs v); rw [hb, decide_eq_true hp] at this; cases this
                | some m => rw [hI2, hlj, List.take_length, hb, ZI.val_of]; rfl
              have hz : (fitS (lowsOf rs v) (highsOf rs v) vs) = (ZI.of 0, false) := by
                unfold fitS; rw [hbo]; simp only; rw [if_pos (List.any_eq_true.2 ⟨x5, List.mem_of_getElem? hx5, by rw [← vr6, ← k1]; exact hc9⟩)]
              rw [hz]; first | done | rfl
            · have hc10 := hc; clear hc
              have hc10' := of_decide_eq_false hc10
              refine rSeq fam0ok 7 [(2, .len (c := (.d (.sl 5 ((lowsOf rs v).map SideD.d)))) (n := (lowsOf rs v).length) (lenC_map _ _ _)), (3, .cmp (op := .eql) (m := ((lowsOf rs v).length : Int)) (n := 0) (b := false) .i64 (beq_eq_false_iff_ne.2 (by have := of_decide_eq_true hc8; omega)))] [(2, .t (.c (.d (.sl 2 (vs.map ziD))))), (6, vp 0 0), (8, vp 1 0), (9, vp 2 0), (10, vb an), (16, vp 6 0), (42, .t (.c (.d (.sl 5 ((highsOf rs v).map SideD.d))))), (43, vi .i64 ((highsOf rs v).length : Int)), (44, vi .i64 (i : Int)), (63, vb false)] [(0, .box [.d (.raw (.bool false)), .d (nsl [])]), (1, .box [.d (.sl 5 ((lowsOf rs v).map SideD.d)), .d (.sl 5 ((highsOf rs v).map SideD.d)), .d (.sl 4 ((othersOf rs v).map RelD.d))]), (2, .box (zi ou)), (6, .box (zi r6))] (by kernel_rfl) h ?_; clear h; intro a w h
              refine condS false h rfl (fun hc => ?_) (fun hc => ?_)
              · cases hc
              · clear hc
                refine wp_skip ?_
                refine block_n ?_
                refine block_n ?_
                refine then_n ?_
                refine rS fam0ok 7 [(0, .add .i64 (m := (i : Int)) (n := 1) (i64_id (by omega) (by omega)))] [(2, .t (.c (.d (.sl 2 (vs.map ziD))))), (6, vp 0 0), (8, vp 1 0), (9, vp 2 0), (10, vb an), (42, .t (.c (.d (.sl 5 ((highsOf rs v).map SideD.d))))), (43, vi .i64 ((highsOf rs v).length : Int)), (44, vi .i64 ((i : Int) + 1))] [(0, .box [.d (.raw (.bool false)), .d (nsl [])]), (1, .box [.d (.sl 5 ((lowsOf rs v).map SideD.d)), .d (.sl 5 ((highsOf rs v).map SideD.d)), .d (.sl 4 ((othersOf rs v).map RelD.d))]), (2, .box (zi ou))] (by kernel_rfl) h ?_; clear h; intro a w h
                refine then_n ?_
                refine roundS (x := (i, ou, an)) (y := (i + 1, ou, an)) h ?_ ?_ (by kernel_rfl) (by kernel_rfl)
                · have := at_lt hx5
                  have hp : 0 < (lowsOf rs v).length := by have := of_decide_eq_true hc8; omega
                  obtain ⟨k1, k2, k3⟩ := hJ3 hp
                  exact ⟨by omega, hJ2, fun _ => ⟨k1, k2, by rw [List.take_add_one, hx5, List.any_append, k3]; show (ltB (mostZ x5 vs) out.val || false) = false; rw [Bool.or_false, ← vr6, ← k1]; exact hc10⟩, fun h0 => absurd hp (by omega)⟩
                · show (highsOf rs v).length - (i + 1) < (highsOf rs v).length - i
                  have := at_lt hx5; omega
          · have hc11 := hc; clear hc
            have hc11' := of_decide_eq_false hc11
            refine rSeq fam0ok 7 [(2, .len (c := (.d (.sl 5 ((lowsOf rs v).map SideD.d)))) (n := (lowsOf rs v).length) (lenC_map _ _ _)), (3, .cmp (op := .gtr) (m := ((lowsOf rs v).length : Int)) (n := 0) (b := false) .i64 hc11)] [(2, .t (.c (.d (.sl 2 (vs.map ziD))))), (6, vp 0 0), (8, vp 1 0), (9, vp 2 0), (10, vb an), (16, vp 6 0), (42, .t (.c (.d (.sl 5 ((highsOf rs v).map SideD.d))))), (43, vi .i64 ((highsOf rs v).length : Int)), (44, vi .i64 (i : Int)), (51, vb false)] [(0, .box [.d (.raw (.bool false)), .d (nsl [])]), (1, .box [.d (.sl 5 ((lowsOf rs v).map SideD.d)), .d (.sl 5 ((highsOf rs v).map SideD.d)), .d (.sl 4 ((othersOf rs v).map RelD.d))]), (2, .box (zi ou)), (6, .box (zi r6))] (by kernel_rfl) h ?_; clear h; intro a w h
            refine condS false h rfl (fun hc => ?_) (fun hc => ?_)
            · cases hc
            · clear hc
              rcases Bool.eq_false_or_eq_true an with hc | hc
              · have hc12 := hc; clear hc
                rw [hc12] at h
                refine rSeq fam0ok 7 [(2, .len (c := (.d (.sl 5 ((lowsOf rs v).map SideD.d)))) (n := (lowsOf rs v).length) (lenC_map _ _ _)), (3, .cmp (op := .eql) (m := ((lowsOf rs v).length : Int)) (n := 0) (b := true) .i64 (beq_iff_eq.2 (by have := of_decide_eq_false hc11; omega))), (10, .call (SCmp r6 ou or6 lou (by omega) (by omega)) tx_2)] [(2, .t (.c (.d (.sl 2 (vs.map ziD))))), (6, vp 0 0), (8, vp 1 0), (9, vp 2 0), (10, vb true), (16, vp 6 0), (42, .t (.c (.d (.sl 5 ((highsOf rs v).map SideD.d))))), (43, vi .i64 ((highsOf rs v).length : Int)), (44, vi .i64 (i : Int)), (63, vb (decide (cmpZ r6.val ou.val < 0)))] [(0, .box [.d (.raw (.bool false)), .d (nsl [])]), (1, .box [.d (.sl 5 ((lowsOf rs v).map SideD.d)), .d (.sl 5 ((highsOf rs v).map SideD.d)), .d (.sl 4 ((othersOf rs v).map RelD.d))]), (2, .box (zi ou)), (6, .box (zi r6))] (by kernel_rfl) h ?_; clear h; intro a w h
                refine condS (decide (cmpZ r6.val ou.val < 0)) h rfl (fun hc => ?_) (fun hc => ?_)
                · have hc13 := hc; clear hc
                  have hc13' := of_decide_eq_true hc13
                  refine rS fam0ok 7 [] [(2, .t (.c (.d (.sl 2 (vs.map ziD))))), (6, vp 0 0), (8, vp 1 0), (9, vp 2 0), (10, vb true), (42, .t (.c (.d (.sl 5 ((highsOf rs v).map SideD.d))))), (43, vi .i64 ((highsOf rs v).length : Int)), (44, vi .i64 (i : Int))] [(0, .box [.d (.raw (.bool false)), .d (nsl [])]), (1, .box [.d (.sl 5 ((lowsOf rs v).map SideD.d)), .d (.sl 5 ((highsOf rs v).map SideD.d)), .d (.sl 4 ((othersOf rs v).map RelD.d))]), (2, .box (zi r6))] (by kernel_rfl) h ?_; clear h; intro a w h
                  refine block_n ?_
                  refine block_n ?_
                  refine then_n ?_
                  refine rS fam0ok 7 [(0, .add .i64 (m := (i : Int)) (n := 1) (i64_id (by omega) (by omega)))] [(2, .t (.c (.d (.sl 2 (vs.map ziD))))), (6, vp 0 0), (8, vp 1 0), (9, vp 2 0), (10, vb true), (42, .t (.c (.d (.sl 5 ((highsOf rs v).map SideD.d))))), (43, vi .i64 ((highsOf rs v).length : Int)), (44, vi .i64 ((i : Int) + 1))] [(0, .box [.d (.raw (.bool false)), .d (nsl [])]), (1, .box [.d (.sl 5 ((lowsOf rs v).map SideD.d)), .d (.sl 5 ((highsOf rs v).map SideD.d)), .d (.sl 4 ((othersOf rs v).map RelD.d))]), (2, .box (zi r6))] (by kernel_rfl) h ?_; clear h; intro a w h
                  refine then_n ?_
                  refine roundS (x := (i, ou, an)) (y := (i + 1, r6, true)) h ?_ ?_ (by kernel_rfl) (by kernel_rfl)
                  · have := at_lt hx5
                    have hp : (lowsOf rs v).length = 0 := by have := of_decide_eq_false hc11; omega
                    obtain ⟨k1, k2⟩ := hJ4 hp
                    have hbe := (best_more hx5 (by rw [← k2, hc12]) (by have hq := hc13; rw [vr6, k1, ZI.val_of] at hq; exact hq) : best ltB (mostZ · vs) ((highsOf rs v).take (i + 1)) = _)
                    exact ⟨by omega, lr6, fun h0 => absurd h0 (by omega), fun _ => ⟨by rw [hbe, er6]; rfl, by rw [hbe]; rfl⟩⟩
                  · show (highsOf rs v).length - (i + 1) < (highsOf rs v).length - i
                    have := at_lt hx5; omega
                · have hc14 := hc; clear hc
                  have hc14' := of_decide_eq_false hc14
                  refine wp_skip ?_
                  refine block_n ?_
                  refine block_n ?_
                  refine then_n ?_
                  refine rS fam0ok 7 [(0, .add .i64 (m := (i : Int)) (n := 1) (i64_id (by omega) (by omega)))] [(2, .t (.c (.d (.sl 2 (vs.map ziD))))), (6, vp 0 0), (8, vp 1 0), (9, vp 2 0), (10, vb true), (42, .t (.c (.d (.sl 5 ((highsOf rs v).map SideD.d))))), (43, vi .i64 ((highsOf rs v).length : Int)), (44, vi .i64 ((i : Int) + 1))] [(0, .box [.d (.raw (.bool false)), .d (nsl [])]), (1, .box [.d (.sl 5 ((lowsOf rs v).map SideD.d)), .d (.sl 5 ((highsOf rs v).map SideD.d)), .d (.sl 4 ((othersOf rs v).map RelD.d))]), (2, .box (zi ou))] (by kernel_rfl) h ?_; clear h; intro a w h
                  refine then_n ?_
                  refine roundS (x := (i, ou, an)) (y := (i + 1, ou, true)) h ?_ ?_ (by kernel_rfl) (by kernel_rfl)
                  · have := at_lt hx5
                    have hp : (lowsOf rs v).length = 0 := by have := of_decide_eq_false hc11; omega
                    obtain ⟨k1, k2⟩ := hJ4 hp
                    have hbe := (best_keep hx5 (by rw [← k2, hc12]) (by have hq := hc14; rw [vr6, k1, ZI.val_of] at hq; exact hq) : best ltB (mostZ · vs) ((highsOf rs v).take (i + 1)) = _)
                    exact ⟨by omega, hJ2, fun h0 => absurd h0 (by omega), fun _ => ⟨by rw [hbe]; exact k1, by rw [hbe, ← k2, hc12]⟩⟩
                  · show (highsOf rs v).length - (i + 1) < (highsOf rs v).length - i
                    have := at_lt hx5; omega
              · have hc15 := hc; clear hc
                rw [hc15] at h
                refine rSeq fam0ok 7 [(2, .len (c := (.d (.sl 5 ((lowsOf rs v).map SideD.d)))) (n := (lowsOf rs v).length) (lenC_map _ _ _)), (3, .cmp (op := .eql) (m := ((lowsOf rs v).length : Int)) (n := 0) (b := true) .i64 (beq_iff_eq.2 (by have := of_decide_eq_false hc11; omega)))] [(2, .t (.c (.d (.sl 2 (vs.map ziD))))), (6, vp 0 0), (8, vp 1 0), (9, vp 2 0), (10, vb false), (16, vp 6 0), (42, .t (.c (.d (.sl 5 ((highsOf rs v).map SideD.d))))), (43, vi .i64 ((highsOf rs v).length : Int)), (44, vi .i64 (i : Int)), (63, vb true)] [(0, .box [.d (.raw (.bool false)), .d (nsl [])]), (1, .box [.d (.sl 5 ((lowsOf rs v).map SideD.d)), .d (.sl 5 ((highsOf rs v).map SideD.d)), .d (.sl 4 ((othersOf rs v).map RelD.d))]), (2, .box (zi ou)), (6, .box (zi r6))] (by kernel_rfl) h ?_; clear h; intro a w h
                refine condS true h rfl (fun hc => ?_) (fun hc => ?_)
                · clear hc
                  refine rS fam0ok 7 [] [(2, .t (.c (.d (.sl 2 (vs.map ziD))))), (6, vp 0 0), (8, vp 1 0), (9, vp 2 0), (10, vb true), (42, .t (.c (.d (.sl 5 ((highsOf rs v).map SideD.d))))), (43, vi .i64 ((highsOf rs v).length : Int)), (44, vi .i64 (i : Int))] [(0, .box [.d (.raw (.bool false)), .d (nsl [])]), (1, .box [.d (.sl 5 ((lowsOf rs v).map SideD.d)), .d (.sl 5 ((highsOf rs v).map SideD.d)), .d (.sl 4 ((othersOf rs v).map RelD.d))]), (2, .box (zi r6))] (by kernel_rfl) h ?_; clear h; intro a w h
                  refine block_n ?_
                  refine block_n ?_
                  refine then_n ?_
                  refine rS fam0ok 7 [(0, .add .i64 (m := (i : Int)) (n := 1) (i64_id (by omega) (by omega)))] [(2, .t (.c (.d (.sl 2 (vs.map ziD))))), (6, vp 0 0), (8, vp 1 0), (9, vp 2 0), (10, vb true), (42, .t (.c (.d (.sl 5 ((highsOf rs v).map SideD.d))))), (43, vi .i64 ((highsOf rs v).length : Int)), (44, vi .i64 ((i : Int) + 1))] [(0, .box [.d (.raw (.bool false)), .d (nsl [])]), (1, .box [.d (.sl 5 ((lowsOf rs v).map SideD.d)), .d (.sl 5 ((highsOf rs v).map SideD.d)), .d (.sl 4 ((othersOf rs v).map RelD.d))]), (2, .box (zi r6))] (by kernel_rfl) h ?_; clear h; intro a w h
                  refine then_n ?_
                  refine roundS (x := (i, ou, an)) (y := (i + 1, r6, true)) h ?_ ?_ (by kernel_rfl) (by kernel_rfl)
                  · have := at_lt hx5
                    have hp : (lowsOf rs v).length = 0 := by have := of_decide_eq_false hc11; omega
                    obtain ⟨k1, k2⟩ := hJ4 hp
                    have hbe := (best_first hx5 (by rw [← k2, hc15]) : best ltB (mostZ · vs) ((highsOf rs v).take (i + 1)) = _)
                    exact ⟨by omega, lr6, fun h0 => absurd h0 (by omega), fun _ => ⟨by rw [hbe, er6]; rfl, by rw [hbe]; rfl⟩⟩
                  · show (highsOf rs v).length - (i + 1) < (highsOf rs v).length - i
                    have := at_lt hx5; omega
                · cases hc
        · have hc16 := hc; clear hc
          have hc16' := of_decide_eq_false hc16
          refine wp_exit ?_
          refine then_x ?_
          refine then_x ?_
          refine inBlock_exit ?_
          refine then_n ?_
          refine rSeq fam0ok 7 [] [(6, vp 0 0), (7, vb true)] [(0, .box (zi ou))] (by kernel_rfl) h ?_; clear h; intro a w h
          refine wp_ret ?_
          refine retS [.agg (zi ou), .c (.d (.raw (.bool true)))] h Exit.ret (.inl rfl)  rfl ⟨RV.agg _ 0 0 _ _ _ _ ia_1 rfl rfl rfl rfl, RV.tmp _ _ rfl, trivial⟩ ?_ (by kernel_rfl) (by kernel_rfl)
          have hij : i = (highsOf rs v).length := by omega
          by_cases hp : 0 < (lowsOf rs v).length
          · obtain ⟨k1, k2, k3⟩ := hJ3 hp
            have hbo : best gtB (leastZ · vs) (lowsOf rs v) = some out.val := by
              cases hb : best gtB (leastZ · vs) (lowsOf rs v) with
              | none => have := best_some gtB (leastZ · vs) (lowsOf rs v); rw [hb, decide_eq_true hp] at this; cases this
              | some m => rw [hI2, hlj, List.take_length, hb, ZI.val_of]; rfl
            have hz : (fitS (lowsOf rs v) (highsOf rs v) vs) = (ou, true) := by
              unfold fitS; rw [hbo]; simp only; rw [hij, List.take_length] at k3; rw [if_neg (by rw [k3]; exact Bool.noConfusion), k1]; rw [show ZI.of out.val = out from by rw [hI2, ZI.val_of]]
            rw [hz]; first | done | rfl
          · obtain ⟨k1, k2⟩ := hJ4 (by omega)
            have hz : (fitS (lowsOf rs v) (highsOf rs v) vs) = (ou, true) := by
              unfold fitS; rw [show (lowsOf rs v) = [] from List.length_eq_zero_iff.1 (by omega)]; show (ZI.of ((best ltB (mostZ · vs) (highsOf rs v)).getD 0), true) = _; rw [k1, hij, List.take_length]
            rw [hz]; first | done | rfl
end Go.Proofs.YtoklkfmffmonoaaGreat.S
end
section
namespace Go.Proofs.YtoklkfmffmonoaaGreat.S
open Go.RowKit

theorem hd_4 : Bodied Tryz.prog 82 := Bodied.mk' (by kernel_rfl)
theorem hd_10 : Bodied Tryz.prog 36 := Bodied.mk' (by kernel_rfl)
theorem hd_11 : Bodied Tryz.prog 37 := Bodied.mk' (by kernel_rfl)
theorem hd_13 : Bodied Tryz.prog 38 := Bodied.mk' (by kernel_rfl)
theorem lows_take {rs : List RelD} {v : Int} {j : Nat} {x : RelD} (h : rs[j]? = some x) : lowsOf (rs.take (j + 1)) v = lowsOf (rs.take j) v ++ lowF v x := (flat_snoc h rfl).symm
theorem highs_take {rs : List RelD} {v : Int} {j : Nat} {x : RelD} (h : rs[j]? = some x) : highsOf (rs.take (j + 1)) v = highsOf (rs.take j) v ++ highF v x := (flat_snoc h rfl).symm
theorem low_yes {v : Int} {x : RelD} (h : decide (sgn (coefZ x.t.parts v) > 0) = true) : lowF v x = [sideOf v x] := if_pos (sgn_gt_zero.1 (of_decide_eq_true h))
theorem low_no {v : Int} {x : RelD} (h : decide (sgn (coefZ x.t.parts v) > 0) = false) : lowF v x = [] := if_neg (fun e => of_decide_eq_false h (sgn_gt_zero.2 e))
theorem high_yes {v : Int} {x : RelD} (h : decide (sgn (coefZ x.t.parts v) < 0) = true) : highF v x = [sideOf v x] := if_pos (sgn_lt_zero.1 (of_decide_eq_true h))
theorem high_no {v : Int} {x : RelD} (h : decide (sgn (coefZ x.t.parts v) < 0) = false) : highF v x = [] := if_neg (fun e => of_decide_eq_false h (sgn_lt_zero.2 e))
theorem bs_first {c : Int → Int → Bool} {f : SideD → Int} {l : List SideD} {s : SideD} (ha : (best c f l).isSome = false) : best c f (l ++ [s]) = some (f s) := by
 rw [best_snoc]; cases hb : best c f l with
 | none => rfl
 | some m => rw [hb] at ha; cases ha
theorem bs_more {c : Int → Int → Bool} {f : SideD → Int} {l : List SideD} {s : SideD} (_ha : (best c f l).isSome = true) (hc : c (f s) ((best c f l).getD 0) = true) : best c f (l ++ [s]) = some (f s) := by
 rw [best_snoc]; cases hb : best c f l with
 | none => rfl
 | some m => rw [hb] at hc; simp only [Option.getD_some] at hc; simp [hc]
theorem bs_keep {c : Int → Int → Bool} {f : SideD → Int} {l : List SideD} {s : SideD} (ha : (best c f l).isSome = true) (hc : c (f s) ((best c f l).getD 0) = false) : best c f (l ++ [s]) = best c f l := by
 rw [best_snoc]; cases hb : best c f l with
 | none => rw [hb] at ha; cases ha
 | some m => rw [hb] at hc; simp only [Option.getD_some] at hc; simp [hc]
theorem bs_nil {c : Int → Int → Bool} {f : SideD → Int} {l : List SideD} : best c f (l ++ []) = best c f l := by rw [List.append_nil]
theorem ltB_iff {x y : Int} : ltB x y = true ↔ x < y := by unfold ltB cmpZ; rw [decide_eq_true_eq]; split <;> (try split) <;> omega
theorem gtB_iff {x y : Int} : gtB x y = true ↔ y < x := by unfold gtB cmpZ; rw [decide_eq_true_eq]; split <;> (try split) <;> omega
theorem any_best (f : SideD → Int) (m : Int) (l : List SideD) : l.any (fun s => ltB (f s) m) = match best ltB f l with | none => false | some q => ltB q m := by
 rw [Bool.eq_iff_iff]
 suffices h : ∀ l' : List SideD, (l'.reverse.any (fun s => ltB (f s) m) = true) ↔ (match best ltB f l'.reverse with | none => false | some q => ltB q m) = true by
  have := h l.reverse; rwa [List.reverse_reverse] at this
 intro l'
 induction l' with
 | nil => simp [best]
 | cons s l ih =>
  rw [List.reverse_cons, List.any_append, Bool.or_eq_true, ih, best_snoc]
  cases hb : best ltB f l.reverse with
  | none => simp
  | some q =>
   simp only [List.any_cons, List.any_nil, Bool.or_false]
   by_cases hc : ltB (f s) q = true
   ·rw [if_pos hc]; simp only [ltB_iff] at hc ⊢; omega
   ·rw [if_neg hc]; simp only [ltB_iff] at hc ⊢; omega
theorem fit_no {L H : List SideD} {vs : List ZI} {low high : ZI} (h1 : low = ZI.of ((best gtB (leastZ · vs) L).getD 0)) (h2 : high = ZI.of ((best ltB (mostZ · vs) H).getD 0)) (f1 : (best gtB (leastZ · vs) L).isSome = true) (f2 : (best ltB (mostZ · vs) H).isSome = true) (hc : decide (cmpZ low.val high.val > 0) = true) : fitS L H vs = (ZI.of 0, false) := by
  obtain ⟨m, hm⟩ := Option.isSome_iff_exists.1 f1
  obtain ⟨q, hq⟩ := Option.isSome_iff_exists.1 f2
  rw [hm] at h1; rw [hq] at h2
  unfold fitS; rw [hm]; simp only
  rw [if_pos]
  rw [any_best (mostZ · vs), hq]
  have := gtB_iff.1 hc
  rw [h1, h2, ZI.val_of, ZI.val_of] at this
  exact ltB_iff.2 this
theorem fit_low {L H : List SideD} {vs : List ZI} {low : ZI} (h1 : low = ZI.of ((best gtB (leastZ · vs) L).getD 0)) (f1 : (best gtB (leastZ · vs) L).isSome = true) (hc : ∀ q, best ltB (mostZ · vs) H = some q → ¬ q < low.val) : fitS L H vs = (low, true) := by
  obtain ⟨m, hm⟩ := Option.isSome_iff_exists.1 f1
  rw [hm] at h1
  unfold fitS; rw [hm]; simp only
  rw [if_neg, h1]; rfl
  rw [any_best (mostZ · vs)]
  cases hq : best ltB (mostZ · vs) H with
  | none => exact Bool.noConfusion
  | some q =>
    have := hc q hq
    rw [h1, Option.getD_some, ZI.val_of] at this
    exact fun e => this (ltB_iff.1 e)
theorem fit_high {L H : List SideD} {vs : List ZI} {high : ZI} (h2 : high = ZI.of ((best ltB (mostZ · vs) H).getD 0)) (f1 : (best gtB (leastZ · vs) L).isSome = false) : fitS L H vs = (high, true) := by
  unfold fitS
  cases hm : best gtB (leastZ · vs) L with
  | some m => rw [hm] at f1; cases f1
  | none => simp only; rw [h2]
set_option maxHeartbeats 4000000 in
theorem SRAbs (x : ZI) (hx : Lb x.abs) (lx : x.abs.length ≤ 1000) : Fn Tryz.prog 82 [] [vz x] (vz (ZI.of (x.val.natAbs : Int))) [] := by
 refine Fn.body Tryz.func82 rfl 6 rfl fun w H B a h => ?_
 refine rSeq fam0ok 0 [] [(1, vp 0 0), (2, vp 1 0)] [(0, .box (zi x)), (1, .box [.d (.raw (.bool false)), .d (nsl [])])] (by kernel_rfl) h ?_; clear h; intro a w h
 obtain ⟨r1, er1, vr1, or1, lr1⟩ := mkZ (v := iv false x.abs) (m := x.abs.length) (len_iv hx)
 refine rSeq fam0ok 2 [(2, .call (Fn.cast (SRFrom false x.abs hx (by omega)) (congrArg vz er1.symm)) ia_4)] [(2, vp 1 0)] [(1, .box (zi r1))] (by kernel_rfl) h ?_; clear h; intro a w h
 refine wp_ret ?_
 refine retS [.agg (zi r1)] h Exit.ret (.inl rfl)  rfl ⟨RV.agg _ 1 0 _ _ _ _ ia_1 rfl rfl rfl rfl, trivial⟩ ?_ (by kernel_rfl) (by kernel_rfl)
 rw [er1, iv_pos]; first | done | rfl
set_option maxHeartbeats 4000000 in
theorem SSign7 (r : RelD) (v : Int) (hr : TOk 20 8 r.t) : Fn Tryz.prog 37 [] [.t (.agg ([.d (.sl 3 (r.t.parts.map Part.d))] ++ zi r.t.k ++ [.d (.raw (.bool r.eq))])), vi .i64 v] (vi .i64 (sgn (coefZ r.t.parts v))) [] := by
 refine Fn.body Tryz.func37 rfl 10 rfl fun w H B a h => ?_
 refine rSeq fam0ok 0 [] [(1, vi .i64 v), (2, vp 0 0), (4, vi .i64 0)] [(0, .box ([.d (.sl 3 (r.t.parts.map Part.d))] ++ zi r.t.k ++ [.d (.raw (.bool r.eq))]))] (by kernel_rfl) h ?_; clear h; intro a w h
 obtain ⟨r1, er1, vr1, or1, lr1⟩ := mkZ (v := coefZ r.t.parts v) (m := 9) (coef_len (TOk.mono hr (show 20 ≤ 1000 by decide) (Nat.le_refl 8)).psok v)
 refine rSeq fam0ok 1 [(3, .call (Fn.cast (SCoef r.t v (TOk.mono (n' := 1000) (L' := 40000) hr (by decide) (by decide)).psok) (congrArg vz er1.symm)) tb_4), (4, .call (SRSign r1 or1 (by omega)) ib_0)] [(4, vi .i64 (sgn r1.val))] [] (by kernel_rfl) h ?_; clear h; intro a w h
 refine wp_ret ?_
 refine retS [.c (.d (.raw (.int .i64 (sgn r1.val))))] h Exit.ret (.inl rfl)  rfl ⟨RV.tmp _ _ rfl, trivial⟩ ?_ (by kernel_rfl) (by kernel_rfl)
 rw [vr1]; first | done | rfl
set_option maxHeartbeats 4000000 in
theorem STimes7 (r : RelD) (v : Int) (hr : TOk 20 8 r.t) : Fn Tryz.prog 36 [] [.t (.agg ([.d (.sl 3 (r.t.parts.map Part.d))] ++ zi r.t.k ++ [.d (.raw (.bool r.eq))])), vi .i64 v] (vz (ZI.of ((coefZ r.t.parts v).natAbs : Int))) [] := by
 refine Fn.body Tryz.func36 rfl 10 rfl fun w H B a h => ?_
 refine rSeq fam0ok 0 [] [(1, vi .i64 v), (2, vp 0 0), (4, vp 1 0)] [(0, .box ([.d (.sl 3 (r.t.parts.map Part.d))] ++ zi r.t.k ++ [.d (.raw (.bool r.eq))])), (1, .box [.d (.raw (.bool false)), .d (nsl [])])] (by kernel_rfl) h ?_; clear h; intro a w h
 obtain ⟨r1, er1, vr1, or1, lr1⟩ := mkZ (v := coefZ r.t.parts v) (m := 9) (coef_len (TOk.mono hr (show 20 ≤ 1000 by decide) (Nat.le_refl 8)).psok v)
 obtain ⟨r2, er2, vr2, or2, lr2⟩ := mkZ (v := (r1.val.natAbs : Int)) (m := r1.abs.length) (len_abs or1)
 refine rSeq fam0ok 2 [(3, .call (Fn.cast (SCoef r.t v (TOk.mono (n' := 1000) (L' := 40000) hr (by decide) (by decide)).psok) (congrArg vz er1.symm)) tb_4), (4, .call (Fn.cast (SRAbs r1 or1 (by omega)) (congrArg vz er2.symm)) hd_4)] [(4, vp 1 0)] [(1, .box (zi r2))] (by kernel_rfl) h ?_; clear h; intro a w h
 refine wp_ret ?_
 refine retS [.agg (zi r2)] h Exit.ret (.inl rfl)  rfl ⟨RV.agg _ 1 0 _ _ _ _ ia_1 rfl rfl rfl rfl, trivial⟩ ?_ (by kernel_rfl) (by kernel_rfl)
 rw [er2, vr1]; first | done | rfl
set_option maxHeartbeats 4000000 in
theorem SFewRsL (rs : List RelD) (most L : Int) (hl : rs.length ≤ 9223372036854775807) : Fn Tryz.prog 10 [] [.t (.c (.d (.sl 4 (rs.map RelD.d)))), vi .i64 most, vi .i64 L] (vb (fewRs rs most L)) [] := by
 refine Fn.body Tryz.func10 rfl 64 rfl fun w H B a h => ?_
 refine rSeq fam0ok 0 [] [(0, .t (.c (.d (.sl 4 (rs.map RelD.d))))), (1, vi .i64 most), (2, vi .i64 L), (6, vb false)] [] (by kernel_rfl) h ?_; clear h; intro a w h
 refine wp_seq ?_
 refine rSeq fam0ok 0 [(1, .len (c := (.d (.sl 4 (rs.map RelD.d)))) (n := rs.length) (lenC_map _ _ _))] [(0, .t (.c (.d (.sl 4 (rs.map RelD.d))))), (2, vi .i64 L), (6, vb false), (12, vb (decide ((rs.length : Int) > most)))] [] (by kernel_rfl) h ?_; clear h; intro a w h
 refine condS (decide ((rs.length : Int) > most)) h rfl (fun hc => ?_) (fun hc => ?_)
 ·have hc1 := hc; clear hc
  have hc1' := of_decide_eq_true hc1
  refine rSeq fam0ok 0 [] [(0, .t (.c (.d (.sl 4 (rs.map RelD.d))))), (2, vi .i64 L), (6, vb false)] [] (by kernel_rfl) h ?_; clear h; intro a w h
  refine wp_ret ?_
  refine then_r ?_
  refine retS [.c (.d (.raw (.bool false)))] h Exit.ret (.inl rfl)  rfl ⟨RV.tmp _ _ rfl, trivial⟩ ?_ (by kernel_rfl) (by kernel_rfl)
  rw [show fewRs rs most L = false from by unfold fewRs; rw [decide_eq_false (by have := of_decide_eq_true hc1; omega)]; rfl]; first | done | rfl
 ·have hc2 := hc; clear hc
  have hc2' := of_decide_eq_false hc2
  refine wp_skip ?_
  refine then_n ?_
  refine wp_seq ?_
  refine rSeq fam0ok 0 [] [(0, .t (.c (.d (.sl 4 (rs.map RelD.d))))), (2, vi .i64 L), (6, vb false), (7, vi .i64 0)] [] (by kernel_rfl) h ?_; clear h; intro a w h
  refine wp_block ?_
  refine loopS (ι := (Nat)) (fun (z_ : (Nat)) => match z_ with | j => j ≤ rs.length ∧ (rs.take j).all (fewR L) = true)
    (fun (z_ : (Nat)) => match z_ with | j => [(0, .t (.c (.d (.sl 4 (rs.map RelD.d))))), (2, vi .i64 L), (7, vi .i64 (j : Int))])
    (fun (z_ : (Nat)) => match z_ with | j => [])
    (fun (z_ : (Nat)) => match z_ with | j => rs.length - j) 0 ?_ h (by kernel_rfl) (by kernel_rfl) ?_
  ·exact ⟨Nat.zero_le _, rfl⟩
  ·clear h; rintro j a w hI h
   change St _ (F.of [(0, .t (.c (.d (.sl 4 (rs.map RelD.d))))), (2, vi .i64 L), (7, vi .i64 (j : Int))] []) a w at h
   obtain ⟨hI1, hI2⟩ := hI
   refine wp_seq ?_
   refine rSeq fam0ok 0 [(2, .len (c := (.d (.sl 4 (rs.map RelD.d)))) (n := rs.length) (lenC_map _ _ _))] [(0, .t (.c (.d (.sl 4 (rs.map RelD.d))))), (2, vi .i64 L), (7, vi .i64 (j : Int)), (16, vb (decide ((j : Int) < (rs.length : Int))))] [] (by kernel_rfl) h ?_; clear h; intro a w h
   refine condS (decide ((j : Int) < (rs.length : Int))) h rfl (fun hc => ?_) (fun hc => ?_)
   ·have hc3 := hc; clear hc
    have hc3' := of_decide_eq_true hc3
    refine wp_skip ?_
    refine then_n ?_
    refine wp_seq ?_
    refine wp_block ?_
    refine wp_seq ?_
    obtain ⟨x1, hx1⟩ : ∃ z_ : RelD, rs[j]? = some z_ := ⟨_, List.getElem?_eq_getElem (by first | omega | (simp at *; omega))⟩
    rcases Bool.eq_false_or_eq_true (decide ((x1.t.parts.length : Int) > 20)) with hc | hc
    ·have hc4 := hc; clear hc
     have hc4' := of_decide_eq_true hc4
     refine rSeq fam0ok 0 [(2, .gen _ _ _ fun _ _ _ _ => Op.idxD (d := 21) (t := 19) (k := .i64) kc_3 (map_at hx1 (f := RelD.d)) (OV.tmp 20 _)), (6, .len (c := (.d (.sl 3 (x1.t.parts.map Part.d)))) (n := x1.t.parts.length) (lenC_map _ _ _)), (7, .cmp (op := .gtr) (m := (x1.t.parts.length : Int)) (n := 20) (b := true) .i64 hc4)] [(0, .t (.c (.d (.sl 4 (rs.map RelD.d))))), (2, vi .i64 L), (7, vi .i64 (j : Int)), (38, vb true)] [] (by kernel_rfl) h ?_; clear h; intro a w h
     refine condS true h rfl (fun hc => ?_) (fun hc => ?_)
     ·clear hc
      refine rSeq fam0ok 0 [] [(0, .t (.c (.d (.sl 4 (rs.map RelD.d))))), (2, vi .i64 L), (6, vb false), (7, vi .i64 (j : Int))] [] (by kernel_rfl) h ?_; clear h; intro a w h
      refine wp_ret ?_
      refine then_r ?_
      refine block_r ?_
      refine then_r ?_
      refine then_r ?_
      refine block_r ?_
      refine then_r ?_
      refine retS [.c (.d (.raw (.bool false)))] h Exit.ret (.inl rfl)  rfl ⟨RV.tmp _ _ rfl, trivial⟩ ?_ (by kernel_rfl) (by kernel_rfl)
      rw [show fewRs rs most L = false from by unfold fewRs; rw [all_stop hx1 (show fewR L x1 = false from by rw [fewR, decide_eq_false (by have := of_decide_eq_true hc4; omega)]; rfl), Bool.and_false]]; first | done | rfl
     ·cases hc
    ·have hc5 := hc; clear hc
     have hc5' := of_decide_eq_false hc5
     refine rSeq fam0ok 0 [(2, .gen _ _ _ fun _ _ _ _ => Op.idxD (d := 21) (t := 19) (k := .i64) kc_3 (map_at hx1 (f := RelD.d)) (OV.tmp 20 _)), (6, .len (c := (.d (.sl 3 (x1.t.parts.map Part.d)))) (n := x1.t.parts.length) (lenC_map _ _ _)), (7, .cmp (op := .gtr) (m := (x1.t.parts.length : Int)) (n := 20) (b := false) .i64 hc5), (11, .gen _ _ _ fun _ _ _ _ => Op.idxD (d := 30) (t := 28) (k := .i64) kc_3 (map_at hx1 (f := RelD.d)) (OV.tmp 29 _)), (16, .len (nsl_len x1.t.k.abs))] [(0, .t (.c (.d (.sl 4 (rs.map RelD.d))))), (2, vi .i64 L), (7, vi .i64 (j : Int)), (38, vb (decide ((x1.t.k.abs.length : Int) > L)))] [] (by kernel_rfl) h ?_; clear h; intro a w h
     refine condS (decide ((x1.t.k.abs.length : Int) > L)) h rfl (fun hc => ?_) (fun hc => ?_)
     ·have hc6 := hc; clear hc
      have hc6' := of_decide_eq_true hc6
      refine rSeq fam0ok 0 [] [(0, .t (.c (.d (.sl 4 (rs.map RelD.d))))), (2, vi .i64 L), (6, vb false), (7, vi .i64 (j : Int))] [] (by kernel_rfl) h ?_; clear h; intro a w h
      refine wp_ret ?_
      refine then_r ?_
      refine block_r ?_
      refine then_r ?_
      refine then_r ?_
      refine block_r ?_
      refine then_r ?_
      refine retS [.c (.d (.raw (.bool false)))] h Exit.ret (.inl rfl)  rfl ⟨RV.tmp _ _ rfl, trivial⟩ ?_ (by kernel_rfl) (by kernel_rfl)
      rw [show fewRs rs most L = false from by unfold fewRs; rw [all_stop hx1 (show fewR L x1 = false from by rw [fewR, decide_eq_false (p := (_ : Int) ≤ L) (by have := of_decide_eq_true hc6; omega), Bool.and_false]; rfl), Bool.and_false]]; first | done | rfl
     ·have hc7 := hc; clear hc
      have hc7' := of_decide_eq_false hc7
      refine wp_skip ?_
      refine then_n ?_
      refine rSeq fam0ok 0 [] [(0, .t (.c (.d (.sl 4 (rs.map RelD.d))))), (2, vi .i64 L), (7, vi .i64 (j : Int)), (8, vi .i64 0)] [] (by kernel_rfl) h ?_; clear h; intro a w h
      refine wp_block ?_
      have hjr := hI1
      refine loopS (ι := (Nat)) (fun (z_ : (Nat)) => match z_ with | i => i ≤ x1.t.parts.length ∧ (x1.t.parts.take i).all (fun p => decide ((p.c.abs.length : Int) ≤ L)) = true)
        (fun (z_ : (Nat)) => match z_ with | i => [(0, .t (.c (.d (.sl 4 (rs.map RelD.d))))), (2, vi .i64 L), (7, vi .i64 (j : Int)), (8, vi .i64 (i : Int))])
        (fun (z_ : (Nat)) => match z_ with | i => [])
        (fun (z_ : (Nat)) => match z_ with | i => x1.t.parts.length - i) 0 ?_ h (by kernel_rfl) (by kernel_rfl) ?_
      ·exact ⟨Nat.zero_le _, rfl⟩
      ·clear h; rintro i a w hI h
       change St _ (F.of [(0, .t (.c (.d (.sl 4 (rs.map RelD.d))))), (2, vi .i64 L), (7, vi .i64 (j : Int)), (8, vi .i64 (i : Int))] []) a w at h
       obtain ⟨hJ1, hJ2⟩ := hI
       refine wp_seq ?_
       refine rSeq fam0ok 0 [(3, .gen _ _ _ fun _ _ _ _ => Op.idxD (d := 42) (t := 40) (k := .i64) kc_3 (map_at hx1 (f := RelD.d)) (OV.tmp 41 _)), (7, .len (c := (.d (.sl 3 (x1.t.parts.map Part.d)))) (n := x1.t.parts.length) (lenC_map _ _ _))] [(0, .t (.c (.d (.sl 4 (rs.map RelD.d))))), (2, vi .i64 L), (7, vi .i64 (j : Int)), (8, vi .i64 (i : Int)), (47, vb (decide ((i : Int) < (x1.t.parts.length : Int))))] [] (by kernel_rfl) h ?_; clear h; intro a w h
       refine condS (decide ((i : Int) < (x1.t.parts.length : Int))) h rfl (fun hc => ?_) (fun hc => ?_)
       ·have hc8 := hc; clear hc
        have hc8' := of_decide_eq_true hc8
        refine wp_skip ?_
        refine then_n ?_
        refine wp_seq ?_
        refine wp_block ?_
        obtain ⟨x2, hx2⟩ : ∃ z_ : Part, x1.t.parts[i]? = some z_ := ⟨_, List.getElem?_eq_getElem (by first | omega | (simp at *; omega))⟩
        refine rSeq fam0ok 0 [(2, .gen _ _ _ fun _ _ _ _ => Op.idxD (d := 52) (t := 50) (k := .i64) kc_3 (map_at hx1 (f := RelD.d)) (OV.tmp 51 _)), (7, .gen _ _ _ fun _ _ _ _ => Op.idxD (d := 57) (t := 55) (k := .i64) ta_0 (map_at hx2 (f := Part.d)) (OV.tmp 56 _)), (11, .len (nsl_len x2.c.abs))] [(0, .t (.c (.d (.sl 4 (rs.map RelD.d))))), (2, vi .i64 L), (7, vi .i64 (j : Int)), (8, vi .i64 (i : Int)), (63, vb (decide ((x2.c.abs.length : Int) > L)))] [] (by kernel_rfl) h ?_; clear h; intro a w h
        refine condS (decide ((x2.c.abs.length : Int) > L)) h rfl (fun hc => ?_) (fun hc => ?_)
        ·have hc9 := hc; clear hc
         have hc9' := of_decide_eq_true hc9
         refine rSeq fam0ok 0 [] [(0, .t (.c (.d (.sl 4 (rs.map RelD.d))))), (2, vi .i64 L), (6, vb false), (7, vi .i64 (j : Int)), (8, vi .i64 (i : Int))] [] (by kernel_rfl) h ?_; clear h; intro a w h
         refine wp_ret ?_
         refine block_r ?_
         refine then_r ?_
         refine then_r ?_
         refine block_r ?_
         refine block_r ?_
         refine then_r ?_
         refine then_r ?_
         refine block_r ?_
         refine then_r ?_
         refine retS [.c (.d (.raw (.bool false)))] h Exit.ret (.inl rfl)  rfl ⟨RV.tmp _ _ rfl, trivial⟩ ?_ (by kernel_rfl) (by kernel_rfl)
         rw [show fewRs rs most L = false from by unfold fewRs; rw [all_stop hx1 (show fewR L x1 = false from by rw [fewR, all_stop hx2 (decide_eq_false (by have := of_decide_eq_true hc9; omega)), Bool.and_false]), Bool.and_false]]; first | done | rfl
        ·have hc10 := hc; clear hc
         have hc10' := of_decide_eq_false hc10
         refine wp_skip ?_
         refine block_n ?_
         refine then_n ?_
         refine rS fam0ok 0 [(1, .add .i64 (m := (i : Int)) (n := 1) (i64_id (by omega) (by omega)))] [(0, .t (.c (.d (.sl 4 (rs.map RelD.d))))), (2, vi .i64 L), (7, vi .i64 (j : Int)), (8, vi .i64 ((i : Int) + 1))] [] (by kernel_rfl) h ?_; clear h; intro a w h
         refine then_n ?_
         refine roundS (x := i) (y := i + 1) h ?_ ?_ (by kernel_rfl) (by kernel_rfl)
         ·exact ⟨by have := at_lt hx2; omega, all_step hx2 hJ2 (decide_eq_true (by have := of_decide_eq_false hc10; omega))⟩
         ·show x1.t.parts.length - (i + 1) < x1.t.parts.length - i
          have := at_lt hx2; omega
       ·have hc11 := hc; clear hc
        have hc11' := of_decide_eq_false hc11
        refine wp_exit ?_
        refine then_x ?_
        refine then_x ?_
        refine inBlock_exit ?_
        refine block_n ?_
        refine then_n ?_
        refine rS fam0ok 0 [(1, .add .i64 (m := (j : Int)) (n := 1) (i64_id (by omega) (by omega)))] [(0, .t (.c (.d (.sl 4 (rs.map RelD.d))))), (2, vi .i64 L), (7, vi .i64 ((j : Int) + 1))] [] (by kernel_rfl) h ?_; clear h; intro a w h
        refine then_n ?_
        refine roundS (x := j) (y := j + 1) h ?_ ?_ (by kernel_rfl) (by kernel_rfl)
        ·exact ⟨by have := at_lt hx1; omega, all_step hx1 hI2 (by rw [fewR, decide_eq_true (by have := of_decide_eq_false hc5; omega), decide_eq_true (by have := of_decide_eq_false hc7; omega), all_end (of_decide_eq_false hc11) hJ2]; rfl)⟩
        ·show rs.length - (j + 1) < rs.length - j
         have := at_lt hx1; omega
   ·have hc12 := hc; clear hc
    have hc12' := of_decide_eq_false hc12
    refine wp_exit ?_
    refine then_x ?_
    refine then_x ?_
    refine inBlock_exit ?_
    refine then_n ?_
    refine rSeq fam0ok 0 [] [(6, vb true)] [] (by kernel_rfl) h ?_; clear h; intro a w h
    refine wp_ret ?_
    refine retS [.c (.d (.raw (.bool true)))] h Exit.ret (.inl rfl)  rfl ⟨RV.tmp _ _ rfl, trivial⟩ ?_ (by kernel_rfl) (by kernel_rfl)
    rw [show fewRs rs most L = true from by unfold fewRs; rw [decide_eq_true (by have := of_decide_eq_false hc2; omega), all_end (of_decide_eq_false hc12) hI2]; rfl]; first | done | rfl
def fewVs (vs : List ZI) (most L : Int) : Bool := decide ((vs.length : Int) ≤ most) && vs.all fun z => decide ((z.abs.length : Int) ≤ L)
set_option maxHeartbeats 4000000 in
theorem SFewVs (vs : List ZI) (most L : Int) (hl : vs.length ≤ 9223372036854775807) : Fn Tryz.prog 11 [] [.t (.c (.d (.sl 2 (vs.map ziD)))), vi .i64 most, vi .i64 L] (vb (fewVs vs most L)) [] := by
 refine Fn.body Tryz.func11 rfl 26 rfl fun w H B a h => ?_
 refine rSeq fam0ok 0 [] [(0, .t (.c (.d (.sl 2 (vs.map ziD))))), (1, vi .i64 most), (2, vi .i64 L), (6, vb false)] [] (by kernel_rfl) h ?_; clear h; intro a w h
 refine wp_seq ?_
 refine rSeq fam0ok 0 [(1, .len (c := (.d (.sl 2 (vs.map ziD)))) (n := vs.length) (lenC_map _ _ _))] [(0, .t (.c (.d (.sl 2 (vs.map ziD))))), (2, vi .i64 L), (6, vb false), (11, vb (decide ((vs.length : Int) > most)))] [] (by kernel_rfl) h ?_; clear h; intro a w h
 refine condS (decide ((vs.length : Int) > most)) h rfl (fun hc => ?_) (fun hc => ?_)
 ·have hc1 := hc; clear hc
  have hc1' := of_decide_eq_true hc1
  refine rSeq fam0ok 0 [] [(0, .t (.c (.d (.sl 2 (vs.map ziD))))), (2, vi .i64 L), (6, vb false)] [] (by kernel_rfl) h ?_; clear h; intro a w h
  refine wp_ret ?_
  refine then_r ?_
  refine retS [.c (.d (.raw (.bool false)))] h Exit.ret (.inl rfl)  rfl ⟨RV.tmp _ _ rfl, trivial⟩ ?_ (by kernel_rfl) (by kernel_rfl)
  have hz : fewVs vs most L = false := by unfold fewVs; rw [decide_eq_false (by have := of_decide_eq_true hc1; omega)]; rfl
  rw [hz]; first | done | rfl
 ·have hc2 := hc; clear hc
  have hc2' := of_decide_eq_false hc2
  refine wp_skip ?_
  refine then_n ?_
  refine wp_seq ?_
  refine rSeq fam0ok 0 [] [(0, .t (.c (.d (.sl 2 (vs.map ziD))))), (2, vi .i64 L), (6, vb false), (7, vi .i64 0)] [] (by kernel_rfl) h ?_; clear h; intro a w h
  refine wp_block ?_
  refine loopS (ι := (Nat)) (fun (z_ : (Nat)) => match z_ with | j => j ≤ vs.length ∧ (vs.take j).all (fun z => decide ((z.abs.length : Int) ≤ L)) = true)
    (fun (z_ : (Nat)) => match z_ with | j => [(0, .t (.c (.d (.sl 2 (vs.map ziD))))), (2, vi .i64 L), (7, vi .i64 (j : Int))])
    (fun (z_ : (Nat)) => match z_ with | j => [])
    (fun (z_ : (Nat)) => match z_ with | j => vs.length - j) 0 ?_ h (by kernel_rfl) (by kernel_rfl) ?_
  ·exact ⟨Nat.zero_le _, rfl⟩
  ·clear h; rintro j a w hI h
   change St _ (F.of [(0, .t (.c (.d (.sl 2 (vs.map ziD))))), (2, vi .i64 L), (7, vi .i64 (j : Int))] []) a w at h
   obtain ⟨hI1, hI2⟩ := hI
   refine wp_seq ?_
   refine rSeq fam0ok 0 [(2, .len (c := (.d (.sl 2 (vs.map ziD)))) (n := vs.length) (lenC_map _ _ _))] [(0, .t (.c (.d (.sl 2 (vs.map ziD))))), (2, vi .i64 L), (7, vi .i64 (j : Int)), (15, vb (decide ((j : Int) < (vs.length : Int))))] [] (by kernel_rfl) h ?_; clear h; intro a w h
   refine condS (decide ((j : Int) < (vs.length : Int))) h rfl (fun hc => ?_) (fun hc => ?_)
   ·have hc3 := hc; clear hc
    have hc3' := of_decide_eq_true hc3
    refine wp_skip ?_
    refine then_n ?_
    refine wp_seq ?_
    refine wp_block ?_
    obtain ⟨x1, hx1⟩ : ∃ z_ : ZI, vs[j]? = some z_ := ⟨_, List.getElem?_eq_getElem (by first | omega | (simp at *; omega))⟩
    refine rSeq fam0ok 0 [(2, .gen _ _ _ fun _ _ _ _ => Op.idxD (d := 20) (t := 18) (k := .i64) tt_6 (map_at hx1 (f := ziD)) (OV.tmp 19 _)), (5, .len (nsl_len x1.abs))] [(0, .t (.c (.d (.sl 2 (vs.map ziD))))), (2, vi .i64 L), (7, vi .i64 (j : Int)), (25, vb (decide ((x1.abs.length : Int) > L)))] [] (by kernel_rfl) h ?_; clear h; intro a w h
    refine condS (decide ((x1.abs.length : Int) > L)) h rfl (fun hc => ?_) (fun hc => ?_)
    ·have hc4 := hc; clear hc
     have hc4' := of_decide_eq_true hc4
     refine rSeq fam0ok 0 [] [(0, .t (.c (.d (.sl 2 (vs.map ziD))))), (2, vi .i64 L), (6, vb false), (7, vi .i64 (j : Int))] [] (by kernel_rfl) h ?_; clear h; intro a w h
     refine wp_ret ?_
     refine block_r ?_
     refine then_r ?_
     refine then_r ?_
     refine block_r ?_
     refine then_r ?_
     refine retS [.c (.d (.raw (.bool false)))] h Exit.ret (.inl rfl)  rfl ⟨RV.tmp _ _ rfl, trivial⟩ ?_ (by kernel_rfl) (by kernel_rfl)
     have hz : fewVs vs most L = false := by unfold fewVs; rw [all_stop hx1 (show (fun z => decide ((z.abs.length : Int) ≤ L)) x1 = false from decide_eq_false (by have := of_decide_eq_true hc4; omega)), Bool.and_false]
     rw [hz]; first | done | rfl
    ·have hc5 := hc; clear hc
     have hc5' := of_decide_eq_false hc5
     refine wp_skip ?_
     refine block_n ?_
     refine then_n ?_
     refine rS fam0ok 0 [(1, .add .i64 (m := (j : Int)) (n := 1) (i64_id (by omega) (by omega)))] [(0, .t (.c (.d (.sl 2 (vs.map ziD))))), (2, vi .i64 L), (7, vi .i64 ((j : Int) + 1))] [] (by kernel_rfl) h ?_; clear h; intro a w h
     refine then_n ?_
     refine roundS (x := j) (y := j + 1) h ?_ ?_ (by kernel_rfl) (by kernel_rfl)
     ·exact ⟨by have := at_lt hx1; omega, all_step hx1 hI2 (show (fun z => decide ((z.abs.length : Int) ≤ L)) x1 = true from decide_eq_true (by have := of_decide_eq_false hc5; omega))⟩
     ·show vs.length - (j + 1) < vs.length - j
      have := at_lt hx1; omega
   ·have hc6 := hc; clear hc
    have hc6' := of_decide_eq_false hc6
    refine wp_exit ?_
    refine then_x ?_
    refine then_x ?_
    refine inBlock_exit ?_
    refine then_n ?_
    refine rSeq fam0ok 0 [] [(6, vb true)] [] (by kernel_rfl) h ?_; clear h; intro a w h
    refine wp_ret ?_
    refine retS [.c (.d (.raw (.bool true)))] h Exit.ret (.inl rfl)  rfl ⟨RV.tmp _ _ rfl, trivial⟩ ?_ (by kernel_rfl) (by kernel_rfl)
    have hz : fewVs vs most L = true := by unfold fewVs; rw [decide_eq_true (by have := of_decide_eq_false hc2; omega), all_end (of_decide_eq_false hc6) hI2]; rfl
    rw [hz]; first | done | rfl
set_option maxHeartbeats 4000000 in
theorem SRFit (rs : List RelD) (v : Int) (vs : List ZI) (hrs : RsOk rs) (hv : VOk 8 vs) : Fn Tryz.prog 13 [] [.t (.c (.d (.sl 4 (rs.map RelD.d)))), vi .i64 v, .t (.c (.d (.sl 2 (vs.map ziD))))] (.tup [.agg (zi (fitS (lowsOf rs v) (highsOf rs v) vs).1), .c (.d (.raw (.bool (fitS (lowsOf rs v) (highsOf rs v) vs).2)))]) [] := by
  have lrs := hrs.1
  refine Fn.body Tryz.func13 rfl 103 rfl fun w H B a h => ?_
  refine rSeq fam0ok 0 [] [(0, .t (.c (.d (.sl 4 (rs.map RelD.d))))), (1, vi .i64 v), (2, .t (.c (.d (.sl 2 (vs.map ziD))))), (6, vp 0 0), (7, vb false)] [(0, .box [.d (.raw (.bool false)), .d (nsl [])])] (by kernel_rfl) h ?_; clear h; intro a w h
  refine rSeq fam0ok 1 [] [(0, .t (.c (.d (.sl 4 (rs.map RelD.d))))), (1, vi .i64 v), (2, .t (.c (.d (.sl 2 (vs.map ziD))))), (6, vp 0 0), (7, vb false), (8, vp 1 0), (9, vp 2 0)] [(0, .box [.d (.raw (.bool false)), .d (nsl [])]), (1, .box [.d (.raw (.bool false)), .d (nsl [])]), (2, .box [.d (.raw (.bool false)), .d (nsl [])])] (by kernel_rfl) h ?_; clear h; intro a w h
  refine rSeq fam0ok 3 [] [(0, .t (.c (.d (.sl 4 (rs.map RelD.d))))), (1, vi .i64 v), (2, .t (.c (.d (.sl 2 (vs.map ziD))))), (6, vp 0 0), (7, vb false), (8, vp 1 0), (9, vp 2 0), (10, vb false), (11, vb false)] [(0, .box [.d (.raw (.bool false)), .d (nsl [])]), (1, .box [.d (.raw (.bool false)), .d (nsl [])]), (2, .box [.d (.raw (.bool false)), .d (nsl [])])] (by kernel_rfl) h ?_; clear h; intro a w h
  refine wp_seq ?_
  refine rSeq fam0ok 3 [] [(0, .t (.c (.d (.sl 4 (rs.map RelD.d))))), (1, vi .i64 v), (2, .t (.c (.d (.sl 2 (vs.map ziD))))), (6, vp 0 0), (7, vb false), (8, vp 1 0), (9, vp 2 0), (10, vb false), (11, vb false), (12, vi .i64 0)] [(0, .box [.d (.raw (.bool false)), .d (nsl [])]), (1, .box [.d (.raw (.bool false)), .d (nsl [])]), (2, .box [.d (.raw (.bool false)), .d (nsl [])])] (by kernel_rfl) h ?_; clear h; intro a w h
  refine wp_block ?_
  refine loopS (ι := (Nat) × (ZI) × (ZI) × (Bool) × (Bool)) (fun (z_ : (Nat) × (ZI) × (ZI) × (Bool) × (Bool)) => match z_ with | (j, low, high, fr, tt) => j ≤ rs.length ∧ (low = ZI.of ((best gtB (leastZ · vs) (lowsOf (rs.take j) v)).getD 0) ∧ fr = (best gtB (leastZ · vs) (lowsOf (rs.take j) v)).isSome ∧ low.abs.length ≤ 20) ∧ (high = ZI.of ((best ltB (mostZ · vs) (highsOf (rs.take j) v)).getD 0) ∧ tt = (best ltB (mostZ · vs) (highsOf (rs.take j) v)).isSome ∧ high.abs.length ≤ 20))
      (fun (z_ : (Nat) × (ZI) × (ZI) × (Bool) × (Bool)) => match z_ with | (j, low, high, fr, tt) => [(0, .t (.c (.d (.sl 4 (rs.map RelD.d))))), (1, vi .i64 v), (2, .t (.c (.d (.sl 2 (vs.map ziD))))), (6, vp 0 0), (7, vb false), (8, vp 1 0), (9, vp 2 0), (10, vb fr), (11, vb tt), (12, vi .i64 (j : Int))])
      (fun (z_ : (Nat) × (ZI) × (ZI) × (Bool) × (Bool)) => match z_ with | (j, low, high, fr, tt) => [(0, .box [.d (.raw (.bool false)), .d (nsl [])]), (1, .box (zi low)), (2, .box (zi high))])
      (fun (z_ : (Nat) × (ZI) × (ZI) × (Bool) × (Bool)) => match z_ with | (j, low, high, fr, tt) => rs.length - j) (0, (ZI.of 0), (ZI.of 0), false, false) ?_ h (by kernel_rfl) (by kernel_rfl) ?_
  · exact ⟨Nat.zero_le _, ⟨rfl, rfl, Nat.zero_le _⟩, ⟨rfl, rfl, Nat.zero_le _⟩⟩
  · clear h; rintro ⟨j, low, high, fr, tt⟩ a w hI h
    change St _ (F.of [(0, .t (.c (.d (.sl 4 (rs.map RelD.d))))), (1, vi .i64 v), (2, .t (.c (.d (.sl 2 (vs.map ziD))))), (6, vp 0 0), (7, vb false), (8, vp 1 0), (9, vp 2 0), (10, vb fr), (11, vb tt), (12, vi .i64 (j : Int))] [(0, .box [.d (.raw (.bool false)), .d (nsl [])]), (1, .box (zi low)), (2, .box (zi high))]) a w at h
    obtain ⟨hI1, ⟨hL1, hL2, hL3⟩, hH1, hH2, hH3⟩ := hI
    have llow : Lb low.abs := by rw [hL1]; exact ZI.lb_of _
    have lhigh : Lb high.abs := by rw [hH1]; exact ZI.lb_of _
    refine wp_seq ?_
    refine rSeq fam0ok 3 [(2, .len (c := (.d (.sl 4 (rs.map RelD.d)))) (n := rs.length) (lenC_map _ _ _))] [(0, .t (.c (.d (.sl 4 (rs.map RelD.d))))), (1, vi .i64 v), (2, .t (.c (.d (.sl 2 (vs.map ziD))))), (6, vp 0 0), (7, vb false), (8, vp 1 0), (9, vp 2 0), (10, vb fr), (11, vb tt), (12, vi .i64 (j : Int)), (25, vb (decide ((j : Int) < (rs.length : Int))))] [(0, .box [.d (.raw (.bool false)), .d (nsl [])]), (1, .box (zi low)), (2, .box (zi high))] (by kernel_rfl) h ?_; clear h; intro a w h
    refine condS (decide ((j : Int) < (rs.length : Int))) h rfl (fun hc => ?_) (fun hc => ?_)
    · have hc1 := hc; clear hc
      have hc1' := of_decide_eq_true hc1
      refine wp_skip ?_
      refine then_n ?_
      refine wp_seq ?_
      refine wp_block ?_
      obtain ⟨x1, hx1⟩ : ∃ z_ : RelD, rs[j]? = some z_ := ⟨_, List.getElem?_eq_getElem (by first | omega | (simp at *; omega))⟩
      have gx1 : TOk 20 8 x1.t := hrs.2 x1 (List.mem_of_getElem? hx1)
      obtain ⟨r3, er3, vr3, or3, lr3⟩ := mkZ (v := valT (woT x1.t v) vs) (m := 18) (valT_len (wo_ok gx1 (by decide) v) (by decide) hv)
      refine rSeq fam0ok 3 [(2, .gen _ _ _ fun _ _ _ _ => Op.idxD (d := 30) (t := 28) (k := .i64) kc_3 (map_at hx1 (f := RelD.d)) (OV.tmp 29 _)), (6, .call (SRWithout x1.t v gx1 (by decide) (by decide)) ua_10), (8, .call (Fn.cast (SRValue (woT x1.t v) vs (wo_ok gx1 (by decide) v) (by decide) (by decide) hv) (congrArg vz er3.symm)) ke_2)] [(0, .t (.c (.d (.sl 4 (rs.map RelD.d))))), (1, vi .i64 v), (2, .t (.c (.d (.sl 2 (vs.map ziD))))), (6, vp 0 0), (7, vb false), (8, vp 1 0), (9, vp 2 0), (10, vb fr), (11, vb tt), (12, vi .i64 (j : Int)), (13, vp 3 0)] [(0, .box [.d (.raw (.bool false)), .d (nsl [])]), (1, .box (zi low)), (2, .box (zi high)), (3, .box (zi r3))] (by kernel_rfl) h ?_; clear h; intro a w h
      obtain ⟨r4, er4, vr4, or4, lr4⟩ := mkZ (v := ((coefZ x1.t.parts v).natAbs : Int)) (m := 9) ((side_ok gx1 v).len)
      refine rSeq fam0ok 4 [(2, .gen _ _ _ fun _ _ _ _ => Op.idxD (d := 39) (t := 37) (k := .i64) kc_3 (map_at hx1 (f := RelD.d)) (OV.tmp 38 _)), (5, .call (Fn.cast (STimes7 x1 v gx1) (congrArg vz er4.symm)) hd_10)] [(0, .t (.c (.d (.sl 4 (rs.map RelD.d))))), (1, vi .i64 v), (2, .t (.c (.d (.sl 2 (vs.map ziD))))), (6, vp 0 0), (7, vb false), (8, vp 1 0), (9, vp 2 0), (10, vb fr), (11, vb tt), (12, vi .i64 (j : Int)), (13, vp 3 0), (14, vp 4 0)] [(0, .box [.d (.raw (.bool false)), .d (nsl [])]), (1, .box (zi low)), (2, .box (zi high)), (3, .box (zi r3)), (4, .box (zi r4))] (by kernel_rfl) h ?_; clear h; intro a w h
      refine wp_seq ?_
      refine rSeq fam0ok 5 [(2, .gen _ _ _ fun _ _ _ _ => Op.idxD (d := 45) (t := 43) (k := .i64) kc_3 (map_at hx1 (f := RelD.d)) (OV.tmp 44 _)), (5, .call (SSign7 x1 v gx1) hd_11)] [(0, .t (.c (.d (.sl 4 (rs.map RelD.d))))), (1, vi .i64 v), (2, .t (.c (.d (.sl 2 (vs.map ziD))))), (6, vp 0 0), (7, vb false), (8, vp 1 0), (9, vp 2 0), (10, vb fr), (11, vb tt), (12, vi .i64 (j : Int)), (13, vp 3 0), (14, vp 4 0), (49, vb (decide (sgn (coefZ x1.t.parts v) > 0)))] [(0, .box [.d (.raw (.bool false)), .d (nsl [])]), (1, .box (zi low)), (2, .box (zi high)), (3, .box (zi r3)), (4, .box (zi r4))] (by kernel_rfl) h ?_; clear h; intro a w h
      refine condS (decide (sgn (coefZ x1.t.parts v) > 0)) h rfl (fun hc => ?_) (fun hc => ?_)
      · have hc2 := hc; clear hc
        have hc2' := of_decide_eq_true hc2
        have hne : r4.val ≠ 0 := by have h0 := of_decide_eq_true hc2; rw [vr4]; unfold sgn at h0; split at h0 <;> (try split at h0) <;> omega
        obtain ⟨r6, er6, vr6, or6, lr6⟩ := mkZ (v := -r3.val) (m := r3.abs.length) (len_neg or3)
        obtain ⟨r7, er7, vr7, or7, lr7⟩ := mkZ (v := -((-r6.val).fdiv r4.val)) (m := r6.abs.length) (len_ceil or6 hne)
        refine rSeq fam0ok 5 [(1, .call (Fn.cast (SRNeg r3 or3 (by omega)) (congrArg vz er6.symm)) zs_3), (3, .call (Fn.cast (SRCeil r6 r4 or6 or4 (by omega) (by omega) hne) (show _ = (.tup [.agg (zi r7), .c (.d (.raw (.int .i64 0)))] : V) by rw [er7]; first | done | rfl)) hd_13)] [(0, .t (.c (.d (.sl 4 (rs.map RelD.d))))), (1, vi .i64 v), (2, .t (.c (.d (.sl 2 (vs.map ziD))))), (6, vp 0 0), (7, vb false), (8, vp 1 0), (9, vp 2 0), (10, vb fr), (11, vb tt), (12, vi .i64 (j : Int)), (13, vp 3 0), (14, vp 4 0), (15, vp 5 0)] [(0, .box [.d (.raw (.bool false)), .d (nsl [])]), (1, .box (zi low)), (2, .box (zi high)), (3, .box (zi r3)), (4, .box (zi r4)), (5, .box (zi r7))] (by kernel_rfl) h ?_; clear h; intro a w h
        rcases Bool.eq_false_or_eq_true fr with hc | hc
        · have hc3 := hc; clear hc
          rw [hc3] at h
          refine rSeq fam0ok 6 [(5, .call (SRCmp r7 low or7 llow (by omega) (by omega)) ub_1)] [(0, .t (.c (.d (.sl 4 (rs.map RelD.d))))), (1, vi .i64 v), (2, .t (.c (.d (.sl 2 (vs.map ziD))))), (6, vp 0 0), (7, vb false), (8, vp 1 0), (9, vp 2 0), (10, vb true), (11, vb tt), (12, vi .i64 (j : Int)), (13, vp 3 0), (14, vp 4 0), (15, vp 5 0), (64, vb (decide (cmpZ r7.val low.val > 0)))] [(0, .box [.d (.raw (.bool false)), .d (nsl [])]), (1, .box (zi low)), (2, .box (zi high)), (3, .box (zi r3)), (4, .box (zi r4)), (5, .box (zi r7))] (by kernel_rfl) h ?_; clear h; intro a w h
          refine condS (decide (cmpZ r7.val low.val > 0)) h rfl (fun hc => ?_) (fun hc => ?_)
          · have hc4 := hc; clear hc
            have hc4' := of_decide_eq_true hc4
            refine rS fam0ok 6 [] [(0, .t (.c (.d (.sl 4 (rs.map RelD.d))))), (1, vi .i64 v), (2, .t (.c (.d (.sl 2 (vs.map ziD))))), (6, vp 0 0), (7, vb false), (8, vp 1 0), (9, vp 2 0), (10, vb true), (11, vb tt), (12, vi .i64 (j : Int)), (13, vp 3 0), (14, vp 4 0)] [(0, .box [.d (.raw (.bool false)), .d (nsl [])]), (1, .box (zi r7)), (2, .box (zi high)), (3, .box (zi r3)), (4, .box (zi r4))] (by kernel_rfl) h ?_; clear h; intro a w h
            refine then_n ?_
            refine rSeq fam0ok 6 [(2, .gen _ _ _ fun _ _ _ _ => Op.idxD (d := 68) (t := 66) (k := .i64) kc_3 (map_at hx1 (f := RelD.d)) (OV.tmp 67 _)), (5, .call (SSign7 x1 v gx1) hd_11)] [(0, .t (.c (.d (.sl 4 (rs.map RelD.d))))), (1, vi .i64 v), (2, .t (.c (.d (.sl 2 (vs.map ziD))))), (6, vp 0 0), (7, vb false), (8, vp 1 0), (9, vp 2 0), (10, vb true), (11, vb tt), (12, vi .i64 (j : Int)), (13, vp 3 0), (14, vp 4 0), (72, vb (decide (sgn (coefZ x1.t.parts v) < 0)))] [(0, .box [.d (.raw (.bool false)), .d (nsl [])]), (1, .box (zi r7)), (2, .box (zi high)), (3, .box (zi r3)), (4, .box (zi r4))] (by kernel_rfl) h ?_; clear h; intro a w h
            refine condS (decide (sgn (coefZ x1.t.parts v) < 0)) h rfl (fun hc => ?_) (fun hc => ?_)
            · have hc5 := hc; clear hc
              have hc5' := of_decide_eq_true hc5
              have hne : r4.val ≠ 0 := by have h0 := of_decide_eq_true hc5; rw [vr4]; unfold sgn at h0; split at h0 <;> (try split at h0) <;> omega
              obtain ⟨r10q, er10q, vr10q, or10q, lr10q⟩ := mkZ (v := r3.val.fdiv r4.val) (m := r3.abs.length) (len_fdiv or3 hne)
              obtain ⟨r10r, er10r, vr10r, or10r, lr10r⟩ := mkZ (v := r3.val.fmod r4.val) (m := r4.abs.length) (len_fmod or4 hne)
              refine rSeq fam0ok 6 [(2, .call (Fn.cast (SRDiv r3 r4 or3 or4 (by omega) (by omega) hne) (show _ = (.tup [.agg (zi r10q), .agg (zi r10r), .c (.d (.raw (.int .i64 0)))] : V) by rw [er10q, er10r]; first | done | rfl)) tw_15)] [(0, .t (.c (.d (.sl 4 (rs.map RelD.d))))), (1, vi .i64 v), (2, .t (.c (.d (.sl 2 (vs.map ziD))))), (6, vp 0 0), (7, vb false), (8, vp 1 0), (9, vp 2 0), (10, vb true), (11, vb tt), (12, vi .i64 (j : Int)), (17, vp 6 0)] [(0, .box [.d (.raw (.bool false)), .d (nsl [])]), (1, .box (zi r7)), (2, .box (zi high)), (6, .box (zi r10q))] (by kernel_rfl) h ?_; clear h; intro a w h
              rcases Bool.eq_false_or_eq_true tt with hc | hc
              · have hc6 := hc; clear hc
                rw [hc6] at h
                refine rSeq fam0ok 8 [(5, .call (SRCmp r10q high or10q lhigh (by omega) (by omega)) ub_1)] [(0, .t (.c (.d (.sl 4 (rs.map RelD.d))))), (1, vi .i64 v), (2, .t (.c (.d (.sl 2 (vs.map ziD))))), (6, vp 0 0), (7, vb false), (8, vp 1 0), (9, vp 2 0), (10, vb true), (11, vb true), (12, vi .i64 (j : Int)), (17, vp 6 0), (87, vb (decide (cmpZ r10q.val high.val < 0)))] [(0, .box [.d (.raw (.bool false)), .d (nsl [])]), (1, .box (zi r7)), (2, .box (zi high)), (6, .box (zi r10q))] (by kernel_rfl) h ?_; clear h; intro a w h
                refine condS (decide (cmpZ r10q.val high.val < 0)) h rfl (fun hc => ?_) (fun hc => ?_)
                · have hc7 := hc; clear hc
                  have hc7' := of_decide_eq_true hc7
                  refine rS fam0ok 8 [] [(0, .t (.c (.d (.sl 4 (rs.map RelD.d))))), (1, vi .i64 v), (2, .t (.c (.d (.sl 2 (vs.map ziD))))), (6, vp 0 0), (7, vb false), (8, vp 1 0), (9, vp 2 0), (10, vb true), (11, vb true), (12, vi .i64 (j : Int))] [(0, .box [.d (.raw (.bool false)), .d (nsl [])]), (1, .box (zi r7)), (2, .box (zi r10q))] (by kernel_rfl) h ?_; clear h; intro a w h
                  refine block_n ?_
                  refine then_n ?_
                  refine rS fam0ok 8 [(1, .add .i64 (m := (j : Int)) (n := 1) (i64_id (by omega) (by omega)))] [(0, .t (.c (.d (.sl 4 (rs.map RelD.d))))), (1, vi .i64 v), (2, .t (.c (.d (.sl 2 (vs.map ziD))))), (6, vp 0 0), (7, vb false), (8, vp 1 0), (9, vp 2 0), (10, vb true), (11, vb true), (12, vi .i64 ((j : Int) + 1))] [(0, .box [.d (.raw (.bool false)), .d (nsl [])]), (1, .box (zi r7)), (2, .box (zi r10q))] (by kernel_rfl) h ?_; clear h; intro a w h
                  refine then_n ?_
                  refine roundS (x := (j, low, high, fr, tt)) (y := (j + 1, r7, r10q, true, true)) h ?_ ?_ (by kernel_rfl) (by kernel_rfl)
                  · have := at_lt hx1
                    have hblow : best gtB (leastZ · vs) (lowsOf (rs.take (j + 1)) v) = some (leastZ (sideOf v x1) vs) := by rw [lows_take hx1, low_yes hc2]; exact bs_more (by rw [← hL2, hc3]) (by have hq := hc4; rw [vr7, hL1, ZI.val_of] at hq; rw [(show leastZ (sideOf v x1) vs = -((-r6.val).fdiv r4.val) from by unfold leastZ sideOf; show _ = _; rw [vr6, vr4, vr3, ZI.val_of])]; exact hq)
                    have hbhigh : best ltB (mostZ · vs) (highsOf (rs.take (j + 1)) v) = some (mostZ (sideOf v x1) vs) := by rw [highs_take hx1, high_yes hc5]; exact bs_more (by rw [← hH2, hc6]) (by have hq := hc7; rw [vr10q, hH1, ZI.val_of] at hq; rw [(show mostZ (sideOf v x1) vs = r3.val.fdiv r4.val from by unfold mostZ sideOf; show _ = _; rw [vr4, vr3, ZI.val_of])]; exact hq)
                    exact ⟨by omega, ⟨by rw [hblow, (show leastZ (sideOf v x1) vs = -((-r6.val).fdiv r4.val) from by unfold leastZ sideOf; show _ = _; rw [vr6, vr4, vr3, ZI.val_of]), er7]; rfl, by rw [hblow]; rfl, by omega⟩, ⟨by rw [hbhigh, (show mostZ (sideOf v x1) vs = r3.val.fdiv r4.val from by unfold mostZ sideOf; show _ = _; rw [vr4, vr3, ZI.val_of]), er10q]; rfl, by rw [hbhigh]; rfl, by omega⟩⟩
                  · show rs.length - (j + 1) < rs.length - j
                    have := at_lt hx1; omega
                · have hc8 := hc; clear hc
                  have hc8' := of_decide_eq_false hc8
                  refine wp_skip ?_
                  refine block_n ?_
                  refine then_n ?_
                  refine rS fam0ok 8 [(1, .add .i64 (m := (j : Int)) (n := 1) (i64_id (by omega) (by omega)))] [(0, .t (.c (.d (.sl 4 (rs.map RelD.d))))), (1, vi .i64 v), (2, .t (.c (.d (.sl 2 (vs.map ziD))))), (6, vp 0 0), (7, vb false), (8, vp 1 0), (9, vp 2 0), (10, vb true), (11, vb true), (12, vi .i64 ((j : Int) + 1))] [(0, .box [.d (.raw (.bool false)), .d (nsl [])]), (1, .box (zi r7)), (2, .box (zi high))] (by kernel_rfl) h ?_; clear h; intro a w h
                  refine then_n ?_
                  refine roundS (x := (j, low, high, fr, tt)) (y := (j + 1, r7, high, true, true)) h ?_ ?_ (by kernel_rfl) (by kernel_rfl)
                  · have := at_lt hx1
                    have hblow : best gtB (leastZ · vs) (lowsOf (rs.take (j + 1)) v) = some (leastZ (sideOf v x1) vs) := by rw [lows_take hx1, low_yes hc2]; exact bs_more (by rw [← hL2, hc3]) (by have hq := hc4; rw [vr7, hL1, ZI.val_of] at hq; rw [(show leastZ (sideOf v x1) vs = -((-r6.val).fdiv r4.val) from by unfold leastZ sideOf; show _ = _; rw [vr6, vr4, vr3, ZI.val_of])]; exact hq)
                    have hbhigh : best ltB (mostZ · vs) (highsOf (rs.take (j + 1)) v) = best ltB (mostZ · vs) (highsOf (rs.take j) v) := by rw [highs_take hx1, high_yes hc5]; exact bs_keep (by rw [← hH2, hc6]) (by have hq := hc8; rw [vr10q, hH1, ZI.val_of] at hq; rw [(show mostZ (sideOf v x1) vs = r3.val.fdiv r4.val from by unfold mostZ sideOf; show _ = _; rw [vr4, vr3, ZI.val_of])]; exact hq)
                    exact ⟨by omega, ⟨by rw [hblow, (show leastZ (sideOf v x1) vs = -((-r6.val).fdiv r4.val) from by unfold leastZ sideOf; show _ = _; rw [vr6, vr4, vr3, ZI.val_of]), er7]; rfl, by rw [hblow]; rfl, by omega⟩, ⟨by rw [hbhigh]; exact hH1, by rw [hbhigh, ← hH2, hc6], hH3⟩⟩
                  · show rs.length - (j + 1) < rs.length - j
                    have := at_lt hx1; omega
              · have hc9 := hc; clear hc
                rw [hc9] at h
                refine rSeq fam0ok 8 [] [(0, .t (.c (.d (.sl 4 (rs.map RelD.d))))), (1, vi .i64 v), (2, .t (.c (.d (.sl 2 (vs.map ziD))))), (6, vp 0 0), (7, vb false), (8, vp 1 0), (9, vp 2 0), (10, vb true), (11, vb false), (12, vi .i64 (j : Int)), (17, vp 6 0), (87, vb true)] [(0, .box [.d (.raw (.bool false)), .d (nsl [])]), (1, .box (zi r7)), (2, .box (zi high)), (6, .box (zi r10q))] (by kernel_rfl) h ?_; clear h; intro a w h
                refine condS true h rfl (fun hc => ?_) (fun hc => ?_)
                · clear hc
                  refine rS fam0ok 8 [] [(0, .t (.c (.d (.sl 4 (rs.map RelD.d))))), (1, vi .i64 v), (2, .t (.c (.d (.sl 2 (vs.map ziD))))), (6, vp 0 0), (7, vb false), (8, vp 1 0), (9, vp 2 0), (10, vb true), (11, vb true), (12, vi .i64 (j : Int))] [(0, .box [.d (.raw (.bool false)), .d (nsl [])]), (1, .box (zi r7)), (2, .box (zi r10q))] (by kernel_rfl) h ?_; clear h; intro a w h
                  refine block_n ?_
                  refine then_n ?_
                  refine rS fam0ok 8 [(1, .add .i64 (m := (j : Int)) (n := 1) (i64_id (by omega) (by omega)))] [(0, .t (.c (.d (.sl 4 (rs.map RelD.d))))), (1, vi .i64 v), (2, .t (.c (.d (.sl 2 (vs.map ziD))))), (6, vp 0 0), (7, vb false), (8, vp 1 0), (9, vp 2 0), (10, vb true), (11, vb true), (12, vi .i64 ((j : Int) + 1))] [(0, .box [.d (.raw (.bool false)), .d (nsl [])]), (1, .box (zi r7)), (2, .box (zi r10q))] (by kernel_rfl) h ?_; clear h; intro a w h
                  refine then_n ?_
                  refine roundS (x := (j, low, high, fr, tt)) (y := (j + 1, r7, r10q, true, true)) h ?_ ?_ (by kernel_rfl) (by kernel_rfl)
                  · have := at_lt hx1
                    have hblow : best gtB (leastZ · vs) (lowsOf (rs.take (j + 1)) v) = some (leastZ (sideOf v x1) vs) := by rw [lows_take hx1, low_yes hc2]; exact bs_more (by rw [← hL2, hc3]) (by have hq := hc4; rw [vr7, hL1, ZI.val_of] at hq; rw [(show leastZ (sideOf v x1) vs = -((-r6.val).fdiv r4.val) from by unfold leastZ sideOf; show _ = _; rw [vr6, vr4, vr3, ZI.val_of])]; exact hq)
                    have hbhigh : best ltB (mostZ · vs) (highsOf (rs.take (j + 1)) v) = some (mostZ (sideOf v x1) vs) := by rw [highs_take hx1, high_yes hc5]; exact bs_first (by rw [← hH2, hc9])
                    exact ⟨by omega, ⟨by rw [hblow, (show leastZ (sideOf v x1) vs = -((-r6.val).fdiv r4.val) from by unfold leastZ sideOf; show _ = _; rw [vr6, vr4, vr3, ZI.val_of]), er7]; rfl, by rw [hblow]; rfl, by omega⟩, ⟨by rw [hbhigh, (show mostZ (sideOf v x1) vs = r3.val.fdiv r4.val from by unfold mostZ sideOf; show _ = _; rw [vr4, vr3, ZI.val_of]), er10q]; rfl, by rw [hbhigh]; rfl, by omega⟩⟩
                  · show rs.length - (j + 1) < rs.length - j
                    have := at_lt hx1; omega
                · cases hc
            · have hc10 := hc; clear hc
              have hc10' := of_decide_eq_false hc10
              refine wp_skip ?_
              refine block_n ?_
              refine then_n ?_
              refine rS fam0ok 8 [(1, .add .i64 (m := (j : Int)) (n := 1) (i64_id (by omega) (by omega)))] [(0, .t (.c (.d (.sl 4 (rs.map RelD.d))))), (1, vi .i64 v), (2, .t (.c (.d (.sl 2 (vs.map ziD))))), (6, vp 0 0), (7, vb false), (8, vp 1 0), (9, vp 2 0), (10, vb true), (11, vb tt), (12, vi .i64 ((j : Int) + 1))] [(0, .box [.d (.raw (.bool false)), .d (nsl [])]), (1, .box (zi r7)), (2, .box (zi high))] (by kernel_rfl) h ?_; clear h; intro a w h
              refine then_n ?_
              refine roundS (x := (j, low, high, fr, tt)) (y := (j + 1, r7, high, true, tt)) h ?_ ?_ (by kernel_rfl) (by kernel_rfl)
              · have := at_lt hx1
                have hblow : best gtB (leastZ · vs) (lowsOf (rs.take (j + 1)) v) = some (leastZ (sideOf v x1) vs) := by rw [lows_take hx1, low_yes hc2]; exact bs_more (by rw [← hL2, hc3]) (by have hq := hc4; rw [vr7, hL1, ZI.val_of] at hq; rw [(show leastZ (sideOf v x1) vs = -((-r6.val).fdiv r4.val) from by unfold leastZ sideOf; show _ = _; rw [vr6, vr4, vr3, ZI.val_of])]; exact hq)
                have hbhigh : best ltB (mostZ · vs) (highsOf (rs.take (j + 1)) v) = best ltB (mostZ · vs) (highsOf (rs.take j) v) := by rw [highs_take hx1, high_no hc10, bs_nil]
                exact ⟨by omega, ⟨by rw [hblow, (show leastZ (sideOf v x1) vs = -((-r6.val).fdiv r4.val) from by unfold leastZ sideOf; show _ = _; rw [vr6, vr4, vr3, ZI.val_of]), er7]; rfl, by rw [hblow]; rfl, by omega⟩, ⟨by rw [hbhigh]; exact hH1, by rw [hbhigh]; exact hH2, hH3⟩⟩
              · show rs.length - (j + 1) < rs.length - j
                have := at_lt hx1; omega
          · have hc11 := hc; clear hc
            have hc11' := of_decide_eq_false hc11
            refine wp_skip ?_
            refine then_n ?_
            refine rSeq fam0ok 8 [(2, .gen _ _ _ fun _ _ _ _ => Op.idxD (d := 68) (t := 66) (k := .i64) kc_3 (map_at hx1 (f := RelD.d)) (OV.tmp 67 _)), (5, .call (SSign7 x1 v gx1) hd_11)] [(0, .t (.c (.d (.sl 4 (rs.map RelD.d))))), (1, vi .i64 v), (2, .t (.c (.d (.sl 2 (vs.map ziD))))), (6, vp 0 0), (7, vb false), (8, vp 1 0), (9, vp 2 0), (10, vb true), (11, vb tt), (12, vi .i64 (j : Int)), (13, vp 3 0), (14, vp 4 0), (72, vb (decide (sgn (coefZ x1.t.parts v) < 0)))] [(0, .box [.d (.raw (.bool false)), .d (nsl [])]), (1, .box (zi low)), (2, .box (zi high)), (3, .box (zi r3)), (4, .box (zi r4))] (by kernel_rfl) h ?_; clear h; intro a w h
            refine condS (decide (sgn (coefZ x1.t.parts v) < 0)) h rfl (fun hc => ?_) (fun hc => ?_)
            · have hc12 := hc; clear hc
              have hc12' := of_decide_eq_true hc12
              have hne : r4.val ≠ 0 := by have h0 := of_decide_eq_true hc12; rw [vr4]; unfold sgn at h0; split at h0 <;> (try split at h0) <;> omega
              obtain ⟨r13q, er13q, vr13q, or13q, lr13q⟩ := mkZ (v := r3.val.fdiv r4.val) (m := r3.abs.length) (len_fdiv or3 hne)
              obtain ⟨r13r, er13r, vr13r, or13r, lr13r⟩ := mkZ (v := r3.val.fmod r4.val) (m := r4.abs.length) (len_fmod or4 hne)
              refine rSeq fam0ok 8 [(2, .call (Fn.cast (SRDiv r3 r4 or3 or4 (by omega) (by omega) hne) (show _ = (.tup [.agg (zi r13q), .agg (zi r13r), .c (.d (.raw (.int .i64 0)))] : V) by rw [er13q, er13r]; first | done | rfl)) tw_15)] [(0, .t (.c (.d (.sl 4 (rs.map RelD.d))))), (1, vi .i64 v), (2, .t (.c (.d (.sl 2 (vs.map ziD))))), (6, vp 0 0), (7, vb false), (8, vp 1 0), (9, vp 2 0), (10, vb true), (11, vb tt), (12, vi .i64 (j : Int)), (17, vp 8 0)] [(0, .box [.d (.raw (.bool false)), .d (nsl [])]), (1, .box (zi low)), (2, .box (zi high)), (8, .box (zi r13q))] (by kernel_rfl) h ?_; clear h; intro a w h
              rcases Bool.eq_false_or_eq_true tt with hc | hc
              · have hc13 := hc; clear hc
                rw [hc13] at h
                refine rSeq fam0ok 10 [(5, .call (SRCmp r13q high or13q lhigh (by omega) (by omega)) ub_1)] [(0, .t (.c (.d (.sl 4 (rs.map RelD.d))))), (1, vi .i64 v), (2, .t (.c (.d (.sl 2 (vs.map ziD))))), (6, vp 0 0), (7, vb false), (8, vp 1 0), (9, vp 2 0), (10, vb true), (11, vb true), (12, vi .i64 (j : Int)), (17, vp 8 0), (87, vb (decide (cmpZ r13q.val high.val < 0)))] [(0, .box [.d (.raw (.bool false)), .d (nsl [])]), (1, .box (zi low)), (2, .box (zi high)), (8, .box (zi r13q))] (by kernel_rfl) h ?_; clear h; intro a w h
                refine condS (decide (cmpZ r13q.val high.val < 0)) h rfl (fun hc => ?_) (fun hc => ?_)
                · have hc14 := hc; clear hc
                  have hc14' := of_decide_eq_true hc14
                  refine rS fam0ok 10 [] [(0, .t (.c (.d (.sl 4 (rs.map RelD.d))))), (1, vi .i64 v), (2, .t (.c (.d (.sl 2 (vs.map ziD))))), (6, vp 0 0), (7, vb false), (8, vp 1 0), (9, vp 2 0), (10, vb true), (11, vb true), (12, vi .i64 (j : Int))] [(0, .box [.d (.raw (.bool false)), .d (nsl [])]), (1, .box (zi low)), (2, .box (zi r13q))] (by kernel_rfl) h ?_; clear h; intro a w h
                  refine block_n ?_
                  refine then_n ?_
                  refine rS fam0ok 10 [(1, .add .i64 (m := (j : Int)) (n := 1) (i64_id (by omega) (by omega)))] [(0, .t (.c (.d (.sl 4 (rs.map RelD.d))))), (1, vi .i64 v), (2, .t (.c (.d (.sl 2 (vs.map ziD))))), (6, vp 0 0), (7, vb false), (8, vp 1 0), (9, vp 2 0), (10, vb true), (11, vb true), (12, vi .i64 ((j : Int) + 1))] [(0, .box [.d (.raw (.bool false)), .d (nsl [])]), (1, .box (zi low)), (2, .box (zi r13q))] (by kernel_rfl) h ?_; clear h; intro a w h
                  refine then_n ?_
                  refine roundS (x := (j, low, high, fr, tt)) (y := (j + 1, low, r13q, true, true)) h ?_ ?_ (by kernel_rfl) (by kernel_rfl)
                  · have := at_lt hx1
                    have hblow : best gtB (leastZ · vs) (lowsOf (rs.take (j + 1)) v) = best gtB (leastZ · vs) (lowsOf (rs.take j) v) := by rw [lows_take hx1, low_yes hc2]; exact bs_keep (by rw [← hL2, hc3]) (by have hq := hc11; rw [vr7, hL1, ZI.val_of] at hq; rw [(show leastZ (sideOf v x1) vs = -((-r6.val).fdiv r4.val) from by unfold leastZ sideOf; show _ = _; rw [vr6, vr4, vr3, ZI.val_of])]; exact hq)
                    have hbhigh : best ltB (mostZ · vs) (highsOf (rs.take (j + 1)) v) = some (mostZ (sideOf v x1) vs) := by rw [highs_take hx1, high_yes hc12]; exact bs_more (by rw [← hH2, hc13]) (by have hq := hc14; rw [vr13q, hH1, ZI.val_of] at hq; rw [(show mostZ (sideOf v x1) vs = r3.val.fdiv r4.val from by unfold mostZ sideOf; show _ = _; rw [vr4, vr3, ZI.val_of])]; exact hq)
                    exact ⟨by omega, ⟨by rw [hblow]; exact hL1, by rw [hblow, ← hL2, hc3], hL3⟩, ⟨by rw [hbhigh, (show mostZ (sideOf v x1) vs = r3.val.fdiv r4.val from by unfold mostZ sideOf; show _ = _; rw [vr4, vr3, ZI.val_of]), er13q]; rfl, by rw [hbhigh]; rfl, by omega⟩⟩
                  · show rs.length - (j + 1) < rs.length - j
                    have := at_lt hx1; omega
                · have hc15 := hc; clear hc
                  have hc15' := of_decide_eq_false hc15
                  refine wp_skip ?_
                  refine block_n ?_
                  refine then_n ?_
                  refine rS fam0ok 10 [(1, .add .i64 (m := (j : Int)) (n := 1) (i64_id (by omega) (by omega)))] [(0, .t (.c (.d (.sl 4 (rs.map RelD.d))))), (1, vi .i64 v), (2, .t (.c (.d (.sl 2 (vs.map ziD))))), (6, vp 0 0), (7, vb false), (8, vp 1 0), (9, vp 2 0), (10, vb true), (11, vb true), (12, vi .i64 ((j : Int) + 1))] [(0, .box [.d (.raw (.bool false)), .d (nsl [])]), (1, .box (zi low)), (2, .box (zi high))] (by kernel_rfl) h ?_; clear h; intro a w h
                  refine then_n ?_
                  refine roundS (x := (j, low, high, fr, tt)) (y := (j + 1, low, high, true, true)) h ?_ ?_ (by kernel_rfl) (by kernel_rfl)
                  · have := at_lt hx1
                    have hblow : best gtB (leastZ · vs) (lowsOf (rs.take (j + 1)) v) = best gtB (leastZ · vs) (lowsOf (rs.take j) v) := by rw [lows_take hx1, low_yes hc2]; exact bs_keep (by rw [← hL2, hc3]) (by have hq := hc11; rw [vr7, hL1, ZI.val_of] at hq; rw [(show leastZ (sideOf v x1) vs = -((-r6.val).fdiv r4.val) from by unfold leastZ sideOf; show _ = _; rw [vr6, vr4, vr3, ZI.val_of])]; exact hq)
                    have hbhigh : best ltB (mostZ · vs) (highsOf (rs.take (j + 1)) v) = best ltB (mostZ · vs) (highsOf (rs.take j) v) := by rw [highs_take hx1, high_yes hc12]; exact bs_keep (by rw [← hH2, hc13]) (by have hq := hc15; rw [vr13q, hH1, ZI.val_of] at hq; rw [(show mostZ (sideOf v x1) vs = r3.val.fdiv r4.val from by unfold mostZ sideOf; show _ = _; rw [vr4, vr3, ZI.val_of])]; exact hq)
                    exact ⟨by omega, ⟨by rw [hblow]; exact hL1, by rw [hblow, ← hL2, hc3], hL3⟩, ⟨by rw [hbhigh]; exact hH1, by rw [hbhigh, ← hH2, hc13], hH3⟩⟩
                  · show rs.length - (j + 1) < rs.length - j
                    have := at_lt hx1; omega
              · have hc16 := hc; clear hc
                rw [hc16] at h
                refine rSeq fam0ok 10 [] [(0, .t (.c (.d (.sl 4 (rs.map RelD.d))))), (1, vi .i64 v), (2, .t (.c (.d (.sl 2 (vs.map ziD))))), (6, vp 0 0), (7, vb false), (8, vp 1 0), (9, vp 2 0), (10, vb true), (11, vb false), (12, vi .i64 (j : Int)), (17, vp 8 0), (87, vb true)] [(0, .box [.d (.raw (.bool false)), .d (nsl [])]), (1, .box (zi low)), (2, .box (zi high)), (8, .box (zi r13q))] (by kernel_rfl) h ?_; clear h; intro a w h
                refine condS true h rfl (fun hc => ?_) (fun hc => ?_)
                · clear hc
                  refine rS fam0ok 10 [] [(0, .t (.c (.d (.sl 4 (rs.map RelD.d))))), (1, vi .i64 v), (2, .t (.c (.d (.sl 2 (vs.map ziD))))), (6, vp 0 0), (7, vb false), (8, vp 1 0), (9, vp 2 0), (10, vb true), (11, vb true), (12, vi .i64 (j : Int))] [(0, .box [.d (.raw (.bool false)), .d (nsl [])]), (1, .box (zi low)), (2, .box (zi r13q))] (by kernel_rfl) h ?_; clear h; intro a w h
                  refine block_n ?_
                  refine then_n ?_
                  refine rS fam0ok 10 [(1, .add .i64 (m := (j : Int)) (n := 1) (i64_id (by omega) (by omega)))] [(0, .t (.c (.d (.sl 4 (rs.map RelD.d))))), (1, vi .i64 v), (2, .t (.c (.d (.sl 2 (vs.map ziD))))), (6, vp 0 0), (7, vb false), (8, vp 1 0), (9, vp 2 0), (10, vb true), (11, vb true), (12, vi .i64 ((j : Int) + 1))] [(0, .box [.d (.raw (.bool false)), .d (nsl [])]), (1, .box (zi low)), (2, .box (zi r13q))] (by kernel_rfl) h ?_; clear h; intro a w h
                  refine then_n ?_
                  refine roundS (x := (j, low, high, fr, tt)) (y := (j + 1, low, r13q, true, true)) h ?_ ?_ (by kernel_rfl) (by kernel_rfl)
                  · have := at_lt hx1
                    have hblow : best gtB (leastZ · vs) (lowsOf (rs.take (j + 1)) v) = best gtB (leastZ · vs) (lowsOf (rs.take j) v) := by rw [lows_take hx1, low_yes hc2]; exact bs_keep (by rw [← hL2, hc3]) (by have hq := hc11; rw [vr7, hL1, ZI.val_of] at hq; rw [(show leastZ (sideOf v x1) vs = -((-r6.val).fdiv r4.val) from by unfold leastZ sideOf; show _ = _; rw [vr6, vr4, vr3, ZI.val_of])]; exact hq)
                    have hbhigh : best ltB (mostZ · vs) (highsOf (rs.take (j + 1)) v) = some (mostZ (sideOf v x1) vs) := by rw [highs_take hx1, high_yes hc12]; exact bs_first (by rw [← hH2, hc16])
                    exact ⟨by omega, ⟨by rw [hblow]; exact hL1, by rw [hblow, ← hL2, hc3], hL3⟩, ⟨by rw [hbhigh, (show mostZ (sideOf v x1) vs = r3.val.fdiv r4.val from by unfold mostZ sideOf; show _ = _; rw [vr4, vr3, ZI.val_of]), er13q]; rfl, by rw [hbhigh]; rfl, by omega⟩⟩
                  · show rs.length - (j + 1) < rs.length - j
                    have := at_lt hx1; omega
                · cases hc
            · have hc17 := hc; clear hc
              have hc17' := of_decide_eq_false hc17
              refine wp_skip ?_
              refine block_n ?_
              refine then_n ?_
              refine rS fam0ok 10 [(1, .add .i64 (m := (j : Int)) (n := 1) (i64_id (by omega) (by omega)))] [(0, .t (.c (.d (.sl 4 (rs.map RelD.d))))), (1, vi .i64 v), (2, .t (.c (.d (.sl 2 (vs.map ziD))))), (6, vp 0 0), (7, vb false), (8, vp 1 0), (9, vp 2 0), (10, vb true), (11, vb tt), (12, vi .i64 ((j : Int) + 1))] [(0, .box [.d (.raw (.bool false)), .d (nsl [])]), (1, .box (zi low)), (2, .box (zi high))] (by kernel_rfl) h ?_; clear h; intro a w h
              refine then_n ?_
              refine roundS (x := (j, low, high, fr, tt)) (y := (j + 1, low, high, true, tt)) h ?_ ?_ (by kernel_rfl) (by kernel_rfl)
              · have := at_lt hx1
                have hblow : best gtB (leastZ · vs) (lowsOf (rs.take (j + 1)) v) = best gtB (leastZ · vs) (lowsOf (rs.take j) v) := by rw [lows_take hx1, low_yes hc2]; exact bs_keep (by rw [← hL2, hc3]) (by have hq := hc11; rw [vr7, hL1, ZI.val_of] at hq; rw [(show leastZ (sideOf v x1) vs = -((-r6.val).fdiv r4.val) from by unfold leastZ sideOf; show _ = _; rw [vr6, vr4, vr3, ZI.val_of])]; exact hq)
                have hbhigh : best ltB (mostZ · vs) (highsOf (rs.take (j + 1)) v) = best ltB (mostZ · vs) (highsOf (rs.take j) v) := by rw [highs_take hx1, high_no hc17, bs_nil]
                exact ⟨by omega, ⟨by rw [hblow]; exact hL1, by rw [hblow, ← hL2, hc3], hL3⟩, ⟨by rw [hbhigh]; exact hH1, by rw [hbhigh]; exact hH2, hH3⟩⟩
              · show rs.length - (j + 1) < rs.length - j
                have := at_lt hx1; omega
        · have hc18 := hc; clear hc
          rw [hc18] at h
          refine rSeq fam0ok 10 [] [(0, .t (.c (.d (.sl 4 (rs.map RelD.d))))), (1, vi .i64 v), (2, .t (.c (.d (.sl 2 (vs.map ziD))))), (6, vp 0 0), (7, vb false), (8, vp 1 0), (9, vp 2 0), (10, vb false), (11, vb tt), (12, vi .i64 (j : Int)), (13, vp 3 0), (14, vp 4 0), (15, vp 5 0), (64, vb true)] [(0, .box [.d (.raw (.bool false)), .d (nsl [])]), (1, .box (zi low)), (2, .box (zi high)), (3, .box (zi r3)), (4, .box (zi r4)), (5, .box (zi r7))] (by kernel_rfl) h ?_; clear h; intro a w h
          refine condS true h rfl (fun hc => ?_) (fun hc => ?_)
          · clear hc
            refine rS fam0ok 10 [] [(0, .t (.c (.d (.sl 4 (rs.map RelD.d))))), (1, vi .i64 v), (2, .t (.c (.d (.sl 2 (vs.map ziD))))), (6, vp 0 0), (7, vb false), (8, vp 1 0), (9, vp 2 0), (10, vb true), (11, vb tt), (12, vi .i64 (j : Int)), (13, vp 3 0), (14, vp 4 0)] [(0, .box [.d (.raw (.bool false)), .d (nsl [])]), (1, .box (zi r7)), (2, .box (zi high)), (3, .box (zi r3)), (4, .box (zi r4))] (by kernel_rfl) h ?_; clear h; intro a w h
            refine then_n ?_
            refine rSeq fam0ok 10 [(2, .gen _ _ _ fun _ _ _ _ => Op.idxD (d := 68) (t := 66) (k := .i64) kc_3 (map_at hx1 (f := RelD.d)) (OV.tmp 67 _)), (5, .call (SSign7 x1 v gx1) hd_11)] [(0, .t (.c (.d (.sl 4 (rs.map RelD.d))))), (1, vi .i64 v), (2, .t (.c (.d (.sl 2 (vs.map ziD))))), (6, vp 0 0), (7, vb false), (8, vp 1 0), (9, vp 2 0), (10, vb true), (11, vb tt), (12, vi .i64 (j : Int)), (13, vp 3 0), (14, vp 4 0), (72, vb (decide (sgn (coefZ x1.t.parts v) < 0)))] [(0, .box [.d (.raw (.bool false)), .d (nsl [])]), (1, .box (zi r7)), (2, .box (zi high)), (3, .box (zi r3)), (4, .box (zi r4))] (by kernel_rfl) h ?_; clear h; intro a w h
            refine condS (decide (sgn (coefZ x1.t.parts v) < 0)) h rfl (fun hc => ?_) (fun hc => ?_)
            · have hc19 := hc; clear hc
              have hc19' := of_decide_eq_true hc19
              have hne : r4.val ≠ 0 := by have h0 := of_decide_eq_true hc19; rw [vr4]; unfold sgn at h0; split at h0 <;> (try split at h0) <;> omega
              obtain ⟨r16q, er16q, vr16q, or16q, lr16q⟩ := mkZ (v := r3.val.fdiv r4.val) (m := r3.abs.length) (len_fdiv or3 hne)
              obtain ⟨r16r, er16r, vr16r, or16r, lr16r⟩ := mkZ (v := r3.val.fmod r4.val) (m := r4.abs.length) (len_fmod or4 hne)
              refine rSeq fam0ok 10 [(2, .call (Fn.cast (SRDiv r3 r4 or3 or4 (by omega) (by omega) hne) (show _ = (.tup [.agg (zi r16q), .agg (zi r16r), .c (.d (.raw (.int .i64 0)))] : V) by rw [er16q, er16r]; first | done | rfl)) tw_15)] [(0, .t (.c (.d (.sl 4 (rs.map RelD.d))))), (1, vi .i64 v), (2, .t (.c (.d (.sl 2 (vs.map ziD))))), (6, vp 0 0), (7, vb false), (8, vp 1 0), (9, vp 2 0), (10, vb true), (11, vb tt), (12, vi .i64 (j : Int)), (17, vp 10 0)] [(0, .box [.d (.raw (.bool false)), .d (nsl [])]), (1, .box (zi r7)), (2, .box (zi high)), (10, .box (zi r16q))] (by kernel_rfl) h ?_; clear h; intro a w h
              rcases Bool.eq_false_or_eq_true tt with hc | hc
              · have hc20 := hc; clear hc
                rw [hc20] at h
                refine rSeq fam0ok 12 [(5, .call (SRCmp r16q high or16q lhigh (by omega) (by omega)) ub_1)] [(0, .t (.c (.d (.sl 4 (rs.map RelD.d))))), (1, vi .i64 v), (2, .t (.c (.d (.sl 2 (vs.map ziD))))), (6, vp 0 0), (7, vb false), (8, vp 1 0), (9, vp 2 0), (10, vb true), (11, vb true), (12, vi .i64 (j : Int)), (17, vp 10 0), (87, vb (decide (cmpZ r16q.val high.val < 0)))] [(0, .box [.d (.raw (.bool false)), .d (nsl [])]), (1, .box (zi r7)), (2, .box (zi high)), (10, .box (zi r16q))] (by kernel_rfl) h ?_; clear h; intro a w h
                refine condS (decide (cmpZ r16q.val high.val < 0)) h rfl (fun hc => ?_) (fun hc => ?_)
                · have hc21 := hc; clear hc
                  have hc21' := of_decide_eq_true hc21
                  refine rS fam0ok 12 [] [(0, .t (.c (.d (.sl 4 (rs.map RelD.d))))), (1, vi .i64 v), (2, .t (.c (.d (.sl 2 (vs.map ziD))))), (6, vp 0 0), (7, vb false), (8, vp 1 0), (9, vp 2 0), (10, vb true), (11, vb true), (12, vi .i64 (j : Int))] [(0, .box [.d (.raw (.bool false)), .d (nsl [])]), (1, .box (zi r7)), (2, .box (zi r16q))] (by kernel_rfl) h ?_; clear h; intro a w h
                  refine block_n ?_
                  refine then_n ?_
                  refine rS fam0ok 12 [(1, .add .i64 (m := (j : Int)) (n := 1) (i64_id (by omega) (by omega)))] [(0, .t (.c (.d (.sl 4 (rs.map RelD.d))))), (1, vi .i64 v), (2, .t (.c (.d (.sl 2 (vs.map ziD))))), (6, vp 0 0), (7, vb false), (8, vp 1 0), (9, vp 2 0), (10, vb true), (11, vb true), (12, vi .i64 ((j : Int) + 1))] [(0, .box [.d (.raw (.bool false)), .d (nsl [])]), (1, .box (zi r7)), (2, .box (zi r16q))] (by kernel_rfl) h ?_; clear h; intro a w h
                  refine then_n ?_
                  refine roundS (x := (j, low, high, fr, tt)) (y := (j + 1, r7, r16q, true, true)) h ?_ ?_ (by kernel_rfl) (by kernel_rfl)
                  · have := at_lt hx1
                    have hblow : best gtB (leastZ · vs) (lowsOf (rs.take (j + 1)) v) = some (leastZ (sideOf v x1) vs) := by rw [lows_take hx1, low_yes hc2]; exact bs_first (by rw [← hL2, hc18])
                    have hbhigh : best ltB (mostZ · vs) (highsOf (rs.take (j + 1)) v) = some (mostZ (sideOf v x1) vs) := by rw [highs_take hx1, high_yes hc19]; exact bs_more (by rw [← hH2, hc20]) (by have hq := hc21; rw [vr16q, hH1, ZI.val_of] at hq; rw [(show mostZ (sideOf v x1) vs = r3.val.fdiv r4.val from by unfold mostZ sideOf; show _ = _; rw [vr4, vr3, ZI.val_of])]; exact hq)
                    exact ⟨by omega, ⟨by rw [hblow, (show leastZ (sideOf v x1) vs = -((-r6.val).fdiv r4.val) from by unfold leastZ sideOf; show _ = _; rw [vr6, vr4, vr3, ZI.val_of]), er7]; rfl, by rw [hblow]; rfl, by omega⟩, ⟨by rw [hbhigh, (show mostZ (sideOf v x1) vs = r3.val.fdiv r4.val from by unfold mostZ sideOf; show _ = _; rw [vr4, vr3, ZI.val_of]), er16q]; rfl, by rw [hbhigh]; rfl, by omega⟩⟩
                  · show rs.length - (j + 1) < rs.length - j
                    have := at_lt hx1; omega
                · have hc22 := hc; clear hc
                  have hc22' := of_decide_eq_false hc22
                  refine wp_skip ?_
                  refine block_n ?_
                  refine then_n ?_
                  refine rS fam0ok 12 [(1, .add .i64 (m := (j : Int)) (n := 1) (i64_id (by omega) (by omega)))] [(0, .t (.c (.d (.sl 4 (rs.map RelD.d))))), (1, vi .i64 v), (2, .t (.c (.d (.sl 2 (vs.map ziD))))), (6, vp 0 0), (7, vb false), (8, vp 1 0), (9, vp 2 0), (10, vb true), (11, vb true), (12, vi .i64 ((j : Int) + 1))] [(0, .box [.d (.raw (.bool false)), .d (nsl [])]), (1, .box (zi r7)), (2, .box (zi high))] (by kernel_rfl) h ?_; clear h; intro a w h
                  refine then_n ?_
                  refine roundS (x := (j, low, high, fr, tt)) (y := (j + 1, r7, high, true, true)) h ?_ ?_ (by kernel_rfl) (by kernel_rfl)
                  · have := at_lt hx1
                    have hblow : best gtB (leastZ · vs) (lowsOf (rs.take (j + 1)) v) = some (leastZ (sideOf v x1) vs) := by rw [lows_take hx1, low_yes hc2]; exact bs_first (by rw [← hL2, hc18])
                    have hbhigh : best ltB (mostZ · vs) (highsOf (rs.take (j + 1)) v) = best ltB (mostZ · vs) (highsOf (rs.take j) v) := by rw [highs_take hx1, high_yes hc19]; exact bs_keep (by rw [← hH2, hc20]) (by have hq := hc22; rw [vr16q, hH1, ZI.val_of] at hq; rw [(show mostZ (sideOf v x1) vs = r3.val.fdiv r4.val from by unfold mostZ sideOf; show _ = _; rw [vr4, vr3, ZI.val_of])]; exact hq)
                    exact ⟨by omega, ⟨by rw [hblow, (show leastZ (sideOf v x1) vs = -((-r6.val).fdiv r4.val) from by unfold leastZ sideOf; show _ = _; rw [vr6, vr4, vr3, ZI.val_of]), er7]; rfl, by rw [hblow]; rfl, by omega⟩, ⟨by rw [hbhigh]; exact hH1, by rw [hbhigh, ← hH2, hc20], hH3⟩⟩
                  · show rs.length - (j + 1) < rs.length - j
                    have := at_lt hx1; omega
              · have hc23 := hc; clear hc
                rw [hc23] at h
                refine rSeq fam0ok 12 [] [(0, .t (.c (.d (.sl 4 (rs.map RelD.d))))), (1, vi .i64 v), (2, .t (.c (.d (.sl 2 (vs.map ziD))))), (6, vp 0 0), (7, vb false), (8, vp 1 0), (9, vp 2 0), (10, vb true), (11, vb false), (12, vi .i64 (j : Int)), (17, vp 10 0), (87, vb true)] [(0, .box [.d (.raw (.bool false)), .d (nsl [])]), (1, .box (zi r7)), (2, .box (zi high)), (10, .box (zi r16q))] (by kernel_rfl) h ?_; clear h; intro a w h
                refine condS true h rfl (fun hc => ?_) (fun hc => ?_)
                · clear hc
                  refine rS fam0ok 12 [] [(0, .t (.c (.d (.sl 4 (rs.map RelD.d))))), (1, vi .i64 v), (2, .t (.c (.d (.sl 2 (vs.map ziD))))), (6, vp 0 0), (7, vb false), (8, vp 1 0), (9, vp 2 0), (10, vb true), (11, vb true), (12, vi .i64 (j : Int))] [(0, .box [.d (.raw (.bool false)), .d (nsl [])]), (1, .box (zi r7)), (2, .box (zi r16q))] (by kernel_rfl) h ?_; clear h; intro a w h
                  refine block_n ?_
                  refine then_n ?_
                  refine rS fam0ok 12 [(1, .add .i64 (m := (j : Int)) (n := 1) (i64_id (by omega) (by omega)))] [(0, .t (.c (.d (.sl 4 (rs.map RelD.d))))), (1, vi .i64 v), (2, .t (.c (.d (.sl 2 (vs.map ziD))))), (6, vp 0 0), (7, vb false), (8, vp 1 0), (9, vp 2 0), (10, vb true), (11, vb true), (12, vi .i64 ((j : Int) + 1))] [(0, .box [.d (.raw (.bool false)), .d (nsl [])]), (1, .box (zi r7)), (2, .box (zi r16q))] (by kernel_rfl) h ?_; clear h; intro a w h
                  refine then_n ?_
                  refine roundS (x := (j, low, high, fr, tt)) (y := (j + 1, r7, r16q, true, true)) h ?_ ?_ (by kernel_rfl) (by kernel_rfl)
                  · have := at_lt hx1
                    have hblow : best gtB (leastZ · vs) (lowsOf (rs.take (j + 1)) v) = some (leastZ (sideOf v x1) vs) := by rw [lows_take hx1, low_yes hc2]; exact bs_first (by rw [← hL2, hc18])
                    have hbhigh : best ltB (mostZ · vs) (highsOf (rs.take (j + 1)) v) = some (mostZ (sideOf v x1) vs) := by rw [highs_take hx1, high_yes hc19]; exact bs_first (by rw [← hH2, hc23])
                    exact ⟨by omega, ⟨by rw [hblow, (show leastZ (sideOf v x1) vs = -((-r6.val).fdiv r4.val) from by unfold leastZ sideOf; show _ = _; rw [vr6, vr4, vr3, ZI.val_of]), er7]; rfl, by rw [hblow]; rfl, by omega⟩, ⟨by rw [hbhigh, (show mostZ (sideOf v x1) vs = r3.val.fdiv r4.val from by unfold mostZ sideOf; show _ = _; rw [vr4, vr3, ZI.val_of]), er16q]; rfl, by rw [hbhigh]; rfl, by omega⟩⟩
                  · show rs.length - (j + 1) < rs.length - j
                    have := at_lt hx1; omega
                · cases hc
            · have hc24 := hc; clear hc
              have hc24' := of_decide_eq_false hc24
              refine wp_skip ?_
              refine block_n ?_
              refine then_n ?_
              refine rS fam0ok 12 [(1, .add .i64 (m := (j : Int)) (n := 1) (i64_id (by omega) (by omega)))] [(0, .t (.c (.d (.sl 4 (rs.map RelD.d))))), (1, vi .i64 v), (2, .t (.c (.d (.sl 2 (vs.map ziD))))), (6, vp 0 0), (7, vb false), (8, vp 1 0), (9, vp 2 0), (10, vb true), (11, vb tt), (12, vi .i64 ((j : Int) + 1))] [(0, .box [.d (.raw (.bool false)), .d (nsl [])]), (1, .box (zi r7)), (2, .box (zi high))] (by kernel_rfl) h ?_; clear h; intro a w h
              refine then_n ?_
              refine roundS (x := (j, low, high, fr, tt)) (y := (j + 1, r7, high, true, tt)) h ?_ ?_ (by kernel_rfl) (by kernel_rfl)
              · have := at_lt hx1
                have hblow : best gtB (leastZ · vs) (lowsOf (rs.take (j + 1)) v) = some (leastZ (sideOf v x1) vs) := by rw [lows_take hx1, low_yes hc2]; exact bs_first (by rw [← hL2, hc18])
                have hbhigh : best ltB (mostZ · vs) (highsOf (rs.take (j + 1)) v) = best ltB (mostZ · vs) (highsOf (rs.take j) v) := by rw [highs_take hx1, high_no hc24, bs_nil]
                exact ⟨by omega, ⟨by rw [hblow, (show leastZ (sideOf v x1) vs = -((-r6.val).fdiv r4.val) from by unfold leastZ sideOf; show _ = _; rw [vr6, vr4, vr3, ZI.val_of]), er7]; rfl, by rw [hblow]; rfl, by omega⟩, ⟨by rw [hbhigh]; exact hH1, by rw [hbhigh]; exact hH2, hH3⟩⟩
              · show rs.length - (j + 1) < rs.length - j
                have := at_lt hx1; omega
          · cases hc
      · have hc25 := hc; clear hc
        have hc25' := of_decide_eq_false hc25
        refine wp_skip ?_
        refine then_n ?_
        refine rSeq fam0ok 12 [(2, .gen _ _ _ fun _ _ _ _ => Op.idxD (d := 68) (t := 66) (k := .i64) kc_3 (map_at hx1 (f := RelD.d)) (OV.tmp 67 _)), (5, .call (SSign7 x1 v gx1) hd_11)] [(0, .t (.c (.d (.sl 4 (rs.map RelD.d))))), (1, vi .i64 v), (2, .t (.c (.d (.sl 2 (vs.map ziD))))), (6, vp 0 0), (7, vb false), (8, vp 1 0), (9, vp 2 0), (10, vb fr), (11, vb tt), (12, vi .i64 (j : Int)), (13, vp 3 0), (14, vp 4 0), (72, vb (decide (sgn (coefZ x1.t.parts v) < 0)))] [(0, .box [.d (.raw (.bool false)), .d (nsl [])]), (1, .box (zi low)), (2, .box (zi high)), (3, .box (zi r3)), (4, .box (zi r4))] (by kernel_rfl) h ?_; clear h; intro a w h
        refine condS (decide (sgn (coefZ x1.t.parts v) < 0)) h rfl (fun hc => ?_) (fun hc => ?_)
        · have hc26 := hc; clear hc
          have hc26' := of_decide_eq_true hc26
          have hne : r4.val ≠ 0 := by have h0 := of_decide_eq_true hc26; rw [vr4]; unfold sgn at h0; split at h0 <;> (try split at h0) <;> omega
          obtain ⟨r19q, er19q, vr19q, or19q, lr19q⟩ := mkZ (v := r3.val.fdiv r4.val) (m := r3.abs.length) (len_fdiv or3 hne)
          obtain ⟨r19r, er19r, vr19r, or19r, lr19r⟩ := mkZ (v := r3.val.fmod r4.val) (m := r4.abs.length) (len_fmod or4 hne)
          refine rSeq fam0ok 12 [(2, .call (Fn.cast (SRDiv r3 r4 or3 or4 (by omega) (by omega) hne) (show _ = (.tup [.agg (zi r19q), .agg (zi r19r), .c (.d (.raw (.int .i64 0)))] : V) by rw [er19q, er19r]; first | done | rfl)) tw_15)] [(0, .t (.c (.d (.sl 4 (rs.map RelD.d))))), (1, vi .i64 v), (2, .t (.c (.d (.sl 2 (vs.map ziD))))), (6, vp 0 0), (7, vb false), (8, vp 1 0), (9, vp 2 0), (10, vb fr), (11, vb tt), (12, vi .i64 (j : Int)), (17, vp 12 0)] [(0, .box [.d (.raw (.bool false)), .d (nsl [])]), (1, .box (zi low)), (2, .box (zi high)), (12, .box (zi r19q))] (by kernel_rfl) h ?_; clear h; intro a w h
          rcases Bool.eq_false_or_eq_true tt with hc | hc
          · have hc27 := hc; clear hc
            rw [hc27] at h
            refine rSeq fam0ok 14 [(5, .call (SRCmp r19q high or19q lhigh (by omega) (by omega)) ub_1)] [(0, .t (.c (.d (.sl 4 (rs.map RelD.d))))), (1, vi .i64 v), (2, .t (.c (.d (.sl 2 (vs.map ziD))))), (6, vp 0 0), (7, vb false), (8, vp 1 0), (9, vp 2 0), (10, vb fr), (11, vb true), (12, vi .i64 (j : Int)), (17, vp 12 0), (87, vb (decide (cmpZ r19q.val high.val < 0)))] [(0, .box [.d (.raw (.bool false)), .d (nsl [])]), (1, .box (zi low)), (2, .box (zi high)), (12, .box (zi r19q))] (by kernel_rfl) h ?_; clear h; intro a w h
            refine condS (decide (cmpZ r19q.val high.val < 0)) h rfl (fun hc => ?_) (fun hc => ?_)
            · have hc28 := hc; clear hc
              have hc28' := of_decide_eq_true hc28
              refine rS fam0ok 14 [] [(0, .t (.c (.d (.sl 4 (rs.map RelD.d))))), (1, vi .i64 v), (2, .t (.c (.d (.sl 2 (vs.map ziD))))), (6, vp 0 0), (7, vb false), (8, vp 1 0), (9, vp 2 0), (10, vb fr), (11, vb true), (12, vi .i64 (j : Int))] [(0, .box [.d (.raw (.bool false)), .d (nsl [])]), (1, .box (zi low)), (2, .box (zi r19q))] (by kernel_rfl) h ?_; clear h; intro a w h
              refine block_n ?_
              refine then_n ?_
              refine rS fam0ok 14 [(1, .add .i64 (m := (j : Int)) (n := 1) (i64_id (by omega) (by omega)))] [(0, .t (.c (.d (.sl 4 (rs.map RelD.d))))), (1, vi .i64 v), (2, .t (.c (.d (.sl 2 (vs.map ziD))))), (6, vp 0 0), (7, vb false), (8, vp 1 0), (9, vp 2 0), (10, vb fr), (11, vb true), (12, vi .i64 ((j : Int) + 1))] [(0, .box [.d (.raw (.bool false)), .d (nsl [])]), (1, .box (zi low)), (2, .box (zi r19q))] (by kernel_rfl) h ?_; clear h; intro a w h
              refine then_n ?_
              refine roundS (x := (j, low, high, fr, tt)) (y := (j + 1, low, r19q, fr, true)) h ?_ ?_ (by kernel_rfl) (by kernel_rfl)
              · have := at_lt hx1
                have hblow : best gtB (leastZ · vs) (lowsOf (rs.take (j + 1)) v) = best gtB (leastZ · vs) (lowsOf (rs.take j) v) := by rw [lows_take hx1, low_no hc25, bs_nil]
                have hbhigh : best ltB (mostZ · vs) (highsOf (rs.take (j + 1)) v) = some (mostZ (sideOf v x1) vs) := by rw [highs_take hx1, high_yes hc26]; exact bs_more (by rw [← hH2, hc27]) (by have hq := hc28; rw [vr19q, hH1, ZI.val_of] at hq; rw [(show mostZ (sideOf v x1) vs = r3.val.fdiv r4.val from by unfold mostZ sideOf; show _ = _; rw [vr4, vr3, ZI.val_of])]; exact hq)
                exact ⟨by omega, ⟨by rw [hblow]; exact hL1, by rw [hblow]; exact hL2, hL3⟩, ⟨by rw [hbhigh, (show mostZ (sideOf v x1) vs = r3.val.fdiv r4.val from by unfold mostZ sideOf; show _ = _; rw [vr4, vr3, ZI.val_of]), er19q]; rfl, by rw [hbhigh]; rfl, by omega⟩⟩
              · show rs.length - (j + 1) < rs.length - j
                have := at_lt hx1; omega
            · have hc29 := hc; clear hc
              have hc29' := of_decide_eq_false hc29
              refine wp_skip ?_
              refine block_n ?_
              refine then_n ?_
              refine rS fam0ok 14 [(1, .add .i64 (m := (j : Int)) (n := 1) (i64_id (by omega) (by omega)))] [(0, .t (.c (.d (.sl 4 (rs.map RelD.d))))), (1, vi .i64 v), (2, .t (.c (.d (.sl 2 (vs.map ziD))))), (6, vp 0 0), (7, vb false), (8, vp 1 0), (9, vp 2 0), (10, vb fr), (11, vb true), (12, vi .i64 ((j : Int) + 1))] [(0, .box [.d (.raw (.bool false)), .d (nsl [])]), (1, .box (zi low)), (2, .box (zi high))] (by kernel_rfl) h ?_; clear h; intro a w h
              refine then_n ?_
              refine roundS (x := (j, low, high, fr, tt)) (y := (j + 1, low, high, fr, true)) h ?_ ?_ (by kernel_rfl) (by kernel_rfl)
              · have := at_lt hx1
                have hblow : best gtB (leastZ · vs) (lowsOf (rs.take (j + 1)) v) = best gtB (leastZ · vs) (lowsOf (rs.take j) v) := by rw [lows_take hx1, low_no hc25, bs_nil]
                have hbhigh : best ltB (mostZ · vs) (highsOf (rs.take (j + 1)) v) = best ltB (mostZ · vs) (highsOf (rs.take j) v) := by rw [highs_take hx1, high_yes hc26]; exact bs_keep (by rw [← hH2, hc27]) (by have hq := hc29; rw [vr19q, hH1, ZI.val_of] at hq; rw [(show mostZ (sideOf v x1) vs = r3.val.fdiv r4.val from by unfold mostZ sideOf; show _ = _; rw [vr4, vr3, ZI.val_of])]; exact hq)
                exact ⟨by omega, ⟨by rw [hblow]; exact hL1, by rw [hblow]; exact hL2, hL3⟩, ⟨by rw [hbhigh]; exact hH1, by rw [hbhigh, ← hH2, hc27], hH3⟩⟩
              · show rs.length - (j + 1) < rs.length - j
                have := at_lt hx1; omega
          · have hc30 := hc; clear hc
            rw [hc30] at h
            refine rSeq fam0ok 14 [] [(0, .t (.c (.d (.sl 4 (rs.map RelD.d))))), (1, vi .i64 v), (2, .t (.c (.d (.sl 2 (vs.map ziD))))), (6, vp 0 0), (7, vb false), (8, vp 1 0), (9, vp 2 0), (10, vb fr), (11, vb false), (12, vi .i64 (j : Int)), (17, vp 12 0), (87, vb true)] [(0, .box [.d (.raw (.bool false)), .d (nsl [])]), (1, .box (zi low)), (2, .box (zi high)), (12, .box (zi r19q))] (by kernel_rfl) h ?_; clear h; intro a w h
            refine condS true h rfl (fun hc => ?_) (fun hc => ?_)
            · clear hc
              refine rS fam0ok 14 [] [(0, .t (.c (.d (.sl 4 (rs.map RelD.d))))), (1, vi .i64 v), (2, .t (.c (.d (.sl 2 (vs.map ziD))))), (6, vp 0 0), (7, vb false), (8, vp 1 0), (9, vp 2 0), (10, vb fr), (11, vb true), (12, vi .i64 (j : Int))] [(0, .box [.d (.raw (.bool false)), .d (nsl [])]), (1, .box (zi low)), (2, .box (zi r19q))] (by kernel_rfl) h ?_; clear h; intro a w h
              refine block_n ?_
              refine then_n ?_
              refine rS fam0ok 14 [(1, .add .i64 (m := (j : Int)) (n := 1) (i64_id (by omega) (by omega)))] [(0, .t (.c (.d (.sl 4 (rs.map RelD.d))))), (1, vi .i64 v), (2, .t (.c (.d (.sl 2 (vs.map ziD))))), (6, vp 0 0), (7, vb false), (8, vp 1 0), (9, vp 2 0), (10, vb fr), (11, vb true), (12, vi .i64 ((j : Int) + 1))] [(0, .box [.d (.raw (.bool false)), .d (nsl [])]), (1, .box (zi low)), (2, .box (zi r19q))] (by kernel_rfl) h ?_; clear h; intro a w h
              refine then_n ?_
              refine roundS (x := (j, low, high, fr, tt)) (y := (j + 1, low, r19q, fr, true)) h ?_ ?_ (by kernel_rfl) (by kernel_rfl)
              · have := at_lt hx1
                have hblow : best gtB (leastZ · vs) (lowsOf (rs.take (j + 1)) v) = best gtB (leastZ · vs) (lowsOf (rs.take j) v) := by rw [lows_take hx1, low_no hc25, bs_nil]
                have hbhigh : best ltB (mostZ · vs) (highsOf (rs.take (j + 1)) v) = some (mostZ (sideOf v x1) vs) := by rw [highs_take hx1, high_yes hc26]; exact bs_first (by rw [← hH2, hc30])
                exact ⟨by omega, ⟨by rw [hblow]; exact hL1, by rw [hblow]; exact hL2, hL3⟩, ⟨by rw [hbhigh, (show mostZ (sideOf v x1) vs = r3.val.fdiv r4.val from by unfold mostZ sideOf; show _ = _; rw [vr4, vr3, ZI.val_of]), er19q]; rfl, by rw [hbhigh]; rfl, by omega⟩⟩
              · show rs.length - (j + 1) < rs.length - j
                have := at_lt hx1; omega
            · cases hc
        · have hc31 := hc; clear hc
          have hc31' := of_decide_eq_false hc31
          refine wp_skip ?_
          refine block_n ?_
          refine then_n ?_
          refine rS fam0ok 14 [(1, .add .i64 (m := (j : Int)) (n := 1) (i64_id (by omega) (by omega)))] [(0, .t (.c (.d (.sl 4 (rs.map RelD.d))))), (1, vi .i64 v), (2, .t (.c (.d (.sl 2 (vs.map ziD))))), (6, vp 0 0), (7, vb false), (8, vp 1 0), (9, vp 2 0), (10, vb fr), (11, vb tt), (12, vi .i64 ((j : Int) + 1))] [(0, .box [.d (.raw (.bool false)), .d (nsl [])]), (1, .box (zi low)), (2, .box (zi high))] (by kernel_rfl) h ?_; clear h; intro a w h
          refine then_n ?_
          refine roundS (x := (j, low, high, fr, tt)) (y := (j + 1, low, high, fr, tt)) h ?_ ?_ (by kernel_rfl) (by kernel_rfl)
          · have := at_lt hx1
            have hblow : best gtB (leastZ · vs) (lowsOf (rs.take (j + 1)) v) = best gtB (leastZ · vs) (lowsOf (rs.take j) v) := by rw [lows_take hx1, low_no hc25, bs_nil]
            have hbhigh : best ltB (mostZ · vs) (highsOf (rs.take (j + 1)) v) = best ltB (mostZ · vs) (highsOf (rs.take j) v) := by rw [highs_take hx1, high_no hc31, bs_nil]
            exact ⟨by omega, ⟨by rw [hblow]; exact hL1, by rw [hblow]; exact hL2, hL3⟩, ⟨by rw [hbhigh]; exact hH1, by rw [hbhigh]; exact hH2, hH3⟩⟩
          · show rs.length - (j + 1) < rs.length - j
            have := at_lt hx1; omega
    · have hc32 := hc; clear hc
      have hc32' := of_decide_eq_false hc32
      refine wp_exit ?_
      refine then_x ?_
      refine then_x ?_
      refine inBlock_exit ?_
      refine then_n ?_
      refine wp_seq ?_
      rcases Bool.eq_false_or_eq_true fr with hc | hc
      · have hc33 := hc; clear hc
        rw [hc33] at h
        rcases Bool.eq_false_or_eq_true tt with hc | hc
        · have hc34 := hc; clear hc
          rw [hc34] at h
          refine rSeq fam0ok 14 [(7, .call (SRCmp low high llow lhigh (by omega) (by omega)) ub_1)] [(6, vp 0 0), (7, vb false), (8, vp 1 0), (9, vp 2 0), (10, vb true), (98, vb (decide (cmpZ low.val high.val > 0)))] [(0, .box [.d (.raw (.bool false)), .d (nsl [])]), (1, .box (zi low)), (2, .box (zi high))] (by kernel_rfl) h ?_; clear h; intro a w h
          refine condS (decide (cmpZ low.val high.val > 0)) h rfl (fun hc => ?_) (fun hc => ?_)
          · have hc35 := hc; clear hc
            have hc35' := of_decide_eq_true hc35
            refine rSeq fam0ok 14 [] [(6, vp 0 0), (7, vb false), (8, vp 1 0), (9, vp 2 0), (10, vb true)] [(0, .box [.d (.raw (.bool false)), .d (nsl [])]), (1, .box (zi low)), (2, .box (zi high))] (by kernel_rfl) h ?_; clear h; intro a w h
            refine wp_ret ?_
            refine then_r ?_
            refine retS [.agg [.d (.raw (.bool false)), .d (nsl [])], .c (.d (.raw (.bool false)))] h Exit.ret (.inl rfl)  rfl ⟨RV.agg _ 0 0 _ _ _ _ ia_1 rfl rfl rfl rfl, RV.tmp _ _ rfl, trivial⟩ ?_ (by kernel_rfl) (by kernel_rfl)
            have hj : rs.take j = rs := List.take_of_length_le (by omega)
            rw [hj] at hL1 hL2 hH1 hH2
            have hz : (fitS (lowsOf rs v) (highsOf rs v) vs) = (ZI.of 0, false) := fit_no hL1 hH1 (by rw [← hL2, hc33]) (by rw [← hH2, hc34]) hc35
            rw [hz]; first | done | rfl
          · have hc36 := hc; clear hc
            have hc36' := of_decide_eq_false hc36
            refine wp_skip ?_
            refine then_n ?_
            refine wp_seq ?_
            refine rSeq fam0ok 14 [] [(6, vp 0 0), (7, vb false), (8, vp 1 0), (9, vp 2 0), (100, vb true)] [(0, .box [.d (.raw (.bool false)), .d (nsl [])]), (1, .box (zi low)), (2, .box (zi high))] (by kernel_rfl) h ?_; clear h; intro a w h
            refine condS true h rfl (fun hc => ?_) (fun hc => ?_)
            · clear hc
              refine rSeq fam0ok 14 [] [(6, vp 0 0), (7, vb true), (9, vp 2 0)] [(0, .box (zi low)), (2, .box (zi high))] (by kernel_rfl) h ?_; clear h; intro a w h
              refine wp_ret ?_
              refine then_r ?_
              refine retS [.agg (zi low), .c (.d (.raw (.bool true)))] h Exit.ret (.inl rfl)  rfl ⟨RV.agg _ 0 0 _ _ _ _ ia_1 rfl rfl rfl rfl, RV.tmp _ _ rfl, trivial⟩ ?_ (by kernel_rfl) (by kernel_rfl)
              have hj : rs.take j = rs := List.take_of_length_le (by omega)
              rw [hj] at hL1 hL2 hH1 hH2
              have hz : (fitS (lowsOf rs v) (highsOf rs v) vs) = (low, true) := fit_low hL1 (by rw [← hL2, hc33]) (fun q hq e => by have h0 := gtB_iff.2 (show high.val < low.val by rw [hH1, hq, Option.getD_some, ZI.val_of]; exact e); have h1 := hc36; unfold gtB at h0; rw [h1] at h0; cases h0)
              rw [hz]; first | done | rfl
            · cases hc
        · have hc37 := hc; clear hc
          rw [hc37] at h
          refine rSeq fam0ok 14 [] [(6, vp 0 0), (7, vb false), (8, vp 1 0), (9, vp 2 0), (10, vb true), (98, vb false)] [(0, .box [.d (.raw (.bool false)), .d (nsl [])]), (1, .box (zi low)), (2, .box (zi high))] (by kernel_rfl) h ?_; clear h; intro a w h
          refine condS false h rfl (fun hc => ?_) (fun hc => ?_)
          · cases hc
          · clear hc
            refine wp_skip ?_
            refine then_n ?_
            refine wp_seq ?_
            refine rSeq fam0ok 14 [] [(6, vp 0 0), (7, vb false), (8, vp 1 0), (9, vp 2 0), (100, vb true)] [(0, .box [.d (.raw (.bool false)), .d (nsl [])]), (1, .box (zi low)), (2, .box (zi high))] (by kernel_rfl) h ?_; clear h; intro a w h
            refine condS true h rfl (fun hc => ?_) (fun hc => ?_)
            · clear hc
              refine rSeq fam0ok 14 [] [(6, vp 0 0), (7, vb true), (9, vp 2 0)] [(0, .box (zi low)), (2, .box (zi high))] (by kernel_rfl) h ?_; clear h; intro a w h
              refine wp_ret ?_
              refine then_r ?_
              refine retS [.agg (zi low), .c (.d (.raw (.bool true)))] h Exit.ret (.inl rfl)  rfl ⟨RV.agg _ 0 0 _ _ _ _ ia_1 rfl rfl rfl rfl, RV.tmp _ _ rfl, trivial⟩ ?_ (by kernel_rfl) (by kernel_rfl)
              have hj : rs.take j = rs := List.take_of_length_le (by omega)
              rw [hj] at hL1 hL2 hH1 hH2
              have hz : (fitS (lowsOf rs v) (highsOf rs v) vs) = (low, true) := fit_low hL1 (by rw [← hL2, hc33]) (fun q hq => by rw [hq, hc37] at hH2; cases hH2)
              rw [hz]; first | done | rfl
            · cases hc
      · have hc38 := hc; clear hc
        rw [hc38] at h
        refine rSeq fam0ok 14 [] [(6, vp 0 0), (7, vb false), (8, vp 1 0), (9, vp 2 0), (10, vb false), (98, vb false)] [(0, .box [.d (.raw (.bool false)), .d (nsl [])]), (1, .box (zi low)), (2, .box (zi high))] (by kernel_rfl) h ?_; clear h; intro a w h
        refine condS false h rfl (fun hc => ?_) (fun hc => ?_)
        · cases hc
        · clear hc
          refine wp_skip ?_
          refine then_n ?_
          refine wp_seq ?_
          refine rSeq fam0ok 14 [] [(6, vp 0 0), (7, vb false), (8, vp 1 0), (9, vp 2 0), (100, vb false)] [(0, .box [.d (.raw (.bool false)), .d (nsl [])]), (1, .box (zi low)), (2, .box (zi high))] (by kernel_rfl) h ?_; clear h; intro a w h
          refine condS false h rfl (fun hc => ?_) (fun hc => ?_)
          · cases hc
          · clear hc
            refine wp_skip ?_
            refine then_n ?_
            refine rSeq fam0ok 14 [] [(6, vp 0 0), (7, vb true)] [(0, .box (zi high))] (by kernel_rfl) h ?_; clear h; intro a w h
            refine wp_ret ?_
            refine retS [.agg (zi high), .c (.d (.raw (.bool true)))] h Exit.ret (.inl rfl)  rfl ⟨RV.agg _ 0 0 _ _ _ _ ia_1 rfl rfl rfl rfl, RV.tmp _ _ rfl, trivial⟩ ?_ (by kernel_rfl) (by kernel_rfl)
            have hj : rs.take j = rs := List.take_of_length_le (by omega)
            rw [hj] at hL1 hL2 hH1 hH2
            have hz : (fitS (lowsOf rs v) (highsOf rs v) vs) = (high, true) := fit_high hH1 (by rw [← hL2, hc38])
            rw [hz]; first | done | rfl
end Go.Proofs.YtoklkfmffmonoaaGreat.S
end
section
namespace Go.Proofs.YtoklkfmffmonoaaGreat
open Go.RowKit

set_option maxHeartbeats 1000000 in
theorem From_any (s : Bool) (ao : Option Addr) (n c : Nat) (zs : List Nat) (w : World) (hn : n = zs.length) (h : Rd w ao c zs) (hl : zs.length ≤ 400000) :
  Calls Tryz.prog 113 #[.bool s, .slice ao n c] w (GotZ w (iv s zs) zs.length) := by
 subst hn
 cases s
 ·go_enter Tryz.func113, Tryz.ntmps113
  go_wp2_with fail
  refine (TrimM _ _ _ zs _ rfl (h.ext ((Ext.refl _).alloc _)) (by first | omega | (simp; done) | (simp; omega))).mono ?_
  rintro e w1 ⟨r1a, r1c, r1z, r1B, rfl, r1b, r1o, r1k, r1v, r1l, xx⟩
  try simp at r1b
  try simp only [List.length_cons, List.length_nil] at r1l
  have hE : Ext w w1 := Ext.trans ((Ext.refl _).alloc _) xx
  have hz1 : w.heap.size + 1 ≤ w1.heap.size := (by have hq := Ext.size xx; (try simp at hq); omega)
  have hb0 : w.heap.size < w1.heap.size := (by omega)
  have fq0_0 := Ext.free (p := ⟨w.heap.size, 0, none⟩) (v := .bool false) xx (by first | exact True | go_simp | (repeat (first | assumption | (refine (World.cell?_setCell_far _ _ _ _ (by simp <;> omega)).trans ?_) | (refine (World.cell?_alloc_lt _ _ _ (World.block_lt_of_cell? _ _ (by assumption))).trans ?_) | go_simp))) (by first | assumption | go_simp)
  have q0_0 := Ext.cell (p := ⟨w.heap.size, 0, none⟩) (v := .bool false) xx (by first | exact True | go_simp | (repeat (first | assumption | (refine (World.cell?_setCell_far _ _ _ _ (by simp <;> omega)).trans ?_) | (refine (World.cell?_alloc_lt _ _ _ (World.block_lt_of_cell? _ _ (by assumption))).trans ?_) | go_simp)))
  have fq0_1 := Ext.free (p := ⟨w.heap.size, 1, none⟩) (v := .slice none 0 0) xx (by first | exact True | go_simp | (repeat (first | assumption | (refine (World.cell?_setCell_far _ _ _ _ (by simp <;> omega)).trans ?_) | (refine (World.cell?_alloc_lt _ _ _ (World.block_lt_of_cell? _ _ (by assumption))).trans ?_) | go_simp))) (by first | assumption | go_simp)
  have q0_1 := Ext.cell (p := ⟨w.heap.size, 1, none⟩) (v := .slice none 0 0) xx (by first | exact True | go_simp | (repeat (first | assumption | (refine (World.cell?_setCell_far _ _ _ _ (by simp <;> omega)).trans ?_) | (refine (World.cell?_alloc_lt _ _ _ (World.block_lt_of_cell? _ _ (by assumption))).trans ?_) | go_simp)))
  clear xx
  go_wp2_with fail
  refine bodyPost_ret (v := .agg #[.bool false, .slice r1a r1z.length r1c]) (by simp [results, Tryz.results113, go_sem, q0_0, q0_1]) rfl ?_
  exact ⟨false, r1a, r1c, r1z, r1B, rfl, (by omega), (Own.st (Own.st r1o (b := w.heap.size) (by omega) _ _) (b := w.heap.size) (by omega) _ _), (CanZ.pos r1k.out), (by unfold Hid; rw [iv_false, iv_false, r1v.out]), (by first | omega | (simp; done) | (simp; omega)), (Ext.st (Ext.st hE (b := w.heap.size) (by omega) _ _) (b := w.heap.size) (by omega) _ _)⟩
 ·go_enter Tryz.func113, Tryz.ntmps113
  go_wp2_with fail
  refine (TrimM _ _ _ zs _ rfl (h.ext ((Ext.refl _).alloc _)) (by first | omega | (simp; done) | (simp; omega))).mono ?_
  rintro e w1 ⟨r1a, r1c, r1z, r1B, rfl, r1b, r1o, r1k, r1v, r1l, xx⟩
  try simp at r1b
  try simp only [List.length_cons, List.length_nil] at r1l
  have hE : Ext w w1 := Ext.trans ((Ext.refl _).alloc _) xx
  have hz1 : w.heap.size + 1 ≤ w1.heap.size := (by have hq := Ext.size xx; (try simp at hq); omega)
  have hb0 : w.heap.size < w1.heap.size := (by omega)
  have fq0_0 := Ext.free (p := ⟨w.heap.size, 0, none⟩) (v := .bool false) xx (by first | exact True | go_simp | (repeat (first | assumption | (refine (World.cell?_setCell_far _ _ _ _ (by simp <;> omega)).trans ?_) | (refine (World.cell?_alloc_lt _ _ _ (World.block_lt_of_cell? _ _ (by assumption))).trans ?_) | go_simp))) (by first | assumption | go_simp)
  have q0_0 := Ext.cell (p := ⟨w.heap.size, 0, none⟩) (v := .bool false) xx (by first | exact True | go_simp | (repeat (first | assumption | (refine (World.cell?_setCell_far _ _ _ _ (by simp <;> omega)).trans ?_) | (refine (World.cell?_alloc_lt _ _ _ (World.block_lt_of_cell? _ _ (by assumption))).trans ?_) | go_simp)))
  have fq0_1 := Ext.free (p := ⟨w.heap.size, 1, none⟩) (v := .slice none 0 0) xx (by first | exact True | go_simp | (repeat (first | assumption | (refine (World.cell?_setCell_far _ _ _ _ (by simp <;> omega)).trans ?_) | (refine (World.cell?_alloc_lt _ _ _ (World.block_lt_of_cell? _ _ (by assumption))).trans ?_) | go_simp))) (by first | assumption | go_simp)
  have q0_1 := Ext.cell (p := ⟨w.heap.size, 1, none⟩) (v := .slice none 0 0) xx (by first | exact True | go_simp | (repeat (first | assumption | (refine (World.cell?_setCell_far _ _ _ _ (by simp <;> omega)).trans ?_) | (refine (World.cell?_alloc_lt _ _ _ (World.block_lt_of_cell? _ _ (by assumption))).trans ?_) | go_simp)))
  clear xx
  rcases Nat.eq_zero_or_pos r1z.length with h0 | hp
  ·have e0 : r1z = [] := List.length_eq_zero_iff.1 h0
   subst e0
   clear h0
   go_wp2_with fail
   refine bodyPost_ret (v := .agg #[.bool false, .slice r1a 0 r1c]) (by simp [results, Tryz.results113, go_sem, q0_0, q0_1]) rfl ?_
   exact ⟨false, r1a, r1c, [], r1B, rfl, (by omega), (Own.st (Own.st r1o (b := w.heap.size) (by omega) _ _) (b := w.heap.size) (by omega) _ _), (CanZ.pos r1k.out), (by unfold Hid; rw [iv_false, iv_true, ← r1v.out]; rfl), (by first | omega | (simp; done) | (simp; omega)), (Ext.st (Ext.st hE (b := w.heap.size) (by omega) _ _) (b := w.heap.size) (by omega) _ _)⟩
  ·have hp1 : decide (0 < r1z.length) = true := decide_eq_true hp
   go_wp2_with fail
   refine bodyPost_ret (v := .agg #[.bool true, .slice r1a r1z.length r1c]) (by simp [results, Tryz.results113, go_sem, q0_0, q0_1]) rfl ?_
   exact ⟨true, r1a, r1c, r1z, r1B, rfl, (by omega), (Own.st (Own.st r1o (b := w.heap.size) (by omega) _ _) (b := w.heap.size) (by omega) _ _), (CanZ.neg r1k.out hp _), (by unfold Hid; rw [iv_true, iv_true, r1v.out]), (by first | omega | (simp; done) | (simp; omega)), (Ext.st (Ext.st hE (b := w.heap.size) (by omega) _ _) (b := w.heap.size) (by omega) _ _)⟩
set_option maxHeartbeats 1000000 in
theorem clean_any (s : Bool) (ao : Option Addr) (n c : Nat) (zs : List Nat) (w : World) (hn : n = zs.length) (h : Rd w ao c zs) (hl : zs.length ≤ 400000) :
  Calls Tryz.prog 100 #[.agg #[.bool s, .slice ao n c]] w (GotZ w (iv s zs) zs.length) := by
 subst hn
 go_enter Tryz.func100, Tryz.ntmps100
 go_wp2_with fail
 refine (From_any s _ _ _ zs _ rfl (h.ext (((Ext.refl _).alloc _).alloc _)) (by first | omega | (simp; done) | (simp; omega))).mono ?_
 rintro e w1 ⟨r1s, r1a, r1c, r1z, r1B, rfl, r1b, r1o, r1k, r1v, r1l, xx⟩
 try simp at r1b
 try simp only [List.length_cons, List.length_nil] at r1l
 have hE : Ext w w1 := Ext.trans (((Ext.refl _).alloc _).alloc _) xx
 have hz1 : w.heap.size + 2 ≤ w1.heap.size := (by have hq := Ext.size xx; (try simp at hq); omega)
 have hb1 : w.heap.size + 1 < w1.heap.size := (by omega)
 have fq1_0 := Ext.free (p := ⟨w.heap.size + 1, 0, none⟩) (v := .bool false) xx (by first | exact True | go_simp | (repeat (first | assumption | (refine (World.cell?_setCell_far _ _ _ _ (by simp <;> omega)).trans ?_) | (refine (World.cell?_alloc_lt _ _ _ (World.block_lt_of_cell? _ _ (by assumption))).trans ?_) | go_simp))) (by first | assumption | go_simp)
 have q1_0 := Ext.cell (p := ⟨w.heap.size + 1, 0, none⟩) (v := .bool false) xx (by first | exact True | go_simp | (repeat (first | assumption | (refine (World.cell?_setCell_far _ _ _ _ (by simp <;> omega)).trans ?_) | (refine (World.cell?_alloc_lt _ _ _ (World.block_lt_of_cell? _ _ (by assumption))).trans ?_) | go_simp)))
 have fq1_1 := Ext.free (p := ⟨w.heap.size + 1, 1, none⟩) (v := .slice none 0 0) xx (by first | exact True | go_simp | (repeat (first | assumption | (refine (World.cell?_setCell_far _ _ _ _ (by simp <;> omega)).trans ?_) | (refine (World.cell?_alloc_lt _ _ _ (World.block_lt_of_cell? _ _ (by assumption))).trans ?_) | go_simp))) (by first | assumption | go_simp)
 have q1_1 := Ext.cell (p := ⟨w.heap.size + 1, 1, none⟩) (v := .slice none 0 0) xx (by first | exact True | go_simp | (repeat (first | assumption | (refine (World.cell?_setCell_far _ _ _ _ (by simp <;> omega)).trans ?_) | (refine (World.cell?_alloc_lt _ _ _ (World.block_lt_of_cell? _ _ (by assumption))).trans ?_) | go_simp)))
 clear xx
 go_wp2_with fail
 refine bodyPost_ret (v := .agg #[.bool r1s, .slice r1a r1z.length r1c]) (by simp [results, Tryz.results100, go_sem, q1_0, q1_1]) rfl ?_
 exact ⟨r1s, r1a, r1c, r1z, r1B, rfl, (by omega), (Own.st (Own.st r1o (b := w.heap.size + 1) (by omega) _ _) (b := w.heap.size + 1) (by omega) _ _), r1k, r1v, (by first | omega | (simp; done) | (simp; omega)), (Ext.st (Ext.st hE (b := w.heap.size + 1) (by omega) _ _) (b := w.heap.size + 1) (by omega) _ _)⟩
end Go.Proofs.YtoklkfmffmonoaaGreat
end
section
namespace Go.Proofs.YtoklkfmffmonoaaGreat
open Go.RowKit

end Go.Proofs.YtoklkfmffmonoaaGreat
end
section
namespace Go.Proofs.YtoklkfmffmonoaaGreat
open Go.RowKit

end Go.Proofs.YtoklkfmffmonoaaGreat
end
section
namespace Go.Proofs.YtoklkfmffmonoaaGreat
open Go.RowKit

theorem sgn_mul_range {x y : Int} (hx : -1 ≤ x ∧ x ≤ 1) (hy : -1 ≤ y ∧ y ≤ 1) : -1 ≤ x * y ∧ x * y ≤ 1 := by
 have h1 : x = -1 ∨ x = 0 ∨ x = 1 := by omega
 rcases h1 with rfl | rfl | rfl <;> omega

end Go.Proofs.YtoklkfmffmonoaaGreat
end
section
namespace Go.Proofs.YtoklkfmffmonoaaGreat
open Go.RowKit

theorem val_two (x : Nat) : val [x % 4294967296, x / 4294967296] = x := by simp only [val]; omega
end Go.Proofs.YtoklkfmffmonoaaGreat
end
section
namespace Go.Proofs.YtoklkfmffmonoaaGreat
open Go.RowKit

def smallZ (z : Int) : Int × Bool := if -9223372036854775808 ≤ z ∧ z ≤ 9223372036854775807 then (z, true) else (0, false)
theorem or_join2 (R x : Nat) (hR : R < 4294967296) (hx : x < 4294967296) : bits BinOp.or .u64 (x : Int) ((R : Int) * 4294967296) = ((x + 4294967296 * R : Nat) : Int) := by
 have e : ((R : Int) * 4294967296) = ((R * 4294967296 : Nat) : Int) := by rw [Int.natCast_mul]; rfl
 rw [e, bits_or_u64_nat _ _ (by omega) (by omega)]
 have h := Nat.two_pow_add_eq_or_of_lt (i := 32) (b := x) (by omega) R
 rw [Nat.or_comm, Nat.mul_comm R, show (4294967296 : Nat) = 2 ^ 32 from rfl, ← h]
 omega
theorem wrap_mul32 (x : Nat) (hx : x < 4294967296) : IntKind.u64.wrap (IntKind.u64.wrap (x : Int) * 4294967296) = (x : Int) * 4294967296 := by
 rw [IntKind.wrap_u64, IntKind.wrap_u64]; omega
theorem small_yes {z x : Int} (hz : z = x) (h1 : -9223372036854775808 ≤ x) (h2 : x ≤ 9223372036854775807) : smallZ z = (x, true) := by
 subst hz; unfold smallZ; rw [if_pos ⟨h1, h2⟩]
theorem small_no {z : Int} (h : z < -9223372036854775808 ∨ 9223372036854775807 < z) : smallZ z = (0, false) := by
 unfold smallZ; rw [if_neg (by omega)]
theorem small_end {z : Int} {p q : Int × Bool} (h : smallZ z = p) (k : smallZ z = q) : p = q := h.symm.trans k
theorem or_zero (x : Nat) (hx : x < 4294967296) : bits BinOp.or .u64 0 (x : Int) = (x : Int) := by
 have := or_join2 0 0 (by omega) (by omega)
 have h2 := bits_or_u64_nat 0 x (by omega) (by omega)
 rw [Nat.zero_or] at h2
 exact h2

set_option maxHeartbeats 2000000 in
theorem ZSmall_any (s : Bool) (ao : Option Addr) (n c : Nat) (zs : List Nat) (w : World) (v : Int) (ok : Bool) (hn : n = zs.length) (h : Rd w ao c zs) (hl : zs.length ≤ 300000) (hg : smallZ (iv s zs) = (v, ok)) :
  Calls Tryz.prog 67 #[.agg #[.bool s, .slice ao n c]] w (GotP (.tuple #[.int .i64 v, .bool ok]) w) := by
 subst hn
 replace hg := Lib.hid hg
 go_enter Tryz.func67, Tryz.ntmps67
 go_wp2_with fail
 refine (clean_any s _ _ _ zs _ rfl (h.ext ((Ext.refl _).alloc _)) (by first | omega | (simp; done) | (simp; omega))).mono ?_
 rintro e w1 ⟨r1s, r1a, r1c, r1z, r1B, rfl, r1b, r1o, r1k, r1v, r1l, xx⟩
 try simp at r1b
 try simp only [List.length_cons, List.length_nil] at r1l
 have hE : Ext w w1 := Ext.trans ((Ext.refl _).alloc _) xx
 have hz1 : w.heap.size + 1 ≤ w1.heap.size := (by have hq := Ext.size xx; (try simp at hq); omega)
 have hb0 : w.heap.size < w1.heap.size := (by omega)
 have fq0_0 := Ext.free (p := ⟨w.heap.size, 0, none⟩) (v := .bool s) xx (by first | exact True | go_simp | (repeat (first | assumption | (refine (World.cell?_setCell_far _ _ _ _ (by simp <;> omega)).trans ?_) | (refine (World.cell?_alloc_lt _ _ _ (World.block_lt_of_cell? _ _ (by assumption))).trans ?_) | go_simp))) (by first | assumption | go_simp)
 have q0_0 := Ext.cell (p := ⟨w.heap.size, 0, none⟩) (v := .bool s) xx (by first | exact True | go_simp | (repeat (first | assumption | (refine (World.cell?_setCell_far _ _ _ _ (by simp <;> omega)).trans ?_) | (refine (World.cell?_alloc_lt _ _ _ (World.block_lt_of_cell? _ _ (by assumption))).trans ?_) | go_simp)))
 have fq0_1 := Ext.free (p := ⟨w.heap.size, 1, none⟩) (v := .slice ao zs.length c) xx (by first | exact True | go_simp | (repeat (first | assumption | (refine (World.cell?_setCell_far _ _ _ _ (by simp <;> omega)).trans ?_) | (refine (World.cell?_alloc_lt _ _ _ (World.block_lt_of_cell? _ _ (by assumption))).trans ?_) | go_simp))) (by first | assumption | go_simp)
 have q0_1 := Ext.cell (p := ⟨w.heap.size, 1, none⟩) (v := .slice ao zs.length c) xx (by first | exact True | go_simp | (repeat (first | assumption | (refine (World.cell?_setCell_far _ _ _ _ (by simp <;> omega)).trans ?_) | (refine (World.cell?_alloc_lt _ _ _ (World.block_lt_of_cell? _ _ (by assumption))).trans ?_) | go_simp)))
 clear xx
 by_cases h2 : 2 < r1z.length
 ·have hr : Hid ((v, ok) = (0, false)) := small_end hg.out (small_no (by
   have h3 := canon_ge r1k.out.1 (by omega)
   have h4 : pw 2 ≤ pw (r1z.length - 1) := pw_le (by omega)
   have h5 : pw 2 = 18446744073709551616 := rfl
   have h6 := iv_abs r1s r1z
   rw [r1v.out] at h6
   omega))
  go_wp2_with fail
  go_ret2
  exact ⟨by rw [(Prod.mk.inj hr.out).1, (Prod.mk.inj hr.out).2]; rfl, (Ext.st (Ext.st hE (b := w.heap.size) (by omega) _ _) (b := w.heap.size) (by omega) _ _)⟩
 ·have hrd := (Own.st (Own.st r1o (b := w.heap.size) (by omega) 0 (.bool r1s)) (b := w.heap.size) (by omega) 1 (.slice r1a r1z.length r1c)).rd
  go_wp2_with fail
  trace_state
  go_loop [4, 16] (fun n i => ∃ k : Nat, k ≤ r1z.length ∧ i = .int .i64 k ∧ n = .int .u64 (vk r1z k)) (fun _ i => (r1z.length - intOf i).toNat)
  case atStart => exact ⟨0, Nat.zero_le _, rfl, by rw [vk_zero]; rfl⟩
  case round =>
   obtain ⟨k, hk, rfl, rfl⟩ := hrel
   by_cases hkA : k < r1z.length
   ·have hx := hrd.cell k hkA
    have bx := lim_lt r1k.out.1.1 k
    rcases k with _ | _ | k
    ·rw [vk_zero]
     have hix := ixe hrd r1z.length rfl 0 0 rfl hkA
     simp only [Nat.add_zero] at hix hx
     go_wp2_with fail
     exact ⟨⟨1, by omega, rfl, by rw [or_zero _ bx, vk_succ, vk_zero]; simp [pw_zero]⟩, by simp [intOf]; omega⟩
    ·have hix := ixe hrd r1z.length rfl 1 1 rfl hkA
     have b0 := lim_lt r1k.out.1.1 0
     go_wp2_with fail
     refine ⟨⟨2, by omega, rfl, ?_⟩, by simp [intOf]; omega⟩
     have e : vk r1z 1 = lim r1z 0 := by rw [vk_succ, vk_zero]; simp [pw_zero]
     rw [wrap_mul32 _ bx, e, or_join2 _ _ bx b0]
     have e2 : vk r1z 2 = lim r1z 0 + 4294967296 * lim r1z 1 := by rw [vk_succ, e]; rfl
     rw [e2]
    ·omega
   ·have hke : r1z.length = k := by omega
    have hval : vk r1z k = val r1z := vk_full (by omega)
    obtain ⟨V, hV⟩ : ∃ V, val r1z = V := ⟨_, rfl⟩
    rw [hval, hV]
    have hVb : V < 18446744073709551616 := by
     rw [← hV]
     exact Nat.lt_of_lt_of_le (val_lt r1k.out.1.1) (show pw r1z.length ≤ pw 2 from pw_le (by omega))
    have hZ : Hid (iv s zs = if r1s then -(V : Int) else (V : Int)) := by unfold Hid; rw [← r1v.out]; unfold iv; rw [hV]
    clear hval hV
    cases r1s
    ·have hZ1 : Hid (iv s zs = (V : Int)) := hZ.out
     by_cases hbig : 9223372036854775807 < V
     ·go_wp2_with fail
      go_ret2
      exact ⟨by have hr := small_end hg.out (small_no (by rw [hZ1.out]; omega)); rw [(Prod.mk.inj hr).1, (Prod.mk.inj hr).2]; rfl, (Ext.st (Ext.st hE (b := w.heap.size) (by omega) _ _) (b := w.heap.size) (by omega) _ _)⟩
     ·go_wp2_with fail
      go_ret2
      exact ⟨by have hr := small_end hg.out (small_yes hZ1.out (by omega) (by omega)); rw [(Prod.mk.inj hr).1, (Prod.mk.inj hr).2]; rfl, (Ext.st (Ext.st hE (b := w.heap.size) (by omega) _ _) (b := w.heap.size) (by omega) _ _)⟩
    ·have hZ1 : Hid (iv s zs = -(V : Int)) := hZ.out
     by_cases hmin : V = 9223372036854775808
     ·have hr : Hid ((v, ok) = (-9223372036854775808, true)) := small_end hg.out (small_yes (by rw [hZ1.out, hmin]; rfl) (by omega) (by omega))
      have hmb : ((V : Int) == 9223372036854775808) = true := beq_iff_eq.2 (by omega)
      clear hmin
      go_wp2_with fail
      go_ret2
      exact ⟨by rw [(Prod.mk.inj hr.out).1, (Prod.mk.inj hr.out).2]; rfl, (Ext.st (Ext.st hE (b := w.heap.size) (by omega) _ _) (b := w.heap.size) (by omega) _ _)⟩
     ·have hmb : ((V : Int) == 9223372036854775808) = false := beq_eq_false_iff_ne.2 (by omega)
      by_cases hbig : 9223372036854775807 < V
      ·go_wp2_with fail
       go_ret2
       exact ⟨by have hr := small_end hg.out (small_no (by rw [hZ1.out]; omega)); rw [(Prod.mk.inj hr).1, (Prod.mk.inj hr).2]; rfl, (Ext.st (Ext.st hE (b := w.heap.size) (by omega) _ _) (b := w.heap.size) (by omega) _ _)⟩
      ·go_wp2_with fail
       go_ret2
       exact ⟨by have hr := small_end hg.out (small_yes hZ1.out (by omega) (by omega)); rw [(Prod.mk.inj hr).1, (Prod.mk.inj hr).2]; rfl, (Ext.st (Ext.st hE (b := w.heap.size) (by omega) _ _) (b := w.heap.size) (by omega) _ _)⟩

end Go.Proofs.YtoklkfmffmonoaaGreat
end
section
namespace Go.Proofs.YtoklkfmffmonoaaGreat.S
open Go.RowKit

theorem openZ2 {H : Im} {B : Bl} {x : ZI} {v : Value} (h : VR H B (vz x) v) (hx : Lb x.abs) : ∃ ao c, v = .agg #[.bool x.neg, .slice ao x.abs.length c] ∧ ∀ w : World, (∀ b o, H b = some o → w.heap[b]? = some o) → Rd w ao c x.abs := by
 obtain ⟨vs, rfl, h1⟩ := h
 match vs, h1 with
 | [a, b], h1 =>
  obtain ⟨h2, h3, _⟩ := h1
  have e1 : a = .bool x.neg := VR.rawI (H := H) (B := B) h2
  obtain ⟨ao, c, rfl, h4⟩ := nsl_rd h3 hx
  exact ⟨ao, c, by rw [e1], h4⟩
 | [], h1 => exact h1.elim
 | [_], h1 => exact h1.2.elim
 | _ :: _ :: _ :: _, h1 => exact h1.2.2.elim
theorem SSmall (x : ZI) (hx : Lb x.abs) (lx : x.abs.length ≤ 300000) : Fn Tryz.prog 67 [] [vz x] (.tup [.c (.d (.raw (.int .i64 (smallZ x.val).1))), .c (.d (.raw (.bool (smallZ x.val).2)))]) [] := by
 intro w H B vals pre
 have ha := pre.arg
 obtain ⟨a, rfl, h1⟩ : ∃ a, vals = [a] ∧ VR H B (vz x) a := by
  match vals, ha with
  | [a], h => exact ⟨a, rfl, h.1⟩
  | [], h => exact h.elim
  | _ :: _ :: _, h => exact h.2.elim
 obtain ⟨ao, c, rfl, r1⟩ := openZ2 h1 hx
 refine (ZSmall_any x.neg ao _ c x.abs w _ _ rfl (r1 w pre.sat) lx rfl).mono fun e w' h => ?_
 obtain ⟨rfl, hE⟩ := h
 exact ⟨_, _, _, rfl, postE hE pre.sat ⟨_, rfl, DR.raw _ rfl, DR.raw _ rfl, trivial⟩⟩
theorem small_big {z : Int} {m : Int} (h : (smallZ z).2 = false) (h0 : 0 ≤ z) (hm : m ≤ 9223372036854775807) : m < z := by
 unfold smallZ at h
 split at h
 ·cases h
 ·omega
theorem small_val {z : Int} (h : (smallZ z).2 = true) : (smallZ z).1 = z ∧ -9223372036854775808 ≤ z ∧ z ≤ 9223372036854775807 := by
 unfold smallZ at h ⊢
 split at h
 ·rename_i hz; rw [if_pos hz]; exact ⟨rfl, hz⟩
 ·cases h
end Go.Proofs.YtoklkfmffmonoaaGreat.S
end
