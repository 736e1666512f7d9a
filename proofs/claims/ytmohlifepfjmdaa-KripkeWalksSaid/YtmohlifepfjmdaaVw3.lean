/-
  Part 3 of the proof of the statement KripkeWalks: the walk through the program and the references lifted to the given row. It holds for every input.
-/
import Derived.Test.YtmohlifepfjmdaaVw2
set_option maxRecDepth 100000
section
namespace Go.Proofs.Ytmohlifepfjmdaa.S
open Go.RowKit

theorem ke_0 : Bodied Try.prog 46 := Bodied.mk' (by kernel_rfl)
theorem ke_4 : Bodied Try.prog 34 := Bodied.mk' (by kernel_rfl)
theorem ke_5 : Bodied Try.prog 51 := Bodied.mk' (by kernel_rfl)
theorem ke_7 : Bodied Try.prog 68 := Bodied.mk' (by kernel_rfl)
theorem ke_8 : Bodied Try.prog 54 := Bodied.mk' (by kernel_rfl)
theorem ke_11 : Bodied Try.prog 52 := Bodied.mk' (by kernel_rfl)
theorem ke_12 : Bodied Try.prog 53 := Bodied.mk' (by kernel_rfl)
set_option maxHeartbeats 4000000 in
theorem SrelHolds (r : RelD) (vs : List ZI) {L M : Nat} (hL : L + M ≤ 20000) (hv : VOk M vs) (hr : TokR L r) : Fn Try.prog 52 [] [.t (.agg ([.d (.sl 3 (r.t.parts.map Part.d))] ++ zi r.t.k ++ [.d (.raw (.bool r.eq))])), .t (.c (.d (.sl 2 (vs.map ziD))))] (vb (relOk vs r)) [] := by
 refine Fn.body Try.func52 rfl 22 rfl fun w H B a h => ?_
 refine rSeq fam1ok 0 [] [(1, .t (.c (.d (.sl 2 (vs.map ziD))))), (2, vp 0 0), (4, vb false)] [(0, .box ([.d (.sl 3 (r.t.parts.map Part.d))] ++ zi r.t.k ++ [.d (.raw (.bool r.eq))]))] (by kernel_rfl) h ?_; clear h; intro a w h
 obtain ⟨r1, er1, vr1, or1, lr1⟩ := mkZ (v := valT r.t vs) (m := L + M + 2) (Nat.le_trans (val_len hr (by decide) hv (fun p hp => hp) (Nat.le_refl _)) (by omega))
 refine rSeq fam1ok 1 [(3, .call (Fn.cast (SValue r.t vs hr (by decide) hL hv) (congrArg vz er1.symm)) ke_0), (4, .call (SSign r1 or1 (by omega)) td_6)] [(2, vp 0 0), (4, vb false), (5, vi .i64 (sgn r1.val))] [(0, .box ([.d (.sl 3 (r.t.parts.map Part.d))] ++ zi r.t.k ++ [.d (.raw (.bool r.eq))]))] (by kernel_rfl) h ?_; clear h; intro a w h
 rcases Bool.eq_false_or_eq_true (sgn r1.val == 0) with hc | hc
 ·have hc1 := hc; clear hc
  have hc1' := hc1; (try simp at hc1')
  refine rSeq fam1ok 1 [(1, .cmp (op := .eql) (m := (sgn r1.val)) (n := 0) (b := true) .i64 hc1)] [(4, vb true)] [] (by kernel_rfl) h ?_; clear h; intro a w h
  refine wp_ret ?_
  refine retS [.c (.d (.raw (.bool true)))] h Exit.ret (.inl rfl)  rfl ⟨RV.tmp _ _ rfl, trivial⟩ ?_ (by kernel_rfl) (by kernel_rfl)
  have hz : relOk vs r = (true) := by
   unfold relOk; rw [← vr1]
   cases he : r.eq <;> simp_all <;> omega
  rw [hz]; first | done | rfl
 ·have hc2 := hc; clear hc
  have hc2' := hc2; (try simp at hc2')
  rcases Bool.eq_false_or_eq_true r.eq with hc | hc
  ·have hc3 := hc; clear hc
   rw [hc3] at h
   refine rSeq fam1ok 1 [(1, .cmp (op := .eql) (m := (sgn r1.val)) (n := 0) (b := false) .i64 hc2)] [(4, vb false)] [] (by kernel_rfl) h ?_; clear h; intro a w h
   refine wp_ret ?_
   refine retS [.c (.d (.raw (.bool false)))] h Exit.ret (.inl rfl)  rfl ⟨RV.tmp _ _ rfl, trivial⟩ ?_ (by kernel_rfl) (by kernel_rfl)
   have hz : relOk vs r = (false) := by
    unfold relOk; rw [← vr1]
    cases he : r.eq <;> simp_all <;> omega
   rw [hz]; first | done | rfl
  ·have hc4 := hc; clear hc
   rw [hc4] at h
   refine rSeq fam1ok 1 [(1, .cmp (op := .eql) (m := (sgn r1.val)) (n := 0) (b := false) .i64 hc2)] [(4, vb (decide (sgn r1.val > 0)))] [] (by kernel_rfl) h ?_; clear h; intro a w h
   refine wp_ret ?_
   refine retS [.c (.d (.raw (.bool (decide (sgn r1.val > 0)))))] h Exit.ret (.inl rfl)  rfl ⟨RV.tmp _ _ rfl, trivial⟩ ?_ (by kernel_rfl) (by kernel_rfl)
   have hz : relOk vs r = (decide (sgn r1.val > 0)) := by
    unfold relOk; rw [← vr1]
    cases he : r.eq <;> simp_all <;> omega
   rw [hz]; first | done | rfl
set_option maxHeartbeats 4000000 in
theorem SHolds1 (g : FormD) (vs : List ZI) (hg : Fn Try.prog 34 [] [.t (.agg ([.d (.raw (.int .i64 g.kind)), .d (.sl 3 (g.r.t.parts.map Part.d))] ++ zi g.r.t.k ++ [.d (.raw (.bool g.r.eq)), .d (.sl 6 (g.kids.map FormD.d))])), .t (.c (.d (.sl 2 (vs.map ziD))))] (vb (FormD.holds vs g)) []) : Fn Try.prog 51 [(1, .box [.d (.sl 2 (vs.map ziD))])] [.t (.agg ([.d (.raw (.int .i64 g.kind)), .d (.sl 3 (g.r.t.parts.map Part.d))] ++ zi g.r.t.k ++ [.d (.raw (.bool g.r.eq)), .d (.sl 6 (g.kids.map FormD.d))])), vp 1 0] (vb (FormD.holds vs g)) [(1, .box [.d (.sl 2 (vs.map ziD))])] := by
 refine Fn.body Try.func51 rfl 7 rfl fun w H B a h => ?_
 refine rSeq fam1ok 5 [] [(1, vp 1 0), (2, vp 5 0), (3, vb false)] [(1, .box [.d (.sl 2 (vs.map ziD))]), (5, .box ([.d (.raw (.int .i64 g.kind)), .d (.sl 3 (g.r.t.parts.map Part.d))] ++ zi g.r.t.k ++ [.d (.raw (.bool g.r.eq)), .d (.sl 6 (g.kids.map FormD.d))]))] (by kernel_rfl) h ?_; clear h; intro a w h
 refine rSeq fam1ok 6 [(2, .call (hg) ke_4)] [(3, vb (FormD.holds vs g))] [(1, .box [.d (.sl 2 (vs.map ziD))])] (by kernel_rfl) h ?_; clear h; intro a w h
 refine wp_ret ?_
 refine retS [.c (.d (.raw (.bool (FormD.holds vs g))))] h Exit.ret (.inl rfl)  rfl ⟨RV.tmp _ _ rfl, trivial⟩ ?_ (by kernel_rfl) (by kernel_rfl)
 rfl
set_option maxHeartbeats 4000000 in
theorem SHolds2 (g : FormD) (vs : List ZI) (hg : Fn Try.prog 34 [] [.t (.agg ([.d (.raw (.int .i64 g.kind)), .d (.sl 3 (g.r.t.parts.map Part.d))] ++ zi g.r.t.k ++ [.d (.raw (.bool g.r.eq)), .d (.sl 6 (g.kids.map FormD.d))])), .t (.c (.d (.sl 2 (vs.map ziD))))] (vb (FormD.holds vs g)) []) : Fn Try.prog 54 [(2, .box [.fn (.func 51) [] [.ptr 1 0]]), (1, .box [.d (.sl 2 (vs.map ziD))])] [.t (.agg ([.d (.raw (.int .i64 g.kind)), .d (.sl 3 (g.r.t.parts.map Part.d))] ++ zi g.r.t.k ++ [.d (.raw (.bool g.r.eq)), .d (.sl 6 (g.kids.map FormD.d))])), vp 2 0] (vb (!FormD.holds vs g)) [(2, .box [.fn (.func 51) [] [.ptr 1 0]]), (1, .box [.d (.sl 2 (vs.map ziD))])] := by
 refine Fn.body Try.func54 rfl 8 rfl fun w H B a h => ?_
 refine rSeq fam1ok 5 [] [(1, vp 2 0), (2, vp 5 0), (3, vb false)] [(2, .box [.fn (.func 51) [] [.ptr 1 0]]), (1, .box [.d (.sl 2 (vs.map ziD))]), (5, .box ([.d (.raw (.int .i64 g.kind)), .d (.sl 3 (g.r.t.parts.map Part.d))] ++ zi g.r.t.k ++ [.d (.raw (.bool g.r.eq)), .d (.sl 6 (g.kids.map FormD.d))]))] (by kernel_rfl) h ?_; clear h; intro a w h
 refine rSeq fam1ok 6 [(2, .gen _ _ _ fun _ _ _ _ => Op.callV (d := 6) (t := 4) (cap := [.ptr 1 0]) (args := [.t (.agg ([.d (.raw (.int .i64 g.kind)), .d (.sl 3 (g.r.t.parts.map Part.d))] ++ zi g.r.t.k ++ [.d (.raw (.bool g.r.eq)), .d (.sl 6 (g.kids.map FormD.d))]))]) (rs := [(5, .t (.agg ([.d (.raw (.int .i64 g.kind)), .d (.sl 3 (g.r.t.parts.map Part.d))] ++ zi g.r.t.k ++ [.d (.raw (.bool g.r.eq)), .d (.sl 6 (g.kids.map FormD.d))])))]) (tys := #[35]) (SHolds1 g vs hg) ke_5 (OVs.cons (OV.tmp 5 _) (OVs.nil)))] [(3, vb (!(FormD.holds vs g)))] [(2, .box [.fn (.func 51) [] [.ptr 1 0]]), (1, .box [.d (.sl 2 (vs.map ziD))])] (by kernel_rfl) h ?_; clear h; intro a w h
 refine wp_ret ?_
 refine retS [.c (.d (.raw (.bool (!(FormD.holds vs g)))))] h Exit.ret (.inl rfl)  rfl ⟨RV.tmp _ _ rfl, trivial⟩ ?_ (by kernel_rfl) (by kernel_rfl)
 rfl
set_option maxHeartbeats 4000000 in
theorem SIdxH1 (pr : FormD → Bool) (xs : List FormD) (vs : List ZI) (hf : ∀ x ∈ xs, Fn Try.prog 51 [(1, .box [.d (.sl 2 (vs.map ziD))])] [.t (.agg ([.d (.raw (.int .i64 x.kind)), .d (.sl 3 (x.r.t.parts.map Part.d))] ++ zi x.r.t.k ++ [.d (.raw (.bool x.r.eq)), .d (.sl 6 (x.kids.map FormD.d))])), vp 1 0] (vb (pr x)) [(1, .box [.d (.sl 2 (vs.map ziD))])]) (hl : xs.length ≤ 9223372036854775807) : Fn Try.prog 68 [(1, .box [.d (.sl 2 (vs.map ziD))])] [.t (.c (.d (.sl 6 (xs.map FormD.d)))), .t (.c (.fn (.func 51) [] [.ptr 1 0]))] (vi .i64 (idxB pr xs 0)) [(1, .box [.d (.sl 2 (vs.map ziD))])] := by
 refine Fn.body Try.func68 rfl 19 rfl fun w H B a h => ?_
 refine rSeq fam1ok 5 [] [(0, .t (.c (.d (.sl 6 (xs.map FormD.d))))), (1, .t (.c (.fn (.func 51) [] [.ptr 1 0]))), (4, vi .i64 0)] [(1, .box [.d (.sl 2 (vs.map ziD))])] (by kernel_rfl) h ?_; clear h; intro a w h
 refine wp_seq ?_
 refine rSeq fam1ok 5 [(1, .len (c := (.d (.sl 6 (xs.map FormD.d)))) (n := xs.length) (lenC_map _ _ _))] [(0, .t (.c (.d (.sl 6 (xs.map FormD.d))))), (1, .t (.c (.fn (.func 51) [] [.ptr 1 0]))), (4, vi .i64 0), (7, vi .i64 (xs.length : Int)), (8, vi .i64 0)] [(1, .box [.d (.sl 2 (vs.map ziD))])] (by kernel_rfl) h ?_; clear h; intro a w h
 refine wp_block ?_
 refine loopS (ι := (Nat)) (fun (z_ : (Nat)) => match z_ with | j => j ≤ xs.length ∧ idxB pr xs 0 = idxB pr (xs.drop j) j)
   (fun (z_ : (Nat)) => match z_ with | j => [(0, .t (.c (.d (.sl 6 (xs.map FormD.d))))), (1, .t (.c (.fn (.func 51) [] [.ptr 1 0]))), (7, vi .i64 (xs.length : Int)), (8, vi .i64 (j : Int))])
   (fun (z_ : (Nat)) => match z_ with | j => [(1, .box [.d (.sl 2 (vs.map ziD))])])
   (fun (z_ : (Nat)) => match z_ with | j => xs.length - j) 0 ?_ h (by kernel_rfl) (by kernel_rfl) ?_
 ·exact ⟨Nat.zero_le _, rfl⟩
 ·clear h; rintro j a w hI h
  change St _ (F.of [(0, .t (.c (.d (.sl 6 (xs.map FormD.d))))), (1, .t (.c (.fn (.func 51) [] [.ptr 1 0]))), (7, vi .i64 (xs.length : Int)), (8, vi .i64 (j : Int))] [(1, .box [.d (.sl 2 (vs.map ziD))])]) a w at h
  obtain ⟨hI1, hI2⟩ := hI
  refine rSeq fam1ok 5 [] [(0, .t (.c (.d (.sl 6 (xs.map FormD.d))))), (1, .t (.c (.fn (.func 51) [] [.ptr 1 0]))), (7, vi .i64 (xs.length : Int)), (8, vi .i64 (j : Int)), (9, vb (decide ((j : Int) < (xs.length : Int))))] [(1, .box [.d (.sl 2 (vs.map ziD))])] (by kernel_rfl) h ?_; clear h; intro a w h
  refine wp_seq ?_
  refine condS (decide ((j : Int) < (xs.length : Int))) h rfl (fun hc => ?_) (fun hc => ?_)
  ·have hc1 := hc; clear hc
   have hc1' := of_decide_eq_true hc1
   refine wp_skip ?_
   refine then_n ?_
   refine wp_seq ?_
   refine wp_block ?_
   refine rSeq fam1ok 5 [] [(0, .t (.c (.d (.sl 6 (xs.map FormD.d))))), (1, .t (.c (.fn (.func 51) [] [.ptr 1 0]))), (5, vi .i64 (j : Int)), (7, vi .i64 (xs.length : Int)), (8, vi .i64 (j : Int))] [(1, .box [.d (.sl 2 (vs.map ziD))])] (by kernel_rfl) h ?_; clear h; intro a w h
   obtain ⟨x1, hx1⟩ : ∃ z_ : FormD, xs[j]? = some z_ := ⟨_, List.getElem?_eq_getElem (by first | omega | (simp at *; omega))⟩
   refine rSeq fam1ok 5 [(3, .gen _ _ _ fun _ _ _ _ => Op.idxD (d := 14) (t := 12) (k := .i64) kb_0 ((map_at hx1 (f := FormD.d)).trans (congrArg some (FormD.d_eq x1))) (OV.tmp 13 _)), (5, .gen _ _ _ fun _ _ _ _ => Op.callV (d := 16) (t := 11) (cap := [.ptr 1 0]) (args := [.t (.agg ([.d (.raw (.int .i64 x1.kind)), .d (.sl 3 (x1.r.t.parts.map Part.d))] ++ zi x1.r.t.k ++ [.d (.raw (.bool x1.r.eq)), .d (.sl 6 (x1.kids.map FormD.d))]))]) (rs := [(15, .t (.agg ([.d (.raw (.int .i64 x1.kind)), .d (.sl 3 (x1.r.t.parts.map Part.d))] ++ zi x1.r.t.k ++ [.d (.raw (.bool x1.r.eq)), .d (.sl 6 (x1.kids.map FormD.d))])))]) (tys := #[35]) (hf x1 (List.mem_of_getElem? hx1)) ke_5 (OVs.cons (OV.tmp 15 _) (OVs.nil)))] [(0, .t (.c (.d (.sl 6 (xs.map FormD.d))))), (1, .t (.c (.fn (.func 51) [] [.ptr 1 0]))), (5, vi .i64 (j : Int)), (7, vi .i64 (xs.length : Int)), (8, vi .i64 (j : Int)), (16, vb (pr x1))] [(1, .box [.d (.sl 2 (vs.map ziD))])] (by kernel_rfl) h ?_; clear h; intro a w h
   refine condS (pr x1) h rfl (fun hc => ?_) (fun hc => ?_)
   ·have hc2 := hc; clear hc
    refine rSeq fam1ok 5 [] [(0, .t (.c (.d (.sl 6 (xs.map FormD.d))))), (1, .t (.c (.fn (.func 51) [] [.ptr 1 0]))), (4, vi .i64 (j : Int)), (7, vi .i64 (xs.length : Int)), (8, vi .i64 (j : Int))] [(1, .box [.d (.sl 2 (vs.map ziD))])] (by kernel_rfl) h ?_; clear h; intro a w h
    refine wp_ret ?_
    refine block_r ?_
    refine then_r ?_
    refine then_r ?_
    refine block_r ?_
    refine then_r ?_
    refine retS [.c (.d (.raw (.int .i64 (j : Int))))] h Exit.ret (.inl rfl)  rfl ⟨RV.tmp _ _ rfl, trivial⟩ ?_ (by kernel_rfl) (by kernel_rfl)
    have hz : idxB pr xs 0 = (j : Int) := by rw [hI2, idxB_at hx1, if_pos hc2]
    rw [hz]; first | done | rfl
   ·have hc3 := hc; clear hc
    refine wp_skip ?_
    refine block_n ?_
    refine then_n ?_
    refine rS fam1ok 5 [(0, .add .i64 (m := (j : Int)) (n := 1) (i64_id (by omega) (by omega)))] [(0, .t (.c (.d (.sl 6 (xs.map FormD.d))))), (1, .t (.c (.fn (.func 51) [] [.ptr 1 0]))), (7, vi .i64 (xs.length : Int)), (8, vi .i64 ((j : Int) + 1))] [(1, .box [.d (.sl 2 (vs.map ziD))])] (by kernel_rfl) h ?_; clear h; intro a w h
    refine then_n ?_
    refine roundS (x := j) (y := j + 1) h ?_ ?_ (by kernel_rfl) (by kernel_rfl)
    ·exact ⟨by have := at_lt hx1; omega, by rw [hI2, idxB_at hx1, if_neg (by rw [hc3]; exact Bool.noConfusion)]⟩
    ·simp; omega
  ·have hc4 := hc; clear hc
   have hc4' := of_decide_eq_false hc4
   refine wp_exit ?_
   refine then_x ?_
   refine then_x ?_
   refine inBlock_exit ?_
   refine then_n ?_
   refine rSeq fam1ok 5 [] [(4, vi .i64 (-1))] [(1, .box [.d (.sl 2 (vs.map ziD))])] (by kernel_rfl) h ?_; clear h; intro a w h
   refine wp_ret ?_
   refine retS [.c (.d (.raw (.int .i64 (-1))))] h Exit.ret (.inl rfl)  rfl ⟨RV.tmp _ _ rfl, trivial⟩ ?_ (by kernel_rfl) (by kernel_rfl)
   have hz : idxB pr xs 0 = -1 := by rw [hI2, List.drop_of_length_le (by omega)]; rfl
   rw [hz]; first | done | rfl
set_option maxHeartbeats 4000000 in
theorem SAnyH1 (pr : FormD → Bool) (xs : List FormD) (vs : List ZI) (hf : ∀ x ∈ xs, Fn Try.prog 51 [(1, .box [.d (.sl 2 (vs.map ziD))])] [.t (.agg ([.d (.raw (.int .i64 x.kind)), .d (.sl 3 (x.r.t.parts.map Part.d))] ++ zi x.r.t.k ++ [.d (.raw (.bool x.r.eq)), .d (.sl 6 (x.kids.map FormD.d))])), vp 1 0] (vb (pr x)) [(1, .box [.d (.sl 2 (vs.map ziD))])]) (hl : xs.length ≤ 9223372036854775807) : Fn Try.prog 53 [(1, .box [.d (.sl 2 (vs.map ziD))])] [.t (.c (.d (.sl 6 (xs.map FormD.d)))), .t (.c (.fn (.func 51) [] [.ptr 1 0]))] (vb (xs.any pr)) [(1, .box [.d (.sl 2 (vs.map ziD))])] := by
 refine Fn.body Try.func53 rfl 9 rfl fun w H B a h => ?_
 refine rSeq fam1ok 5 [] [(0, .t (.c (.d (.sl 6 (xs.map FormD.d))))), (1, .t (.c (.fn (.func 51) [] [.ptr 1 0]))), (4, vb false)] [(1, .box [.d (.sl 2 (vs.map ziD))])] (by kernel_rfl) h ?_; clear h; intro a w h
 refine rSeq fam1ok 5 [(2, .call (SIdxH1 pr xs vs hf  hl) ke_7)] [(4, vb (decide (idxB pr xs 0 ≥ 0)))] [(1, .box [.d (.sl 2 (vs.map ziD))])] (by kernel_rfl) h ?_; clear h; intro a w h
 refine wp_ret ?_
 refine retS [.c (.d (.raw (.bool (decide (idxB pr xs 0 ≥ 0)))))] h Exit.ret (.inl rfl)  rfl ⟨RV.tmp _ _ rfl, trivial⟩ ?_ (by kernel_rfl) (by kernel_rfl)
 rw [← idxB_any]; first | done | rfl
set_option maxHeartbeats 4000000 in
theorem SIdxH2 (pr : FormD → Bool) (xs : List FormD) (vs : List ZI) (hf : ∀ x ∈ xs, Fn Try.prog 54 [(2, .box [.fn (.func 51) [] [.ptr 1 0]]), (1, .box [.d (.sl 2 (vs.map ziD))])] [.t (.agg ([.d (.raw (.int .i64 x.kind)), .d (.sl 3 (x.r.t.parts.map Part.d))] ++ zi x.r.t.k ++ [.d (.raw (.bool x.r.eq)), .d (.sl 6 (x.kids.map FormD.d))])), vp 2 0] (vb (pr x)) [(2, .box [.fn (.func 51) [] [.ptr 1 0]]), (1, .box [.d (.sl 2 (vs.map ziD))])]) (hl : xs.length ≤ 9223372036854775807) : Fn Try.prog 68 [(2, .box [.fn (.func 51) [] [.ptr 1 0]]), (1, .box [.d (.sl 2 (vs.map ziD))])] [.t (.c (.d (.sl 6 (xs.map FormD.d)))), .t (.c (.fn (.func 54) [] [.ptr 2 0]))] (vi .i64 (idxB pr xs 0)) [(2, .box [.fn (.func 51) [] [.ptr 1 0]]), (1, .box [.d (.sl 2 (vs.map ziD))])] := by
 refine Fn.body Try.func68 rfl 19 rfl fun w H B a h => ?_
 refine rSeq fam1ok 5 [] [(0, .t (.c (.d (.sl 6 (xs.map FormD.d))))), (1, .t (.c (.fn (.func 54) [] [.ptr 2 0]))), (4, vi .i64 0)] [(2, .box [.fn (.func 51) [] [.ptr 1 0]]), (1, .box [.d (.sl 2 (vs.map ziD))])] (by kernel_rfl) h ?_; clear h; intro a w h
 refine wp_seq ?_
 refine rSeq fam1ok 5 [(1, .len (c := (.d (.sl 6 (xs.map FormD.d)))) (n := xs.length) (lenC_map _ _ _))] [(0, .t (.c (.d (.sl 6 (xs.map FormD.d))))), (1, .t (.c (.fn (.func 54) [] [.ptr 2 0]))), (4, vi .i64 0), (7, vi .i64 (xs.length : Int)), (8, vi .i64 0)] [(2, .box [.fn (.func 51) [] [.ptr 1 0]]), (1, .box [.d (.sl 2 (vs.map ziD))])] (by kernel_rfl) h ?_; clear h; intro a w h
 refine wp_block ?_
 refine loopS (ι := (Nat)) (fun (z_ : (Nat)) => match z_ with | j => j ≤ xs.length ∧ idxB pr xs 0 = idxB pr (xs.drop j) j)
   (fun (z_ : (Nat)) => match z_ with | j => [(0, .t (.c (.d (.sl 6 (xs.map FormD.d))))), (1, .t (.c (.fn (.func 54) [] [.ptr 2 0]))), (7, vi .i64 (xs.length : Int)), (8, vi .i64 (j : Int))])
   (fun (z_ : (Nat)) => match z_ with | j => [(2, .box [.fn (.func 51) [] [.ptr 1 0]]), (1, .box [.d (.sl 2 (vs.map ziD))])])
   (fun (z_ : (Nat)) => match z_ with | j => xs.length - j) 0 ?_ h (by kernel_rfl) (by kernel_rfl) ?_
 ·exact ⟨Nat.zero_le _, rfl⟩
 ·clear h; rintro j a w hI h
  change St _ (F.of [(0, .t (.c (.d (.sl 6 (xs.map FormD.d))))), (1, .t (.c (.fn (.func 54) [] [.ptr 2 0]))), (7, vi .i64 (xs.length : Int)), (8, vi .i64 (j : Int))] [(2, .box [.fn (.func 51) [] [.ptr 1 0]]), (1, .box [.d (.sl 2 (vs.map ziD))])]) a w at h
  obtain ⟨hI1, hI2⟩ := hI
  refine rSeq fam1ok 5 [] [(0, .t (.c (.d (.sl 6 (xs.map FormD.d))))), (1, .t (.c (.fn (.func 54) [] [.ptr 2 0]))), (7, vi .i64 (xs.length : Int)), (8, vi .i64 (j : Int)), (9, vb (decide ((j : Int) < (xs.length : Int))))] [(2, .box [.fn (.func 51) [] [.ptr 1 0]]), (1, .box [.d (.sl 2 (vs.map ziD))])] (by kernel_rfl) h ?_; clear h; intro a w h
  refine wp_seq ?_
  refine condS (decide ((j : Int) < (xs.length : Int))) h rfl (fun hc => ?_) (fun hc => ?_)
  ·have hc1 := hc; clear hc
   have hc1' := of_decide_eq_true hc1
   refine wp_skip ?_
   refine then_n ?_
   refine wp_seq ?_
   refine wp_block ?_
   refine rSeq fam1ok 5 [] [(0, .t (.c (.d (.sl 6 (xs.map FormD.d))))), (1, .t (.c (.fn (.func 54) [] [.ptr 2 0]))), (5, vi .i64 (j : Int)), (7, vi .i64 (xs.length : Int)), (8, vi .i64 (j : Int))] [(2, .box [.fn (.func 51) [] [.ptr 1 0]]), (1, .box [.d (.sl 2 (vs.map ziD))])] (by kernel_rfl) h ?_; clear h; intro a w h
   obtain ⟨x1, hx1⟩ : ∃ z_ : FormD, xs[j]? = some z_ := ⟨_, List.getElem?_eq_getElem (by first | omega | (simp at *; omega))⟩
   refine rSeq fam1ok 5 [(3, .gen _ _ _ fun _ _ _ _ => Op.idxD (d := 14) (t := 12) (k := .i64) kb_0 ((map_at hx1 (f := FormD.d)).trans (congrArg some (FormD.d_eq x1))) (OV.tmp 13 _)), (5, .gen _ _ _ fun _ _ _ _ => Op.callV (d := 16) (t := 11) (cap := [.ptr 2 0]) (args := [.t (.agg ([.d (.raw (.int .i64 x1.kind)), .d (.sl 3 (x1.r.t.parts.map Part.d))] ++ zi x1.r.t.k ++ [.d (.raw (.bool x1.r.eq)), .d (.sl 6 (x1.kids.map FormD.d))]))]) (rs := [(15, .t (.agg ([.d (.raw (.int .i64 x1.kind)), .d (.sl 3 (x1.r.t.parts.map Part.d))] ++ zi x1.r.t.k ++ [.d (.raw (.bool x1.r.eq)), .d (.sl 6 (x1.kids.map FormD.d))])))]) (tys := #[35]) (hf x1 (List.mem_of_getElem? hx1)) ke_8 (OVs.cons (OV.tmp 15 _) (OVs.nil)))] [(0, .t (.c (.d (.sl 6 (xs.map FormD.d))))), (1, .t (.c (.fn (.func 54) [] [.ptr 2 0]))), (5, vi .i64 (j : Int)), (7, vi .i64 (xs.length : Int)), (8, vi .i64 (j : Int)), (16, vb (pr x1))] [(2, .box [.fn (.func 51) [] [.ptr 1 0]]), (1, .box [.d (.sl 2 (vs.map ziD))])] (by kernel_rfl) h ?_; clear h; intro a w h
   refine condS (pr x1) h rfl (fun hc => ?_) (fun hc => ?_)
   ·have hc2 := hc; clear hc
    refine rSeq fam1ok 5 [] [(0, .t (.c (.d (.sl 6 (xs.map FormD.d))))), (1, .t (.c (.fn (.func 54) [] [.ptr 2 0]))), (4, vi .i64 (j : Int)), (7, vi .i64 (xs.length : Int)), (8, vi .i64 (j : Int))] [(2, .box [.fn (.func 51) [] [.ptr 1 0]]), (1, .box [.d (.sl 2 (vs.map ziD))])] (by kernel_rfl) h ?_; clear h; intro a w h
    refine wp_ret ?_
    refine block_r ?_
    refine then_r ?_
    refine then_r ?_
    refine block_r ?_
    refine then_r ?_
    refine retS [.c (.d (.raw (.int .i64 (j : Int))))] h Exit.ret (.inl rfl)  rfl ⟨RV.tmp _ _ rfl, trivial⟩ ?_ (by kernel_rfl) (by kernel_rfl)
    have hz : idxB pr xs 0 = (j : Int) := by rw [hI2, idxB_at hx1, if_pos hc2]
    rw [hz]; first | done | rfl
   ·have hc3 := hc; clear hc
    refine wp_skip ?_
    refine block_n ?_
    refine then_n ?_
    refine rS fam1ok 5 [(0, .add .i64 (m := (j : Int)) (n := 1) (i64_id (by omega) (by omega)))] [(0, .t (.c (.d (.sl 6 (xs.map FormD.d))))), (1, .t (.c (.fn (.func 54) [] [.ptr 2 0]))), (7, vi .i64 (xs.length : Int)), (8, vi .i64 ((j : Int) + 1))] [(2, .box [.fn (.func 51) [] [.ptr 1 0]]), (1, .box [.d (.sl 2 (vs.map ziD))])] (by kernel_rfl) h ?_; clear h; intro a w h
    refine then_n ?_
    refine roundS (x := j) (y := j + 1) h ?_ ?_ (by kernel_rfl) (by kernel_rfl)
    ·exact ⟨by have := at_lt hx1; omega, by rw [hI2, idxB_at hx1, if_neg (by rw [hc3]; exact Bool.noConfusion)]⟩
    ·simp; omega
  ·have hc4 := hc; clear hc
   have hc4' := of_decide_eq_false hc4
   refine wp_exit ?_
   refine then_x ?_
   refine then_x ?_
   refine inBlock_exit ?_
   refine then_n ?_
   refine rSeq fam1ok 5 [] [(4, vi .i64 (-1))] [(2, .box [.fn (.func 51) [] [.ptr 1 0]]), (1, .box [.d (.sl 2 (vs.map ziD))])] (by kernel_rfl) h ?_; clear h; intro a w h
   refine wp_ret ?_
   refine retS [.c (.d (.raw (.int .i64 (-1))))] h Exit.ret (.inl rfl)  rfl ⟨RV.tmp _ _ rfl, trivial⟩ ?_ (by kernel_rfl) (by kernel_rfl)
   have hz : idxB pr xs 0 = -1 := by rw [hI2, List.drop_of_length_le (by omega)]; rfl
   rw [hz]; first | done | rfl
set_option maxHeartbeats 4000000 in
theorem SAnyH2 (pr : FormD → Bool) (xs : List FormD) (vs : List ZI) (hf : ∀ x ∈ xs, Fn Try.prog 54 [(2, .box [.fn (.func 51) [] [.ptr 1 0]]), (1, .box [.d (.sl 2 (vs.map ziD))])] [.t (.agg ([.d (.raw (.int .i64 x.kind)), .d (.sl 3 (x.r.t.parts.map Part.d))] ++ zi x.r.t.k ++ [.d (.raw (.bool x.r.eq)), .d (.sl 6 (x.kids.map FormD.d))])), vp 2 0] (vb (pr x)) [(2, .box [.fn (.func 51) [] [.ptr 1 0]]), (1, .box [.d (.sl 2 (vs.map ziD))])]) (hl : xs.length ≤ 9223372036854775807) : Fn Try.prog 53 [(2, .box [.fn (.func 51) [] [.ptr 1 0]]), (1, .box [.d (.sl 2 (vs.map ziD))])] [.t (.c (.d (.sl 6 (xs.map FormD.d)))), .t (.c (.fn (.func 54) [] [.ptr 2 0]))] (vb (xs.any pr)) [(2, .box [.fn (.func 51) [] [.ptr 1 0]]), (1, .box [.d (.sl 2 (vs.map ziD))])] := by
 refine Fn.body Try.func53 rfl 9 rfl fun w H B a h => ?_
 refine rSeq fam1ok 5 [] [(0, .t (.c (.d (.sl 6 (xs.map FormD.d))))), (1, .t (.c (.fn (.func 54) [] [.ptr 2 0]))), (4, vb false)] [(2, .box [.fn (.func 51) [] [.ptr 1 0]]), (1, .box [.d (.sl 2 (vs.map ziD))])] (by kernel_rfl) h ?_; clear h; intro a w h
 refine rSeq fam1ok 5 [(2, .call (SIdxH2 pr xs vs hf  hl) ke_7)] [(4, vb (decide (idxB pr xs 0 ≥ 0)))] [(2, .box [.fn (.func 51) [] [.ptr 1 0]]), (1, .box [.d (.sl 2 (vs.map ziD))])] (by kernel_rfl) h ?_; clear h; intro a w h
 refine wp_ret ?_
 refine retS [.c (.d (.raw (.bool (decide (idxB pr xs 0 ≥ 0)))))] h Exit.ret (.inl rfl)  rfl ⟨RV.tmp _ _ rfl, trivial⟩ ?_ (by kernel_rfl) (by kernel_rfl)
 rw [← idxB_any]; first | done | rfl
theorem mem_take1 {α : Type} {xs : List α} {x : α} (h : xs[0]? = some x) : x ∈ xs.take 1 := by
 cases xs with
 | nil => cases h
 | cons y ys => simp at h; subst h; simp
theorem cons_of_at {α : Type} {xs : List α} {x : α} (h : xs[0]? = some x) : ∃ tl, xs = x :: tl := by
 cases xs with
 | nil => cases h
 | cons y ys => simp at h; subst h; exact ⟨ys, rfl⟩
set_option maxHeartbeats 4000000 in
theorem SHolds0 (f : FormD) (vs : List ZI) {L M : Nat} (ih : ∀ g ∈ f.kids, g.ok L → Fn Try.prog 34 [] [.t (.agg ([.d (.raw (.int .i64 g.kind)), .d (.sl 3 (g.r.t.parts.map Part.d))] ++ zi g.r.t.k ++ [.d (.raw (.bool g.r.eq)), .d (.sl 6 (g.kids.map FormD.d))])), .t (.c (.d (.sl 2 (vs.map ziD))))] (vb (FormD.holds vs g)) []) (hL : L + M ≤ 20000) (hv : VOk M vs) (hf : f.ok L) (hk : f.kids.length ≤ 9223372036854775807) : Fn Try.prog 34 [] [.t (.agg ([.d (.raw (.int .i64 f.kind)), .d (.sl 3 (f.r.t.parts.map Part.d))] ++ zi f.r.t.k ++ [.d (.raw (.bool f.r.eq)), .d (.sl 6 (f.kids.map FormD.d))])), .t (.c (.d (.sl 2 (vs.map ziD))))] (vb (f.holds vs)) [] := by
 refine Fn.body Try.func34 rfl 45 rfl fun w H B a h => ?_
 refine rSeq fam1ok 0 [] [(2, vp 0 0), (3, vp 1 0), (4, vb false)] [(0, .box ([.d (.raw (.int .i64 f.kind)), .d (.sl 3 (f.r.t.parts.map Part.d))] ++ zi f.r.t.k ++ [.d (.raw (.bool f.r.eq)), .d (.sl 6 (f.kids.map FormD.d))])), (1, .box [.d (.sl 2 (vs.map ziD))])] (by kernel_rfl) h ?_; clear h; intro a w h
 refine rSeq fam1ok 2 [(0, .gen _ _ _ fun _ _ _ _ => Op.makeFs (d := 6) (fn := .func 51) [(3, 1, 0)])] [(2, vp 0 0), (3, vp 1 0), (4, vb false), (5, vp 2 0)] [(0, .box ([.d (.raw (.int .i64 f.kind)), .d (.sl 3 (f.r.t.parts.map Part.d))] ++ zi f.r.t.k ++ [.d (.raw (.bool f.r.eq)), .d (.sl 6 (f.kids.map FormD.d))])), (1, .box [.d (.sl 2 (vs.map ziD))]), (2, .box [.fn (.func 51) [] [.ptr 1 0]])] (by kernel_rfl) h ?_; clear h; intro a w h
 refine wp_seq ?_
 refine rSeq fam1ok 3 [] [(2, vp 0 0), (3, vp 1 0), (4, vb false), (5, vp 2 0), (8, vi .i64 f.kind)] [(0, .box ([.d (.raw (.int .i64 f.kind)), .d (.sl 3 (f.r.t.parts.map Part.d))] ++ zi f.r.t.k ++ [.d (.raw (.bool f.r.eq)), .d (.sl 6 (f.kids.map FormD.d))])), (1, .box [.d (.sl 2 (vs.map ziD))]), (2, .box [.fn (.func 51) [] [.ptr 1 0]])] (by kernel_rfl) h ?_; clear h; intro a w h
 refine wp_block ?_
 refine rSeq fam1ok 3 [] [(2, vp 0 0), (3, vp 1 0), (4, vb false), (5, vp 2 0), (8, vi .i64 f.kind), (9, vb (f.kind == 0))] [(0, .box ([.d (.raw (.int .i64 f.kind)), .d (.sl 3 (f.r.t.parts.map Part.d))] ++ zi f.r.t.k ++ [.d (.raw (.bool f.r.eq)), .d (.sl 6 (f.kids.map FormD.d))])), (1, .box [.d (.sl 2 (vs.map ziD))]), (2, .box [.fn (.func 51) [] [.ptr 1 0]])] (by kernel_rfl) h ?_; clear h; intro a w h
 refine condS (f.kind == 0) h rfl (fun hc => ?_) (fun hc => ?_)
 ·have hc1 := hc; clear hc
  have hc1' := hc1; (try simp at hc1')
  refine rSeq fam1ok 3 [] [(4, vb true)] [] (by kernel_rfl) h ?_; clear h; intro a w h
  refine wp_ret ?_
  refine block_r ?_
  refine then_r ?_
  refine retS [.c (.d (.raw (.bool true)))] h Exit.ret (.inl rfl)  rfl ⟨RV.tmp _ _ rfl, trivial⟩ ?_ (by kernel_rfl) (by kernel_rfl)
  have hz : f.holds vs = (true) := by rw [FormD.holds_eq, if_pos (by omega)]; first | done | rfl
  rw [hz]; first | done | rfl
 ·have hc2 := hc; clear hc
  have hc2' := hc2; (try simp at hc2')
  refine rSeq fam1ok 3 [] [(2, vp 0 0), (3, vp 1 0), (4, vb false), (5, vp 2 0), (8, vi .i64 f.kind), (11, vb (f.kind == 2))] [(0, .box ([.d (.raw (.int .i64 f.kind)), .d (.sl 3 (f.r.t.parts.map Part.d))] ++ zi f.r.t.k ++ [.d (.raw (.bool f.r.eq)), .d (.sl 6 (f.kids.map FormD.d))])), (1, .box [.d (.sl 2 (vs.map ziD))]), (2, .box [.fn (.func 51) [] [.ptr 1 0]])] (by kernel_rfl) h ?_; clear h; intro a w h
  refine condS (f.kind == 2) h rfl (fun hc => ?_) (fun hc => ?_)
  ·have hc3 := hc; clear hc
   have hc3' := hc3; (try simp at hc3')
   refine rSeq fam1ok 3 [(3, .call (SrelHolds f.r vs hL hv (((FormD.ok_eq L f).1 hf).1 (by omega))) ke_11)] [(4, vb (relOk vs f.r))] [] (by kernel_rfl) h ?_; clear h; intro a w h
   refine wp_ret ?_
   refine block_r ?_
   refine then_r ?_
   refine retS [.c (.d (.raw (.bool (relOk vs f.r))))] h Exit.ret (.inl rfl)  rfl ⟨RV.tmp _ _ rfl, trivial⟩ ?_ (by kernel_rfl) (by kernel_rfl)
   have hz : f.holds vs = (relOk vs f.r) := by rw [FormD.holds_eq, if_neg (by omega), if_pos (by omega)]; first | done | rfl
   rw [hz]; first | done | rfl
  ·have hc4 := hc; clear hc
   have hc4' := hc4; (try simp at hc4')
   refine rSeq fam1ok 3 [] [(2, vp 0 0), (4, vb false), (5, vp 2 0), (8, vi .i64 f.kind), (17, vb (f.kind == 3))] [(0, .box ([.d (.raw (.int .i64 f.kind)), .d (.sl 3 (f.r.t.parts.map Part.d))] ++ zi f.r.t.k ++ [.d (.raw (.bool f.r.eq)), .d (.sl 6 (f.kids.map FormD.d))])), (1, .box [.d (.sl 2 (vs.map ziD))]), (2, .box [.fn (.func 51) [] [.ptr 1 0]])] (by kernel_rfl) h ?_; clear h; intro a w h
   refine condS (f.kind == 3) h rfl (fun hc => ?_) (fun hc => ?_)
   ·have hc5 := hc; clear hc
    have hc5' := hc5; (try simp at hc5')
    rcases Bool.eq_false_or_eq_true (decide ((f.kids.length : Int) > 0)) with hc | hc
    ·have hc6 := hc; clear hc
     have hc6' := of_decide_eq_true hc6
     obtain ⟨x2, hx2⟩ : ∃ z_ : FormD, f.kids[0]? = some z_ := ⟨_, List.getElem?_eq_getElem (by first | omega | (simp at *; omega))⟩
     refine rSeq fam1ok 3 [(2, .len (c := (.d (.sl 6 (f.kids.map FormD.d)))) (n := f.kids.length) (lenC_map _ _ _)), (3, .cmp (op := .gtr) (m := (f.kids.length : Int)) (n := 0) (b := true) .i64 hc6), (8, .gen _ _ _ fun _ _ _ _ => Op.idxD (d := 27) (t := 26) (k := .i64) kb_0 ((map_at hx2 (f := FormD.d)).trans (congrArg some (FormD.d_eq x2))) (OV.const (.int .i64 0) rfl)), (10, .gen _ _ _ fun _ _ _ _ => Op.callV (d := 29) (t := 24) (cap := [.ptr 1 0]) (args := [.t (.agg ([.d (.raw (.int .i64 x2.kind)), .d (.sl 3 (x2.r.t.parts.map Part.d))] ++ zi x2.r.t.k ++ [.d (.raw (.bool x2.r.eq)), .d (.sl 6 (x2.kids.map FormD.d))]))]) (rs := [(28, .t (.agg ([.d (.raw (.int .i64 x2.kind)), .d (.sl 3 (x2.r.t.parts.map Part.d))] ++ zi x2.r.t.k ++ [.d (.raw (.bool x2.r.eq)), .d (.sl 6 (x2.kids.map FormD.d))])))]) (tys := #[35]) (SHolds1 x2 vs (ih x2 (List.mem_of_getElem? hx2) (((FormD.ok_eq L f).1 hf).2 _ (by unfold cnt; first | (rw [if_pos (by omega)]; exact List.mem_of_getElem? hx2) | (rw [if_neg (by omega), if_pos (by omega)]; exact mem_take1 hx2))))) ke_5 (OVs.cons (OV.tmp 28 _) (OVs.nil)))] [(4, vb (!(FormD.holds vs x2)))] [] (by kernel_rfl) h ?_; clear h; intro a w h
     refine wp_ret ?_
     refine block_r ?_
     refine then_r ?_
     refine retS [.c (.d (.raw (.bool (!(FormD.holds vs x2)))))] h Exit.ret (.inl rfl)  rfl ⟨RV.tmp _ _ rfl, trivial⟩ ?_ (by kernel_rfl) (by kernel_rfl)
     have hz : f.holds vs = (!(FormD.holds vs x2)) := by rw [FormD.holds_eq, if_neg (by omega), if_neg (by omega), if_pos (by omega)]; obtain ⟨tl, htl⟩ := cons_of_at hx2; rw [htl]; first | done | rfl
     rw [hz]; first | done | rfl
    ·have hc7 := hc; clear hc
     have hc7' := of_decide_eq_false hc7
     refine rSeq fam1ok 3 [(2, .len (c := (.d (.sl 6 (f.kids.map FormD.d)))) (n := f.kids.length) (lenC_map _ _ _)), (3, .cmp (op := .gtr) (m := (f.kids.length : Int)) (n := 0) (b := false) .i64 hc7)] [(4, vb false)] [] (by kernel_rfl) h ?_; clear h; intro a w h
     refine wp_ret ?_
     refine block_r ?_
     refine then_r ?_
     refine retS [.c (.d (.raw (.bool false)))] h Exit.ret (.inl rfl)  rfl ⟨RV.tmp _ _ rfl, trivial⟩ ?_ (by kernel_rfl) (by kernel_rfl)
     have hz : f.holds vs = (false) := by rw [FormD.holds_eq, if_neg (by omega), if_neg (by omega), if_pos (by omega)]; rw [List.length_eq_zero_iff.1 (show f.kids.length = 0 by have := of_decide_eq_false hc7; omega)]; first | done | rfl
     rw [hz]; first | done | rfl
   ·have hc8 := hc; clear hc
    have hc8' := hc8; (try simp at hc8')
    refine rSeq fam1ok 3 [] [(2, vp 0 0), (4, vb false), (5, vp 2 0), (8, vi .i64 f.kind), (32, vb (f.kind == 4))] [(0, .box ([.d (.raw (.int .i64 f.kind)), .d (.sl 3 (f.r.t.parts.map Part.d))] ++ zi f.r.t.k ++ [.d (.raw (.bool f.r.eq)), .d (.sl 6 (f.kids.map FormD.d))])), (1, .box [.d (.sl 2 (vs.map ziD))]), (2, .box [.fn (.func 51) [] [.ptr 1 0]])] (by kernel_rfl) h ?_; clear h; intro a w h
    refine condS (f.kind == 4) h rfl (fun hc => ?_) (fun hc => ?_)
    ·have hc9 := hc; clear hc
     have hc9' := hc9; (try simp at hc9')
     refine rSeq fam1ok 3 [(2, .gen _ _ _ fun _ _ _ _ => Op.makeFs (d := 36) (fn := .func 54) [(5, 2, 0)]), (3, .call (SAnyH2 (fun g => !FormD.holds vs g) f.kids vs (fun g hg => SHolds2 g vs (ih g hg (((FormD.ok_eq L f).1 hf).2 _ (by unfold cnt; rw [if_pos (by omega)]; exact hg)))) hk) ke_12)] [(4, vb (!(f.kids.any (fun g => !FormD.holds vs g))))] [] (by kernel_rfl) h ?_; clear h; intro a w h
     refine wp_ret ?_
     refine block_r ?_
     refine then_r ?_
     refine retS [.c (.d (.raw (.bool (!(f.kids.any (fun g => !FormD.holds vs g))))))] h Exit.ret (.inl rfl)  rfl ⟨RV.tmp _ _ rfl, trivial⟩ ?_ (by kernel_rfl) (by kernel_rfl)
     have hz : f.holds vs = (!(f.kids.any (fun g => !FormD.holds vs g))) := by rw [FormD.holds_eq, if_neg (by omega), if_neg (by omega), if_neg (by omega), if_pos (by omega)]; rw [List.all_eq_not_any_not]; first | done | rfl
     rw [hz]; first | done | rfl
    ·have hc10 := hc; clear hc
     have hc10' := hc10; (try simp at hc10')
     refine rSeq fam1ok 3 [] [(2, vp 0 0), (4, vb false), (5, vp 2 0), (39, vb (f.kind == 5))] [(0, .box ([.d (.raw (.int .i64 f.kind)), .d (.sl 3 (f.r.t.parts.map Part.d))] ++ zi f.r.t.k ++ [.d (.raw (.bool f.r.eq)), .d (.sl 6 (f.kids.map FormD.d))])), (1, .box [.d (.sl 2 (vs.map ziD))]), (2, .box [.fn (.func 51) [] [.ptr 1 0]])] (by kernel_rfl) h ?_; clear h; intro a w h
     refine condS (f.kind == 5) h rfl (fun hc => ?_) (fun hc => ?_)
     ·have hc11 := hc; clear hc
      have hc11' := hc11; (try simp at hc11')
      refine rSeq fam1ok 3 [(3, .call (SAnyH1 (FormD.holds vs) f.kids vs (fun g hg => SHolds1 g vs (ih g hg (((FormD.ok_eq L f).1 hf).2 _ (by unfold cnt; rw [if_pos (by omega)]; exact hg)))) hk) ke_12)] [(4, vb (f.kids.any (FormD.holds vs)))] [] (by kernel_rfl) h ?_; clear h; intro a w h
      refine wp_ret ?_
      refine block_r ?_
      refine then_r ?_
      refine retS [.c (.d (.raw (.bool (f.kids.any (FormD.holds vs)))))] h Exit.ret (.inl rfl)  rfl ⟨RV.tmp _ _ rfl, trivial⟩ ?_ (by kernel_rfl) (by kernel_rfl)
      have hz : f.holds vs = (f.kids.any (FormD.holds vs)) := by rw [FormD.holds_eq, if_neg (by omega), if_neg (by omega), if_neg (by omega), if_neg (by omega), if_pos (by omega)]; first | done | rfl
      rw [hz]; first | done | rfl
     ·have hc12 := hc; clear hc
      have hc12' := hc12; (try simp at hc12')
      refine wp_skip ?_
      refine block_n ?_
      refine then_n ?_
      refine rSeq fam1ok 3 [] [(4, vb false)] [] (by kernel_rfl) h ?_; clear h; intro a w h
      refine wp_ret ?_
      refine retS [.c (.d (.raw (.bool false)))] h Exit.ret (.inl rfl)  rfl ⟨RV.tmp _ _ rfl, trivial⟩ ?_ (by kernel_rfl) (by kernel_rfl)
      have hz : f.holds vs = (false) := by rw [FormD.holds_eq, if_neg (by omega), if_neg (by omega), if_neg (by omega), if_neg (by omega), if_neg (by omega)]; first | done | rfl
      rw [hz]; first | done | rfl
theorem SHolds (vs : List ZI) {L M : Nat} (hL : L + M ≤ 20000) (hv : VOk M vs) (f : FormD) : f.lb → f.ok L → Fn Try.prog 34 [] [.t (.agg ([.d (.raw (.int .i64 f.kind)), .d (.sl 3 (f.r.t.parts.map Part.d))] ++ zi f.r.t.k ++ [.d (.raw (.bool f.r.eq)), .d (.sl 6 (f.kids.map FormD.d))])), .t (.c (.d (.sl 2 (vs.map ziD))))] (vb (FormD.holds vs f)) [] :=
 FormD.ind (P := fun f => f.lb → f.ok L → Fn Try.prog 34 [] [.t (.agg ([.d (.raw (.int .i64 f.kind)), .d (.sl 3 (f.r.t.parts.map Part.d))] ++ zi f.r.t.k ++ [.d (.raw (.bool f.r.eq)), .d (.sl 6 (f.kids.map FormD.d))])), .t (.c (.d (.sl 2 (vs.map ziD))))] (vb (FormD.holds vs f)) []) (fun k r ks ih hl hf => by
  have hl := (FormD.lb_eq _).1 hl
  exact SHolds0 ⟨k, r, ks⟩ vs (fun g hg h => ih g hg (hl.2 g hg) h) hL hv hf hl.1.2) f
end Go.Proofs.Ytmohlifepfjmdaa.S
end
section
namespace Go.Proofs.Ytmohlifepfjmdaa.S
open Go.RowKit

theorem kf_0 : SlT Try.prog 23 53 5 := SlT.mk' Try.underlying23 (by kernel_rfl)
theorem kf_1 : Sz Try.prog 53 5 true := Sz.mk' (by kernel_rfl) Try.underlying53 _ rfl
theorem kf_2 : Bodied Try.prog 26 := Bodied.mk' (by kernel_rfl)
theorem kf_3 : Bodied Try.prog 27 := Bodied.mk' (by kernel_rfl)
theorem kf_5 : SlT Try.prog 36 89 3 := SlT.mk' Try.underlying36 (by kernel_rfl)
theorem kf_7 : Bodied Try.prog 28 := Bodied.mk' (by kernel_rfl)
def zero0 : ZI := ⟨false, []⟩
def bnd0 : BoundD := ⟨false, zero0, zero0⟩
def bndAt (s : SysD) (v : Nat) : BoundD := (s.bounds[v]?).getD bnd0
def withinB (b : BoundD) (n : ZI) : Bool := !b.is_ || (decide (cmpZ b.lo.val n.val ≤ 0) && decide (cmpZ n.val b.hi.val ≤ 0))
def nlocs (s : SysD) (i : Nat) : Nat := ((s.procs[i]?).map fun p => p.locs.length).getD 0
def locOk (s : SysD) (x : StD) (i : Nat) : Bool := decide (0 ≤ (x.locs[i]?).getD 0 ∧ (x.locs[i]?).getD 0 < (nlocs s i : Int))
def valOk (s : SysD) (x : StD) (v : Nat) : Bool := withinB (bndAt s v) ((x.vals[v]?).getD zero0)
def fits (s : SysD) (x : StD) : Bool := decide (x.locs.length = s.procs.length ∧ x.vals.length = s.vars.length) && (allN x.locs.length (locOk s x) && allN x.vals.length (valOk s x))
def first (s : SysD) (x : StD) : Bool := (fits s x && !x.locs.any fun l => l != 0) && s.init.holds x.vals
def sameS (x y : StD) : Bool := decide (x.locs = y.locs) && decide (x.vals.map ZI.val = y.vals.map ZI.val)
def ZOk (L : Nat) (z : ZI) : Prop := Lb z.abs ∧ z.abs.length ≤ L
structure ActOk (L : Nat) (a : ActD) : Prop where
  guard : a.guard.lb ∧ a.guard.ok L
  len : a.moves.length ≤ 20
  mv : ∀ m ∈ a.moves, TOk 20 L m.t
structure SysOk (L : Nat) (s : SysD) : Prop where
  vars : s.vars.length ≤ 8
  bnds : s.bounds.length ≤ 20
  procs : s.procs.length ≤ 6
  acts : s.acts.length ≤ 20
  bnd : ∀ b ∈ s.bounds, ZOk L b.lo ∧ ZOk L b.hi
  init : s.init.lb ∧ s.init.ok L
  act : ∀ a ∈ s.acts, ActOk L a
structure StOk (M : Nat) (x : StD) : Prop where
  locs : x.locs.length ≤ 10
  vals : x.vals.length ≤ 10
  val : ∀ z ∈ x.vals, ZOk M z
theorem StOk.vok {M : Nat} {x : StD} (h : StOk M x) : VOk M x.vals := ⟨Nat.le_trans h.vals (by decide), h.val⟩
theorem StOk.mono {M M' : Nat} {x : StD} (h : StOk M x) (hm : M ≤ M') : StOk M' x := ⟨h.locs, h.vals, fun z hz => ⟨(h.val z hz).1, Nat.le_trans (h.val z hz).2 hm⟩⟩
theorem ZOk.zero {L : Nat} : ZOk L zero0 := ⟨Lb_nil, Nat.zero_le _⟩
theorem bnd_ok {L : Nat} {s : SysD} (h : SysOk L s) (v : Nat) : ZOk L (bndAt s v).lo ∧ ZOk L (bndAt s v).hi := by
 unfold bndAt
 cases hb : s.bounds[v]? with
 | none => exact ⟨ZOk.zero, ZOk.zero⟩
 | some b => exact h.bnd b (List.mem_of_getElem? hb)
theorem cmpZ_0 (x y : Int) : (cmpZ x y == 0) = decide (x = y) := by unfold cmpZ; split; simp; omega; split <;> simp <;> omega
set_option maxHeartbeats 4000000 in
theorem Sbound (s : SysD) (v : Nat) (_hb : s.bounds.length ≤ 9223372036854775807) : Fn Try.prog 26 [] [.t (.agg (sysC s)), vi .i64 (v : Int)] (.t (.agg ([.d (.raw (.bool (bndAt s v).is_))] ++ zi (bndAt s v).lo ++ zi (bndAt s v).hi))) [] := by
 refine Fn.body Try.func26 rfl 16 rfl fun w H B a h => ?_
 refine rSeq fam0ok 0 [] [(1, vi .i64 (v : Int)), (2, vp 0 0), (4, vp 1 0)] [(0, .box (sysC s)), (1, .box [.d (.raw (.bool false)), .d (.raw (.bool false)), .d (nsl []), .d (.raw (.bool false)), .d (nsl [])])] (by kernel_rfl) h ?_; clear h; intro a w h
 refine wp_seq ?_
 refine rSeq fam0ok 2 [(3, .len (c := (.d (.sl 5 (s.bounds.map BoundD.d)))) (n := s.bounds.length) (lenC_map _ _ _))] [(1, vi .i64 (v : Int)), (2, vp 0 0), (4, vp 1 0), (9, vb (decide ((v : Int) < (s.bounds.length : Int))))] [(0, .box (sysC s)), (1, .box [.d (.raw (.bool false)), .d (.raw (.bool false)), .d (nsl []), .d (.raw (.bool false)), .d (nsl [])])] (by kernel_rfl) h ?_; clear h; intro a w h
 refine condS (decide ((v : Int) < (s.bounds.length : Int))) h rfl (fun hc => ?_) (fun hc => ?_)
 ·have hc1 := hc; clear hc
  have hc1' := of_decide_eq_true hc1
  obtain ⟨x1, hx1⟩ : ∃ z_ : BoundD, s.bounds[v]? = some z_ := ⟨_, List.getElem?_eq_getElem (by first | omega | (simp at *; omega))⟩
  refine rSeq fam0ok 2 [(3, .gen _ _ _ fun _ _ _ _ => Op.idxD (d := 13) (t := 11) (k := .i64) kf_0 (map_at hx1 (f := BoundD.d)) (OV.tmp 12 _))] [(4, vp 1 0)] [(1, .box ([.d (.raw (.bool x1.is_))] ++ zi x1.lo ++ zi x1.hi))] (by kernel_rfl) h ?_; clear h; intro a w h
  refine wp_ret ?_
  refine then_r ?_
  refine retS [.agg ([.d (.raw (.bool x1.is_))] ++ zi x1.lo ++ zi x1.hi)] h Exit.ret (.inl rfl)  rfl ⟨RV.agg _ 1 0 _ _ _ _ kf_1 rfl rfl rfl rfl, trivial⟩ ?_ (by kernel_rfl) (by kernel_rfl)
  have hz : bndAt s v = x1 := by unfold bndAt; rw [hx1]; rfl
  rw [hz]; first | done | rfl
 ·have hc2 := hc; clear hc
  have hc2' := of_decide_eq_false hc2
  refine wp_skip ?_
  refine then_n ?_
  refine rSeq fam0ok 2 [] [(4, vp 1 0)] [(1, .box [.d (.raw (.bool false)), .d (.raw (.bool false)), .d (nsl []), .d (.raw (.bool false)), .d (nsl [])])] (by kernel_rfl) h ?_; clear h; intro a w h
  refine wp_ret ?_
  refine retS [.agg [.d (.raw (.bool false)), .d (.raw (.bool false)), .d (nsl []), .d (.raw (.bool false)), .d (nsl [])]] h Exit.ret (.inl rfl)  rfl ⟨RV.agg _ 1 0 _ _ _ _ kf_1 rfl rfl rfl rfl, trivial⟩ ?_ (by kernel_rfl) (by kernel_rfl)
  have hz : bndAt s v = bnd0 := by unfold bndAt; rw [List.getElem?_eq_none (by have := of_decide_eq_false hc2; omega)]; rfl
  rw [hz]; first | done | rfl
set_option maxHeartbeats 4000000 in
theorem Swithin (s : SysD) (v : Nat) (n : ZI) {L M : Nat} (hL : L + M ≤ 10000) (hs : SysOk L s) (hn : ZOk M n) : Fn Try.prog 28 [] [.t (.agg (sysC s)), vi .i64 (v : Int), vz n] (vb (withinB (bndAt s v) n)) [] := by
 have lb1 := (bnd_ok hs v).1.2
 have lb2 := (bnd_ok hs v).2.2
 have ln := hn.2
 refine Fn.body Try.func28 rfl 28 rfl fun w H B a h => ?_
 refine rSeq fam0ok 0 [] [(1, vi .i64 (v : Int)), (3, vp 0 0), (5, vp 1 0), (6, vb false)] [(0, .box (sysC s)), (1, .box (zi n))] (by kernel_rfl) h ?_; clear h; intro a w h
 refine rSeq fam0ok 2 [(2, .call (Sbound s v (by have := hs.bnds; omega)) kf_2)] [(5, vp 1 0), (6, vb false), (7, vp 2 0)] [(1, .box (zi n)), (2, .box ([.d (.raw (.bool (bndAt s v).is_))] ++ zi (bndAt s v).lo ++ zi (bndAt s v).hi))] (by kernel_rfl) h ?_; clear h; intro a w h
 rcases Bool.eq_false_or_eq_true (bndAt s v).is_ with hc | hc
 ·have hc1 := hc; clear hc
  rw [hc1] at h
  rcases Bool.eq_false_or_eq_true (decide (cmpZ (bndAt s v).lo.val n.val ≤ 0)) with hc | hc
  ·have hc2 := hc; clear hc
   have hc2' := of_decide_eq_true hc2
   refine rSeq fam0ok 3 [(7, .call (SCmp (bndAt s v).lo n (bnd_ok hs v).1.1 hn.1 (by omega) (by omega)) kf_3), (8, .cmp (op := .leq) (m := (cmpZ (bndAt s v).lo.val n.val)) (n := 0) (b := true) .i64 hc2), (13, .call (SCmp n (bndAt s v).hi hn.1 (bnd_ok hs v).2.1 (by omega) (by omega)) kf_3)] [(6, vb (decide (cmpZ n.val (bndAt s v).hi.val ≤ 0)))] [] (by kernel_rfl) h ?_; clear h; intro a w h
   refine wp_ret ?_
   refine retS [.c (.d (.raw (.bool (decide (cmpZ n.val (bndAt s v).hi.val ≤ 0)))))] h Exit.ret (.inl rfl)  rfl ⟨RV.tmp _ _ rfl, trivial⟩ ?_ (by kernel_rfl) (by kernel_rfl)
   have hz : withinB (bndAt s v) n = (decide (cmpZ n.val (bndAt s v).hi.val ≤ 0)) := by
    unfold withinB; simp only [hc1, hc2]
    first | done | rfl
   rw [hz]; first | done | rfl
  ·have hc3 := hc; clear hc
   have hc3' := of_decide_eq_false hc3
   refine rSeq fam0ok 3 [(7, .call (SCmp (bndAt s v).lo n (bnd_ok hs v).1.1 hn.1 (by omega) (by omega)) kf_3), (8, .cmp (op := .leq) (m := (cmpZ (bndAt s v).lo.val n.val)) (n := 0) (b := false) .i64 hc3)] [(6, vb false)] [] (by kernel_rfl) h ?_; clear h; intro a w h
   refine wp_ret ?_
   refine retS [.c (.d (.raw (.bool false)))] h Exit.ret (.inl rfl)  rfl ⟨RV.tmp _ _ rfl, trivial⟩ ?_ (by kernel_rfl) (by kernel_rfl)
   have hz : withinB (bndAt s v) n = (false) := by
    unfold withinB; simp only [hc1, hc3]
    first | done | rfl
   rw [hz]; first | done | rfl
 ·have hc4 := hc; clear hc
  rw [hc4] at h
  refine rSeq fam0ok 3 [] [(6, vb true)] [] (by kernel_rfl) h ?_; clear h; intro a w h
  refine wp_ret ?_
  refine retS [.c (.d (.raw (.bool true)))] h Exit.ret (.inl rfl)  rfl ⟨RV.tmp _ _ rfl, trivial⟩ ?_ (by kernel_rfl) (by kernel_rfl)
  have hz : withinB (bndAt s v) n = (true) := by
   unfold withinB; simp only [hc4]
   first | done | rfl
  rw [hz]; first | done | rfl
set_option maxHeartbeats 4000000 in
theorem SFits (s : SysD) (x : StD) {L M : Nat} (hL : L + M ≤ 10000) (hs : SysOk L s) (hx : StOk M x) : Fn Try.prog 10 [] [.t (.agg (sysC s)), .t (.agg [.d (.sl 1 (x.locs.map intD)), .d (.sl 2 (x.vals.map ziD))])] (vb (fits s x)) [] := by
 have lx1 := hx.locs
 have lx2 := hx.vals
 have ls1 := hs.vars
 have ls2 := hs.procs
 refine Fn.body Try.func10 rfl 61 rfl fun w H B a h => ?_
 refine rSeq fam0ok 0 [] [(2, vp 0 0), (3, vp 1 0), (4, vb false)] [(0, .box (sysC s)), (1, .box [.d (.sl 1 (x.locs.map intD)), .d (.sl 2 (x.vals.map ziD))])] (by kernel_rfl) h ?_; clear h; intro a w h
 refine wp_seq ?_
 rcases Bool.eq_false_or_eq_true ((x.locs.length : Int) != (s.procs.length : Int)) with hc | hc
 ·have hc1 := hc; clear hc
  have hc1' := hc1; (try simp at hc1')
  refine rSeq fam0ok 2 [(2, .len (c := (.d (.sl 1 (x.locs.map intD)))) (n := x.locs.length) (lenC_map _ _ _)), (5, .len (c := (.d (.sl 3 (s.procs.map ProcD.d)))) (n := s.procs.length) (lenC_map _ _ _)), (6, .cmp (op := .neq) (m := (x.locs.length : Int)) (n := (s.procs.length : Int)) (b := true) .i64 hc1)] [(2, vp 0 0), (3, vp 1 0), (4, vb false), (24, vb true)] [(0, .box (sysC s)), (1, .box [.d (.sl 1 (x.locs.map intD)), .d (.sl 2 (x.vals.map ziD))])] (by kernel_rfl) h ?_; clear h; intro a w h
  refine condS true h rfl (fun hc => ?_) (fun hc => ?_)
  ·clear hc
   refine rSeq fam0ok 2 [] [(2, vp 0 0), (3, vp 1 0), (4, vb false)] [(0, .box (sysC s)), (1, .box [.d (.sl 1 (x.locs.map intD)), .d (.sl 2 (x.vals.map ziD))])] (by kernel_rfl) h ?_; clear h; intro a w h
   refine wp_ret ?_
   refine then_r ?_
   refine retS [.c (.d (.raw (.bool false)))] h Exit.ret (.inl rfl)  rfl ⟨RV.tmp _ _ rfl, trivial⟩ ?_ (by kernel_rfl) (by kernel_rfl)
   have hz : fits s x = false := by unfold fits; rw [decide_eq_false (by have := hc1; simp at this; omega)]; rfl
   rw [hz]; first | done | rfl
  ·cases hc
 ·have hc2 := hc; clear hc
  have hc2' := hc2; (try simp at hc2')
  refine rSeq fam0ok 2 [(2, .len (c := (.d (.sl 1 (x.locs.map intD)))) (n := x.locs.length) (lenC_map _ _ _)), (5, .len (c := (.d (.sl 3 (s.procs.map ProcD.d)))) (n := s.procs.length) (lenC_map _ _ _)), (6, .cmp (op := .neq) (m := (x.locs.length : Int)) (n := (s.procs.length : Int)) (b := false) .i64 hc2), (10, .len (c := (.d (.sl 2 (x.vals.map ziD)))) (n := x.vals.length) (lenC_map _ _ _)), (13, .len (c := (.d (.sl 1 (s.vars.map strD)))) (n := s.vars.length) (lenC_map _ _ _))] [(2, vp 0 0), (3, vp 1 0), (4, vb false), (24, vb ((x.vals.length : Int) != (s.vars.length : Int)))] [(0, .box (sysC s)), (1, .box [.d (.sl 1 (x.locs.map intD)), .d (.sl 2 (x.vals.map ziD))])] (by kernel_rfl) h ?_; clear h; intro a w h
  refine condS ((x.vals.length : Int) != (s.vars.length : Int)) h rfl (fun hc => ?_) (fun hc => ?_)
  ·have hc3 := hc; clear hc
   have hc3' := hc3; (try simp at hc3')
   refine rSeq fam0ok 2 [] [(2, vp 0 0), (3, vp 1 0), (4, vb false)] [(0, .box (sysC s)), (1, .box [.d (.sl 1 (x.locs.map intD)), .d (.sl 2 (x.vals.map ziD))])] (by kernel_rfl) h ?_; clear h; intro a w h
   refine wp_ret ?_
   refine then_r ?_
   refine retS [.c (.d (.raw (.bool false)))] h Exit.ret (.inl rfl)  rfl ⟨RV.tmp _ _ rfl, trivial⟩ ?_ (by kernel_rfl) (by kernel_rfl)
   have hz : fits s x = false := by unfold fits; rw [decide_eq_false (by have := hc3; simp at this; omega)]; rfl
   rw [hz]; first | done | rfl
  ·have hc4 := hc; clear hc
   have hc4' := hc4; (try simp at hc4')
   refine wp_skip ?_
   refine then_n ?_
   refine wp_seq ?_
   refine rSeq fam0ok 2 [(2, .len (c := (.d (.sl 1 (x.locs.map intD)))) (n := x.locs.length) (lenC_map _ _ _))] [(2, vp 0 0), (3, vp 1 0), (4, vb false), (26, .t (.c (.d (.sl 1 (x.locs.map intD))))), (27, vi .i64 (x.locs.length : Int)), (28, vi .i64 0)] [(0, .box (sysC s)), (1, .box [.d (.sl 1 (x.locs.map intD)), .d (.sl 2 (x.vals.map ziD))])] (by kernel_rfl) h ?_; clear h; intro a w h
   refine wp_block ?_
   refine loopS (ι := (Nat)) (fun (z_ : (Nat)) => match z_ with | j => j ≤ x.locs.length ∧ allN j (locOk s x) = true)
     (fun (z_ : (Nat)) => match z_ with | j => [(2, vp 0 0), (3, vp 1 0), (26, .t (.c (.d (.sl 1 (x.locs.map intD))))), (27, vi .i64 (x.locs.length : Int)), (28, vi .i64 (j : Int))])
     (fun (z_ : (Nat)) => match z_ with | j => [(0, .box (sysC s)), (1, .box [.d (.sl 1 (x.locs.map intD)), .d (.sl 2 (x.vals.map ziD))])])
     (fun (z_ : (Nat)) => match z_ with | j => x.locs.length - j) 0 ?_ h (by kernel_rfl) (by kernel_rfl) ?_
   ·exact ⟨Nat.zero_le _, rfl⟩
   ·clear h; rintro j a w hI h
    change St _ (F.of [(2, vp 0 0), (3, vp 1 0), (26, .t (.c (.d (.sl 1 (x.locs.map intD))))), (27, vi .i64 (x.locs.length : Int)), (28, vi .i64 (j : Int))] [(0, .box (sysC s)), (1, .box [.d (.sl 1 (x.locs.map intD)), .d (.sl 2 (x.vals.map ziD))])]) a w at h
    obtain ⟨hI1, hI2⟩ := hI
    refine rSeq fam0ok 2 [] [(2, vp 0 0), (3, vp 1 0), (26, .t (.c (.d (.sl 1 (x.locs.map intD))))), (27, vi .i64 (x.locs.length : Int)), (28, vi .i64 (j : Int)), (29, vb (decide ((j : Int) < (x.locs.length : Int))))] [(0, .box (sysC s)), (1, .box [.d (.sl 1 (x.locs.map intD)), .d (.sl 2 (x.vals.map ziD))])] (by kernel_rfl) h ?_; clear h; intro a w h
    refine wp_seq ?_
    refine condS (decide ((j : Int) < (x.locs.length : Int))) h rfl (fun hc => ?_) (fun hc => ?_)
    ·have hc5 := hc; clear hc
     have hc5' := of_decide_eq_true hc5
     refine wp_skip ?_
     refine then_n ?_
     refine wp_seq ?_
     refine wp_block ?_
     obtain ⟨x1, hx1⟩ : ∃ z_ : Int, x.locs[j]? = some z_ := ⟨_, List.getElem?_eq_getElem (by first | omega | (simp at *; omega))⟩
     refine rSeq fam0ok 2 [(1, .gen _ _ _ fun _ _ _ _ => Op.idxD (d := 31) (t := 26) (k := .i64) tb_1 (map_at hx1 (f := intD)) (OV.tmp 28 _))] [(2, vp 0 0), (3, vp 1 0), (5, vi .i64 (j : Int)), (6, vi .i64 x1), (26, .t (.c (.d (.sl 1 (x.locs.map intD))))), (27, vi .i64 (x.locs.length : Int)), (28, vi .i64 (j : Int))] [(0, .box (sysC s)), (1, .box [.d (.sl 1 (x.locs.map intD)), .d (.sl 2 (x.vals.map ziD))])] (by kernel_rfl) h ?_; clear h; intro a w h
     rcases Bool.eq_false_or_eq_true (decide (x1 < 0)) with hc | hc
     ·have hc6 := hc; clear hc
      have hc6' := of_decide_eq_true hc6
      refine rSeq fam0ok 2 [(1, .cmp (op := .lss) (m := x1) (n := 0) (b := true) .i64 hc6)] [(2, vp 0 0), (3, vp 1 0), (26, .t (.c (.d (.sl 1 (x.locs.map intD))))), (27, vi .i64 (x.locs.length : Int)), (28, vi .i64 (j : Int)), (45, vb true)] [(0, .box (sysC s)), (1, .box [.d (.sl 1 (x.locs.map intD)), .d (.sl 2 (x.vals.map ziD))])] (by kernel_rfl) h ?_; clear h; intro a w h
      refine condS true h rfl (fun hc => ?_) (fun hc => ?_)
      ·clear hc
       refine rSeq fam0ok 2 [] [(2, vp 0 0), (3, vp 1 0), (4, vb false), (26, .t (.c (.d (.sl 1 (x.locs.map intD))))), (27, vi .i64 (x.locs.length : Int)), (28, vi .i64 (j : Int))] [(0, .box (sysC s)), (1, .box [.d (.sl 1 (x.locs.map intD)), .d (.sl 2 (x.vals.map ziD))])] (by kernel_rfl) h ?_; clear h; intro a w h
       refine wp_ret ?_
       refine block_r ?_
       refine then_r ?_
       refine then_r ?_
       refine block_r ?_
       refine then_r ?_
       refine retS [.c (.d (.raw (.bool false)))] h Exit.ret (.inl rfl)  rfl ⟨RV.tmp _ _ rfl, trivial⟩ ?_ (by kernel_rfl) (by kernel_rfl)
       have hz : fits s x = false := by unfold fits; rw [decide_eq_true (by have h1 := hc2; have h2 := hc4; simp at h1 h2; omega), Bool.true_and]; rw [allN_fail (at_lt hx1) (show locOk s x j = false by unfold locOk nlocs; rw [hx1]; exact decide_eq_false (by have := of_decide_eq_true hc6; intro h; have := h.1; simp at this; omega))]; rfl
       rw [hz]; first | done | rfl
      ·cases hc
     ·have hc7 := hc; clear hc
      have hc7' := of_decide_eq_false hc7
      obtain ⟨x2, hx2⟩ : ∃ z_ : ProcD, s.procs[j]? = some z_ := ⟨_, List.getElem?_eq_getElem (by first | omega | (simp at *; omega))⟩
      refine rSeq fam0ok 2 [(1, .cmp (op := .lss) (m := x1) (n := 0) (b := false) .i64 hc7), (7, .gen _ _ _ fun _ _ _ _ => Op.idxD (d := 40) (t := 38) (k := .i64) kf_5 (map_at hx2 (f := ProcD.d)) (OV.tmp 39 _)), (10, .len (c := (.d (.sl 1 (x2.locs.map strD)))) (n := x2.locs.length) (lenC_map _ _ _))] [(2, vp 0 0), (3, vp 1 0), (26, .t (.c (.d (.sl 1 (x.locs.map intD))))), (27, vi .i64 (x.locs.length : Int)), (28, vi .i64 (j : Int)), (45, vb (decide (x1 ≥ (x2.locs.length : Int))))] [(0, .box (sysC s)), (1, .box [.d (.sl 1 (x.locs.map intD)), .d (.sl 2 (x.vals.map ziD))])] (by kernel_rfl) h ?_; clear h; intro a w h
      refine condS (decide (x1 ≥ (x2.locs.length : Int))) h rfl (fun hc => ?_) (fun hc => ?_)
      ·have hc8 := hc; clear hc
       have hc8' := of_decide_eq_true hc8
       refine rSeq fam0ok 2 [] [(2, vp 0 0), (3, vp 1 0), (4, vb false), (26, .t (.c (.d (.sl 1 (x.locs.map intD))))), (27, vi .i64 (x.locs.length : Int)), (28, vi .i64 (j : Int))] [(0, .box (sysC s)), (1, .box [.d (.sl 1 (x.locs.map intD)), .d (.sl 2 (x.vals.map ziD))])] (by kernel_rfl) h ?_; clear h; intro a w h
       refine wp_ret ?_
       refine block_r ?_
       refine then_r ?_
       refine then_r ?_
       refine block_r ?_
       refine then_r ?_
       refine retS [.c (.d (.raw (.bool false)))] h Exit.ret (.inl rfl)  rfl ⟨RV.tmp _ _ rfl, trivial⟩ ?_ (by kernel_rfl) (by kernel_rfl)
       have hz : fits s x = false := by unfold fits; rw [decide_eq_true (by have h1 := hc2; have h2 := hc4; simp at h1 h2; omega), Bool.true_and]; rw [allN_fail (at_lt hx1) (show locOk s x j = false by unfold locOk nlocs; rw [hx1, hx2]; exact decide_eq_false (by have := of_decide_eq_true hc8; intro h; have := h.2; simp at this; omega))]; rfl
       rw [hz]; first | done | rfl
      ·have hc9 := hc; clear hc
       have hc9' := of_decide_eq_false hc9
       refine wp_skip ?_
       refine block_n ?_
       refine then_n ?_
       refine rS fam0ok 2 [(0, .add .i64 (m := (j : Int)) (n := 1) (i64_id (by omega) (by omega)))] [(2, vp 0 0), (3, vp 1 0), (26, .t (.c (.d (.sl 1 (x.locs.map intD))))), (27, vi .i64 (x.locs.length : Int)), (28, vi .i64 ((j : Int) + 1))] [(0, .box (sysC s)), (1, .box [.d (.sl 1 (x.locs.map intD)), .d (.sl 2 (x.vals.map ziD))])] (by kernel_rfl) h ?_; clear h; intro a w h
       refine then_n ?_
       refine roundS (x := j) (y := j + 1) h ?_ ?_ (by kernel_rfl) (by kernel_rfl)
       ·have := at_lt hx1
        exact ⟨by omega, allN_step hI2 (by unfold locOk nlocs; rw [hx1, hx2]; exact decide_eq_true ⟨by have := of_decide_eq_false hc7; simpa using this, by have := of_decide_eq_false hc9; simpa using this⟩)⟩
       ·show x.locs.length - (j + 1) < x.locs.length - j
        have := at_lt hx1; omega
    ·have hc10 := hc; clear hc
     have hc10' := of_decide_eq_false hc10
     refine wp_exit ?_
     refine then_x ?_
     refine then_x ?_
     refine inBlock_exit ?_
     refine then_n ?_
     refine wp_seq ?_
     refine rSeq fam0ok 2 [(2, .len (c := (.d (.sl 2 (x.vals.map ziD)))) (n := x.vals.length) (lenC_map _ _ _))] [(2, vp 0 0), (48, .t (.c (.d (.sl 2 (x.vals.map ziD))))), (49, vi .i64 (x.vals.length : Int)), (50, vi .i64 0)] [(0, .box (sysC s))] (by kernel_rfl) h ?_; clear h; intro a w h
     refine wp_block ?_
     refine loopS (ι := (Nat)) (fun (z_ : (Nat)) => match z_ with | i => i ≤ x.vals.length ∧ allN i (valOk s x) = true)
       (fun (z_ : (Nat)) => match z_ with | i => [(2, vp 0 0), (48, .t (.c (.d (.sl 2 (x.vals.map ziD))))), (49, vi .i64 (x.vals.length : Int)), (50, vi .i64 (i : Int))])
       (fun (z_ : (Nat)) => match z_ with | i => [(0, .box (sysC s))])
       (fun (z_ : (Nat)) => match z_ with | i => x.vals.length - i) 0 ?_ h (by kernel_rfl) (by kernel_rfl) ?_
     ·exact ⟨Nat.zero_le _, rfl⟩
     ·clear h; rintro i a w hI h
      change St _ (F.of [(2, vp 0 0), (48, .t (.c (.d (.sl 2 (x.vals.map ziD))))), (49, vi .i64 (x.vals.length : Int)), (50, vi .i64 (i : Int))] [(0, .box (sysC s))]) a w at h
      obtain ⟨hJ1, hJ2⟩ := hI
      refine rSeq fam0ok 2 [] [(2, vp 0 0), (48, .t (.c (.d (.sl 2 (x.vals.map ziD))))), (49, vi .i64 (x.vals.length : Int)), (50, vi .i64 (i : Int)), (51, vb (decide ((i : Int) < (x.vals.length : Int))))] [(0, .box (sysC s))] (by kernel_rfl) h ?_; clear h; intro a w h
      refine wp_seq ?_
      refine condS (decide ((i : Int) < (x.vals.length : Int))) h rfl (fun hc => ?_) (fun hc => ?_)
      ·have hc11 := hc; clear hc
       have hc11' := of_decide_eq_true hc11
       refine wp_skip ?_
       refine then_n ?_
       refine wp_seq ?_
       refine wp_block ?_
       obtain ⟨x3, hx3⟩ : ∃ z_ : ZI, x.vals[i]? = some z_ := ⟨_, List.getElem?_eq_getElem (by first | omega | (simp at *; omega))⟩
       have gx3 := hx.val x3 (List.mem_of_getElem? hx3)
       refine rSeq fam0ok 2 [(1, .gen _ _ _ fun _ _ _ _ => Op.idxD (d := 53) (t := 48) (k := .i64) tt_6 (map_at hx3 (f := ziD)) (OV.tmp 50 _))] [(2, vp 0 0), (7, vi .i64 (i : Int)), (8, vp 2 0), (48, .t (.c (.d (.sl 2 (x.vals.map ziD))))), (49, vi .i64 (x.vals.length : Int)), (50, vi .i64 (i : Int))] [(0, .box (sysC s)), (2, .box (zi x3))] (by kernel_rfl) h ?_; clear h; intro a w h
       refine rSeq fam0ok 3 [(3, .call (Swithin s i x3 hL hs gx3) kf_7)] [(2, vp 0 0), (48, .t (.c (.d (.sl 2 (x.vals.map ziD))))), (49, vi .i64 (x.vals.length : Int)), (50, vi .i64 (i : Int)), (59, vb (!(withinB (bndAt s i) x3)))] [(0, .box (sysC s))] (by kernel_rfl) h ?_; clear h; intro a w h
       refine condS (!(withinB (bndAt s i) x3)) h rfl (fun hc => ?_) (fun hc => ?_)
       ·have hc12 := hc; clear hc
        have hc12' := hc12; (try simp at hc12')
        refine rSeq fam0ok 3 [] [(2, vp 0 0), (4, vb false), (48, .t (.c (.d (.sl 2 (x.vals.map ziD))))), (49, vi .i64 (x.vals.length : Int)), (50, vi .i64 (i : Int))] [(0, .box (sysC s))] (by kernel_rfl) h ?_; clear h; intro a w h
        refine wp_ret ?_
        refine block_r ?_
        refine then_r ?_
        refine then_r ?_
        refine block_r ?_
        refine then_r ?_
        refine retS [.c (.d (.raw (.bool false)))] h Exit.ret (.inl rfl)  rfl ⟨RV.tmp _ _ rfl, trivial⟩ ?_ (by kernel_rfl) (by kernel_rfl)
        have hz : fits s x = false := by unfold fits; rw [decide_eq_true (by have h1 := hc2; have h2 := hc4; simp at h1 h2; omega), Bool.true_and]; rw [allN_fail (at_lt hx3) (show valOk s x i = false by unfold valOk; rw [hx3]; exact (show (withinB (bndAt s i) x3) = false from by simpa using hc12)), Bool.and_false]
        rw [hz]; first | done | rfl
       ·have hc13 := hc; clear hc
        have hc13' := hc13; (try simp at hc13')
        refine wp_skip ?_
        refine block_n ?_
        refine then_n ?_
        refine rS fam0ok 3 [(0, .add .i64 (m := (i : Int)) (n := 1) (i64_id (by omega) (by omega)))] [(2, vp 0 0), (48, .t (.c (.d (.sl 2 (x.vals.map ziD))))), (49, vi .i64 (x.vals.length : Int)), (50, vi .i64 ((i : Int) + 1))] [(0, .box (sysC s))] (by kernel_rfl) h ?_; clear h; intro a w h
        refine then_n ?_
        refine roundS (x := i) (y := i + 1) h ?_ ?_ (by kernel_rfl) (by kernel_rfl)
        ·have := at_lt hx3
         exact ⟨by omega, allN_step hJ2 (by unfold valOk; rw [hx3]; exact (show (withinB (bndAt s i) x3) = true from by simpa using hc13))⟩
        ·show x.vals.length - (i + 1) < x.vals.length - i
         have := at_lt hx3; omega
      ·have hc14 := hc; clear hc
       have hc14' := of_decide_eq_false hc14
       refine wp_exit ?_
       refine then_x ?_
       refine then_x ?_
       refine inBlock_exit ?_
       refine then_n ?_
       refine rSeq fam0ok 3 [] [(4, vb true)] [] (by kernel_rfl) h ?_; clear h; intro a w h
       refine wp_ret ?_
       refine retS [.c (.d (.raw (.bool true)))] h Exit.ret (.inl rfl)  rfl ⟨RV.tmp _ _ rfl, trivial⟩ ?_ (by kernel_rfl) (by kernel_rfl)
       have hz : fits s x = true := by unfold fits; rw [decide_eq_true (by have h1 := hc2; have h2 := hc4; simp at h1 h2; omega), Bool.true_and]; rw [show x.locs.length = j by have := of_decide_eq_false hc10; omega, hI2, show x.vals.length = i by have := of_decide_eq_false hc14; omega, hJ2]; rfl
       rw [hz]; first | done | rfl
end Go.Proofs.Ytmohlifepfjmdaa.S
end
section
namespace Go.Proofs.Ytmohlifepfjmdaa.S
open Go.RowKit

theorem kg_3 : Bodied Try.prog 31 := Bodied.mk' (by kernel_rfl)
theorem kg_4 : Bodied Try.prog 29 := Bodied.mk' (by kernel_rfl)
theorem kg_5 : Bodied Try.prog 30 := Bodied.mk' (by kernel_rfl)
theorem kg_6 : Bodied Try.prog 33 := Bodied.mk' (by kernel_rfl)
theorem kg_7 : Bodied Try.prog 50 := Bodied.mk' (by kernel_rfl)
theorem kg_8 : Bodied Try.prog 32 := Bodied.mk' (by kernel_rfl)
theorem kg_9 : Bodied Try.prog 10 := Bodied.mk' (by kernel_rfl)
theorem map_take {α β : Type} {f : α → β} {xs ys : List α} {j : Nat} {a b : α} (hx : xs[j]? = some a) (hy : ys[j]? = some b) (h : (xs.take j).map f = (ys.take j).map f) (e : f a = f b) : (xs.take (j + 1)).map f = (ys.take (j + 1)).map f := by
 rw [List.take_add_one, List.take_add_one, hx, hy, List.map_append, List.map_append, h]; simp [e]
theorem map_ne {α β : Type} {f : α → β} {xs ys : List α} {j : Nat} {a b : α} (hx : xs[j]? = some a) (hy : ys[j]? = some b) (e : f a ≠ f b) : xs.map f ≠ ys.map f := by
 intro h
 have := congrArg (fun l => l[j]?) h
 simp only [List.getElem?_map, hx, hy, Option.map_some, Option.some.injEq] at this
 exact e this
theorem map_len_ne {α β : Type} {f : α → β} {xs ys : List α} (e : xs.length ≠ ys.length) : xs.map f ≠ ys.map f := fun h => e (by simpa using congrArg List.length h)
theorem map_end {α β : Type} {f : α → β} {xs ys : List α} {j : Nat} (hl : xs.length = ys.length) (hj : ¬ (j : Int) < (xs.length : Int)) (h : (xs.take j).map f = (ys.take j).map f) : xs.map f = ys.map f := by
 rwa [List.take_of_length_le (by omega), List.take_of_length_le (by omega)] at h
set_option maxHeartbeats 4000000 in
theorem SEqualI (xs ys : List Int) (hl : xs.length ≤ 9223372036854775807) : Fn Try.prog 29 [] [.t (.c (.d (.sl 1 (xs.map intD)))), .t (.c (.d (.sl 1 (ys.map intD))))] (vb (decide (xs.map (fun l : Int => l) = ys.map (fun l : Int => l)))) [] := by
 refine Fn.body Try.func29 rfl 26 rfl fun w H B a h => ?_
 refine rSeq fam0ok 0 [] [(0, .t (.c (.d (.sl 1 (xs.map intD))))), (1, .t (.c (.d (.sl 1 (ys.map intD))))), (4, vb false)] [] (by kernel_rfl) h ?_; clear h; intro a w h
 refine wp_seq ?_
 refine rSeq fam0ok 0 [(1, .len (c := (.d (.sl 1 (xs.map intD)))) (n := xs.length) (lenC_map _ _ _)), (3, .len (c := (.d (.sl 1 (ys.map intD)))) (n := ys.length) (lenC_map _ _ _))] [(0, .t (.c (.d (.sl 1 (xs.map intD))))), (1, .t (.c (.d (.sl 1 (ys.map intD))))), (4, vb false), (10, vb ((xs.length : Int) != (ys.length : Int)))] [] (by kernel_rfl) h ?_; clear h; intro a w h
 refine condS ((xs.length : Int) != (ys.length : Int)) h rfl (fun hc => ?_) (fun hc => ?_)
 ·have hc1 := hc; clear hc
  have hc1' := hc1; (try simp at hc1')
  refine rSeq fam0ok 0 [] [(0, .t (.c (.d (.sl 1 (xs.map intD))))), (1, .t (.c (.d (.sl 1 (ys.map intD))))), (4, vb false)] [] (by kernel_rfl) h ?_; clear h; intro a w h
  refine wp_ret ?_
  refine then_r ?_
  refine retS [.c (.d (.raw (.bool false)))] h Exit.ret (.inl rfl)  rfl ⟨RV.tmp _ _ rfl, trivial⟩ ?_ (by kernel_rfl) (by kernel_rfl)
  have hz : decide (xs.map (fun l : Int => l) = ys.map (fun l : Int => l)) = false := (decide_eq_false (map_len_ne (by have := hc1; simp at this; omega)))
  rw [hz]; first | done | rfl
 ·have hc2 := hc; clear hc
  have hc2' := hc2; (try simp at hc2')
  refine wp_skip ?_
  refine then_n ?_
  refine wp_seq ?_
  refine rSeq fam0ok 0 [(1, .len (c := (.d (.sl 1 (xs.map intD)))) (n := xs.length) (lenC_map _ _ _))] [(0, .t (.c (.d (.sl 1 (xs.map intD))))), (1, .t (.c (.d (.sl 1 (ys.map intD))))), (4, vb false), (12, vi .i64 (xs.length : Int)), (13, vi .i64 0)] [] (by kernel_rfl) h ?_; clear h; intro a w h
  refine wp_block ?_
  refine loopS (ι := (Nat)) (fun (z_ : (Nat)) => match z_ with | j => j ≤ xs.length ∧ (xs.take j).map (fun l : Int => l) = (ys.take j).map (fun l : Int => l))
    (fun (z_ : (Nat)) => match z_ with | j => [(0, .t (.c (.d (.sl 1 (xs.map intD))))), (1, .t (.c (.d (.sl 1 (ys.map intD))))), (12, vi .i64 (xs.length : Int)), (13, vi .i64 (j : Int))])
    (fun (z_ : (Nat)) => match z_ with | j => [])
    (fun (z_ : (Nat)) => match z_ with | j => xs.length - j) 0 ?_ h (by kernel_rfl) (by kernel_rfl) ?_
  ·exact ⟨Nat.zero_le _, rfl⟩
  ·clear h; rintro j a w hI h
   change St _ (F.of [(0, .t (.c (.d (.sl 1 (xs.map intD))))), (1, .t (.c (.d (.sl 1 (ys.map intD))))), (12, vi .i64 (xs.length : Int)), (13, vi .i64 (j : Int))] []) a w at h
   obtain ⟨hj1, hj2⟩ := hI
   refine rSeq fam0ok 0 [] [(0, .t (.c (.d (.sl 1 (xs.map intD))))), (1, .t (.c (.d (.sl 1 (ys.map intD))))), (12, vi .i64 (xs.length : Int)), (13, vi .i64 (j : Int)), (14, vb (decide ((j : Int) < (xs.length : Int))))] [] (by kernel_rfl) h ?_; clear h; intro a w h
   refine wp_seq ?_
   refine condS (decide ((j : Int) < (xs.length : Int))) h rfl (fun hc => ?_) (fun hc => ?_)
   ·have hc3 := hc; clear hc
    have hc3' := of_decide_eq_true hc3
    refine wp_skip ?_
    refine then_n ?_
    refine wp_seq ?_
    refine wp_block ?_
    refine rSeq fam0ok 0 [] [(0, .t (.c (.d (.sl 1 (xs.map intD))))), (1, .t (.c (.d (.sl 1 (ys.map intD))))), (5, vi .i64 (j : Int)), (12, vi .i64 (xs.length : Int)), (13, vi .i64 (j : Int))] [] (by kernel_rfl) h ?_; clear h; intro a w h
    obtain ⟨x1, hx1⟩ : ∃ z_ : Int, xs[j]? = some z_ := ⟨_, List.getElem?_eq_getElem (by first | omega | (simp at *; omega))⟩
    obtain ⟨x2, hx2⟩ : ∃ z_ : Int, ys[j]? = some z_ := ⟨_, List.getElem?_eq_getElem (by first | omega | (simp at *; omega))⟩
    refine rSeq fam0ok 0 [(2, .gen _ _ _ fun _ _ _ _ => Op.idxD (d := 18) (t := 16) (k := .i64) tb_1 (map_at hx1 (f := intD)) (OV.tmp 17 _)), (6, .gen _ _ _ fun _ _ _ _ => Op.idxD (d := 22) (t := 20) (k := .i64) tb_1 (map_at hx2 (f := intD)) (OV.tmp 21 _))] [(0, .t (.c (.d (.sl 1 (xs.map intD))))), (1, .t (.c (.d (.sl 1 (ys.map intD))))), (12, vi .i64 (xs.length : Int)), (13, vi .i64 (j : Int)), (24, vb (x1 != x2))] [] (by kernel_rfl) h ?_; clear h; intro a w h
    refine condS (x1 != x2) h rfl (fun hc => ?_) (fun hc => ?_)
    ·have hc4 := hc; clear hc
     have hc4' := hc4; (try simp at hc4')
     refine rSeq fam0ok 0 [] [(0, .t (.c (.d (.sl 1 (xs.map intD))))), (1, .t (.c (.d (.sl 1 (ys.map intD))))), (4, vb false), (12, vi .i64 (xs.length : Int)), (13, vi .i64 (j : Int))] [] (by kernel_rfl) h ?_; clear h; intro a w h
     refine wp_ret ?_
     refine block_r ?_
     refine then_r ?_
     refine then_r ?_
     refine block_r ?_
     refine then_r ?_
     refine retS [.c (.d (.raw (.bool false)))] h Exit.ret (.inl rfl)  rfl ⟨RV.tmp _ _ rfl, trivial⟩ ?_ (by kernel_rfl) (by kernel_rfl)
     have hz : decide (xs.map (fun l : Int => l) = ys.map (fun l : Int => l)) = false := (decide_eq_false (map_ne hx1 hx2 (by have := hc4; simpa using this)))
     rw [hz]; first | done | rfl
    ·have hc5 := hc; clear hc
     have hc5' := hc5; (try simp at hc5')
     refine wp_skip ?_
     refine block_n ?_
     refine then_n ?_
     refine rS fam0ok 0 [(0, .add .i64 (m := (j : Int)) (n := 1) (i64_id (by omega) (by omega)))] [(0, .t (.c (.d (.sl 1 (xs.map intD))))), (1, .t (.c (.d (.sl 1 (ys.map intD))))), (12, vi .i64 (xs.length : Int)), (13, vi .i64 ((j : Int) + 1))] [] (by kernel_rfl) h ?_; clear h; intro a w h
     refine then_n ?_
     refine roundS (x := j) (y := j + 1) h ?_ ?_ (by kernel_rfl) (by kernel_rfl)
     ·have := at_lt hx1
      exact ⟨by omega, map_take hx1 hx2 hj2 (by have := hc5; simpa using this)⟩
     ·show xs.length - (j + 1) < xs.length - j
      have := at_lt hx1; omega
   ·have hc6 := hc; clear hc
    have hc6' := of_decide_eq_false hc6
    refine wp_exit ?_
    refine then_x ?_
    refine then_x ?_
    refine inBlock_exit ?_
    refine then_n ?_
    refine rSeq fam0ok 0 [] [(4, vb true)] [] (by kernel_rfl) h ?_; clear h; intro a w h
    refine wp_ret ?_
    refine retS [.c (.d (.raw (.bool true)))] h Exit.ret (.inl rfl)  rfl ⟨RV.tmp _ _ rfl, trivial⟩ ?_ (by kernel_rfl) (by kernel_rfl)
    have hz : decide (xs.map (fun l : Int => l) = ys.map (fun l : Int => l)) = true := (decide_eq_true (map_end (by have := hc2; simp at this; omega) (of_decide_eq_false hc6) hj2))
    rw [hz]; first | done | rfl
set_option maxHeartbeats 4000000 in
theorem SSame1 (p q : ZI) {M : Nat} (hM : M ≤ 40000) (hp : ZOk M p) (hq : ZOk M q) : Fn Try.prog 31 [] [vz p, vz q] (vb (decide (p.val = q.val))) [] := by
 have la := hp.2
 have lb := hq.2
 refine Fn.body Try.func31 rfl 9 rfl fun w H B a h => ?_
 refine rSeq fam0ok 0 [] [(2, vp 0 0), (3, vp 1 0), (4, vb false)] [(0, .box (zi p)), (1, .box (zi q))] (by kernel_rfl) h ?_; clear h; intro a w h
 refine rSeq fam0ok 2 [(2, .call (SCmp p q hp.1 hq.1 (by omega) (by omega)) kf_3)] [(4, vb (cmpZ p.val q.val == 0))] [] (by kernel_rfl) h ?_; clear h; intro a w h
 refine wp_ret ?_
 refine retS [.c (.d (.raw (.bool (cmpZ p.val q.val == 0))))] h Exit.ret (.inl rfl)  rfl ⟨RV.tmp _ _ rfl, trivial⟩ ?_ (by kernel_rfl) (by kernel_rfl)
 rw [cmpZ_0]; first | done | rfl
set_option maxHeartbeats 4000000 in
theorem SEqualZ (xs ys : List ZI) {M : Nat} (hM : M ≤ 40000) (hxs : ∀ z ∈ xs, ZOk M z) (hys : ∀ z ∈ ys, ZOk M z) (hl : xs.length ≤ 9223372036854775807) : Fn Try.prog 30 [] [.t (.c (.d (.sl 2 (xs.map ziD)))), .t (.c (.d (.sl 2 (ys.map ziD)))), .t (.c (.fn (.func 31) [] []))] (vb (decide (xs.map ZI.val = ys.map ZI.val))) [] := by
 refine Fn.body Try.func30 rfl 32 rfl fun w H B a h => ?_
 refine rSeq fam0ok 0 [] [(0, .t (.c (.d (.sl 2 (xs.map ziD))))), (1, .t (.c (.d (.sl 2 (ys.map ziD))))), (2, .t (.c (.fn (.func 31) [] []))), (6, vb false)] [] (by kernel_rfl) h ?_; clear h; intro a w h
 refine wp_seq ?_
 refine rSeq fam0ok 0 [(1, .len (c := (.d (.sl 2 (xs.map ziD)))) (n := xs.length) (lenC_map _ _ _)), (3, .len (c := (.d (.sl 2 (ys.map ziD)))) (n := ys.length) (lenC_map _ _ _))] [(0, .t (.c (.d (.sl 2 (xs.map ziD))))), (1, .t (.c (.d (.sl 2 (ys.map ziD))))), (2, .t (.c (.fn (.func 31) [] []))), (6, vb false), (14, vb ((xs.length : Int) != (ys.length : Int)))] [] (by kernel_rfl) h ?_; clear h; intro a w h
 refine condS ((xs.length : Int) != (ys.length : Int)) h rfl (fun hc => ?_) (fun hc => ?_)
 ·have hc1 := hc; clear hc
  have hc1' := hc1; (try simp at hc1')
  refine rSeq fam0ok 0 [] [(0, .t (.c (.d (.sl 2 (xs.map ziD))))), (1, .t (.c (.d (.sl 2 (ys.map ziD))))), (2, .t (.c (.fn (.func 31) [] []))), (6, vb false)] [] (by kernel_rfl) h ?_; clear h; intro a w h
  refine wp_ret ?_
  refine then_r ?_
  refine retS [.c (.d (.raw (.bool false)))] h Exit.ret (.inl rfl)  rfl ⟨RV.tmp _ _ rfl, trivial⟩ ?_ (by kernel_rfl) (by kernel_rfl)
  have hz : decide (xs.map ZI.val = ys.map ZI.val) = false := (decide_eq_false (map_len_ne (by have := hc1; simp at this; omega)))
  rw [hz]; first | done | rfl
 ·have hc2 := hc; clear hc
  have hc2' := hc2; (try simp at hc2')
  refine wp_skip ?_
  refine then_n ?_
  refine wp_seq ?_
  refine rSeq fam0ok 0 [(1, .len (c := (.d (.sl 2 (xs.map ziD)))) (n := xs.length) (lenC_map _ _ _))] [(1, .t (.c (.d (.sl 2 (ys.map ziD))))), (2, .t (.c (.fn (.func 31) [] []))), (6, vb false), (15, .t (.c (.d (.sl 2 (xs.map ziD))))), (16, vi .i64 (xs.length : Int)), (17, vi .i64 0)] [] (by kernel_rfl) h ?_; clear h; intro a w h
  refine wp_block ?_
  refine loopS (ι := (Nat)) (fun (z_ : (Nat)) => match z_ with | j => j ≤ xs.length ∧ (xs.take j).map ZI.val = (ys.take j).map ZI.val)
    (fun (z_ : (Nat)) => match z_ with | j => [(1, .t (.c (.d (.sl 2 (ys.map ziD))))), (2, .t (.c (.fn (.func 31) [] []))), (15, .t (.c (.d (.sl 2 (xs.map ziD))))), (16, vi .i64 (xs.length : Int)), (17, vi .i64 (j : Int))])
    (fun (z_ : (Nat)) => match z_ with | j => [])
    (fun (z_ : (Nat)) => match z_ with | j => xs.length - j) 0 ?_ h (by kernel_rfl) (by kernel_rfl) ?_
  ·exact ⟨Nat.zero_le _, rfl⟩
  ·clear h; rintro j a w hI h
   change St _ (F.of [(1, .t (.c (.d (.sl 2 (ys.map ziD))))), (2, .t (.c (.fn (.func 31) [] []))), (15, .t (.c (.d (.sl 2 (xs.map ziD))))), (16, vi .i64 (xs.length : Int)), (17, vi .i64 (j : Int))] []) a w at h
   obtain ⟨hj1, hj2⟩ := hI
   refine rSeq fam0ok 0 [] [(1, .t (.c (.d (.sl 2 (ys.map ziD))))), (2, .t (.c (.fn (.func 31) [] []))), (15, .t (.c (.d (.sl 2 (xs.map ziD))))), (16, vi .i64 (xs.length : Int)), (17, vi .i64 (j : Int)), (18, vb (decide ((j : Int) < (xs.length : Int))))] [] (by kernel_rfl) h ?_; clear h; intro a w h
   refine wp_seq ?_
   refine condS (decide ((j : Int) < (xs.length : Int))) h rfl (fun hc => ?_) (fun hc => ?_)
   ·have hc3 := hc; clear hc
    have hc3' := of_decide_eq_true hc3
    refine wp_skip ?_
    refine then_n ?_
    refine wp_seq ?_
    refine wp_block ?_
    obtain ⟨x1, hx1⟩ : ∃ z_ : ZI, xs[j]? = some z_ := ⟨_, List.getElem?_eq_getElem (by first | omega | (simp at *; omega))⟩
    have gx1 := hxs x1 (List.mem_of_getElem? hx1)
    refine rSeq fam0ok 0 [(1, .gen _ _ _ fun _ _ _ _ => Op.idxD (d := 20) (t := 15) (k := .i64) tt_6 (map_at hx1 (f := ziD)) (OV.tmp 17 _))] [(1, .t (.c (.d (.sl 2 (ys.map ziD))))), (2, .t (.c (.fn (.func 31) [] []))), (7, vi .i64 (j : Int)), (8, vp 0 0), (15, .t (.c (.d (.sl 2 (xs.map ziD))))), (16, vi .i64 (xs.length : Int)), (17, vi .i64 (j : Int))] [(0, .box (zi x1))] (by kernel_rfl) h ?_; clear h; intro a w h
    obtain ⟨x2, hx2⟩ : ∃ z_ : ZI, ys[j]? = some z_ := ⟨_, List.getElem?_eq_getElem (by first | omega | (simp at *; omega))⟩
    have gx2 := hys x2 (List.mem_of_getElem? hx2)
    refine rSeq fam0ok 1 [(2, .gen _ _ _ fun _ _ _ _ => Op.idxD (d := 24) (t := 22) (k := .i64) tt_6 (map_at hx2 (f := ziD)) (OV.tmp 23 _))] [(1, .t (.c (.d (.sl 2 (ys.map ziD))))), (2, .t (.c (.fn (.func 31) [] []))), (8, vp 0 0), (9, vp 1 0), (15, .t (.c (.d (.sl 2 (xs.map ziD))))), (16, vi .i64 (xs.length : Int)), (17, vi .i64 (j : Int))] [(0, .box (zi x1)), (1, .box (zi x2))] (by kernel_rfl) h ?_; clear h; intro a w h
    refine rSeq fam0ok 2 [(3, .gen _ _ _ fun _ _ _ _ => Op.callV (d := 29) (t := 26) (cap := []) (args := [vz x1, vz x2]) (rs := [(27, vz x1), (28, vz x2)]) (tys := #[28, 28]) (SSame1 x1 x2 hM gx1 gx2) kg_3 (OVs.cons (OV.tmp 27 _) (OVs.cons (OV.tmp 28 _) (OVs.nil))))] [(1, .t (.c (.d (.sl 2 (ys.map ziD))))), (2, .t (.c (.fn (.func 31) [] []))), (15, .t (.c (.d (.sl 2 (xs.map ziD))))), (16, vi .i64 (xs.length : Int)), (17, vi .i64 (j : Int)), (30, vb (!(decide (x1.val = x2.val))))] [] (by kernel_rfl) h ?_; clear h; intro a w h
    refine condS (!(decide (x1.val = x2.val))) h rfl (fun hc => ?_) (fun hc => ?_)
    ·have hc4 := hc; clear hc
     have hc4' := hc4; (try simp at hc4')
     refine rSeq fam0ok 2 [] [(1, .t (.c (.d (.sl 2 (ys.map ziD))))), (2, .t (.c (.fn (.func 31) [] []))), (6, vb false), (15, .t (.c (.d (.sl 2 (xs.map ziD))))), (16, vi .i64 (xs.length : Int)), (17, vi .i64 (j : Int))] [] (by kernel_rfl) h ?_; clear h; intro a w h
     refine wp_ret ?_
     refine block_r ?_
     refine then_r ?_
     refine then_r ?_
     refine block_r ?_
     refine then_r ?_
     refine retS [.c (.d (.raw (.bool false)))] h Exit.ret (.inl rfl)  rfl ⟨RV.tmp _ _ rfl, trivial⟩ ?_ (by kernel_rfl) (by kernel_rfl)
     have hz : decide (xs.map ZI.val = ys.map ZI.val) = false := (decide_eq_false (map_ne hx1 hx2 (of_decide_eq_false (show (decide (x1.val = x2.val)) = false from by simpa using hc4))))
     rw [hz]; first | done | rfl
    ·have hc5 := hc; clear hc
     have hc5' := hc5; (try simp at hc5')
     refine wp_skip ?_
     refine block_n ?_
     refine then_n ?_
     refine rS fam0ok 2 [(0, .add .i64 (m := (j : Int)) (n := 1) (i64_id (by omega) (by omega)))] [(1, .t (.c (.d (.sl 2 (ys.map ziD))))), (2, .t (.c (.fn (.func 31) [] []))), (15, .t (.c (.d (.sl 2 (xs.map ziD))))), (16, vi .i64 (xs.length : Int)), (17, vi .i64 ((j : Int) + 1))] [] (by kernel_rfl) h ?_; clear h; intro a w h
     refine then_n ?_
     refine roundS (x := j) (y := j + 1) h ?_ ?_ (by kernel_rfl) (by kernel_rfl)
     ·have := at_lt hx1
      exact ⟨by omega, map_take hx1 hx2 hj2 (of_decide_eq_true (show (decide (x1.val = x2.val)) = true from by simpa using hc5))⟩
     ·show xs.length - (j + 1) < xs.length - j
      have := at_lt hx1; omega
   ·have hc6 := hc; clear hc
    have hc6' := of_decide_eq_false hc6
    refine wp_exit ?_
    refine then_x ?_
    refine then_x ?_
    refine inBlock_exit ?_
    refine then_n ?_
    refine rSeq fam0ok 2 [] [(6, vb true)] [] (by kernel_rfl) h ?_; clear h; intro a w h
    refine wp_ret ?_
    refine retS [.c (.d (.raw (.bool true)))] h Exit.ret (.inl rfl)  rfl ⟨RV.tmp _ _ rfl, trivial⟩ ?_ (by kernel_rfl) (by kernel_rfl)
    have hz : decide (xs.map ZI.val = ys.map ZI.val) = true := (decide_eq_true (map_end (by have := hc2; simp at this; omega) (of_decide_eq_false hc6) hj2))
    rw [hz]; first | done | rfl
set_option maxHeartbeats 4000000 in
theorem SSame (x y : StD) {M : Nat} (hM : M ≤ 40000) (hx : StOk M x) (hy : StOk M y) : Fn Try.prog 13 [] [.t (.agg [.d (.sl 1 (x.locs.map intD)), .d (.sl 2 (x.vals.map ziD))]), .t (.agg [.d (.sl 1 (y.locs.map intD)), .d (.sl 2 (y.vals.map ziD))])] (vb (sameS x y)) [] := by
 refine Fn.body Try.func13 rfl 17 rfl fun w H B a h => ?_
 refine rSeq fam0ok 0 [] [(2, vp 0 0), (3, vp 1 0), (4, vb false)] [(0, .box [.d (.sl 1 (x.locs.map intD)), .d (.sl 2 (x.vals.map ziD))]), (1, .box [.d (.sl 1 (y.locs.map intD)), .d (.sl 2 (y.vals.map ziD))])] (by kernel_rfl) h ?_; clear h; intro a w h
 rcases Bool.eq_false_or_eq_true (decide (x.locs = y.locs)) with hc | hc
 ·have hc1 := hc; clear hc
  have hc1' := of_decide_eq_true hc1
  refine rSeq fam0ok 2 [(4, .call (Fn.cast (Fn.cast (SEqualI x.locs y.locs (by have := hx.locs; omega)) (congrArg vb (show _ = decide (x.locs = y.locs) by simp))) (congrArg vb hc1)) kg_4), (10, .call (SEqualZ x.vals y.vals hM hx.val hy.val (by have := hx.vals; omega)) kg_5)] [(4, vb (decide (x.vals.map ZI.val = y.vals.map ZI.val)))] [] (by kernel_rfl) h ?_; clear h; intro a w h
  refine wp_ret ?_
  refine retS [.c (.d (.raw (.bool (decide (x.vals.map ZI.val = y.vals.map ZI.val)))))] h Exit.ret (.inl rfl)  rfl ⟨RV.tmp _ _ rfl, trivial⟩ ?_ (by kernel_rfl) (by kernel_rfl)
  have hz : sameS x y = (decide (x.vals.map ZI.val = y.vals.map ZI.val)) := by unfold sameS; rw [hc1]; rfl
  rw [hz]; first | done | rfl
 ·have hc2 := hc; clear hc
  have hc2' := of_decide_eq_false hc2
  refine rSeq fam0ok 2 [(4, .call (Fn.cast (Fn.cast (SEqualI x.locs y.locs (by have := hx.locs; omega)) (congrArg vb (show _ = decide (x.locs = y.locs) by simp))) (congrArg vb hc2)) kg_4)] [(4, vb false)] [] (by kernel_rfl) h ?_; clear h; intro a w h
  refine wp_ret ?_
  refine retS [.c (.d (.raw (.bool false)))] h Exit.ret (.inl rfl)  rfl ⟨RV.tmp _ _ rfl, trivial⟩ ?_ (by kernel_rfl) (by kernel_rfl)
  have hz : sameS x y = (false) := by unfold sameS; rw [hc2]; rfl
  rw [hz]; first | done | rfl
set_option maxHeartbeats 4000000 in
theorem SFirst1 (l : Int)  : Fn Try.prog 33 [] [vi .i64 l] (vb (l != 0)) [] := by
 refine Fn.body Try.func33 rfl 5 rfl fun w H B a h => ?_
 refine rSeq fam0ok 0 [] [(0, vi .i64 l), (2, vb false)] [] (by kernel_rfl) h ?_; clear h; intro a w h
 refine rSeq fam0ok 0 [] [(2, vb (l != 0))] [] (by kernel_rfl) h ?_; clear h; intro a w h
 refine wp_ret ?_
 refine retS [.c (.d (.raw (.bool (l != 0))))] h Exit.ret (.inl rfl)  rfl ⟨RV.tmp _ _ rfl, trivial⟩ ?_ (by kernel_rfl) (by kernel_rfl)
 rfl
set_option maxHeartbeats 4000000 in
theorem SIdxF1 (pr : Int → Bool) (xs : List Int) (hf : ∀ x ∈ xs, Fn Try.prog 33 [] [vi .i64 x] (vb (pr x)) []) (hl : xs.length ≤ 9223372036854775807) : Fn Try.prog 50 [] [.t (.c (.d (.sl 1 (xs.map intD)))), .t (.c (.fn (.func 33) [] []))] (vi .i64 (idxB pr xs 0)) [] := by
 refine Fn.body Try.func50 rfl 19 rfl fun w H B a h => ?_
 refine rSeq fam0ok 5 [] [(0, .t (.c (.d (.sl 1 (xs.map intD))))), (1, .t (.c (.fn (.func 33) [] []))), (4, vi .i64 0)] [] (by kernel_rfl) h ?_; clear h; intro a w h
 refine wp_seq ?_
 refine rSeq fam0ok 5 [(1, .len (c := (.d (.sl 1 (xs.map intD)))) (n := xs.length) (lenC_map _ _ _))] [(0, .t (.c (.d (.sl 1 (xs.map intD))))), (1, .t (.c (.fn (.func 33) [] []))), (4, vi .i64 0), (7, vi .i64 (xs.length : Int)), (8, vi .i64 0)] [] (by kernel_rfl) h ?_; clear h; intro a w h
 refine wp_block ?_
 refine loopS (ι := (Nat)) (fun (z_ : (Nat)) => match z_ with | j => j ≤ xs.length ∧ idxB pr xs 0 = idxB pr (xs.drop j) j)
   (fun (z_ : (Nat)) => match z_ with | j => [(0, .t (.c (.d (.sl 1 (xs.map intD))))), (1, .t (.c (.fn (.func 33) [] []))), (7, vi .i64 (xs.length : Int)), (8, vi .i64 (j : Int))])
   (fun (z_ : (Nat)) => match z_ with | j => [])
   (fun (z_ : (Nat)) => match z_ with | j => xs.length - j) 0 ?_ h (by kernel_rfl) (by kernel_rfl) ?_
 ·exact ⟨Nat.zero_le _, rfl⟩
 ·clear h; rintro j a w hI h
  change St _ (F.of [(0, .t (.c (.d (.sl 1 (xs.map intD))))), (1, .t (.c (.fn (.func 33) [] []))), (7, vi .i64 (xs.length : Int)), (8, vi .i64 (j : Int))] []) a w at h
  obtain ⟨hI1, hI2⟩ := hI
  refine rSeq fam0ok 5 [] [(0, .t (.c (.d (.sl 1 (xs.map intD))))), (1, .t (.c (.fn (.func 33) [] []))), (7, vi .i64 (xs.length : Int)), (8, vi .i64 (j : Int)), (9, vb (decide ((j : Int) < (xs.length : Int))))] [] (by kernel_rfl) h ?_; clear h; intro a w h
  refine wp_seq ?_
  refine condS (decide ((j : Int) < (xs.length : Int))) h rfl (fun hc => ?_) (fun hc => ?_)
  ·have hc1 := hc; clear hc
   have hc1' := of_decide_eq_true hc1
   refine wp_skip ?_
   refine then_n ?_
   refine wp_seq ?_
   refine wp_block ?_
   refine rSeq fam0ok 5 [] [(0, .t (.c (.d (.sl 1 (xs.map intD))))), (1, .t (.c (.fn (.func 33) [] []))), (5, vi .i64 (j : Int)), (7, vi .i64 (xs.length : Int)), (8, vi .i64 (j : Int))] [] (by kernel_rfl) h ?_; clear h; intro a w h
   obtain ⟨x1, hx1⟩ : ∃ z_ : Int, xs[j]? = some z_ := ⟨_, List.getElem?_eq_getElem (by first | omega | (simp at *; omega))⟩
   refine rSeq fam0ok 5 [(3, .gen _ _ _ fun _ _ _ _ => Op.idxD (d := 14) (t := 12) (k := .i64) tb_1 (map_at hx1 (f := intD)) (OV.tmp 13 _)), (5, .gen _ _ _ fun _ _ _ _ => Op.callV (d := 16) (t := 11) (cap := []) (args := [vi .i64 x1]) (rs := [(15, vi .i64 x1)]) (tys := #[3]) (hf x1 (List.mem_of_getElem? hx1)) kg_6 (OVs.cons (OV.tmp 15 _) (OVs.nil)))] [(0, .t (.c (.d (.sl 1 (xs.map intD))))), (1, .t (.c (.fn (.func 33) [] []))), (5, vi .i64 (j : Int)), (7, vi .i64 (xs.length : Int)), (8, vi .i64 (j : Int)), (16, vb (pr x1))] [] (by kernel_rfl) h ?_; clear h; intro a w h
   refine condS (pr x1) h rfl (fun hc => ?_) (fun hc => ?_)
   ·have hc2 := hc; clear hc
    refine rSeq fam0ok 5 [] [(0, .t (.c (.d (.sl 1 (xs.map intD))))), (1, .t (.c (.fn (.func 33) [] []))), (4, vi .i64 (j : Int)), (7, vi .i64 (xs.length : Int)), (8, vi .i64 (j : Int))] [] (by kernel_rfl) h ?_; clear h; intro a w h
    refine wp_ret ?_
    refine block_r ?_
    refine then_r ?_
    refine then_r ?_
    refine block_r ?_
    refine then_r ?_
    refine retS [.c (.d (.raw (.int .i64 (j : Int))))] h Exit.ret (.inl rfl)  rfl ⟨RV.tmp _ _ rfl, trivial⟩ ?_ (by kernel_rfl) (by kernel_rfl)
    have hz : idxB pr xs 0 = (j : Int) := by rw [hI2, idxB_at hx1, if_pos hc2]
    rw [hz]; first | done | rfl
   ·have hc3 := hc; clear hc
    refine wp_skip ?_
    refine block_n ?_
    refine then_n ?_
    refine rS fam0ok 5 [(0, .add .i64 (m := (j : Int)) (n := 1) (i64_id (by omega) (by omega)))] [(0, .t (.c (.d (.sl 1 (xs.map intD))))), (1, .t (.c (.fn (.func 33) [] []))), (7, vi .i64 (xs.length : Int)), (8, vi .i64 ((j : Int) + 1))] [] (by kernel_rfl) h ?_; clear h; intro a w h
    refine then_n ?_
    refine roundS (x := j) (y := j + 1) h ?_ ?_ (by kernel_rfl) (by kernel_rfl)
    ·exact ⟨by have := at_lt hx1; omega, by rw [hI2, idxB_at hx1, if_neg (by rw [hc3]; exact Bool.noConfusion)]⟩
    ·simp; omega
  ·have hc4 := hc; clear hc
   have hc4' := of_decide_eq_false hc4
   refine wp_exit ?_
   refine then_x ?_
   refine then_x ?_
   refine inBlock_exit ?_
   refine then_n ?_
   refine rSeq fam0ok 5 [] [(4, vi .i64 (-1))] [] (by kernel_rfl) h ?_; clear h; intro a w h
   refine wp_ret ?_
   refine retS [.c (.d (.raw (.int .i64 (-1))))] h Exit.ret (.inl rfl)  rfl ⟨RV.tmp _ _ rfl, trivial⟩ ?_ (by kernel_rfl) (by kernel_rfl)
   have hz : idxB pr xs 0 = -1 := by rw [hI2, List.drop_of_length_le (by omega)]; rfl
   rw [hz]; first | done | rfl
set_option maxHeartbeats 4000000 in
theorem SAnyF1 (pr : Int → Bool) (xs : List Int) (hf : ∀ x ∈ xs, Fn Try.prog 33 [] [vi .i64 x] (vb (pr x)) []) (hl : xs.length ≤ 9223372036854775807) : Fn Try.prog 32 [] [.t (.c (.d (.sl 1 (xs.map intD)))), .t (.c (.fn (.func 33) [] []))] (vb (xs.any pr)) [] := by
 refine Fn.body Try.func32 rfl 9 rfl fun w H B a h => ?_
 refine rSeq fam0ok 5 [] [(0, .t (.c (.d (.sl 1 (xs.map intD))))), (1, .t (.c (.fn (.func 33) [] []))), (4, vb false)] [] (by kernel_rfl) h ?_; clear h; intro a w h
 refine rSeq fam0ok 5 [(2, .call (SIdxF1 pr xs  hf  hl) kg_7)] [(4, vb (decide (idxB pr xs 0 ≥ 0)))] [] (by kernel_rfl) h ?_; clear h; intro a w h
 refine wp_ret ?_
 refine retS [.c (.d (.raw (.bool (decide (idxB pr xs 0 ≥ 0)))))] h Exit.ret (.inl rfl)  rfl ⟨RV.tmp _ _ rfl, trivial⟩ ?_ (by kernel_rfl) (by kernel_rfl)
 rw [← idxB_any]; first | done | rfl
set_option maxHeartbeats 4000000 in
theorem SFirst (s : SysD) (x : StD) {L M : Nat} (hL : L + M ≤ 10000) (hs : SysOk L s) (hx : StOk M x) : Fn Try.prog 14 [] [.t (.agg (sysC s)), .t (.agg [.d (.sl 1 (x.locs.map intD)), .d (.sl 2 (x.vals.map ziD))])] (vb (first s x)) [] := by
 refine Fn.body Try.func14 rfl 23 rfl fun w H B a h => ?_
 refine rSeq fam0ok 0 [] [(2, vp 0 0), (3, vp 1 0), (4, vb false)] [(0, .box (sysC s)), (1, .box [.d (.sl 1 (x.locs.map intD)), .d (.sl 2 (x.vals.map ziD))])] (by kernel_rfl) h ?_; clear h; intro a w h
 refine rSeq fam0ok 2 [(2, .call (SAnyF1 (fun l => l != 0) x.locs (fun l _ => SFirst1 l) (by have := hx.locs; omega)) kg_8)] [(2, vp 0 0), (3, vp 1 0), (4, vb false), (5, vb (x.locs.any fun l => l != 0))] [(0, .box (sysC s)), (1, .box [.d (.sl 1 (x.locs.map intD)), .d (.sl 2 (x.vals.map ziD))])] (by kernel_rfl) h ?_; clear h; intro a w h
 rcases Bool.eq_false_or_eq_true (fits s x) with hc | hc
 ·have hc1 := hc; clear hc
  rcases Bool.eq_false_or_eq_true (x.locs.any fun l => l != 0) with hc | hc
  ·have hc2 := hc; clear hc
   have hc2' := hc2; (try simp at hc2')
   rw [hc2] at h
   refine rSeq fam0ok 2 [(2, .call (Fn.cast (SFits s x hL hs hx) (congrArg vb hc1)) kg_9)] [(4, vb false)] [] (by kernel_rfl) h ?_; clear h; intro a w h
   refine wp_ret ?_
   refine retS [.c (.d (.raw (.bool false)))] h Exit.ret (.inl rfl)  rfl ⟨RV.tmp _ _ rfl, trivial⟩ ?_ (by kernel_rfl) (by kernel_rfl)
   have hz : first s x = (false) := by unfold first; rw [hc1]; rw [hc2]; rfl
   rw [hz]; first | done | rfl
  ·have hc3 := hc; clear hc
   have hc3' := hc3; (try simp at hc3')
   rw [hc3] at h
   refine rSeq fam0ok 2 [(2, .call (Fn.cast (SFits s x hL hs hx) (congrArg vb hc1)) kg_9), (12, .call (SHolds x.vals (L := L) (M := M) (by omega) hx.vok s.init hs.init.1 hs.init.2) ke_4)] [(4, vb (FormD.holds x.vals s.init))] [] (by kernel_rfl) h ?_; clear h; intro a w h
   refine wp_ret ?_
   refine retS [.c (.d (.raw (.bool (FormD.holds x.vals s.init))))] h Exit.ret (.inl rfl)  rfl ⟨RV.tmp _ _ rfl, trivial⟩ ?_ (by kernel_rfl) (by kernel_rfl)
   have hz : first s x = (FormD.holds x.vals s.init) := by unfold first; rw [hc1]; rw [hc3]; rfl
   rw [hz]; first | done | rfl
 ·have hc4 := hc; clear hc
  refine rSeq fam0ok 2 [(2, .call (Fn.cast (SFits s x hL hs hx) (congrArg vb hc4)) kg_9)] [(4, vb false)] [] (by kernel_rfl) h ?_; clear h; intro a w h
  refine wp_ret ?_
  refine retS [.c (.d (.raw (.bool false)))] h Exit.ret (.inl rfl)  rfl ⟨RV.tmp _ _ rfl, trivial⟩ ?_ (by kernel_rfl) (by kernel_rfl)
  have hz : first s x = (false) := by unfold first; rw [hc4]; rfl
  rw [hz]; first | done | rfl
end Go.Proofs.Ytmohlifepfjmdaa.S
end
section
namespace Go.Proofs.Ytmohlifepfjmdaa.S
open Go.RowKit

end Go.Proofs.Ytmohlifepfjmdaa.S
end
section
namespace Go.Proofs.Ytmohlifepfjmdaa.S
open Go.RowKit

theorem ki_0 : Sz Try.prog 49 10 true := Sz.mk' (by kernel_rfl) Try.underlying49 _ rfl
theorem ki_1 : SlT Try.prog 37 49 10 := SlT.mk' Try.underlying37 (by kernel_rfl)
theorem ki_2 : SlT Try.prog 47 51 5 := SlT.mk' Try.underlying47 (by kernel_rfl)
theorem ki_3 : Bodied Try.prog 61 := Bodied.mk' (by kernel_rfl)
theorem ki_4 : Bodied Try.prog 60 := Bodied.mk' (by kernel_rfl)
theorem ki_5 : Sz Try.prog 51 5 true := Sz.mk' (by kernel_rfl) Try.underlying51 _ rfl
theorem ki_6 : Bodied Try.prog 45 := Bodied.mk' (by kernel_rfl)
def actAt (s : SysD) (i : Int) : Option ActD := if 0 ≤ i then s.acts[i.toNat]? else none
def form0 : FormD := ⟨0, ⟨⟨[], zero0⟩, false⟩, []⟩
def act0 : ActD := ⟨0, 0, 0, form0, []⟩
def mv0 : MoveD := ⟨0, false, ⟨[], zero0⟩⟩
def mvAt (a : ActD) (v : Nat) : Option MoveD := a.moves.find? fun m => m.v == (v : Int)
def freeAt (a : ActD) (v : Nat) : Bool := match mvAt a v with | some m => m.any | none => false
def newAt (x : StD) (a : ActD) (v : Nat) : ZI := match mvAt a v with | none => ZI.of ((x.vals[v]?).getD zero0).val | some m => if m.any = true then zero0 else ZI.of (valT m.t x.vals)
def there (s : SysD) (m : MoveD) : Bool := decide (m.v ≥ 0) && decide (m.v < (s.vars.length : Int))
def enabled (s : SysD) (x : StD) (c : ActD) : Bool := (fits s x && (decide (0 ≤ c.proc ∧ c.proc < (s.procs.length : Int)) && ((x.locs[c.proc.toNat]?).getD 0 == c.from_) && decide (0 ≤ c.to_ ∧ c.to_ < (nlocs s c.proc.toNat : Int)))) && (!(c.moves.any fun m => !there s m) && c.guard.holds x.vals)
theorem actAt_some {s : SysD} {i : Int} {a : ActD} (h : actAt s i = some a) : ∃ k : Nat, i = (k : Int) ∧ s.acts[k]? = some a := by
 unfold actAt at h
 split at h
 ·exact ⟨i.toNat, (Int.toNat_of_nonneg (by assumption)).symm, h⟩
 ·cases h
theorem actAt_none {s : SysD} {i : Int} (h : actAt s i = none) : i < 0 ∨ (s.acts.length : Int) ≤ i := by
 unfold actAt at h
 split at h
 ·have := List.getElem?_eq_none_iff.1 h; omega
 ·omega
theorem act_ok {L : Nat} {s : SysD} (hs : SysOk L s) {i : Int} {a : ActD} (h : actAt s i = some a) : ActOk L a := by
 obtain ⟨k, _, hk⟩ := actAt_some h
 exact hs.act a (List.mem_of_getElem? hk)
theorem mv_mem {a : ActD} {v : Nat} {m : MoveD} (h : mvAt a v = some m) : m ∈ a.moves := List.mem_of_find?_eq_some h
theorem new_ok {L M : Nat} {x : StD} {a : ActD} (ha : ActOk L a) (hx : StOk M x) (v : Nat) : ZOk (L + M + 2) (newAt x a v) := by
 unfold newAt
 split
 ·refine ⟨ZI.lb_of _, Nat.le_trans (ZI.len_of ?_) (Nat.le_trans (Nat.le_refl M) (by omega))⟩
  cases hv : x.vals[v]? with
  | none => exact pw_pos M
  | some z => have g := hx.val z (List.mem_of_getElem? hv); exact Nat.lt_of_lt_of_le (ZI.abs_lt g.1) (pw_le g.2)
 ·rename_i m hm
  split
  ·exact ZOk.zero
  ·exact ⟨ZI.lb_of _, Nat.le_trans (val_len (ha.mv m (mv_mem hm)) (by decide) hx.vok (fun p hp => hp) (Nat.le_refl _)) (by omega)⟩
set_option maxHeartbeats 4000000 in
theorem SactN (s : SysD) (i : Int) (hi : actAt s i = none) : Fn Try.prog 22 [] [.t (.agg (sysC s)), vi .i64 i] (.tup [.agg ([.d (.raw (.int .i64 act0.proc)), .d (.raw (.int .i64 act0.from_)), .d (.raw (.int .i64 act0.to_)), .d (.raw (.int .i64 act0.guard.kind)), .d (.sl 3 (act0.guard.r.t.parts.map Part.d))] ++ zi act0.guard.r.t.k ++ [.d (.raw (.bool act0.guard.r.eq)), .d (.sl 6 (act0.guard.kids.map FormD.d)), .d (.sl 5 (act0.moves.map MoveD.d))]), .c (.d (.raw (.bool false)))]) [] := by
 refine Fn.body Try.func22 rfl 21 rfl fun w H B a h => ?_
 refine rSeq fam0ok 0 [] [(1, vi .i64 i), (2, vp 0 0), (4, vp 1 0), (5, vb false)] [(0, .box (sysC s)), (1, .box [.d (.raw (.int .i64 0)), .d (.raw (.int .i64 0)), .d (.raw (.int .i64 0)), .d (.raw (.int .i64 0)), .d (.raw nilV), .d (.raw (.bool false)), .d (nsl []), .d (.raw (.bool false)), .d (.raw nilV), .d (.raw nilV)])] (by kernel_rfl) h ?_; clear h; intro a w h
 refine wp_seq ?_
 rcases Bool.eq_false_or_eq_true (decide (i < 0)) with hc | hc
 ·have hc1 := hc; clear hc
  have hc1' := of_decide_eq_true hc1
  refine rSeq fam0ok 2 [(1, .cmp (op := .lss) (m := i) (n := 0) (b := true) .i64 hc1)] [(1, vi .i64 i), (2, vp 0 0), (4, vp 1 0), (5, vb false), (14, vb true)] [(0, .box (sysC s)), (1, .box [.d (.raw (.int .i64 0)), .d (.raw (.int .i64 0)), .d (.raw (.int .i64 0)), .d (.raw (.int .i64 0)), .d (.raw nilV), .d (.raw (.bool false)), .d (nsl []), .d (.raw (.bool false)), .d (.raw nilV), .d (.raw nilV)])] (by kernel_rfl) h ?_; clear h; intro a w h
  refine condS true h rfl (fun hc => ?_) (fun hc => ?_)
  ·clear hc
   refine rSeq fam0ok 2 [] [(1, vi .i64 i), (2, vp 0 0), (4, vp 1 0), (5, vb false)] [(0, .box (sysC s)), (1, .box [.d (.raw (.int .i64 0)), .d (.raw (.int .i64 0)), .d (.raw (.int .i64 0)), .d (.raw (.int .i64 0)), .d (.raw nilV), .d (.raw (.bool false)), .d (nsl []), .d (.raw (.bool false)), .d (.raw nilV), .d (.raw nilV)])] (by kernel_rfl) h ?_; clear h; intro a w h
   refine wp_ret ?_
   refine then_r ?_
   replace h := nilDLs 1 4 3 [.d (.raw (.int .i64 0)), .d (.raw (.int .i64 0)), .d (.raw (.int .i64 0)), .d (.raw (.int .i64 0)), .d (.raw nilV), .d (.raw (.bool false)), .d (nsl []), .d (.raw (.bool false)), .d (.raw nilV), .d (.raw nilV)] [(1, vi .i64 i), (2, vp 0 0), (4, vp 1 0), (5, vb false)] [(0, .box (sysC s)), (1, .box [.d (.raw (.int .i64 0)), .d (.raw (.int .i64 0)), .d (.raw (.int .i64 0)), .d (.raw (.int .i64 0)), .d (.sl 3 ([].map Part.d)), .d (.raw (.bool false)), .d (nsl []), .d (.raw (.bool false)), .d (.raw nilV), .d (.raw nilV)])] h rfl rfl (by kernel_rfl) (by kernel_rfl)
   replace h := nilDLs 1 8 6 [.d (.raw (.int .i64 0)), .d (.raw (.int .i64 0)), .d (.raw (.int .i64 0)), .d (.raw (.int .i64 0)), .d (.sl 3 ([].map Part.d)), .d (.raw (.bool false)), .d (nsl []), .d (.raw (.bool false)), .d (.raw nilV), .d (.raw nilV)] [(1, vi .i64 i), (2, vp 0 0), (4, vp 1 0), (5, vb false)] [(0, .box (sysC s)), (1, .box [.d (.raw (.int .i64 0)), .d (.raw (.int .i64 0)), .d (.raw (.int .i64 0)), .d (.raw (.int .i64 0)), .d (.sl 3 ([].map Part.d)), .d (.raw (.bool false)), .d (nsl []), .d (.raw (.bool false)), .d (.sl 6 ([].map FormD.d)), .d (.raw nilV)])] h rfl rfl (by kernel_rfl) (by kernel_rfl)
   replace h := nilDLs 1 9 5 [.d (.raw (.int .i64 0)), .d (.raw (.int .i64 0)), .d (.raw (.int .i64 0)), .d (.raw (.int .i64 0)), .d (.sl 3 ([].map Part.d)), .d (.raw (.bool false)), .d (nsl []), .d (.raw (.bool false)), .d (.sl 6 ([].map FormD.d)), .d (.raw nilV)] [(1, vi .i64 i), (2, vp 0 0), (4, vp 1 0), (5, vb false)] [(0, .box (sysC s)), (1, .box [.d (.raw (.int .i64 0)), .d (.raw (.int .i64 0)), .d (.raw (.int .i64 0)), .d (.raw (.int .i64 0)), .d (.sl 3 ([].map Part.d)), .d (.raw (.bool false)), .d (nsl []), .d (.raw (.bool false)), .d (.sl 6 ([].map FormD.d)), .d (.sl 5 ([].map MoveD.d))])] h rfl rfl (by kernel_rfl) (by kernel_rfl)
   refine retS [.agg [.d (.raw (.int .i64 0)), .d (.raw (.int .i64 0)), .d (.raw (.int .i64 0)), .d (.raw (.int .i64 0)), .d (.sl 3 ([].map Part.d)), .d (.raw (.bool false)), .d (nsl []), .d (.raw (.bool false)), .d (.sl 6 ([].map FormD.d)), .d (.sl 5 ([].map MoveD.d))], .c (.d (.raw (.bool false)))] h Exit.ret (.inl rfl)  rfl ⟨RV.agg _ 1 0 _ _ _ _ ki_0 rfl rfl rfl rfl, RV.tmp _ _ rfl, trivial⟩ ?_ (by kernel_rfl) (by kernel_rfl)
   rfl
  ·cases hc
 ·have hc2 := hc; clear hc
  have hc2' := of_decide_eq_false hc2
  refine rSeq fam0ok 2 [(1, .cmp (op := .lss) (m := i) (n := 0) (b := false) .i64 hc2), (6, .len (c := (.d (.sl 10 (s.acts.map ActD.d)))) (n := s.acts.length) (lenC_map _ _ _)), (7, .cmp (op := .geq) (m := i) (n := (s.acts.length : Int)) (b := true) .i64 (decide_eq_true (by have := actAt_none hi; have := of_decide_eq_false hc2; omega)))] [(1, vi .i64 i), (2, vp 0 0), (4, vp 1 0), (5, vb false), (14, vb true)] [(0, .box (sysC s)), (1, .box [.d (.raw (.int .i64 0)), .d (.raw (.int .i64 0)), .d (.raw (.int .i64 0)), .d (.raw (.int .i64 0)), .d (.raw nilV), .d (.raw (.bool false)), .d (nsl []), .d (.raw (.bool false)), .d (.raw nilV), .d (.raw nilV)])] (by kernel_rfl) h ?_; clear h; intro a w h
  refine condS true h rfl (fun hc => ?_) (fun hc => ?_)
  ·clear hc
   refine rSeq fam0ok 2 [] [(1, vi .i64 i), (2, vp 0 0), (4, vp 1 0), (5, vb false)] [(0, .box (sysC s)), (1, .box [.d (.raw (.int .i64 0)), .d (.raw (.int .i64 0)), .d (.raw (.int .i64 0)), .d (.raw (.int .i64 0)), .d (.raw nilV), .d (.raw (.bool false)), .d (nsl []), .d (.raw (.bool false)), .d (.raw nilV), .d (.raw nilV)])] (by kernel_rfl) h ?_; clear h; intro a w h
   refine wp_ret ?_
   refine then_r ?_
   replace h := nilDLs 1 4 3 [.d (.raw (.int .i64 0)), .d (.raw (.int .i64 0)), .d (.raw (.int .i64 0)), .d (.raw (.int .i64 0)), .d (.raw nilV), .d (.raw (.bool false)), .d (nsl []), .d (.raw (.bool false)), .d (.raw nilV), .d (.raw nilV)] [(1, vi .i64 i), (2, vp 0 0), (4, vp 1 0), (5, vb false)] [(0, .box (sysC s)), (1, .box [.d (.raw (.int .i64 0)), .d (.raw (.int .i64 0)), .d (.raw (.int .i64 0)), .d (.raw (.int .i64 0)), .d (.sl 3 ([].map Part.d)), .d (.raw (.bool false)), .d (nsl []), .d (.raw (.bool false)), .d (.raw nilV), .d (.raw nilV)])] h rfl rfl (by kernel_rfl) (by kernel_rfl)
   replace h := nilDLs 1 8 6 [.d (.raw (.int .i64 0)), .d (.raw (.int .i64 0)), .d (.raw (.int .i64 0)), .d (.raw (.int .i64 0)), .d (.sl 3 ([].map Part.d)), .d (.raw (.bool false)), .d (nsl []), .d (.raw (.bool false)), .d (.raw nilV), .d (.raw nilV)] [(1, vi .i64 i), (2, vp 0 0), (4, vp 1 0), (5, vb false)] [(0, .box (sysC s)), (1, .box [.d (.raw (.int .i64 0)), .d (.raw (.int .i64 0)), .d (.raw (.int .i64 0)), .d (.raw (.int .i64 0)), .d (.sl 3 ([].map Part.d)), .d (.raw (.bool false)), .d (nsl []), .d (.raw (.bool false)), .d (.sl 6 ([].map FormD.d)), .d (.raw nilV)])] h rfl rfl (by kernel_rfl) (by kernel_rfl)
   replace h := nilDLs 1 9 5 [.d (.raw (.int .i64 0)), .d (.raw (.int .i64 0)), .d (.raw (.int .i64 0)), .d (.raw (.int .i64 0)), .d (.sl 3 ([].map Part.d)), .d (.raw (.bool false)), .d (nsl []), .d (.raw (.bool false)), .d (.sl 6 ([].map FormD.d)), .d (.raw nilV)] [(1, vi .i64 i), (2, vp 0 0), (4, vp 1 0), (5, vb false)] [(0, .box (sysC s)), (1, .box [.d (.raw (.int .i64 0)), .d (.raw (.int .i64 0)), .d (.raw (.int .i64 0)), .d (.raw (.int .i64 0)), .d (.sl 3 ([].map Part.d)), .d (.raw (.bool false)), .d (nsl []), .d (.raw (.bool false)), .d (.sl 6 ([].map FormD.d)), .d (.sl 5 ([].map MoveD.d))])] h rfl rfl (by kernel_rfl) (by kernel_rfl)
   refine retS [.agg [.d (.raw (.int .i64 0)), .d (.raw (.int .i64 0)), .d (.raw (.int .i64 0)), .d (.raw (.int .i64 0)), .d (.sl 3 ([].map Part.d)), .d (.raw (.bool false)), .d (nsl []), .d (.raw (.bool false)), .d (.sl 6 ([].map FormD.d)), .d (.sl 5 ([].map MoveD.d))], .c (.d (.raw (.bool false)))] h Exit.ret (.inl rfl)  rfl ⟨RV.agg _ 1 0 _ _ _ _ ki_0 rfl rfl rfl rfl, RV.tmp _ _ rfl, trivial⟩ ?_ (by kernel_rfl) (by kernel_rfl)
   rfl
  ·cases hc
set_option maxHeartbeats 4000000 in
theorem SactS0 (s : SysD) (k : Nat) (c : ActD) (hka : s.acts[k]? = some c) : Fn Try.prog 22 [] [.t (.agg (sysC s)), vi .i64 (k : Int)] (.tup [.agg ([.d (.raw (.int .i64 c.proc)), .d (.raw (.int .i64 c.from_)), .d (.raw (.int .i64 c.to_)), .d (.raw (.int .i64 c.guard.kind)), .d (.sl 3 (c.guard.r.t.parts.map Part.d))] ++ zi c.guard.r.t.k ++ [.d (.raw (.bool c.guard.r.eq)), .d (.sl 6 (c.guard.kids.map FormD.d)), .d (.sl 5 (c.moves.map MoveD.d))]), .c (.d (.raw (.bool true)))]) [] := by
 have lk := at_lt hka
 refine Fn.body Try.func22 rfl 21 rfl fun w H B a h => ?_
 refine rSeq fam0ok 0 [] [(1, vi .i64 (k : Int)), (2, vp 0 0), (4, vp 1 0), (5, vb false)] [(0, .box (sysC s)), (1, .box [.d (.raw (.int .i64 0)), .d (.raw (.int .i64 0)), .d (.raw (.int .i64 0)), .d (.raw (.int .i64 0)), .d (.raw nilV), .d (.raw (.bool false)), .d (nsl []), .d (.raw (.bool false)), .d (.raw nilV), .d (.raw nilV)])] (by kernel_rfl) h ?_; clear h; intro a w h
 refine wp_seq ?_
 refine rSeq fam0ok 2 [(1, .cmp (op := .lss) (m := (k : Int)) (n := 0) (b := false) .i64 (show (decide ((k : Int) < 0)) = false from decide_eq_false (by omega))), (6, .len (c := (.d (.sl 10 (s.acts.map ActD.d)))) (n := s.acts.length) (lenC_map _ _ _)), (7, .cmp (op := .geq) (m := (k : Int)) (n := (s.acts.length : Int)) (b := false) .i64 (show (decide ((k : Int) ≥ (s.acts.length : Int))) = false from decide_eq_false (by omega)))] [(1, vi .i64 (k : Int)), (2, vp 0 0), (4, vp 1 0), (5, vb false), (14, vb false)] [(0, .box (sysC s)), (1, .box [.d (.raw (.int .i64 0)), .d (.raw (.int .i64 0)), .d (.raw (.int .i64 0)), .d (.raw (.int .i64 0)), .d (.raw nilV), .d (.raw (.bool false)), .d (nsl []), .d (.raw (.bool false)), .d (.raw nilV), .d (.raw nilV)])] (by kernel_rfl) h ?_; clear h; intro a w h
 refine condS false h rfl (fun hc => ?_) (fun hc => ?_)
 ·cases hc
 ·clear hc
  refine wp_skip ?_
  refine then_n ?_
  refine rSeq fam0ok 2 [(3, .gen _ _ _ fun _ _ _ _ => Op.idxD (d := 19) (t := 17) (k := .i64) ki_1 (map_at hka (f := ActD.d)) (OV.tmp 18 _))] [(4, vp 1 0), (5, vb true)] [(1, .box ([.d (.raw (.int .i64 c.proc)), .d (.raw (.int .i64 c.from_)), .d (.raw (.int .i64 c.to_)), .d (.raw (.int .i64 c.guard.kind)), .d (.sl 3 (c.guard.r.t.parts.map Part.d))] ++ zi c.guard.r.t.k ++ [.d (.raw (.bool c.guard.r.eq)), .d (.sl 6 (c.guard.kids.map FormD.d)), .d (.sl 5 (c.moves.map MoveD.d))]))] (by kernel_rfl) h ?_; clear h; intro a w h
  refine wp_ret ?_
  refine retS [.agg ([.d (.raw (.int .i64 c.proc)), .d (.raw (.int .i64 c.from_)), .d (.raw (.int .i64 c.to_)), .d (.raw (.int .i64 c.guard.kind)), .d (.sl 3 (c.guard.r.t.parts.map Part.d))] ++ zi c.guard.r.t.k ++ [.d (.raw (.bool c.guard.r.eq)), .d (.sl 6 (c.guard.kids.map FormD.d)), .d (.sl 5 (c.moves.map MoveD.d))]), .c (.d (.raw (.bool true)))] h Exit.ret (.inl rfl)  rfl ⟨RV.agg _ 1 0 _ _ _ _ ki_0 rfl rfl rfl rfl, RV.tmp _ _ rfl, trivial⟩ ?_ (by kernel_rfl) (by kernel_rfl)
  rfl
theorem SactS (s : SysD) (i : Int) (c : ActD) (hi : actAt s i = some c) : Fn Try.prog 22 [] [.t (.agg (sysC s)), vi .i64 i] (.tup [.agg ([.d (.raw (.int .i64 c.proc)), .d (.raw (.int .i64 c.from_)), .d (.raw (.int .i64 c.to_)), .d (.raw (.int .i64 c.guard.kind)), .d (.sl 3 (c.guard.r.t.parts.map Part.d))] ++ zi c.guard.r.t.k ++ [.d (.raw (.bool c.guard.r.eq)), .d (.sl 6 (c.guard.kids.map FormD.d)), .d (.sl 5 (c.moves.map MoveD.d))]), .c (.d (.raw (.bool true)))]) [] := by
 obtain ⟨k, rfl, hk⟩ := actAt_some hi
 exact SactS0 s k c hk
set_option maxHeartbeats 4000000 in
theorem SKMove1 (m : MoveD) (v : Nat)  : Fn Try.prog 61 [(1, .box [.d (.raw (.int .i64 (v : Int)))])] [.t (.agg ([.d (.raw (.int .i64 m.v)), .d (.raw (.bool m.any)), .d (.sl 3 (m.t.parts.map Part.d))] ++ zi m.t.k)), vp 1 0] (vb (m.v == (v : Int))) [(1, .box [.d (.raw (.int .i64 (v : Int)))])] := by
 refine Fn.body Try.func61 rfl 8 rfl fun w H B a h => ?_
 refine rSeq fam0ok 5 [] [(1, vp 1 0), (2, vp 5 0), (3, vb false)] [(1, .box [.d (.raw (.int .i64 (v : Int)))]), (5, .box ([.d (.raw (.int .i64 m.v)), .d (.raw (.bool m.any)), .d (.sl 3 (m.t.parts.map Part.d))] ++ zi m.t.k))] (by kernel_rfl) h ?_; clear h; intro a w h
 refine rSeq fam0ok 6 [] [(3, vb (m.v == (v : Int)))] [(1, .box [.d (.raw (.int .i64 (v : Int)))])] (by kernel_rfl) h ?_; clear h; intro a w h
 refine wp_ret ?_
 refine retS [.c (.d (.raw (.bool (m.v == (v : Int)))))] h Exit.ret (.inl rfl)  rfl ⟨RV.tmp _ _ rfl, trivial⟩ ?_ (by kernel_rfl) (by kernel_rfl)
 rfl
set_option maxHeartbeats 4000000 in
theorem SIdxMV (pr : MoveD → Bool) (xs : List MoveD) (v : Nat) (hf : ∀ x ∈ xs, Fn Try.prog 61 [(1, .box [.d (.raw (.int .i64 (v : Int)))])] [.t (.agg ([.d (.raw (.int .i64 x.v)), .d (.raw (.bool x.any)), .d (.sl 3 (x.t.parts.map Part.d))] ++ zi x.t.k)), vp 1 0] (vb (pr x)) [(1, .box [.d (.raw (.int .i64 (v : Int)))])]) (hl : xs.length ≤ 9223372036854775807) : Fn Try.prog 60 [(1, .box [.d (.raw (.int .i64 (v : Int)))])] [.t (.c (.d (.sl 5 (xs.map MoveD.d)))), .t (.c (.fn (.func 61) [] [.ptr 1 0]))] (vi .i64 (idxB pr xs 0)) [(1, .box [.d (.raw (.int .i64 (v : Int)))])] := by
 refine Fn.body Try.func60 rfl 19 rfl fun w H B a h => ?_
 refine rSeq fam0ok 5 [] [(0, .t (.c (.d (.sl 5 (xs.map MoveD.d))))), (1, .t (.c (.fn (.func 61) [] [.ptr 1 0]))), (4, vi .i64 0)] [(1, .box [.d (.raw (.int .i64 (v : Int)))])] (by kernel_rfl) h ?_; clear h; intro a w h
 refine wp_seq ?_
 refine rSeq fam0ok 5 [(1, .len (c := (.d (.sl 5 (xs.map MoveD.d)))) (n := xs.length) (lenC_map _ _ _))] [(0, .t (.c (.d (.sl 5 (xs.map MoveD.d))))), (1, .t (.c (.fn (.func 61) [] [.ptr 1 0]))), (4, vi .i64 0), (7, vi .i64 (xs.length : Int)), (8, vi .i64 0)] [(1, .box [.d (.raw (.int .i64 (v : Int)))])] (by kernel_rfl) h ?_; clear h; intro a w h
 refine wp_block ?_
 refine loopS (ι := (Nat)) (fun (z_ : (Nat)) => match z_ with | j => j ≤ xs.length ∧ idxB pr xs 0 = idxB pr (xs.drop j) j)
   (fun (z_ : (Nat)) => match z_ with | j => [(0, .t (.c (.d (.sl 5 (xs.map MoveD.d))))), (1, .t (.c (.fn (.func 61) [] [.ptr 1 0]))), (7, vi .i64 (xs.length : Int)), (8, vi .i64 (j : Int))])
   (fun (z_ : (Nat)) => match z_ with | j => [(1, .box [.d (.raw (.int .i64 (v : Int)))])])
   (fun (z_ : (Nat)) => match z_ with | j => xs.length - j) 0 ?_ h (by kernel_rfl) (by kernel_rfl) ?_
 ·exact ⟨Nat.zero_le _, rfl⟩
 ·clear h; rintro j a w hI h
  change St _ (F.of [(0, .t (.c (.d (.sl 5 (xs.map MoveD.d))))), (1, .t (.c (.fn (.func 61) [] [.ptr 1 0]))), (7, vi .i64 (xs.length : Int)), (8, vi .i64 (j : Int))] [(1, .box [.d (.raw (.int .i64 (v : Int)))])]) a w at h
  obtain ⟨hI1, hI2⟩ := hI
  refine rSeq fam0ok 5 [] [(0, .t (.c (.d (.sl 5 (xs.map MoveD.d))))), (1, .t (.c (.fn (.func 61) [] [.ptr 1 0]))), (7, vi .i64 (xs.length : Int)), (8, vi .i64 (j : Int)), (9, vb (decide ((j : Int) < (xs.length : Int))))] [(1, .box [.d (.raw (.int .i64 (v : Int)))])] (by kernel_rfl) h ?_; clear h; intro a w h
  refine wp_seq ?_
  refine condS (decide ((j : Int) < (xs.length : Int))) h rfl (fun hc => ?_) (fun hc => ?_)
  ·have hc1 := hc; clear hc
   have hc1' := of_decide_eq_true hc1
   refine wp_skip ?_
   refine then_n ?_
   refine wp_seq ?_
   refine wp_block ?_
   refine rSeq fam0ok 5 [] [(0, .t (.c (.d (.sl 5 (xs.map MoveD.d))))), (1, .t (.c (.fn (.func 61) [] [.ptr 1 0]))), (5, vi .i64 (j : Int)), (7, vi .i64 (xs.length : Int)), (8, vi .i64 (j : Int))] [(1, .box [.d (.raw (.int .i64 (v : Int)))])] (by kernel_rfl) h ?_; clear h; intro a w h
   obtain ⟨x1, hx1⟩ : ∃ z_ : MoveD, xs[j]? = some z_ := ⟨_, List.getElem?_eq_getElem (by first | omega | (simp at *; omega))⟩
   refine rSeq fam0ok 5 [(3, .gen _ _ _ fun _ _ _ _ => Op.idxD (d := 14) (t := 12) (k := .i64) ki_2 (map_at hx1 (f := MoveD.d)) (OV.tmp 13 _)), (5, .gen _ _ _ fun _ _ _ _ => Op.callV (d := 16) (t := 11) (cap := [.ptr 1 0]) (args := [.t (.agg ([.d (.raw (.int .i64 x1.v)), .d (.raw (.bool x1.any)), .d (.sl 3 (x1.t.parts.map Part.d))] ++ zi x1.t.k))]) (rs := [(15, .t (.agg ([.d (.raw (.int .i64 x1.v)), .d (.raw (.bool x1.any)), .d (.sl 3 (x1.t.parts.map Part.d))] ++ zi x1.t.k)))]) (tys := #[51]) (hf x1 (List.mem_of_getElem? hx1)) ki_3 (OVs.cons (OV.tmp 15 _) (OVs.nil)))] [(0, .t (.c (.d (.sl 5 (xs.map MoveD.d))))), (1, .t (.c (.fn (.func 61) [] [.ptr 1 0]))), (5, vi .i64 (j : Int)), (7, vi .i64 (xs.length : Int)), (8, vi .i64 (j : Int)), (16, vb (pr x1))] [(1, .box [.d (.raw (.int .i64 (v : Int)))])] (by kernel_rfl) h ?_; clear h; intro a w h
   refine condS (pr x1) h rfl (fun hc => ?_) (fun hc => ?_)
   ·have hc2 := hc; clear hc
    refine rSeq fam0ok 5 [] [(0, .t (.c (.d (.sl 5 (xs.map MoveD.d))))), (1, .t (.c (.fn (.func 61) [] [.ptr 1 0]))), (4, vi .i64 (j : Int)), (7, vi .i64 (xs.length : Int)), (8, vi .i64 (j : Int))] [(1, .box [.d (.raw (.int .i64 (v : Int)))])] (by kernel_rfl) h ?_; clear h; intro a w h
    refine wp_ret ?_
    refine block_r ?_
    refine then_r ?_
    refine then_r ?_
    refine block_r ?_
    refine then_r ?_
    refine retS [.c (.d (.raw (.int .i64 (j : Int))))] h Exit.ret (.inl rfl)  rfl ⟨RV.tmp _ _ rfl, trivial⟩ ?_ (by kernel_rfl) (by kernel_rfl)
    have hz : idxB pr xs 0 = (j : Int) := by rw [hI2, idxB_at hx1, if_pos hc2]
    rw [hz]; first | done | rfl
   ·have hc3 := hc; clear hc
    refine wp_skip ?_
    refine block_n ?_
    refine then_n ?_
    refine rS fam0ok 5 [(0, .add .i64 (m := (j : Int)) (n := 1) (i64_id (by omega) (by omega)))] [(0, .t (.c (.d (.sl 5 (xs.map MoveD.d))))), (1, .t (.c (.fn (.func 61) [] [.ptr 1 0]))), (7, vi .i64 (xs.length : Int)), (8, vi .i64 ((j : Int) + 1))] [(1, .box [.d (.raw (.int .i64 (v : Int)))])] (by kernel_rfl) h ?_; clear h; intro a w h
    refine then_n ?_
    refine roundS (x := j) (y := j + 1) h ?_ ?_ (by kernel_rfl) (by kernel_rfl)
    ·exact ⟨by have := at_lt hx1; omega, by rw [hI2, idxB_at hx1, if_neg (by rw [hc3]; exact Bool.noConfusion)]⟩
    ·simp; omega
  ·have hc4 := hc; clear hc
   have hc4' := of_decide_eq_false hc4
   refine wp_exit ?_
   refine then_x ?_
   refine then_x ?_
   refine inBlock_exit ?_
   refine then_n ?_
   refine rSeq fam0ok 5 [] [(4, vi .i64 (-1))] [(1, .box [.d (.raw (.int .i64 (v : Int)))])] (by kernel_rfl) h ?_; clear h; intro a w h
   refine wp_ret ?_
   refine retS [.c (.d (.raw (.int .i64 (-1))))] h Exit.ret (.inl rfl)  rfl ⟨RV.tmp _ _ rfl, trivial⟩ ?_ (by kernel_rfl) (by kernel_rfl)
   have hz : idxB pr xs 0 = -1 := by rw [hI2, List.drop_of_length_le (by omega)]; rfl
   rw [hz]; first | done | rfl
set_option maxHeartbeats 4000000 in
theorem SmoveN0 (c : ActD) (v : Nat) (hl : c.moves.length ≤ 20) (hix : idxB (fun m => m.v == (v : Int)) c.moves 0 = -1) : Fn Try.prog 45 [] [.t (.agg ([.d (.raw (.int .i64 c.proc)), .d (.raw (.int .i64 c.from_)), .d (.raw (.int .i64 c.to_)), .d (.raw (.int .i64 c.guard.kind)), .d (.sl 3 (c.guard.r.t.parts.map Part.d))] ++ zi c.guard.r.t.k ++ [.d (.raw (.bool c.guard.r.eq)), .d (.sl 6 (c.guard.kids.map FormD.d)), .d (.sl 5 (c.moves.map MoveD.d))])), vi .i64 (v : Int)] (.tup [.agg ([.d (.raw (.int .i64 mv0.v)), .d (.raw (.bool mv0.any)), .d (.sl 3 (mv0.t.parts.map Part.d))] ++ zi mv0.t.k), .c (.d (.raw (.bool false)))]) [] := by
 refine Fn.body Try.func45 rfl 19 rfl fun w H B a h => ?_
 refine rSeq fam0ok 0 [] [(2, vp 0 0), (3, vp 1 0), (4, vp 2 0), (5, vb false)] [(0, .box ([.d (.raw (.int .i64 c.proc)), .d (.raw (.int .i64 c.from_)), .d (.raw (.int .i64 c.to_)), .d (.raw (.int .i64 c.guard.kind)), .d (.sl 3 (c.guard.r.t.parts.map Part.d))] ++ zi c.guard.r.t.k ++ [.d (.raw (.bool c.guard.r.eq)), .d (.sl 6 (c.guard.kids.map FormD.d)), .d (.sl 5 (c.moves.map MoveD.d))])), (1, .box [.d (.raw (.int .i64 (v : Int)))]), (2, .box [.d (.raw (.int .i64 0)), .d (.raw (.bool false)), .d (.raw nilV), .d (.raw (.bool false)), .d (nsl [])])] (by kernel_rfl) h ?_; clear h; intro a w h
 refine rSeq fam0ok 3 [(2, .gen _ _ _ fun _ _ _ _ => Op.makeFs (d := 9) (fn := .func 61) [(3, 1, 0)]), (3, .call (Fn.cast (SIdxMV (fun m => m.v == (v : Int)) c.moves v (fun m _ => SKMove1 m v) (by omega)) (congrArg (vi .i64) hix)) ki_4)] [(2, vp 0 0), (4, vp 2 0), (5, vb false), (6, vi .i64 (-1))] [(0, .box ([.d (.raw (.int .i64 c.proc)), .d (.raw (.int .i64 c.from_)), .d (.raw (.int .i64 c.to_)), .d (.raw (.int .i64 c.guard.kind)), .d (.sl 3 (c.guard.r.t.parts.map Part.d))] ++ zi c.guard.r.t.k ++ [.d (.raw (.bool c.guard.r.eq)), .d (.sl 6 (c.guard.kids.map FormD.d)), .d (.sl 5 (c.moves.map MoveD.d))])), (2, .box [.d (.raw (.int .i64 0)), .d (.raw (.bool false)), .d (.raw nilV), .d (.raw (.bool false)), .d (nsl [])])] (by kernel_rfl) h ?_; clear h; intro a w h
 refine wp_seq ?_
 refine rSeq fam0ok 3 [(1, .cmp (op := .lss) (m := (-1)) (n := 0) (b := true) .i64 rfl)] [(2, vp 0 0), (4, vp 2 0), (5, vb false), (6, vi .i64 (-1)), (12, vb true)] [(0, .box ([.d (.raw (.int .i64 c.proc)), .d (.raw (.int .i64 c.from_)), .d (.raw (.int .i64 c.to_)), .d (.raw (.int .i64 c.guard.kind)), .d (.sl 3 (c.guard.r.t.parts.map Part.d))] ++ zi c.guard.r.t.k ++ [.d (.raw (.bool c.guard.r.eq)), .d (.sl 6 (c.guard.kids.map FormD.d)), .d (.sl 5 (c.moves.map MoveD.d))])), (2, .box [.d (.raw (.int .i64 0)), .d (.raw (.bool false)), .d (.raw nilV), .d (.raw (.bool false)), .d (nsl [])])] (by kernel_rfl) h ?_; clear h; intro a w h
 refine condS true h rfl (fun hc => ?_) (fun hc => ?_)
 ·clear hc
  refine rSeq fam0ok 3 [] [(2, vp 0 0), (4, vp 2 0), (5, vb false), (6, vi .i64 (-1))] [(0, .box ([.d (.raw (.int .i64 c.proc)), .d (.raw (.int .i64 c.from_)), .d (.raw (.int .i64 c.to_)), .d (.raw (.int .i64 c.guard.kind)), .d (.sl 3 (c.guard.r.t.parts.map Part.d))] ++ zi c.guard.r.t.k ++ [.d (.raw (.bool c.guard.r.eq)), .d (.sl 6 (c.guard.kids.map FormD.d)), .d (.sl 5 (c.moves.map MoveD.d))])), (2, .box [.d (.raw (.int .i64 0)), .d (.raw (.bool false)), .d (.raw nilV), .d (.raw (.bool false)), .d (nsl [])])] (by kernel_rfl) h ?_; clear h; intro a w h
  refine wp_ret ?_
  refine then_r ?_
  replace h := nilDLs 2 2 3 [.d (.raw (.int .i64 0)), .d (.raw (.bool false)), .d (.raw nilV), .d (.raw (.bool false)), .d (nsl [])] [(2, vp 0 0), (4, vp 2 0), (5, vb false), (6, vi .i64 (-1))] [(0, .box ([.d (.raw (.int .i64 c.proc)), .d (.raw (.int .i64 c.from_)), .d (.raw (.int .i64 c.to_)), .d (.raw (.int .i64 c.guard.kind)), .d (.sl 3 (c.guard.r.t.parts.map Part.d))] ++ zi c.guard.r.t.k ++ [.d (.raw (.bool c.guard.r.eq)), .d (.sl 6 (c.guard.kids.map FormD.d)), .d (.sl 5 (c.moves.map MoveD.d))])), (2, .box [.d (.raw (.int .i64 0)), .d (.raw (.bool false)), .d (.sl 3 ([].map Part.d)), .d (.raw (.bool false)), .d (nsl [])])] h rfl rfl (by kernel_rfl) (by kernel_rfl)
  refine retS [.agg [.d (.raw (.int .i64 0)), .d (.raw (.bool false)), .d (.sl 3 ([].map Part.d)), .d (.raw (.bool false)), .d (nsl [])], .c (.d (.raw (.bool false)))] h Exit.ret (.inl rfl)  rfl ⟨RV.agg _ 2 0 _ _ _ _ ki_5 rfl rfl rfl rfl, RV.tmp _ _ rfl, trivial⟩ ?_ (by kernel_rfl) (by kernel_rfl)
  rfl
 ·cases hc
set_option maxHeartbeats 4000000 in
theorem SmoveS0 (c : ActD) (v : Nat) (m : MoveD) (k : Nat) (hl : c.moves.length ≤ 20) (hix : idxB (fun m => m.v == (v : Int)) c.moves 0 = (k : Int)) (hk : c.moves[k]? = some m) : Fn Try.prog 45 [] [.t (.agg ([.d (.raw (.int .i64 c.proc)), .d (.raw (.int .i64 c.from_)), .d (.raw (.int .i64 c.to_)), .d (.raw (.int .i64 c.guard.kind)), .d (.sl 3 (c.guard.r.t.parts.map Part.d))] ++ zi c.guard.r.t.k ++ [.d (.raw (.bool c.guard.r.eq)), .d (.sl 6 (c.guard.kids.map FormD.d)), .d (.sl 5 (c.moves.map MoveD.d))])), vi .i64 (v : Int)] (.tup [.agg ([.d (.raw (.int .i64 m.v)), .d (.raw (.bool m.any)), .d (.sl 3 (m.t.parts.map Part.d))] ++ zi m.t.k), .c (.d (.raw (.bool true)))]) [] := by
 have lk := at_lt hk
 refine Fn.body Try.func45 rfl 19 rfl fun w H B a h => ?_
 refine rSeq fam0ok 0 [] [(2, vp 0 0), (3, vp 1 0), (4, vp 2 0), (5, vb false)] [(0, .box ([.d (.raw (.int .i64 c.proc)), .d (.raw (.int .i64 c.from_)), .d (.raw (.int .i64 c.to_)), .d (.raw (.int .i64 c.guard.kind)), .d (.sl 3 (c.guard.r.t.parts.map Part.d))] ++ zi c.guard.r.t.k ++ [.d (.raw (.bool c.guard.r.eq)), .d (.sl 6 (c.guard.kids.map FormD.d)), .d (.sl 5 (c.moves.map MoveD.d))])), (1, .box [.d (.raw (.int .i64 (v : Int)))]), (2, .box [.d (.raw (.int .i64 0)), .d (.raw (.bool false)), .d (.raw nilV), .d (.raw (.bool false)), .d (nsl [])])] (by kernel_rfl) h ?_; clear h; intro a w h
 refine rSeq fam0ok 3 [(2, .gen _ _ _ fun _ _ _ _ => Op.makeFs (d := 9) (fn := .func 61) [(3, 1, 0)]), (3, .call (Fn.cast (SIdxMV (fun m => m.v == (v : Int)) c.moves v (fun m _ => SKMove1 m v) (by omega)) (congrArg (vi .i64) hix)) ki_4)] [(2, vp 0 0), (4, vp 2 0), (5, vb false), (6, vi .i64 (k : Int))] [(0, .box ([.d (.raw (.int .i64 c.proc)), .d (.raw (.int .i64 c.from_)), .d (.raw (.int .i64 c.to_)), .d (.raw (.int .i64 c.guard.kind)), .d (.sl 3 (c.guard.r.t.parts.map Part.d))] ++ zi c.guard.r.t.k ++ [.d (.raw (.bool c.guard.r.eq)), .d (.sl 6 (c.guard.kids.map FormD.d)), .d (.sl 5 (c.moves.map MoveD.d))])), (2, .box [.d (.raw (.int .i64 0)), .d (.raw (.bool false)), .d (.raw nilV), .d (.raw (.bool false)), .d (nsl [])])] (by kernel_rfl) h ?_; clear h; intro a w h
 refine wp_seq ?_
 refine rSeq fam0ok 3 [(1, .cmp (op := .lss) (m := (k : Int)) (n := 0) (b := false) .i64 (show (decide ((k : Int) < 0)) = false from decide_eq_false (by omega)))] [(2, vp 0 0), (4, vp 2 0), (5, vb false), (6, vi .i64 (k : Int)), (12, vb false)] [(0, .box ([.d (.raw (.int .i64 c.proc)), .d (.raw (.int .i64 c.from_)), .d (.raw (.int .i64 c.to_)), .d (.raw (.int .i64 c.guard.kind)), .d (.sl 3 (c.guard.r.t.parts.map Part.d))] ++ zi c.guard.r.t.k ++ [.d (.raw (.bool c.guard.r.eq)), .d (.sl 6 (c.guard.kids.map FormD.d)), .d (.sl 5 (c.moves.map MoveD.d))])), (2, .box [.d (.raw (.int .i64 0)), .d (.raw (.bool false)), .d (.raw nilV), .d (.raw (.bool false)), .d (nsl [])])] (by kernel_rfl) h ?_; clear h; intro a w h
 refine condS false h rfl (fun hc => ?_) (fun hc => ?_)
 ·cases hc
 ·clear hc
  refine wp_skip ?_
  refine then_n ?_
  refine rSeq fam0ok 3 [(3, .gen _ _ _ fun _ _ _ _ => Op.idxD (d := 17) (t := 15) (k := .i64) ki_2 (map_at hk (f := MoveD.d)) (OV.tmp 16 _))] [(4, vp 2 0), (5, vb true)] [(2, .box ([.d (.raw (.int .i64 m.v)), .d (.raw (.bool m.any)), .d (.sl 3 (m.t.parts.map Part.d))] ++ zi m.t.k))] (by kernel_rfl) h ?_; clear h; intro a w h
  refine wp_ret ?_
  refine retS [.agg ([.d (.raw (.int .i64 m.v)), .d (.raw (.bool m.any)), .d (.sl 3 (m.t.parts.map Part.d))] ++ zi m.t.k), .c (.d (.raw (.bool true)))] h Exit.ret (.inl rfl)  rfl ⟨RV.agg _ 2 0 _ _ _ _ ki_5 rfl rfl rfl rfl, RV.tmp _ _ rfl, trivial⟩ ?_ (by kernel_rfl) (by kernel_rfl)
  rfl
theorem SmoveN (c : ActD) (v : Nat) (hl : c.moves.length ≤ 20) (hm : mvAt c v = none) : Fn Try.prog 45 [] [.t (.agg ([.d (.raw (.int .i64 c.proc)), .d (.raw (.int .i64 c.from_)), .d (.raw (.int .i64 c.to_)), .d (.raw (.int .i64 c.guard.kind)), .d (.sl 3 (c.guard.r.t.parts.map Part.d))] ++ zi c.guard.r.t.k ++ [.d (.raw (.bool c.guard.r.eq)), .d (.sl 6 (c.guard.kids.map FormD.d)), .d (.sl 5 (c.moves.map MoveD.d))])), vi .i64 (v : Int)] (.tup [.agg ([.d (.raw (.int .i64 mv0.v)), .d (.raw (.bool mv0.any)), .d (.sl 3 (mv0.t.parts.map Part.d))] ++ zi mv0.t.k), .c (.d (.raw (.bool false)))]) [] := by
 rcases idxB_find (fun m => m.v == (v : Int)) c.moves with ⟨h1, _⟩ | ⟨k, m, _, _, h3⟩
 ·exact SmoveN0 c v hl h1
 ·unfold mvAt at hm; rw [hm] at h3; cases h3
theorem SmoveS (c : ActD) (v : Nat) (m : MoveD) (hl : c.moves.length ≤ 20) (hm : mvAt c v = some m) : Fn Try.prog 45 [] [.t (.agg ([.d (.raw (.int .i64 c.proc)), .d (.raw (.int .i64 c.from_)), .d (.raw (.int .i64 c.to_)), .d (.raw (.int .i64 c.guard.kind)), .d (.sl 3 (c.guard.r.t.parts.map Part.d))] ++ zi c.guard.r.t.k ++ [.d (.raw (.bool c.guard.r.eq)), .d (.sl 6 (c.guard.kids.map FormD.d)), .d (.sl 5 (c.moves.map MoveD.d))])), vi .i64 (v : Int)] (.tup [.agg ([.d (.raw (.int .i64 m.v)), .d (.raw (.bool m.any)), .d (.sl 3 (m.t.parts.map Part.d))] ++ zi m.t.k), .c (.d (.raw (.bool true)))]) [] := by
 rcases idxB_find (fun m => m.v == (v : Int)) c.moves with ⟨_, h2⟩ | ⟨k, m', h1, h2, h3⟩
 ·unfold mvAt at hm; rw [hm] at h2; cases h2
 ·unfold mvAt at hm
  rw [hm] at h3
  injection h3 with h3
  subst h3
  exact SmoveS0 c v m k hl h1 h2
set_option maxHeartbeats 4000000 in
theorem SafterN (x : StD) (c : ActD) (v : Nat) {L M : Nat} (hL : L + M ≤ 10000) (hc : ActOk L c) (hx : StOk M x) (hv : v < x.vals.length) (hm : mvAt c v = none) : Fn Try.prog 24 [] [.t (.agg [.d (.sl 1 (x.locs.map intD)), .d (.sl 2 (x.vals.map ziD))]), .t (.agg ([.d (.raw (.int .i64 c.proc)), .d (.raw (.int .i64 c.from_)), .d (.raw (.int .i64 c.to_)), .d (.raw (.int .i64 c.guard.kind)), .d (.sl 3 (c.guard.r.t.parts.map Part.d))] ++ zi c.guard.r.t.k ++ [.d (.raw (.bool c.guard.r.eq)), .d (.sl 6 (c.guard.kids.map FormD.d)), .d (.sl 5 (c.moves.map MoveD.d))])), vi .i64 (v : Int)] (.tup [.agg (zi (newAt x c v)), .c (.d (.raw (.bool (freeAt c v))))]) [] := by
 refine Fn.body Try.func24 rfl 41 rfl fun w H B a h => ?_
 refine rSeq fam0ok 0 [] [(2, vi .i64 (v : Int)), (3, vp 0 0), (4, vp 1 0), (6, vp 2 0), (7, vb false)] [(0, .box [.d (.sl 1 (x.locs.map intD)), .d (.sl 2 (x.vals.map ziD))]), (1, .box ([.d (.raw (.int .i64 c.proc)), .d (.raw (.int .i64 c.from_)), .d (.raw (.int .i64 c.to_)), .d (.raw (.int .i64 c.guard.kind)), .d (.sl 3 (c.guard.r.t.parts.map Part.d))] ++ zi c.guard.r.t.k ++ [.d (.raw (.bool c.guard.r.eq)), .d (.sl 6 (c.guard.kids.map FormD.d)), .d (.sl 5 (c.moves.map MoveD.d))])), (2, .box [.d (.raw (.bool false)), .d (nsl [])])] (by kernel_rfl) h ?_; clear h; intro a w h
 refine rSeq fam0ok 3 [(2, .call (SmoveN c v hc.len hm) ki_6)] [(2, vi .i64 (v : Int)), (3, vp 0 0), (6, vp 2 0), (7, vb false), (8, vp 3 0), (9, vb false)] [(0, .box [.d (.sl 1 (x.locs.map intD)), .d (.sl 2 (x.vals.map ziD))]), (2, .box [.d (.raw (.bool false)), .d (nsl [])]), (3, .box ([.d (.raw (.int .i64 mv0.v)), .d (.raw (.bool mv0.any)), .d (.sl 3 (mv0.t.parts.map Part.d))] ++ zi mv0.t.k))] (by kernel_rfl) h ?_; clear h; intro a w h
 refine wp_seq ?_
 refine wp_block ?_
 refine rSeq fam0ok 4 [] [(2, vi .i64 (v : Int)), (3, vp 0 0), (6, vp 2 0), (7, vb false), (8, vp 3 0), (16, vb true)] [(0, .box [.d (.sl 1 (x.locs.map intD)), .d (.sl 2 (x.vals.map ziD))]), (2, .box [.d (.raw (.bool false)), .d (nsl [])]), (3, .box ([.d (.raw (.int .i64 mv0.v)), .d (.raw (.bool mv0.any)), .d (.sl 3 (mv0.t.parts.map Part.d))] ++ zi mv0.t.k))] (by kernel_rfl) h ?_; clear h; intro a w h
 refine condS true h rfl (fun hc => ?_) (fun hc => ?_)
 ·clear hc
  obtain ⟨x2, hx2⟩ : ∃ z_ : ZI, x.vals[v]? = some z_ := ⟨_, List.getElem?_eq_getElem (by first | omega | (simp at *; omega))⟩
  have gx2 := hx.val x2 (List.mem_of_getElem? hx2)
  have lgx2 := gx2.2
  obtain ⟨r3, er3, vr3, or3, lr3⟩ := mkZ (v := x2.val) (m := M) (Nat.le_trans (len_id gx2.1) gx2.2)
  refine rSeq fam0ok 4 [(3, .gen _ _ _ fun _ _ _ _ => Op.idxD (d := 22) (t := 20) (k := .i64) tt_6 (map_at hx2 (f := ziD)) (OV.tmp 21 _)), (9, .gen _ _ _ fun _ _ _ _ => Op.idxD (d := 28) (t := 26) (k := .i64) tt_6 (map_at hx2 (f := ziD)) (OV.tmp 27 _)), (12, .call (Fn.cast ((show Fn _ _ _ _ (vz (ZI.of x2.val)) _ from SFrom x2.neg x2.abs gx2.1 (by omega))) (congrArg vz er3.symm)) ia_3)] [(3, vp 0 0), (6, vp 2 0), (7, vb false), (8, vp 3 0)] [(0, .box [.d (.sl 1 (x.locs.map intD)), .d (.sl 2 (x.vals.map ziD))]), (2, .box (zi r3)), (3, .box ([.d (.raw (.int .i64 mv0.v)), .d (.raw (.bool mv0.any)), .d (.sl 3 (mv0.t.parts.map Part.d))] ++ zi mv0.t.k))] (by kernel_rfl) h ?_; clear h; intro a w h
  refine wp_ret ?_
  refine block_r ?_
  refine then_r ?_
  refine retS [.agg (zi r3), .c (.d (.raw (.bool false)))] h Exit.ret (.inl rfl)  rfl ⟨RV.agg _ 2 0 _ _ _ _ ia_1 rfl rfl rfl rfl, RV.tmp _ _ rfl, trivial⟩ ?_ (by kernel_rfl) (by kernel_rfl)
  have hz : newAt x c v = r3 := by unfold newAt; rw [hm, er3, hx2]; rfl
  have hf : freeAt c v = false := by unfold freeAt; rw [hm]
  rw [hz, hf]; first | done | rfl
 ·cases hc
set_option maxHeartbeats 4000000 in
theorem SafterS (x : StD) (c : ActD) (v : Nat) (m : MoveD) {L M : Nat} (hL : L + M ≤ 10000) (hc : ActOk L c) (hx : StOk M x) (_hv : v < x.vals.length) (hm : mvAt c v = some m) : Fn Try.prog 24 [] [.t (.agg [.d (.sl 1 (x.locs.map intD)), .d (.sl 2 (x.vals.map ziD))]), .t (.agg ([.d (.raw (.int .i64 c.proc)), .d (.raw (.int .i64 c.from_)), .d (.raw (.int .i64 c.to_)), .d (.raw (.int .i64 c.guard.kind)), .d (.sl 3 (c.guard.r.t.parts.map Part.d))] ++ zi c.guard.r.t.k ++ [.d (.raw (.bool c.guard.r.eq)), .d (.sl 6 (c.guard.kids.map FormD.d)), .d (.sl 5 (c.moves.map MoveD.d))])), vi .i64 (v : Int)] (.tup [.agg (zi (newAt x c v)), .c (.d (.raw (.bool (freeAt c v))))]) [] := by
 refine Fn.body Try.func24 rfl 41 rfl fun w H B a h => ?_
 refine rSeq fam0ok 0 [] [(2, vi .i64 (v : Int)), (3, vp 0 0), (4, vp 1 0), (6, vp 2 0), (7, vb false)] [(0, .box [.d (.sl 1 (x.locs.map intD)), .d (.sl 2 (x.vals.map ziD))]), (1, .box ([.d (.raw (.int .i64 c.proc)), .d (.raw (.int .i64 c.from_)), .d (.raw (.int .i64 c.to_)), .d (.raw (.int .i64 c.guard.kind)), .d (.sl 3 (c.guard.r.t.parts.map Part.d))] ++ zi c.guard.r.t.k ++ [.d (.raw (.bool c.guard.r.eq)), .d (.sl 6 (c.guard.kids.map FormD.d)), .d (.sl 5 (c.moves.map MoveD.d))])), (2, .box [.d (.raw (.bool false)), .d (nsl [])])] (by kernel_rfl) h ?_; clear h; intro a w h
 refine rSeq fam0ok 3 [(2, .call (SmoveS c v m hc.len hm) ki_6)] [(2, vi .i64 (v : Int)), (3, vp 0 0), (6, vp 2 0), (7, vb false), (8, vp 3 0), (9, vb true)] [(0, .box [.d (.sl 1 (x.locs.map intD)), .d (.sl 2 (x.vals.map ziD))]), (2, .box [.d (.raw (.bool false)), .d (nsl [])]), (3, .box ([.d (.raw (.int .i64 m.v)), .d (.raw (.bool m.any)), .d (.sl 3 (m.t.parts.map Part.d))] ++ zi m.t.k))] (by kernel_rfl) h ?_; clear h; intro a w h
 refine wp_seq ?_
 refine wp_block ?_
 refine rSeq fam0ok 4 [] [(2, vi .i64 (v : Int)), (3, vp 0 0), (6, vp 2 0), (7, vb false), (8, vp 3 0), (16, vb false)] [(0, .box [.d (.sl 1 (x.locs.map intD)), .d (.sl 2 (x.vals.map ziD))]), (2, .box [.d (.raw (.bool false)), .d (nsl [])]), (3, .box ([.d (.raw (.int .i64 m.v)), .d (.raw (.bool m.any)), .d (.sl 3 (m.t.parts.map Part.d))] ++ zi m.t.k))] (by kernel_rfl) h ?_; clear h; intro a w h
 refine condS false h rfl (fun hc => ?_) (fun hc => ?_)
 ·cases hc
 ·clear hc
  refine rSeq fam0ok 4 [] [(3, vp 0 0), (6, vp 2 0), (7, vb false), (8, vp 3 0), (32, vb m.any)] [(0, .box [.d (.sl 1 (x.locs.map intD)), .d (.sl 2 (x.vals.map ziD))]), (2, .box [.d (.raw (.bool false)), .d (nsl [])]), (3, .box ([.d (.raw (.int .i64 m.v)), .d (.raw (.bool m.any)), .d (.sl 3 (m.t.parts.map Part.d))] ++ zi m.t.k))] (by kernel_rfl) h ?_; clear h; intro a w h
  refine condS m.any h rfl (fun hc => ?_) (fun hc => ?_)
  ·have hc1 := hc; clear hc
   refine rSeq fam0ok 4 [] [(3, vp 0 0), (6, vp 2 0), (7, vb true), (8, vp 3 0)] [(0, .box [.d (.sl 1 (x.locs.map intD)), .d (.sl 2 (x.vals.map ziD))]), (2, .box [.d (.raw (.bool false)), .d (nsl [])]), (3, .box ([.d (.raw (.int .i64 m.v)), .d (.raw (.bool m.any)), .d (.sl 3 (m.t.parts.map Part.d))] ++ zi m.t.k))] (by kernel_rfl) h ?_; clear h; intro a w h
   refine wp_ret ?_
   refine block_r ?_
   refine then_r ?_
   refine retS [.agg [.d (.raw (.bool false)), .d (nsl [])], .c (.d (.raw (.bool true)))] h Exit.ret (.inl rfl)  rfl ⟨RV.agg _ 2 0 _ _ _ _ ia_1 rfl rfl rfl rfl, RV.tmp _ _ rfl, trivial⟩ ?_ (by kernel_rfl) (by kernel_rfl)
   have hz : newAt x c v = zero0 := by unfold newAt; rw [hm]; simp only; rw [if_pos hc1]
   have hf : freeAt c v = true := by unfold freeAt; rw [hm]; exact hc1
   rw [hz, hf]; first | done | rfl
  ·have hc2 := hc; clear hc
   refine wp_skip ?_
   refine block_n ?_
   refine then_n ?_
   obtain ⟨r2, er2, vr2, or2, lr2⟩ := mkZ (v := valT m.t x.vals) (m := L + M + 2) (Nat.le_trans (val_len (hc.mv m (mv_mem hm)) (by decide) hx.vok (fun p hp => hp) (Nat.le_refl _)) (by omega))
   refine rSeq fam0ok 4 [(4, .call (Fn.cast (SValue m.t x.vals (hc.mv m (mv_mem hm)) (by decide) (by omega) hx.vok) (congrArg vz er2.symm)) ke_0)] [(6, vp 2 0), (7, vb false)] [(2, .box (zi r2))] (by kernel_rfl) h ?_; clear h; intro a w h
   refine wp_ret ?_
   refine retS [.agg (zi r2), .c (.d (.raw (.bool false)))] h Exit.ret (.inl rfl)  rfl ⟨RV.agg _ 2 0 _ _ _ _ ia_1 rfl rfl rfl rfl, RV.tmp _ _ rfl, trivial⟩ ?_ (by kernel_rfl) (by kernel_rfl)
   have hz : newAt x c v = r2 := by unfold newAt; rw [hm, er2]; simp only; rw [if_neg (by rw [hc2]; exact Bool.noConfusion)]
   have hf : freeAt c v = false := by unfold freeAt; rw [hm]; exact hc2
   rw [hz, hf]; first | done | rfl
theorem Safter (x : StD) (c : ActD) (v : Nat) {L M : Nat} (hL : L + M ≤ 10000) (hc : ActOk L c) (hx : StOk M x) (hv : v < x.vals.length) : Fn Try.prog 24 [] [.t (.agg [.d (.sl 1 (x.locs.map intD)), .d (.sl 2 (x.vals.map ziD))]), .t (.agg ([.d (.raw (.int .i64 c.proc)), .d (.raw (.int .i64 c.from_)), .d (.raw (.int .i64 c.to_)), .d (.raw (.int .i64 c.guard.kind)), .d (.sl 3 (c.guard.r.t.parts.map Part.d))] ++ zi c.guard.r.t.k ++ [.d (.raw (.bool c.guard.r.eq)), .d (.sl 6 (c.guard.kids.map FormD.d)), .d (.sl 5 (c.moves.map MoveD.d))])), vi .i64 (v : Int)] (.tup [.agg (zi (newAt x c v)), .c (.d (.raw (.bool (freeAt c v))))]) [] := by
 cases hm : mvAt c v with
 | none => exact SafterN x c v hL hc hx hv hm
 | some m => exact SafterS x c v m hL hc hx hv hm
end Go.Proofs.Ytmohlifepfjmdaa.S
end
section
namespace Go.Proofs.Ytmohlifepfjmdaa.S
open Go.RowKit
def fam2tb : Tb := [(3, ⟨1, false, [], [.d (.raw (.int .i64 0))], 13⟩), (4, ⟨1, false, [], [.d (.raw (.bool false))], 3⟩), (24, ⟨1, false, [], [.d (.raw nilV)], 1⟩), (26, ⟨1, false, [], [.d (nsl [])], 1⟩), (28, ⟨2, true, [(0, 1, false), (1, 1, false)], [.d (.raw (.bool false)), .d (nsl [])], 0⟩), (30, ⟨3, true, [(0, 1, false), (1, 2, true)], [.d (.raw nilV), .d (.raw (.bool false)), .d (nsl [])], 0⟩), (51, ⟨5, true, [(0, 1, false), (1, 1, false), (2, 3, true)], [.d (.raw (.int .i64 0)), .d (.raw (.bool false)), .d (.raw nilV), .d (.raw (.bool false)), .d (nsl [])], 0⟩), (22, ⟨1, false, [], [.d (.raw nilV)], 1⟩), (23, ⟨1, false, [], [.d (.raw nilV)], 1⟩), (32, ⟨4, true, [(0, 3, true), (3, 1, false)], [.d (.raw nilV), .d (.raw (.bool false)), .d (nsl []), .d (.raw (.bool false))], 0⟩), (33, ⟨1, false, [], [.d (.raw nilV)], 1⟩), (35, ⟨6, true, [(0, 1, false), (1, 4, true), (5, 1, false)], [.d (.raw (.int .i64 0)), .d (.raw nilV), .d (.raw (.bool false)), .d (nsl []), .d (.raw (.bool false)), .d (.raw nilV)], 0⟩), (36, ⟨1, false, [], [.d (.raw nilV)], 1⟩), (37, ⟨1, false, [], [.d (.raw nilV)], 1⟩), (39, ⟨10, true, [(0, 1, false), (1, 1, false), (2, 6, true), (8, 1, false), (9, 1, false)], [.d (.raw nilV), .d (.raw nilV), .d (.raw (.int .i64 0)), .d (.raw nilV), .d (.raw (.bool false)), .d (nsl []), .d (.raw (.bool false)), .d (.raw nilV), .d (.raw nilV), .d (.raw nilV)], 0⟩), (105, ⟨1, false, [], [.d (.raw .nilFunc)], 4⟩), (47, ⟨1, false, [], [.d (.raw nilV)], 1⟩), (40, ⟨1, false, [], [.d (.raw nilV)], 1⟩), (41, ⟨1, false, [], [.d (.raw nilV)], 1⟩), (43, ⟨2, true, [(0, 1, false), (1, 1, false)], [.d (.raw nilV), .d (.raw nilV)], 0⟩), (49, ⟨10, true, [(0, 1, false), (1, 1, false), (2, 1, false), (3, 6, true), (9, 1, false)], [.d (.raw (.int .i64 0)), .d (.raw (.int .i64 0)), .d (.raw (.int .i64 0)), .d (.raw (.int .i64 0)), .d (.raw nilV), .d (.raw (.bool false)), .d (nsl []), .d (.raw (.bool false)), .d (.raw nilV), .d (.raw nilV)], 0⟩), (9, ⟨1, false, [], [.d (.raw (.string ByteArray.empty))], 2⟩), (87, ⟨1, false, [], [.d (.raw nilV)], 1⟩), (89, ⟨3, true, [(0, 1, false), (1, 1, false), (2, 1, false)], [.d (.raw (.string ByteArray.empty)), .d (.raw nilV), .d (.raw nilV)], 0⟩)]
theorem fam2ok : TbOk Try.prog fam2tb := ⟨TyOk.int Try.underlying3 rfl (by kernel_rfl) ⟨(.int .i64 0 : Value), [.int .i64 0], by kernel_rfl, rfl, (fun _ _ => ⟨DR.raw _ rfl, trivial⟩)⟩,
 TyOk.bl Try.underlying4 (by kernel_rfl) ⟨(.bool false : Value), [.bool false], by kernel_rfl, rfl, (fun _ _ => ⟨DR.raw _ rfl, trivial⟩)⟩,
 TyOk.slc Try.underlying24 (by kernel_rfl) ⟨(.slice none 0 0 : Value), [.slice none 0 0], by kernel_rfl, rfl, (fun _ _ => ⟨DR.raw _ rfl, trivial⟩)⟩,
 TyOk.slc Try.underlying26 (by kernel_rfl) ⟨(.slice none 0 0 : Value), [.slice none 0 0], by kernel_rfl, rfl, (fun _ _ => ⟨DR.nil _ _ _ (fun _ => rfl) (Nat.zero_le _), trivial⟩)⟩,
 TyOk.st Try.underlying28 (by kernel_rfl) ⟨⟨by decide, Fd.mk' _ _ Try.underlying28 rfl rfl (Sz.mk' (by kernel_rfl) Try.underlying4 _ rfl)⟩, ⟨by decide, Fd.mk' _ _ Try.underlying28 rfl rfl (Sz.mk' (by kernel_rfl) Try.underlying26 _ rfl)⟩, trivial⟩ ⟨(Value.agg #[.bool false, .slice none 0 0]), [.bool false, .slice none 0 0], by kernel_rfl, rfl, (fun _ _ => ⟨DR.raw _ rfl, DR.nil _ _ _ (fun _ => rfl) (Nat.zero_le _), trivial⟩)⟩ ⟨_, Try.underlying28, ⟨⟨rfl, by kernel_rfl⟩, ⟨rfl, by kernel_rfl⟩, trivial⟩⟩,
 TyOk.st Try.underlying30 (by kernel_rfl) ⟨⟨by decide, Fd.mk' _ _ Try.underlying30 rfl rfl (Sz.mk' (by kernel_rfl) Try.underlying24 _ rfl)⟩, ⟨by decide, Fd.mk' _ _ Try.underlying30 rfl rfl (Sz.mk' (by kernel_rfl) Try.underlying28 _ rfl)⟩, trivial⟩ ⟨(Value.agg #[.slice none 0 0, .bool false, .slice none 0 0]), [.slice none 0 0, .bool false, .slice none 0 0], by kernel_rfl, rfl, (fun _ _ => ⟨DR.raw _ rfl, DR.raw _ rfl, DR.nil _ _ _ (fun _ => rfl) (Nat.zero_le _), trivial⟩)⟩ ⟨_, Try.underlying30, ⟨⟨rfl, by kernel_rfl⟩, ⟨rfl, by kernel_rfl⟩, trivial⟩⟩,
 TyOk.st Try.underlying51 (by kernel_rfl) ⟨⟨by decide, Fd.mk' _ _ Try.underlying51 rfl rfl (Sz.mk' (by kernel_rfl) Try.underlying3 _ rfl)⟩, ⟨by decide, Fd.mk' _ _ Try.underlying51 rfl rfl (Sz.mk' (by kernel_rfl) Try.underlying4 _ rfl)⟩, ⟨by decide, Fd.mk' _ _ Try.underlying51 rfl rfl (Sz.mk' (by kernel_rfl) Try.underlying30 _ rfl)⟩, trivial⟩ ⟨(Value.agg #[.int .i64 0, .bool false, .slice none 0 0, .bool false, .slice none 0 0]), [.int .i64 0, .bool false, .slice none 0 0, .bool false, .slice none 0 0], by kernel_rfl, rfl, (fun _ _ => ⟨DR.raw _ rfl, DR.raw _ rfl, DR.raw _ rfl, DR.raw _ rfl, DR.nil _ _ _ (fun _ => rfl) (Nat.zero_le _), trivial⟩)⟩ ⟨_, Try.underlying51, ⟨⟨rfl, by kernel_rfl⟩, ⟨rfl, by kernel_rfl⟩, ⟨rfl, by kernel_rfl⟩, trivial⟩⟩,
 TyOk.slc Try.underlying22 (by kernel_rfl) ⟨(.slice none 0 0 : Value), [.slice none 0 0], by kernel_rfl, rfl, (fun _ _ => ⟨DR.raw _ rfl, trivial⟩)⟩,
 TyOk.slc Try.underlying23 (by kernel_rfl) ⟨(.slice none 0 0 : Value), [.slice none 0 0], by kernel_rfl, rfl, (fun _ _ => ⟨DR.raw _ rfl, trivial⟩)⟩,
 TyOk.st Try.underlying32 (by kernel_rfl) ⟨⟨by decide, Fd.mk' _ _ Try.underlying32 rfl rfl (Sz.mk' (by kernel_rfl) Try.underlying30 _ rfl)⟩, ⟨by decide, Fd.mk' _ _ Try.underlying32 rfl rfl (Sz.mk' (by kernel_rfl) Try.underlying4 _ rfl)⟩, trivial⟩ ⟨(Value.agg #[.slice none 0 0, .bool false, .slice none 0 0, .bool false]), [.slice none 0 0, .bool false, .slice none 0 0, .bool false], by kernel_rfl, rfl, (fun _ _ => ⟨DR.raw _ rfl, DR.raw _ rfl, DR.nil _ _ _ (fun _ => rfl) (Nat.zero_le _), DR.raw _ rfl, trivial⟩)⟩ ⟨_, Try.underlying32, ⟨⟨rfl, by kernel_rfl⟩, ⟨rfl, by kernel_rfl⟩, trivial⟩⟩,
 TyOk.slc Try.underlying33 (by kernel_rfl) ⟨(.slice none 0 0 : Value), [.slice none 0 0], by kernel_rfl, rfl, (fun _ _ => ⟨DR.raw _ rfl, trivial⟩)⟩,
 TyOk.st Try.underlying35 (by kernel_rfl) ⟨⟨by decide, Fd.mk' _ _ Try.underlying35 rfl rfl (Sz.mk' (by kernel_rfl) Try.underlying3 _ rfl)⟩, ⟨by decide, Fd.mk' _ _ Try.underlying35 rfl rfl (Sz.mk' (by kernel_rfl) Try.underlying32 _ rfl)⟩, ⟨by decide, Fd.mk' _ _ Try.underlying35 rfl rfl (Sz.mk' (by kernel_rfl) Try.underlying33 _ rfl)⟩, trivial⟩ ⟨(Value.agg #[.int .i64 0, .slice none 0 0, .bool false, .slice none 0 0, .bool false, .slice none 0 0]), [.int .i64 0, .slice none 0 0, .bool false, .slice none 0 0, .bool false, .slice none 0 0], by kernel_rfl, rfl, (fun _ _ => ⟨DR.raw _ rfl, DR.raw _ rfl, DR.raw _ rfl, DR.nil _ _ _ (fun _ => rfl) (Nat.zero_le _), DR.raw _ rfl, DR.raw _ rfl, trivial⟩)⟩ ⟨_, Try.underlying35, ⟨⟨rfl, by kernel_rfl⟩, ⟨rfl, by kernel_rfl⟩, ⟨rfl, by kernel_rfl⟩, trivial⟩⟩,
 TyOk.slc Try.underlying36 (by kernel_rfl) ⟨(.slice none 0 0 : Value), [.slice none 0 0], by kernel_rfl, rfl, (fun _ _ => ⟨DR.raw _ rfl, trivial⟩)⟩,
 TyOk.slc Try.underlying37 (by kernel_rfl) ⟨(.slice none 0 0 : Value), [.slice none 0 0], by kernel_rfl, rfl, (fun _ _ => ⟨DR.raw _ rfl, trivial⟩)⟩,
 TyOk.st Try.underlying39 (by kernel_rfl) ⟨⟨by decide, Fd.mk' _ _ Try.underlying39 rfl rfl (Sz.mk' (by kernel_rfl) Try.underlying22 _ rfl)⟩, ⟨by decide, Fd.mk' _ _ Try.underlying39 rfl rfl (Sz.mk' (by kernel_rfl) Try.underlying23 _ rfl)⟩, ⟨by decide, Fd.mk' _ _ Try.underlying39 rfl rfl (Sz.mk' (by kernel_rfl) Try.underlying35 _ rfl)⟩, ⟨by decide, Fd.mk' _ _ Try.underlying39 rfl rfl (Sz.mk' (by kernel_rfl) Try.underlying36 _ rfl)⟩, ⟨by decide, Fd.mk' _ _ Try.underlying39 rfl rfl (Sz.mk' (by kernel_rfl) Try.underlying37 _ rfl)⟩, trivial⟩ ⟨(Value.agg #[.slice none 0 0, .slice none 0 0, .int .i64 0, .slice none 0 0, .bool false, .slice none 0 0, .bool false, .slice none 0 0, .slice none 0 0, .slice none 0 0]), [.slice none 0 0, .slice none 0 0, .int .i64 0, .slice none 0 0, .bool false, .slice none 0 0, .bool false, .slice none 0 0, .slice none 0 0, .slice none 0 0], by kernel_rfl, rfl, (fun _ _ => ⟨DR.raw _ rfl, DR.raw _ rfl, DR.raw _ rfl, DR.raw _ rfl, DR.raw _ rfl, DR.nil _ _ _ (fun _ => rfl) (Nat.zero_le _), DR.raw _ rfl, DR.raw _ rfl, DR.raw _ rfl, DR.raw _ rfl, trivial⟩)⟩ ⟨_, Try.underlying39, ⟨⟨rfl, by kernel_rfl⟩, ⟨rfl, by kernel_rfl⟩, ⟨rfl, by kernel_rfl⟩, ⟨rfl, by kernel_rfl⟩, ⟨rfl, by kernel_rfl⟩, trivial⟩⟩,
 TyOk.fnc Try.underlying105 rfl (by kernel_rfl) ⟨(.nilFunc : Value), [.nilFunc], by kernel_rfl, rfl, (fun _ _ => ⟨DR.raw _ rfl, trivial⟩)⟩,
 TyOk.slc Try.underlying47 (by kernel_rfl) ⟨(.slice none 0 0 : Value), [.slice none 0 0], by kernel_rfl, rfl, (fun _ _ => ⟨DR.raw _ rfl, trivial⟩)⟩,
 TyOk.slc Try.underlying40 (by kernel_rfl) ⟨(.slice none 0 0 : Value), [.slice none 0 0], by kernel_rfl, rfl, (fun _ _ => ⟨DR.raw _ rfl, trivial⟩)⟩,
 TyOk.slc Try.underlying41 (by kernel_rfl) ⟨(.slice none 0 0 : Value), [.slice none 0 0], by kernel_rfl, rfl, (fun _ _ => ⟨DR.raw _ rfl, trivial⟩)⟩,
 TyOk.st Try.underlying43 (by kernel_rfl) ⟨⟨by decide, Fd.mk' _ _ Try.underlying43 rfl rfl (Sz.mk' (by kernel_rfl) Try.underlying40 _ rfl)⟩, ⟨by decide, Fd.mk' _ _ Try.underlying43 rfl rfl (Sz.mk' (by kernel_rfl) Try.underlying41 _ rfl)⟩, trivial⟩ ⟨(Value.agg #[.slice none 0 0, .slice none 0 0]), [.slice none 0 0, .slice none 0 0], by kernel_rfl, rfl, (fun _ _ => ⟨DR.raw _ rfl, DR.raw _ rfl, trivial⟩)⟩ ⟨_, Try.underlying43, ⟨⟨rfl, by kernel_rfl⟩, ⟨rfl, by kernel_rfl⟩, trivial⟩⟩,
 TyOk.st Try.underlying49 (by kernel_rfl) ⟨⟨by decide, Fd.mk' _ _ Try.underlying49 rfl rfl (Sz.mk' (by kernel_rfl) Try.underlying3 _ rfl)⟩, ⟨by decide, Fd.mk' _ _ Try.underlying49 rfl rfl (Sz.mk' (by kernel_rfl) Try.underlying3 _ rfl)⟩, ⟨by decide, Fd.mk' _ _ Try.underlying49 rfl rfl (Sz.mk' (by kernel_rfl) Try.underlying3 _ rfl)⟩, ⟨by decide, Fd.mk' _ _ Try.underlying49 rfl rfl (Sz.mk' (by kernel_rfl) Try.underlying35 _ rfl)⟩, ⟨by decide, Fd.mk' _ _ Try.underlying49 rfl rfl (Sz.mk' (by kernel_rfl) Try.underlying47 _ rfl)⟩, trivial⟩ ⟨(Value.agg #[.int .i64 0, .int .i64 0, .int .i64 0, .int .i64 0, .slice none 0 0, .bool false, .slice none 0 0, .bool false, .slice none 0 0, .slice none 0 0]), [.int .i64 0, .int .i64 0, .int .i64 0, .int .i64 0, .slice none 0 0, .bool false, .slice none 0 0, .bool false, .slice none 0 0, .slice none 0 0], by kernel_rfl, rfl, (fun _ _ => ⟨DR.raw _ rfl, DR.raw _ rfl, DR.raw _ rfl, DR.raw _ rfl, DR.raw _ rfl, DR.raw _ rfl, DR.nil _ _ _ (fun _ => rfl) (Nat.zero_le _), DR.raw _ rfl, DR.raw _ rfl, DR.raw _ rfl, trivial⟩)⟩ ⟨_, Try.underlying49, ⟨⟨rfl, by kernel_rfl⟩, ⟨rfl, by kernel_rfl⟩, ⟨rfl, by kernel_rfl⟩, ⟨rfl, by kernel_rfl⟩, ⟨rfl, by kernel_rfl⟩, trivial⟩⟩,
 TyOk.str Try.underlying9 (by kernel_rfl) ⟨(.string ByteArray.empty : Value), [.string ByteArray.empty], by kernel_rfl, rfl, (fun _ _ => ⟨DR.raw _ rfl, trivial⟩)⟩,
 TyOk.slc Try.underlying87 (by kernel_rfl) ⟨(.slice none 0 0 : Value), [.slice none 0 0], by kernel_rfl, rfl, (fun _ _ => ⟨DR.raw _ rfl, trivial⟩)⟩,
 TyOk.st Try.underlying89 (by kernel_rfl) ⟨⟨by decide, Fd.mk' _ _ Try.underlying89 rfl rfl (Sz.mk' (by kernel_rfl) Try.underlying9 _ rfl)⟩, ⟨by decide, Fd.mk' _ _ Try.underlying89 rfl rfl (Sz.mk' (by kernel_rfl) Try.underlying22 _ rfl)⟩, ⟨by decide, Fd.mk' _ _ Try.underlying89 rfl rfl (Sz.mk' (by kernel_rfl) Try.underlying87 _ rfl)⟩, trivial⟩ ⟨(Value.agg #[.string ByteArray.empty, .slice none 0 0, .slice none 0 0]), [.string ByteArray.empty, .slice none 0 0, .slice none 0 0], by kernel_rfl, rfl, (fun _ _ => ⟨DR.raw _ rfl, DR.raw _ rfl, DR.raw _ rfl, trivial⟩)⟩ ⟨_, Try.underlying89, ⟨⟨rfl, by kernel_rfl⟩, ⟨rfl, by kernel_rfl⟩, ⟨rfl, by kernel_rfl⟩, trivial⟩⟩,
 trivial⟩
end Go.Proofs.Ytmohlifepfjmdaa.S
end
section
namespace Go.Proofs.Ytmohlifepfjmdaa.S
open Go.RowKit

theorem kj_0 : Bodied Try.prog 42 := Bodied.mk' (by kernel_rfl)
theorem kj_2 : Bodied Try.prog 44 := Bodied.mk' (by kernel_rfl)
theorem kj_7 : Bodied Try.prog 43 := Bodied.mk' (by kernel_rfl)
theorem fits_len {s : SysD} {x : StD} (h : fits s x = true) : x.locs.length = s.procs.length ∧ x.vals.length = s.vars.length := by
 unfold fits at h; rw [Bool.and_eq_true] at h; exact of_decide_eq_true h.1
set_option maxHeartbeats 4000000 in
theorem SEn1 (s : SysD) (m : MoveD)  : Fn Try.prog 42 [(0, .box (sysC s))] [.t (.agg ([.d (.raw (.int .i64 m.v)), .d (.raw (.bool m.any)), .d (.sl 3 (m.t.parts.map Part.d))] ++ zi m.t.k)), vp 0 0] (vb (there s m)) [(0, .box (sysC s))] := by
 refine Fn.body Try.func42 rfl 15 rfl fun w H B a h => ?_
 refine rSeq fam2ok 5 [] [(1, vp 0 0), (2, vp 5 0), (3, vb false)] [(0, .box (sysC s)), (5, .box ([.d (.raw (.int .i64 m.v)), .d (.raw (.bool m.any)), .d (.sl 3 (m.t.parts.map Part.d))] ++ zi m.t.k))] (by kernel_rfl) h ?_; clear h; intro a w h
 rcases Bool.eq_false_or_eq_true (decide (m.v ≥ 0)) with hc | hc
 ·have hc1 := hc; clear hc
  have hc1' := of_decide_eq_true hc1
  refine rSeq fam2ok 6 [(2, .cmp (op := .geq) (m := m.v) (n := 0) (b := true) .i64 hc1), (8, .len (c := (.d (.sl 1 (s.vars.map strD)))) (n := s.vars.length) (lenC_map _ _ _))] [(3, vb (decide (m.v < (s.vars.length : Int))))] [(0, .box (sysC s))] (by kernel_rfl) h ?_; clear h; intro a w h
  refine wp_ret ?_
  refine retS [.c (.d (.raw (.bool (decide (m.v < (s.vars.length : Int))))))] h Exit.ret (.inl rfl)  rfl ⟨RV.tmp _ _ rfl, trivial⟩ ?_ (by kernel_rfl) (by kernel_rfl)
  have hz : there s m = (decide (m.v < (s.vars.length : Int))) := by unfold there; rw [hc1]; rfl
  rw [hz]; first | done | rfl
 ·have hc2 := hc; clear hc
  have hc2' := of_decide_eq_false hc2
  refine rSeq fam2ok 6 [(2, .cmp (op := .geq) (m := m.v) (n := 0) (b := false) .i64 hc2)] [(3, vb false)] [(0, .box (sysC s))] (by kernel_rfl) h ?_; clear h; intro a w h
  refine wp_ret ?_
  refine retS [.c (.d (.raw (.bool false)))] h Exit.ret (.inl rfl)  rfl ⟨RV.tmp _ _ rfl, trivial⟩ ?_ (by kernel_rfl) (by kernel_rfl)
  have hz : there s m = (false) := by unfold there; rw [hc2]; rfl
  rw [hz]; first | done | rfl
set_option maxHeartbeats 4000000 in
theorem SEn2 (s : SysD) (m : MoveD)  : Fn Try.prog 44 [(3, .box [.fn (.func 42) [] [.ptr 0 0]]), (0, .box (sysC s))] [.t (.agg ([.d (.raw (.int .i64 m.v)), .d (.raw (.bool m.any)), .d (.sl 3 (m.t.parts.map Part.d))] ++ zi m.t.k)), vp 3 0] (vb (!there s m)) [(3, .box [.fn (.func 42) [] [.ptr 0 0]]), (0, .box (sysC s))] := by
 refine Fn.body Try.func44 rfl 8 rfl fun w H B a h => ?_
 refine rSeq fam2ok 5 [] [(1, vp 3 0), (2, vp 5 0), (3, vb false)] [(3, .box [.fn (.func 42) [] [.ptr 0 0]]), (0, .box (sysC s)), (5, .box ([.d (.raw (.int .i64 m.v)), .d (.raw (.bool m.any)), .d (.sl 3 (m.t.parts.map Part.d))] ++ zi m.t.k))] (by kernel_rfl) h ?_; clear h; intro a w h
 refine rSeq fam2ok 6 [(2, .gen _ _ _ fun _ _ _ _ => Op.callV (d := 6) (t := 4) (cap := [.ptr 0 0]) (args := [.t (.agg ([.d (.raw (.int .i64 m.v)), .d (.raw (.bool m.any)), .d (.sl 3 (m.t.parts.map Part.d))] ++ zi m.t.k))]) (rs := [(5, .t (.agg ([.d (.raw (.int .i64 m.v)), .d (.raw (.bool m.any)), .d (.sl 3 (m.t.parts.map Part.d))] ++ zi m.t.k)))]) (tys := #[51]) (SEn1 s m) kj_0 (OVs.cons (OV.tmp 5 _) (OVs.nil)))] [(3, vb (!(there s m)))] [(3, .box [.fn (.func 42) [] [.ptr 0 0]]), (0, .box (sysC s))] (by kernel_rfl) h ?_; clear h; intro a w h
 refine wp_ret ?_
 refine retS [.c (.d (.raw (.bool (!(there s m)))))] h Exit.ret (.inl rfl)  rfl ⟨RV.tmp _ _ rfl, trivial⟩ ?_ (by kernel_rfl) (by kernel_rfl)
 rfl
set_option maxHeartbeats 4000000 in
theorem SIdxEN (pr : MoveD → Bool) (xs : List MoveD) (s : SysD) (hf : ∀ x ∈ xs, Fn Try.prog 44 [(3, .box [.fn (.func 42) [] [.ptr 0 0]]), (0, .box (sysC s))] [.t (.agg ([.d (.raw (.int .i64 x.v)), .d (.raw (.bool x.any)), .d (.sl 3 (x.t.parts.map Part.d))] ++ zi x.t.k)), vp 3 0] (vb (pr x)) [(3, .box [.fn (.func 42) [] [.ptr 0 0]]), (0, .box (sysC s))]) (hl : xs.length ≤ 9223372036854775807) : Fn Try.prog 60 [(3, .box [.fn (.func 42) [] [.ptr 0 0]]), (0, .box (sysC s))] [.t (.c (.d (.sl 5 (xs.map MoveD.d)))), .t (.c (.fn (.func 44) [] [.ptr 3 0]))] (vi .i64 (idxB pr xs 0)) [(3, .box [.fn (.func 42) [] [.ptr 0 0]]), (0, .box (sysC s))] := by
 refine Fn.body Try.func60 rfl 19 rfl fun w H B a h => ?_
 refine rSeq fam2ok 5 [] [(0, .t (.c (.d (.sl 5 (xs.map MoveD.d))))), (1, .t (.c (.fn (.func 44) [] [.ptr 3 0]))), (4, vi .i64 0)] [(3, .box [.fn (.func 42) [] [.ptr 0 0]]), (0, .box (sysC s))] (by kernel_rfl) h ?_; clear h; intro a w h
 refine wp_seq ?_
 refine rSeq fam2ok 5 [(1, .len (c := (.d (.sl 5 (xs.map MoveD.d)))) (n := xs.length) (lenC_map _ _ _))] [(0, .t (.c (.d (.sl 5 (xs.map MoveD.d))))), (1, .t (.c (.fn (.func 44) [] [.ptr 3 0]))), (4, vi .i64 0), (7, vi .i64 (xs.length : Int)), (8, vi .i64 0)] [(3, .box [.fn (.func 42) [] [.ptr 0 0]]), (0, .box (sysC s))] (by kernel_rfl) h ?_; clear h; intro a w h
 refine wp_block ?_
 refine loopS (ι := (Nat)) (fun (z_ : (Nat)) => match z_ with | j => j ≤ xs.length ∧ idxB pr xs 0 = idxB pr (xs.drop j) j)
   (fun (z_ : (Nat)) => match z_ with | j => [(0, .t (.c (.d (.sl 5 (xs.map MoveD.d))))), (1, .t (.c (.fn (.func 44) [] [.ptr 3 0]))), (7, vi .i64 (xs.length : Int)), (8, vi .i64 (j : Int))])
   (fun (z_ : (Nat)) => match z_ with | j => [(3, .box [.fn (.func 42) [] [.ptr 0 0]]), (0, .box (sysC s))])
   (fun (z_ : (Nat)) => match z_ with | j => xs.length - j) 0 ?_ h (by kernel_rfl) (by kernel_rfl) ?_
 ·exact ⟨Nat.zero_le _, rfl⟩
 ·clear h; rintro j a w hI h
  change St _ (F.of [(0, .t (.c (.d (.sl 5 (xs.map MoveD.d))))), (1, .t (.c (.fn (.func 44) [] [.ptr 3 0]))), (7, vi .i64 (xs.length : Int)), (8, vi .i64 (j : Int))] [(3, .box [.fn (.func 42) [] [.ptr 0 0]]), (0, .box (sysC s))]) a w at h
  obtain ⟨hI1, hI2⟩ := hI
  refine rSeq fam2ok 5 [] [(0, .t (.c (.d (.sl 5 (xs.map MoveD.d))))), (1, .t (.c (.fn (.func 44) [] [.ptr 3 0]))), (7, vi .i64 (xs.length : Int)), (8, vi .i64 (j : Int)), (9, vb (decide ((j : Int) < (xs.length : Int))))] [(3, .box [.fn (.func 42) [] [.ptr 0 0]]), (0, .box (sysC s))] (by kernel_rfl) h ?_; clear h; intro a w h
  refine wp_seq ?_
  refine condS (decide ((j : Int) < (xs.length : Int))) h rfl (fun hc => ?_) (fun hc => ?_)
  ·have hc1 := hc; clear hc
   have hc1' := of_decide_eq_true hc1
   refine wp_skip ?_
   refine then_n ?_
   refine wp_seq ?_
   refine wp_block ?_
   refine rSeq fam2ok 5 [] [(0, .t (.c (.d (.sl 5 (xs.map MoveD.d))))), (1, .t (.c (.fn (.func 44) [] [.ptr 3 0]))), (5, vi .i64 (j : Int)), (7, vi .i64 (xs.length : Int)), (8, vi .i64 (j : Int))] [(3, .box [.fn (.func 42) [] [.ptr 0 0]]), (0, .box (sysC s))] (by kernel_rfl) h ?_; clear h; intro a w h
   obtain ⟨x1, hx1⟩ : ∃ z_ : MoveD, xs[j]? = some z_ := ⟨_, List.getElem?_eq_getElem (by first | omega | (simp at *; omega))⟩
   refine rSeq fam2ok 5 [(3, .gen _ _ _ fun _ _ _ _ => Op.idxD (d := 14) (t := 12) (k := .i64) ki_2 (map_at hx1 (f := MoveD.d)) (OV.tmp 13 _)), (5, .gen _ _ _ fun _ _ _ _ => Op.callV (d := 16) (t := 11) (cap := [.ptr 3 0]) (args := [.t (.agg ([.d (.raw (.int .i64 x1.v)), .d (.raw (.bool x1.any)), .d (.sl 3 (x1.t.parts.map Part.d))] ++ zi x1.t.k))]) (rs := [(15, .t (.agg ([.d (.raw (.int .i64 x1.v)), .d (.raw (.bool x1.any)), .d (.sl 3 (x1.t.parts.map Part.d))] ++ zi x1.t.k)))]) (tys := #[51]) (hf x1 (List.mem_of_getElem? hx1)) kj_2 (OVs.cons (OV.tmp 15 _) (OVs.nil)))] [(0, .t (.c (.d (.sl 5 (xs.map MoveD.d))))), (1, .t (.c (.fn (.func 44) [] [.ptr 3 0]))), (5, vi .i64 (j : Int)), (7, vi .i64 (xs.length : Int)), (8, vi .i64 (j : Int)), (16, vb (pr x1))] [(3, .box [.fn (.func 42) [] [.ptr 0 0]]), (0, .box (sysC s))] (by kernel_rfl) h ?_; clear h; intro a w h
   refine condS (pr x1) h rfl (fun hc => ?_) (fun hc => ?_)
   ·have hc2 := hc; clear hc
    refine rSeq fam2ok 5 [] [(0, .t (.c (.d (.sl 5 (xs.map MoveD.d))))), (1, .t (.c (.fn (.func 44) [] [.ptr 3 0]))), (4, vi .i64 (j : Int)), (7, vi .i64 (xs.length : Int)), (8, vi .i64 (j : Int))] [(3, .box [.fn (.func 42) [] [.ptr 0 0]]), (0, .box (sysC s))] (by kernel_rfl) h ?_; clear h; intro a w h
    refine wp_ret ?_
    refine block_r ?_
    refine then_r ?_
    refine then_r ?_
    refine block_r ?_
    refine then_r ?_
    refine retS [.c (.d (.raw (.int .i64 (j : Int))))] h Exit.ret (.inl rfl)  rfl ⟨RV.tmp _ _ rfl, trivial⟩ ?_ (by kernel_rfl) (by kernel_rfl)
    have hz : idxB pr xs 0 = (j : Int) := by rw [hI2, idxB_at hx1, if_pos hc2]
    rw [hz]; first | done | rfl
   ·have hc3 := hc; clear hc
    refine wp_skip ?_
    refine block_n ?_
    refine then_n ?_
    refine rS fam2ok 5 [(0, .add .i64 (m := (j : Int)) (n := 1) (i64_id (by omega) (by omega)))] [(0, .t (.c (.d (.sl 5 (xs.map MoveD.d))))), (1, .t (.c (.fn (.func 44) [] [.ptr 3 0]))), (7, vi .i64 (xs.length : Int)), (8, vi .i64 ((j : Int) + 1))] [(3, .box [.fn (.func 42) [] [.ptr 0 0]]), (0, .box (sysC s))] (by kernel_rfl) h ?_; clear h; intro a w h
    refine then_n ?_
    refine roundS (x := j) (y := j + 1) h ?_ ?_ (by kernel_rfl) (by kernel_rfl)
    ·exact ⟨by have := at_lt hx1; omega, by rw [hI2, idxB_at hx1, if_neg (by rw [hc3]; exact Bool.noConfusion)]⟩
    ·simp; omega
  ·have hc4 := hc; clear hc
   have hc4' := of_decide_eq_false hc4
   refine wp_exit ?_
   refine then_x ?_
   refine then_x ?_
   refine inBlock_exit ?_
   refine then_n ?_
   refine rSeq fam2ok 5 [] [(4, vi .i64 (-1))] [(3, .box [.fn (.func 42) [] [.ptr 0 0]]), (0, .box (sysC s))] (by kernel_rfl) h ?_; clear h; intro a w h
   refine wp_ret ?_
   refine retS [.c (.d (.raw (.int .i64 (-1))))] h Exit.ret (.inl rfl)  rfl ⟨RV.tmp _ _ rfl, trivial⟩ ?_ (by kernel_rfl) (by kernel_rfl)
   have hz : idxB pr xs 0 = -1 := by rw [hI2, List.drop_of_length_le (by omega)]; rfl
   rw [hz]; first | done | rfl
set_option maxHeartbeats 4000000 in
theorem SAnyEN (pr : MoveD → Bool) (xs : List MoveD) (s : SysD) (hf : ∀ x ∈ xs, Fn Try.prog 44 [(3, .box [.fn (.func 42) [] [.ptr 0 0]]), (0, .box (sysC s))] [.t (.agg ([.d (.raw (.int .i64 x.v)), .d (.raw (.bool x.any)), .d (.sl 3 (x.t.parts.map Part.d))] ++ zi x.t.k)), vp 3 0] (vb (pr x)) [(3, .box [.fn (.func 42) [] [.ptr 0 0]]), (0, .box (sysC s))]) (hl : xs.length ≤ 9223372036854775807) : Fn Try.prog 43 [(3, .box [.fn (.func 42) [] [.ptr 0 0]]), (0, .box (sysC s))] [.t (.c (.d (.sl 5 (xs.map MoveD.d)))), .t (.c (.fn (.func 44) [] [.ptr 3 0]))] (vb (xs.any pr)) [(3, .box [.fn (.func 42) [] [.ptr 0 0]]), (0, .box (sysC s))] := by
 refine Fn.body Try.func43 rfl 9 rfl fun w H B a h => ?_
 refine rSeq fam2ok 5 [] [(0, .t (.c (.d (.sl 5 (xs.map MoveD.d))))), (1, .t (.c (.fn (.func 44) [] [.ptr 3 0]))), (4, vb false)] [(3, .box [.fn (.func 42) [] [.ptr 0 0]]), (0, .box (sysC s))] (by kernel_rfl) h ?_; clear h; intro a w h
 refine rSeq fam2ok 5 [(2, .call (SIdxEN pr xs s hf  hl) ki_4)] [(4, vb (decide (idxB pr xs 0 ≥ 0)))] [(3, .box [.fn (.func 42) [] [.ptr 0 0]]), (0, .box (sysC s))] (by kernel_rfl) h ?_; clear h; intro a w h
 refine wp_ret ?_
 refine retS [.c (.d (.raw (.bool (decide (idxB pr xs 0 ≥ 0)))))] h Exit.ret (.inl rfl)  rfl ⟨RV.tmp _ _ rfl, trivial⟩ ?_ (by kernel_rfl) (by kernel_rfl)
 rw [← idxB_any]; first | done | rfl
set_option maxHeartbeats 4000000 in
theorem Senabled (s : SysD) (x : StD) (c : ActD) {L M : Nat} (hL : L + M ≤ 10000) (hs : SysOk L s) (hx : StOk M x) (hc : ActOk L c) : Fn Try.prog 23 [] [.t (.agg (sysC s)), .t (.agg [.d (.sl 1 (x.locs.map intD)), .d (.sl 2 (x.vals.map ziD))]), .t (.agg ([.d (.raw (.int .i64 c.proc)), .d (.raw (.int .i64 c.from_)), .d (.raw (.int .i64 c.to_)), .d (.raw (.int .i64 c.guard.kind)), .d (.sl 3 (c.guard.r.t.parts.map Part.d))] ++ zi c.guard.r.t.k ++ [.d (.raw (.bool c.guard.r.eq)), .d (.sl 6 (c.guard.kids.map FormD.d)), .d (.sl 5 (c.moves.map MoveD.d))]))] (vb (enabled s x c)) [] := by
 have lx1 := hx.locs
 have lx2 := hx.vals
 have ls1 := hs.vars
 have ls2 := hs.procs
 refine Fn.body Try.func23 rfl 67 rfl fun w H B a h => ?_
 refine rSeq fam2ok 0 [] [(3, vp 0 0), (4, vp 1 0), (5, vp 2 0), (6, vb false)] [(0, .box (sysC s)), (1, .box [.d (.sl 1 (x.locs.map intD)), .d (.sl 2 (x.vals.map ziD))]), (2, .box ([.d (.raw (.int .i64 c.proc)), .d (.raw (.int .i64 c.from_)), .d (.raw (.int .i64 c.to_)), .d (.raw (.int .i64 c.guard.kind)), .d (.sl 3 (c.guard.r.t.parts.map Part.d))] ++ zi c.guard.r.t.k ++ [.d (.raw (.bool c.guard.r.eq)), .d (.sl 6 (c.guard.kids.map FormD.d)), .d (.sl 5 (c.moves.map MoveD.d))]))] (by kernel_rfl) h ?_; clear h; intro a w h
 refine wp_seq ?_
 rcases Bool.eq_false_or_eq_true (fits s x) with hc | hc
 ·have hc1 := hc; clear hc
  rcases Bool.eq_false_or_eq_true (decide (c.proc < 0)) with hc | hc
  ·have hc2 := hc; clear hc
   have hc2' := of_decide_eq_true hc2
   refine rSeq fam2ok 3 [(2, .call (Fn.cast (SFits s x hL hs hx) (congrArg vb hc1)) kg_9), (7, .cmp (op := .lss) (m := c.proc) (n := 0) (b := true) .i64 hc2)] [(3, vp 0 0), (4, vp 1 0), (5, vp 2 0), (6, vb false), (53, vb true)] [(0, .box (sysC s)), (1, .box [.d (.sl 1 (x.locs.map intD)), .d (.sl 2 (x.vals.map ziD))]), (2, .box ([.d (.raw (.int .i64 c.proc)), .d (.raw (.int .i64 c.from_)), .d (.raw (.int .i64 c.to_)), .d (.raw (.int .i64 c.guard.kind)), .d (.sl 3 (c.guard.r.t.parts.map Part.d))] ++ zi c.guard.r.t.k ++ [.d (.raw (.bool c.guard.r.eq)), .d (.sl 6 (c.guard.kids.map FormD.d)), .d (.sl 5 (c.moves.map MoveD.d))]))] (by kernel_rfl) h ?_; clear h; intro a w h
   refine condS true h rfl (fun hc => ?_) (fun hc => ?_)
   ·clear hc
    refine rSeq fam2ok 3 [] [(3, vp 0 0), (4, vp 1 0), (5, vp 2 0), (6, vb false)] [(0, .box (sysC s)), (1, .box [.d (.sl 1 (x.locs.map intD)), .d (.sl 2 (x.vals.map ziD))]), (2, .box ([.d (.raw (.int .i64 c.proc)), .d (.raw (.int .i64 c.from_)), .d (.raw (.int .i64 c.to_)), .d (.raw (.int .i64 c.guard.kind)), .d (.sl 3 (c.guard.r.t.parts.map Part.d))] ++ zi c.guard.r.t.k ++ [.d (.raw (.bool c.guard.r.eq)), .d (.sl 6 (c.guard.kids.map FormD.d)), .d (.sl 5 (c.moves.map MoveD.d))]))] (by kernel_rfl) h ?_; clear h; intro a w h
    refine wp_ret ?_
    refine then_r ?_
    refine retS [.c (.d (.raw (.bool false)))] h Exit.ret (.inl rfl)  rfl ⟨RV.tmp _ _ rfl, trivial⟩ ?_ (by kernel_rfl) (by kernel_rfl)
    have hz : enabled s x c = (false) := by unfold enabled; rw [hc1, Bool.true_and]; rw [decide_eq_false (p := 0 ≤ c.proc ∧ c.proc < (s.procs.length : Int)) (by have := of_decide_eq_true hc2; omega)]; rfl
    rw [hz]; first | done | rfl
   ·cases hc
  ·have hc3 := hc; clear hc
   have hc3' := of_decide_eq_false hc3
   rcases Bool.eq_false_or_eq_true (decide (c.proc ≥ (s.procs.length : Int))) with hc | hc
   ·have hc4 := hc; clear hc
    have hc4' := of_decide_eq_true hc4
    refine rSeq fam2ok 3 [(2, .call (Fn.cast (SFits s x hL hs hx) (congrArg vb hc1)) kg_9), (7, .cmp (op := .lss) (m := c.proc) (n := 0) (b := false) .i64 hc3), (14, .len (c := (.d (.sl 3 (s.procs.map ProcD.d)))) (n := s.procs.length) (lenC_map _ _ _)), (15, .cmp (op := .geq) (m := c.proc) (n := (s.procs.length : Int)) (b := true) .i64 hc4)] [(3, vp 0 0), (4, vp 1 0), (5, vp 2 0), (6, vb false), (53, vb true)] [(0, .box (sysC s)), (1, .box [.d (.sl 1 (x.locs.map intD)), .d (.sl 2 (x.vals.map ziD))]), (2, .box ([.d (.raw (.int .i64 c.proc)), .d (.raw (.int .i64 c.from_)), .d (.raw (.int .i64 c.to_)), .d (.raw (.int .i64 c.guard.kind)), .d (.sl 3 (c.guard.r.t.parts.map Part.d))] ++ zi c.guard.r.t.k ++ [.d (.raw (.bool c.guard.r.eq)), .d (.sl 6 (c.guard.kids.map FormD.d)), .d (.sl 5 (c.moves.map MoveD.d))]))] (by kernel_rfl) h ?_; clear h; intro a w h
    refine condS true h rfl (fun hc => ?_) (fun hc => ?_)
    ·clear hc
     refine rSeq fam2ok 3 [] [(3, vp 0 0), (4, vp 1 0), (5, vp 2 0), (6, vb false)] [(0, .box (sysC s)), (1, .box [.d (.sl 1 (x.locs.map intD)), .d (.sl 2 (x.vals.map ziD))]), (2, .box ([.d (.raw (.int .i64 c.proc)), .d (.raw (.int .i64 c.from_)), .d (.raw (.int .i64 c.to_)), .d (.raw (.int .i64 c.guard.kind)), .d (.sl 3 (c.guard.r.t.parts.map Part.d))] ++ zi c.guard.r.t.k ++ [.d (.raw (.bool c.guard.r.eq)), .d (.sl 6 (c.guard.kids.map FormD.d)), .d (.sl 5 (c.moves.map MoveD.d))]))] (by kernel_rfl) h ?_; clear h; intro a w h
     refine wp_ret ?_
     refine then_r ?_
     refine retS [.c (.d (.raw (.bool false)))] h Exit.ret (.inl rfl)  rfl ⟨RV.tmp _ _ rfl, trivial⟩ ?_ (by kernel_rfl) (by kernel_rfl)
     have hz : enabled s x c = (false) := by unfold enabled; rw [hc1, Bool.true_and]; rw [decide_eq_false (p := 0 ≤ c.proc ∧ c.proc < (s.procs.length : Int)) (by have := of_decide_eq_true hc4; omega)]; rfl
     rw [hz]; first | done | rfl
    ·cases hc
   ·have hc5 := hc; clear hc
    have hc5' := of_decide_eq_false hc5
    have hfl := fits_len hc1
    obtain ⟨k, hkk⟩ : ∃ k_ : Nat, c.proc = (k_ : Int) := ⟨_, (Int.toNat_of_nonneg (by have := of_decide_eq_false hc3; omega)).symm⟩
    replace h := h.conv (f' := F.of [(3, vp 0 0), (4, vp 1 0), (5, vp 2 0), (6, vb false)] [(0, .box (sysC s)), (1, .box [.d (.sl 1 (x.locs.map intD)), .d (.sl 2 (x.vals.map ziD))]), (2, .box ([.d (.raw (.int .i64 (k : Int))), .d (.raw (.int .i64 c.from_)), .d (.raw (.int .i64 c.to_)), .d (.raw (.int .i64 c.guard.kind)), .d (.sl 3 (c.guard.r.t.parts.map Part.d))] ++ zi c.guard.r.t.k ++ [.d (.raw (.bool c.guard.r.eq)), .d (.sl 6 (c.guard.kids.map FormD.d)), .d (.sl 5 (c.moves.map MoveD.d))]))]) (by rw [hkk])
    obtain ⟨x7, hx7⟩ : ∃ z_ : Int, x.locs[k]? = some z_ := ⟨_, List.getElem?_eq_getElem (by first | omega | (simp at *; omega))⟩
    rcases Bool.eq_false_or_eq_true (x7 != c.from_) with hc | hc
    ·have hc6 := hc; clear hc
     have hc6' := hc6; (try simp at hc6')
     refine rSeq fam2ok 3 [(2, .call (Fn.cast (SFits s x hL hs hx) (congrArg vb hc1)) kg_9), (7, .cmp (op := .lss) (m := (k : Int)) (n := 0) (b := false) .i64 (show (decide ((k : Int) < 0)) = false from by rw [← hkk]; exact hc3)), (14, .len (c := (.d (.sl 3 (s.procs.map ProcD.d)))) (n := s.procs.length) (lenC_map _ _ _)), (15, .cmp (op := .geq) (m := (k : Int)) (n := (s.procs.length : Int)) (b := false) .i64 (show (decide ((k : Int) ≥ (s.procs.length : Int))) = false from by rw [← hkk]; exact hc5)), (22, .gen _ _ _ fun _ _ _ _ => Op.idxD (d := 30) (t := 27) (k := .i64) tb_1 (map_at hx7 (f := intD)) (OV.tmp 29 _)), (26, .cmp (op := .neq) (m := x7) (n := c.from_) (b := true) .i64 hc6)] [(3, vp 0 0), (4, vp 1 0), (5, vp 2 0), (6, vb false), (53, vb true)] [(0, .box (sysC s)), (1, .box [.d (.sl 1 (x.locs.map intD)), .d (.sl 2 (x.vals.map ziD))]), (2, .box ([.d (.raw (.int .i64 (k : Int))), .d (.raw (.int .i64 c.from_)), .d (.raw (.int .i64 c.to_)), .d (.raw (.int .i64 c.guard.kind)), .d (.sl 3 (c.guard.r.t.parts.map Part.d))] ++ zi c.guard.r.t.k ++ [.d (.raw (.bool c.guard.r.eq)), .d (.sl 6 (c.guard.kids.map FormD.d)), .d (.sl 5 (c.moves.map MoveD.d))]))] (by kernel_rfl) h ?_; clear h; intro a w h
     refine condS true h rfl (fun hc => ?_) (fun hc => ?_)
     ·clear hc
      refine rSeq fam2ok 3 [] [(3, vp 0 0), (4, vp 1 0), (5, vp 2 0), (6, vb false)] [(0, .box (sysC s)), (1, .box [.d (.sl 1 (x.locs.map intD)), .d (.sl 2 (x.vals.map ziD))]), (2, .box ([.d (.raw (.int .i64 (k : Int))), .d (.raw (.int .i64 c.from_)), .d (.raw (.int .i64 c.to_)), .d (.raw (.int .i64 c.guard.kind)), .d (.sl 3 (c.guard.r.t.parts.map Part.d))] ++ zi c.guard.r.t.k ++ [.d (.raw (.bool c.guard.r.eq)), .d (.sl 6 (c.guard.kids.map FormD.d)), .d (.sl 5 (c.moves.map MoveD.d))]))] (by kernel_rfl) h ?_; clear h; intro a w h
      refine wp_ret ?_
      refine then_r ?_
      refine retS [.c (.d (.raw (.bool false)))] h Exit.ret (.inl rfl)  rfl ⟨RV.tmp _ _ rfl, trivial⟩ ?_ (by kernel_rfl) (by kernel_rfl)
      have hz : enabled s x c = (false) := by unfold enabled; rw [hc1, Bool.true_and]; rw [decide_eq_true (p := 0 ≤ c.proc ∧ c.proc < (s.procs.length : Int)) (by have := of_decide_eq_false hc3; have := of_decide_eq_false hc5; omega), show c.proc.toNat = k by omega, hx7, Option.getD_some, Bool.true_and]; rw [show (x7 == c.from_) = false by have := hc6; simpa using this]; rfl
      rw [hz]; first | done | rfl
     ·cases hc
    ·have hc7 := hc; clear hc
     have hc7' := hc7; (try simp at hc7')
     rcases Bool.eq_false_or_eq_true (decide (c.to_ < 0)) with hc | hc
     ·have hc8 := hc; clear hc
      have hc8' := of_decide_eq_true hc8
      refine rSeq fam2ok 3 [(2, .call (Fn.cast (SFits s x hL hs hx) (congrArg vb hc1)) kg_9), (7, .cmp (op := .lss) (m := (k : Int)) (n := 0) (b := false) .i64 (show (decide ((k : Int) < 0)) = false from by rw [← hkk]; exact hc3)), (14, .len (c := (.d (.sl 3 (s.procs.map ProcD.d)))) (n := s.procs.length) (lenC_map _ _ _)), (15, .cmp (op := .geq) (m := (k : Int)) (n := (s.procs.length : Int)) (b := false) .i64 (show (decide ((k : Int) ≥ (s.procs.length : Int))) = false from by rw [← hkk]; exact hc5)), (22, .gen _ _ _ fun _ _ _ _ => Op.idxD (d := 30) (t := 27) (k := .i64) tb_1 (map_at hx7 (f := intD)) (OV.tmp 29 _)), (26, .cmp (op := .neq) (m := x7) (n := c.from_) (b := false) .i64 hc7), (31, .cmp (op := .lss) (m := c.to_) (n := 0) (b := true) .i64 hc8)] [(3, vp 0 0), (4, vp 1 0), (5, vp 2 0), (6, vb false), (53, vb true)] [(0, .box (sysC s)), (1, .box [.d (.sl 1 (x.locs.map intD)), .d (.sl 2 (x.vals.map ziD))]), (2, .box ([.d (.raw (.int .i64 (k : Int))), .d (.raw (.int .i64 c.from_)), .d (.raw (.int .i64 c.to_)), .d (.raw (.int .i64 c.guard.kind)), .d (.sl 3 (c.guard.r.t.parts.map Part.d))] ++ zi c.guard.r.t.k ++ [.d (.raw (.bool c.guard.r.eq)), .d (.sl 6 (c.guard.kids.map FormD.d)), .d (.sl 5 (c.moves.map MoveD.d))]))] (by kernel_rfl) h ?_; clear h; intro a w h
      refine condS true h rfl (fun hc => ?_) (fun hc => ?_)
      ·clear hc
       refine rSeq fam2ok 3 [] [(3, vp 0 0), (4, vp 1 0), (5, vp 2 0), (6, vb false)] [(0, .box (sysC s)), (1, .box [.d (.sl 1 (x.locs.map intD)), .d (.sl 2 (x.vals.map ziD))]), (2, .box ([.d (.raw (.int .i64 (k : Int))), .d (.raw (.int .i64 c.from_)), .d (.raw (.int .i64 c.to_)), .d (.raw (.int .i64 c.guard.kind)), .d (.sl 3 (c.guard.r.t.parts.map Part.d))] ++ zi c.guard.r.t.k ++ [.d (.raw (.bool c.guard.r.eq)), .d (.sl 6 (c.guard.kids.map FormD.d)), .d (.sl 5 (c.moves.map MoveD.d))]))] (by kernel_rfl) h ?_; clear h; intro a w h
       refine wp_ret ?_
       refine then_r ?_
       refine retS [.c (.d (.raw (.bool false)))] h Exit.ret (.inl rfl)  rfl ⟨RV.tmp _ _ rfl, trivial⟩ ?_ (by kernel_rfl) (by kernel_rfl)
       have hz : enabled s x c = (false) := by unfold enabled; rw [hc1, Bool.true_and]; rw [decide_eq_true (p := 0 ≤ c.proc ∧ c.proc < (s.procs.length : Int)) (by have := of_decide_eq_false hc3; have := of_decide_eq_false hc5; omega), show c.proc.toNat = k by omega, hx7, Option.getD_some, Bool.true_and]; rw [show (x7 == c.from_) = true by have := hc7; simpa using this, Bool.true_and]; rw [decide_eq_false (by have := of_decide_eq_true hc8; omega)]; rfl
       rw [hz]; first | done | rfl
      ·cases hc
     ·have hc9 := hc; clear hc
      have hc9' := of_decide_eq_false hc9
      obtain ⟨x12, hx12⟩ : ∃ z_ : ProcD, s.procs[k]? = some z_ := ⟨_, List.getElem?_eq_getElem (by first | omega | (simp at *; omega))⟩
      refine rSeq fam2ok 3 [(2, .call (Fn.cast (SFits s x hL hs hx) (congrArg vb hc1)) kg_9), (7, .cmp (op := .lss) (m := (k : Int)) (n := 0) (b := false) .i64 (show (decide ((k : Int) < 0)) = false from by rw [← hkk]; exact hc3)), (14, .len (c := (.d (.sl 3 (s.procs.map ProcD.d)))) (n := s.procs.length) (lenC_map _ _ _)), (15, .cmp (op := .geq) (m := (k : Int)) (n := (s.procs.length : Int)) (b := false) .i64 (show (decide ((k : Int) ≥ (s.procs.length : Int))) = false from by rw [← hkk]; exact hc5)), (22, .gen _ _ _ fun _ _ _ _ => Op.idxD (d := 30) (t := 27) (k := .i64) tb_1 (map_at hx7 (f := intD)) (OV.tmp 29 _)), (26, .cmp (op := .neq) (m := x7) (n := c.from_) (b := false) .i64 hc7), (31, .cmp (op := .lss) (m := c.to_) (n := 0) (b := false) .i64 hc9), (40, .gen _ _ _ fun _ _ _ _ => Op.idxD (d := 48) (t := 45) (k := .i64) kf_5 (map_at hx12 (f := ProcD.d)) (OV.tmp 47 _)), (43, .len (c := (.d (.sl 1 (x12.locs.map strD)))) (n := x12.locs.length) (lenC_map _ _ _))] [(3, vp 0 0), (4, vp 1 0), (5, vp 2 0), (6, vb false), (53, vb (decide (c.to_ ≥ (x12.locs.length : Int))))] [(0, .box (sysC s)), (1, .box [.d (.sl 1 (x.locs.map intD)), .d (.sl 2 (x.vals.map ziD))]), (2, .box ([.d (.raw (.int .i64 (k : Int))), .d (.raw (.int .i64 c.from_)), .d (.raw (.int .i64 c.to_)), .d (.raw (.int .i64 c.guard.kind)), .d (.sl 3 (c.guard.r.t.parts.map Part.d))] ++ zi c.guard.r.t.k ++ [.d (.raw (.bool c.guard.r.eq)), .d (.sl 6 (c.guard.kids.map FormD.d)), .d (.sl 5 (c.moves.map MoveD.d))]))] (by kernel_rfl) h ?_; clear h; intro a w h
      refine condS (decide (c.to_ ≥ (x12.locs.length : Int))) h rfl (fun hc => ?_) (fun hc => ?_)
      ·have hc10 := hc; clear hc
       have hc10' := of_decide_eq_true hc10
       refine rSeq fam2ok 3 [] [(3, vp 0 0), (4, vp 1 0), (5, vp 2 0), (6, vb false)] [(0, .box (sysC s)), (1, .box [.d (.sl 1 (x.locs.map intD)), .d (.sl 2 (x.vals.map ziD))]), (2, .box ([.d (.raw (.int .i64 (k : Int))), .d (.raw (.int .i64 c.from_)), .d (.raw (.int .i64 c.to_)), .d (.raw (.int .i64 c.guard.kind)), .d (.sl 3 (c.guard.r.t.parts.map Part.d))] ++ zi c.guard.r.t.k ++ [.d (.raw (.bool c.guard.r.eq)), .d (.sl 6 (c.guard.kids.map FormD.d)), .d (.sl 5 (c.moves.map MoveD.d))]))] (by kernel_rfl) h ?_; clear h; intro a w h
       refine wp_ret ?_
       refine then_r ?_
       refine retS [.c (.d (.raw (.bool false)))] h Exit.ret (.inl rfl)  rfl ⟨RV.tmp _ _ rfl, trivial⟩ ?_ (by kernel_rfl) (by kernel_rfl)
       have hz : enabled s x c = (false) := by unfold enabled; rw [hc1, Bool.true_and]; rw [decide_eq_true (p := 0 ≤ c.proc ∧ c.proc < (s.procs.length : Int)) (by have := of_decide_eq_false hc3; have := of_decide_eq_false hc5; omega), show c.proc.toNat = k by omega, hx7, Option.getD_some, Bool.true_and]; rw [show (x7 == c.from_) = true by have := hc7; simpa using this, Bool.true_and]; rw [show nlocs s k = x12.locs.length by unfold nlocs; rw [hx12]; rfl]; rw [decide_eq_false (by have := of_decide_eq_true hc10; omega)]; rfl
       rw [hz]; first | done | rfl
      ·have hc11 := hc; clear hc
       have hc11' := of_decide_eq_false hc11
       refine wp_skip ?_
       refine then_n ?_
       refine rSeq fam2ok 3 [(0, .gen _ _ _ fun _ _ _ _ => Op.makeFs (d := 54) (fn := .func 42) [(3, 0, 0)])] [(4, vp 1 0), (5, vp 2 0), (6, vb false), (7, vp 3 0)] [(0, .box (sysC s)), (1, .box [.d (.sl 1 (x.locs.map intD)), .d (.sl 2 (x.vals.map ziD))]), (2, .box ([.d (.raw (.int .i64 (k : Int))), .d (.raw (.int .i64 c.from_)), .d (.raw (.int .i64 c.to_)), .d (.raw (.int .i64 c.guard.kind)), .d (.sl 3 (c.guard.r.t.parts.map Part.d))] ++ zi c.guard.r.t.k ++ [.d (.raw (.bool c.guard.r.eq)), .d (.sl 6 (c.guard.kids.map FormD.d)), .d (.sl 5 (c.moves.map MoveD.d))])), (3, .box [.fn (.func 42) [] [.ptr 0 0]])] (by kernel_rfl) h ?_; clear h; intro a w h
       rcases Bool.eq_false_or_eq_true (c.moves.any fun m => !there s m) with hc | hc
       ·have hc12 := hc; clear hc
        refine rSeq fam2ok 4 [(2, .gen _ _ _ fun _ _ _ _ => Op.makeFs (d := 57) (fn := .func 44) [(7, 3, 0)]), (3, .call (Fn.cast (SAnyEN (fun m => !there s m) c.moves s (fun m _ => SEn2 s m) (by have := hc.len; omega)) (congrArg vb hc12)) kj_7)] [(6, vb false)] [] (by kernel_rfl) h ?_; clear h; intro a w h
        refine wp_ret ?_
        refine retS [.c (.d (.raw (.bool false)))] h Exit.ret (.inl rfl)  rfl ⟨RV.tmp _ _ rfl, trivial⟩ ?_ (by kernel_rfl) (by kernel_rfl)
        have hz : enabled s x c = (false) := by unfold enabled; rw [hc1, Bool.true_and]; rw [decide_eq_true (p := 0 ≤ c.proc ∧ c.proc < (s.procs.length : Int)) (by have := of_decide_eq_false hc3; have := of_decide_eq_false hc5; omega), show c.proc.toNat = k by omega, hx7, Option.getD_some, Bool.true_and]; rw [show (x7 == c.from_) = true by have := hc7; simpa using this, Bool.true_and]; rw [show nlocs s k = x12.locs.length by unfold nlocs; rw [hx12]; rfl]; rw [decide_eq_true (p := 0 ≤ c.to_ ∧ c.to_ < (x12.locs.length : Int)) (by have := of_decide_eq_false hc9; have := of_decide_eq_false hc11; omega), Bool.true_and, hc12]; rfl
        rw [hz]; first | done | rfl
       ·have hc13 := hc; clear hc
        refine rSeq fam2ok 4 [(2, .gen _ _ _ fun _ _ _ _ => Op.makeFs (d := 57) (fn := .func 44) [(7, 3, 0)]), (3, .call (Fn.cast (SAnyEN (fun m => !there s m) c.moves s (fun m _ => SEn2 s m) (by have := hc.len; omega)) (congrArg vb hc13)) kj_7), (10, .call (SHolds x.vals (L := L) (M := M) (by omega) hx.vok c.guard hc.guard.1 hc.guard.2) ke_4)] [(6, vb (FormD.holds x.vals c.guard))] [] (by kernel_rfl) h ?_; clear h; intro a w h
        refine wp_ret ?_
        refine retS [.c (.d (.raw (.bool (FormD.holds x.vals c.guard))))] h Exit.ret (.inl rfl)  rfl ⟨RV.tmp _ _ rfl, trivial⟩ ?_ (by kernel_rfl) (by kernel_rfl)
        have hz : enabled s x c = (FormD.holds x.vals c.guard) := by unfold enabled; rw [hc1, Bool.true_and]; rw [decide_eq_true (p := 0 ≤ c.proc ∧ c.proc < (s.procs.length : Int)) (by have := of_decide_eq_false hc3; have := of_decide_eq_false hc5; omega), show c.proc.toNat = k by omega, hx7, Option.getD_some, Bool.true_and]; rw [show (x7 == c.from_) = true by have := hc7; simpa using this, Bool.true_and]; rw [show nlocs s k = x12.locs.length by unfold nlocs; rw [hx12]; rfl]; rw [decide_eq_true (p := 0 ≤ c.to_ ∧ c.to_ < (x12.locs.length : Int)) (by have := of_decide_eq_false hc9; have := of_decide_eq_false hc11; omega), Bool.true_and, hc13]; rfl
        rw [hz]; first | done | rfl
 ·have hc14 := hc; clear hc
  refine rSeq fam2ok 4 [(2, .call (Fn.cast (SFits s x hL hs hx) (congrArg vb hc14)) kg_9)] [(3, vp 0 0), (4, vp 1 0), (5, vp 2 0), (6, vb false), (53, vb true)] [(0, .box (sysC s)), (1, .box [.d (.sl 1 (x.locs.map intD)), .d (.sl 2 (x.vals.map ziD))]), (2, .box ([.d (.raw (.int .i64 c.proc)), .d (.raw (.int .i64 c.from_)), .d (.raw (.int .i64 c.to_)), .d (.raw (.int .i64 c.guard.kind)), .d (.sl 3 (c.guard.r.t.parts.map Part.d))] ++ zi c.guard.r.t.k ++ [.d (.raw (.bool c.guard.r.eq)), .d (.sl 6 (c.guard.kids.map FormD.d)), .d (.sl 5 (c.moves.map MoveD.d))]))] (by kernel_rfl) h ?_; clear h; intro a w h
  refine condS true h rfl (fun hc => ?_) (fun hc => ?_)
  ·clear hc
   refine rSeq fam2ok 4 [] [(3, vp 0 0), (4, vp 1 0), (5, vp 2 0), (6, vb false)] [(0, .box (sysC s)), (1, .box [.d (.sl 1 (x.locs.map intD)), .d (.sl 2 (x.vals.map ziD))]), (2, .box ([.d (.raw (.int .i64 c.proc)), .d (.raw (.int .i64 c.from_)), .d (.raw (.int .i64 c.to_)), .d (.raw (.int .i64 c.guard.kind)), .d (.sl 3 (c.guard.r.t.parts.map Part.d))] ++ zi c.guard.r.t.k ++ [.d (.raw (.bool c.guard.r.eq)), .d (.sl 6 (c.guard.kids.map FormD.d)), .d (.sl 5 (c.moves.map MoveD.d))]))] (by kernel_rfl) h ?_; clear h; intro a w h
   refine wp_ret ?_
   refine then_r ?_
   refine retS [.c (.d (.raw (.bool false)))] h Exit.ret (.inl rfl)  rfl ⟨RV.tmp _ _ rfl, trivial⟩ ?_ (by kernel_rfl) (by kernel_rfl)
   have hz : enabled s x c = false := by unfold enabled; rw [hc14]; rfl
   rw [hz]; first | done | rfl
  ·cases hc
set_option maxHeartbeats 4000000 in
theorem SCloneI1 (xs : List Int) (hn : 0 < xs.length) (hl : xs.length ≤ 1000000) : Fn Try.prog 41 [] [.t (.c (.d (.sl 1 (xs.map intD))))] (.t (.c (.own 0 xs.length))) [(0, .row 3 1 (xs.map intD))] := by
 refine Fn.body Try.func41 rfl 8 rfl fun w H B a h => ?_
 refine rSeq fam2ok 1 [] [(0, .t (.c (.d (.sl 1 (xs.map intD))))), (2, .t (.c (.d (.raw nilV))))] [] (by kernel_rfl) h ?_; clear h; intro a w h
 refine wp_seq ?_
 refine rSeq fam2ok 1 [(1, .gen _ _ _ fun _ _ _ _ => Op.eqNilD (d := 4) (t := 3) (es := 1) (xt := 40) (yt := 40) (rows := xs.map intD) tb_1.hu ((by rw [List.length_map]; exact hn)) (OV.const nilV rfl))] [(0, .t (.c (.d (.sl 1 (xs.map intD))))), (2, .t (.c (.d (.raw nilV)))), (4, vb false)] [] (by kernel_rfl) h ?_; clear h; intro a w h
 refine condS false h rfl (fun hc => ?_) (fun hc => ?_)
 ·cases hc
 ·clear hc
  refine wp_skip ?_
  refine then_n ?_
  refine rSeq fam2ok 1 [(0, .gen _ _ _ fun _ _ _ _ => Op.buildE (d := 5) (n := 1) tb_0), (2, .gen _ _ _ fun _ _ _ _ => Op.appOD (d := 7) (t := 5) (u := 6) (n := 1) (n' := 2) (len := 0) (len' := xs.length) (rows := [].map intD) (rows2 := xs.map intD) (rows' := xs.map intD) tb_2 (by first | exact (List.length_map _).symm | simp) (by first | (rw [List.length_append, List.length_map]; done) | simp) (by simp) (by simp [intD]) (by first | omega | (simp at *; done) | (simp at *; omega)))] [(2, .t (.c (.own 2 xs.length)))] [(2, .row 3 1 (xs.map intD))] (by kernel_rfl) h ?_; clear h; intro a w h
  refine wp_ret ?_
  replace h := renS 2 0 [(2, .t (.c (.own 0 xs.length)))] [(0, .row 3 1 (xs.map intD))] h (by kernel_rfl) (by kernel_rfl) (by kernel_rfl)
  refine retS [.c (.own 0 xs.length)] h Exit.ret (.inl rfl)  rfl ⟨RV.tmp _ _ rfl, trivial⟩ ?_ (by kernel_rfl) (by kernel_rfl)
  rfl
set_option maxHeartbeats 4000000 in
theorem SCloneI2  : Fn Try.prog 41 [] [.t (.c (.d (.raw nilV)))] (.t (.c (.own 0 0))) [(0, .row 3 1 ([].map intD))] := by
 refine Fn.body Try.func41 rfl 8 rfl fun w H B a h => ?_
 refine rSeq fam2ok 1 [] [(0, .t (.c (.d (.raw nilV)))), (2, .t (.c (.d (.raw nilV))))] [] (by kernel_rfl) h ?_; clear h; intro a w h
 refine wp_seq ?_
 refine rSeq fam2ok 1 [(1, .gen _ _ _ fun _ _ _ _ => Op.eqNilR (d := 4) (xt := 40) (yt := 40) (ao := none) (n := 0) (c := 0) tb_1.hu (OV.tmp 3 _) (OV.const nilV rfl))] [(0, .t (.c (.d (.raw nilV)))), (2, .t (.c (.d (.raw nilV)))), (4, vb true)] [] (by kernel_rfl) h ?_; clear h; intro a w h
 refine condS true h rfl (fun hc => ?_) (fun hc => ?_)
 ·clear hc
  refine rSeq fam2ok 1 [] [(0, .t (.c (.d (.raw nilV)))), (2, .t (.c (.d (.raw nilV))))] [] (by kernel_rfl) h ?_; clear h; intro a w h
  refine wp_ret ?_
  refine then_r ?_
  replace h := nilOSs 2 0 1 1 3 (.t (.c (.d (.raw nilV)))) [(0, .t (.c (.d (.raw nilV)))), (2, .t (.c (.own 1 0)))] [(1, .row 3 1 ([].map intD))] h (by kernel_rfl) rfl rfl (by kernel_rfl) (by kernel_rfl)
  replace h := renS 1 0 [(0, .t (.c (.d (.raw nilV)))), (2, .t (.c (.own 0 0)))] [(0, .row 3 1 ([].map intD))] h (by kernel_rfl) (by kernel_rfl) (by kernel_rfl)
  refine retS [.c (.own 0 0)] h Exit.ret (.inl rfl)  rfl ⟨RV.tmp _ _ rfl, trivial⟩ ?_ (by kernel_rfl) (by kernel_rfl)
  rfl
 ·cases hc
set_option maxHeartbeats 4000000 in
theorem SCloneI3 (ao : Addr) (c : Nat) (hc : c ≤ maxLen) : Fn Try.prog 41 [] [.t (.c (.d (.raw (.slice (some ao) 0 c))))] (.t (.c (.own 0 0))) [(0, .row 3 1 ([].map intD))] := by
 refine Fn.body Try.func41 rfl 8 rfl fun w H B a h => ?_
 refine rSeq fam2ok 1 [] [(0, .t (.c (.d (.raw (.slice (some ao) 0 c))))), (2, .t (.c (.d (.raw nilV))))] [] (by kernel_rfl) h ?_; clear h; intro a w h
 refine wp_seq ?_
 refine rSeq fam2ok 1 [(1, .gen _ _ _ fun _ _ _ _ => Op.eqNilR (d := 4) (xt := 40) (yt := 40) (ao := some ao) (n := 0) (c := c) tb_1.hu (OV.tmp 3 _) (OV.const nilV rfl))] [(0, .t (.c (.d (.raw (.slice (some ao) 0 c))))), (2, .t (.c (.d (.raw nilV)))), (4, vb false)] [] (by kernel_rfl) h ?_; clear h; intro a w h
 refine condS false h rfl (fun hc => ?_) (fun hc => ?_)
 ·cases hc
 ·clear hc
  refine wp_skip ?_
  refine then_n ?_
  replace h := nilDSr 0 0 1 (.t (.c (.d (.raw (.slice (some ao) 0 c))))) (some ao) c (fun e => by cases e) hc [(0, .t (.c (.d (.sl 1 ([].map intD))))), (2, .t (.c (.d (.raw nilV)))), (4, vb false)] [] h rfl rfl (by kernel_rfl) (by kernel_rfl)
  refine rSeq fam2ok 1 [(0, .gen _ _ _ fun _ _ _ _ => Op.buildE (d := 5) (n := 1) tb_0), (2, .gen _ _ _ fun _ _ _ _ => Op.appOD (d := 7) (t := 5) (u := 6) (n := 1) (n' := 2) (len := 0) (len' := 0) (rows := [].map intD) (rows2 := [].map intD) (rows' := [].map intD) tb_2 (by first | exact (List.length_map _).symm | simp) (by first | (rw [List.length_append, List.length_map]; done) | simp) (by simp) (by simp [intD]) (by first | omega | (simp at *; done) | (simp at *; omega)))] [(2, .t (.c (.own 2 0)))] [(2, .row 3 1 ([].map intD))] (by kernel_rfl) h ?_; clear h; intro a w h
  refine wp_ret ?_
  replace h := renS 2 0 [(2, .t (.c (.own 0 0)))] [(0, .row 3 1 ([].map intD))] h (by kernel_rfl) (by kernel_rfl) (by kernel_rfl)
  refine retS [.c (.own 0 0)] h Exit.ret (.inl rfl)  rfl ⟨RV.tmp _ _ rfl, trivial⟩ ?_ (by kernel_rfl) (by kernel_rfl)
  rfl
theorem SCloneI (xs : List Int) (hl : xs.length ≤ 1000000) : Fn Try.prog 41 [] [.t (.c (.d (.sl 1 (xs.map intD))))] (.t (.c (.own 0 xs.length))) [(0, .row 3 1 (xs.map intD))] := by
 cases xs with
 | nil =>
  refine Fn.rawE fun ao c h1 h2 => ?_
  cases ao with
  | none => obtain rfl := h1 rfl; exact SCloneI2
  | some ao => exact SCloneI3 ao c h2
 | cons x xs => exact SCloneI1 (x :: xs) (by simp) hl
end Go.Proofs.Ytmohlifepfjmdaa.S
end
section
namespace Go.Proofs.Ytmohlifepfjmdaa.S
open Go.RowKit

theorem kk_0 : Bodied Try.prog 41 := Bodied.mk' (by kernel_rfl)
theorem kk_3 : ElZ Try.prog 41 28 2 := ElZ.mk' Try.underlying41 _ _ rfl rfl (by kernel_rfl) (by kernel_rfl) (by kernel_rfl) (by decide)
theorem kk_4 : ElT Try.prog 41 28 2 32 := ElT.mk' Try.underlying41 _ _ rfl rfl (by kernel_rfl) (by kernel_rfl) (by kernel_rfl) (by decide) (by decide)
theorem kk_5 : Sz Try.prog 43 2 true := Sz.mk' (by kernel_rfl) Try.underlying43 _ rfl
theorem kk_6 : Bodied Try.prog 22 := Bodied.mk' (by kernel_rfl)
theorem kk_7 : Bodied Try.prog 23 := Bodied.mk' (by kernel_rfl)
theorem kk_8 : Bodied Try.prog 24 := Bodied.mk' (by kernel_rfl)
theorem kk_12 : Bodied Try.prog 9 := Bodied.mk' (by kernel_rfl)
def clZ (z : ZI) : ZI := ZI.of z.val
def cloneS (x : StD) : StD := ⟨x.locs, x.vals.map clZ⟩
def st0 : StD := ⟨[], []⟩
def canAt (s : SysD) (x : StD) (c : ActD) (v : Nat) : Bool := if freeAt c v = true then !((bndAt s v).is_ && decide (cmpZ (bndAt s v).lo.val (bndAt s v).hi.val > 0)) else withinB (bndAt s v) (newAt x c v)
def canC (s : SysD) (x : StD) (c : ActD) : Bool := enabled s x c && allN s.vars.length (canAt s x c)
def can (s : SysD) (x : StD) (i : Int) : Bool := match actAt s i with | none => false | some c => canC s x c
def stuck (s : SysD) (x : StD) : Bool := allN s.acts.length (fun i => !can s x (i : Int)) && fits s x
def cntFree (c : ActD) : Nat → Nat
  | 0 => 0
  | v + 1 => cntFree c v + if freeAt c v = true then 1 else 0
def newV (x : StD) (c : ActD) (picks : List ZI) (v : Nat) : ZI := if freeAt c v = true then (match picks[cntFree c v]? with | some p => ZI.of p.val | none => zero0) else newAt x c v
def outS (s : SysD) (x : StD) (c : ActD) (picks : List ZI) : StD := ⟨x.locs.set c.proc.toNat c.to_, (List.range s.vars.length).map (newV x c picks)⟩
def goC (s : SysD) (x : StD) (c : ActD) (picks : List ZI) : StD × Bool := if enabled s x c = true ∧ fits s (outS s x c picks) = true then (outS s x c picks, true) else (st0, false)
def goS (s : SysD) (x : StD) (i : Int) (picks : List ZI) : StD × Bool := if i = -1 ∧ stuck s x = true then (cloneS x, true) else match actAt s i with | none => (st0, false) | some c => goC s x c picks
theorem cl_len {M : Nat} {z : ZI} (h : ZOk M z) : ZOk M (clZ z) := ⟨ZI.lb_of _, Nat.le_trans (len_id h.1) h.2⟩
theorem enabled_fits {s : SysD} {x : StD} {c : ActD} (h : enabled s x c = true) : fits s x = true := by unfold enabled at h; simp only [Bool.and_eq_true] at h; exact h.1.1
theorem enabled_proc {s : SysD} {x : StD} {c : ActD} (h : enabled s x c = true) : 0 ≤ c.proc ∧ c.proc < (s.procs.length : Int) := by unfold enabled at h; simp only [Bool.and_eq_true, decide_eq_true_eq] at h; exact h.1.2.1.1
theorem range_set {α : Type} {f : Nat → α} {cl : List α} {j : Nat} {y : α} (hj : j < cl.length) (hy : y = f j) : ((List.range j).map f ++ cl.drop j).set j y = (List.range (j + 1)).map f ++ cl.drop (j + 1) := by
 subst hy
 have hl : ((List.range j).map f).length = j := by simp
 rw [List.set_append_right _ _ (by omega), hl, Nat.sub_self, List.drop_eq_getElem_cons hj, List.set_cons_zero, List.range_succ, List.map_append, List.append_assoc]; rfl
theorem range_end {α : Type} {f : Nat → α} {cl : List α} {n : Nat} (hn : cl.length = n) : (List.range n).map f ++ cl.drop n = (List.range n).map f := by rw [List.drop_of_length_le (by omega), List.append_nil]
theorem range_len {α : Type} {f : Nat → α} {cl : List α} {j : Nat} (hj : j ≤ cl.length) : ((List.range j).map f ++ cl.drop j).length = cl.length := by rw [List.length_append, List.length_map, List.length_range, List.length_drop]; omega
theorem map_snoc {α β : Type} {f : α → β} {xs : List α} {j : Nat} {x : α} (h : xs[j]? = some x) : (xs.take j).map f ++ [f x] = (xs.take (j + 1)).map f := by rw [List.take_add_one, h, List.map_append]; rfl
set_option maxHeartbeats 4000000 in
theorem Sclone (x : StD) {M : Nat} (hM : M ≤ 40000) (hx : StOk M x) : Fn Try.prog 21 [] [.t (.agg [.d (.sl 1 (x.locs.map intD)), .d (.sl 2 (x.vals.map ziD))])] (.t (.agg [.own 0 x.locs.length, .own 1 (x.vals.map clZ).length])) [(0, .row 3 1 (x.locs.map intD)), (1, .row 28 2 ((x.vals.map clZ).map ziD))] := by
 have lx1 := hx.locs
 have lx2 := hx.vals
 refine Fn.body Try.func21 rfl 29 rfl fun w H B a h => ?_
 refine rSeq fam0ok 5 [] [(1, vp 5 0), (2, vp 6 0)] [(5, .box [.d (.sl 1 (x.locs.map intD)), .d (.sl 2 (x.vals.map ziD))]), (6, .box [.d (.raw nilV), .d (.raw nilV)])] (by kernel_rfl) h ?_; clear h; intro a w h
 refine rSeq fam0ok 7 [(2, .call (SCloneI x.locs (by omega)) kk_0)] [(1, vp 5 0), (2, vp 6 0), (3, vp 7 0)] [(5, .box [.d (.sl 1 (x.locs.map intD)), .d (.sl 2 (x.vals.map ziD))]), (6, .box [.d (.raw nilV), .d (.raw nilV)]), (0, .row 3 1 (x.locs.map intD)), (7, .box [.own 0 x.locs.length, .d (.raw nilV)])] (by kernel_rfl) h ?_; clear h; intro a w h
 refine wp_seq ?_
 replace h := nilOLs 7 1 8 2 28 [.own 0 x.locs.length, .d (.raw nilV)] [(1, vp 5 0), (2, vp 6 0), (3, vp 7 0)] [(5, .box [.d (.sl 1 (x.locs.map intD)), .d (.sl 2 (x.vals.map ziD))]), (6, .box [.d (.raw nilV), .d (.raw nilV)]), (0, .row 3 1 (x.locs.map intD)), (7, .box [.own 0 x.locs.length, .own 8 0]), (8, .row 28 2 ([].map ziD))] h (by kernel_rfl) rfl rfl (by kernel_rfl) (by kernel_rfl)
 refine rSeq fam0ok 9 [(2, .len (c := (.d (.sl 2 (x.vals.map ziD)))) (n := x.vals.length) (lenC_map _ _ _))] [(2, vp 6 0), (3, vp 7 0), (11, .t (.c (.d (.sl 2 (x.vals.map ziD))))), (12, vi .i64 (x.vals.length : Int)), (13, vi .i64 0)] [(6, .box [.d (.raw nilV), .d (.raw nilV)]), (0, .row 3 1 (x.locs.map intD)), (7, .box [.own 0 x.locs.length, .own 8 0]), (8, .row 28 2 ([].map ziD))] (by kernel_rfl) h ?_; clear h; intro a w h
 refine wp_block ?_
 refine loopS (ι := (Nat)) (fun (z_ : (Nat)) => match z_ with | j => j ≤ x.vals.length)
   (fun (z_ : (Nat)) => match z_ with | j => [(2, vp 6 0), (3, vp 7 0), (11, .t (.c (.d (.sl 2 (x.vals.map ziD))))), (12, vi .i64 (x.vals.length : Int)), (13, vi .i64 (j : Int))])
   (fun (z_ : (Nat)) => match z_ with | j => [(6, .box [.d (.raw nilV), .d (.raw nilV)]), (0, .row 3 1 (x.locs.map intD)), (7, .box [.own 0 x.locs.length, .own 8 ((x.vals.take j).map clZ).length]), (8, .row 28 2 (((x.vals.take j).map clZ).map ziD))])
   (fun (z_ : (Nat)) => match z_ with | j => x.vals.length - j) 0 ?_ h (by kernel_rfl) (by kernel_rfl) ?_
 ·exact Nat.zero_le _
 ·clear h; rintro j a w hI h
  change St _ (F.of [(2, vp 6 0), (3, vp 7 0), (11, .t (.c (.d (.sl 2 (x.vals.map ziD))))), (12, vi .i64 (x.vals.length : Int)), (13, vi .i64 (j : Int))] [(6, .box [.d (.raw nilV), .d (.raw nilV)]), (0, .row 3 1 (x.locs.map intD)), (7, .box [.own 0 x.locs.length, .own 8 ((x.vals.take j).map clZ).length]), (8, .row 28 2 (((x.vals.take j).map clZ).map ziD))]) a w at h
  refine rSeq fam0ok 9 [] [(2, vp 6 0), (3, vp 7 0), (11, .t (.c (.d (.sl 2 (x.vals.map ziD))))), (12, vi .i64 (x.vals.length : Int)), (13, vi .i64 (j : Int)), (14, vb (decide ((j : Int) < (x.vals.length : Int))))] [(6, .box [.d (.raw nilV), .d (.raw nilV)]), (0, .row 3 1 (x.locs.map intD)), (7, .box [.own 0 x.locs.length, .own 8 ((x.vals.take j).map clZ).length]), (8, .row 28 2 (((x.vals.take j).map clZ).map ziD))] (by kernel_rfl) h ?_; clear h; intro a w h
  refine wp_seq ?_
  refine condS (decide ((j : Int) < (x.vals.length : Int))) h rfl (fun hc => ?_) (fun hc => ?_)
  ·have hc1 := hc; clear hc
   have hc1' := of_decide_eq_true hc1
   refine wp_skip ?_
   refine then_n ?_
   refine wp_seq ?_
   refine wp_block ?_
   obtain ⟨x2, hx2⟩ : ∃ z_ : ZI, x.vals[j]? = some z_ := ⟨_, List.getElem?_eq_getElem (by first | omega | (simp at *; omega))⟩
   have gx2 := hx.val x2 (List.mem_of_getElem? hx2)
   have lgx2 := gx2.2
   refine rSeq fam0ok 9 [(0, .gen _ _ _ fun _ _ _ _ => Op.idxD (d := 15) (t := 11) (k := .i64) tt_6 (map_at hx2 (f := ziD)) (OV.tmp 13 _))] [(2, vp 6 0), (3, vp 7 0), (5, vp 9 0), (11, .t (.c (.d (.sl 2 (x.vals.map ziD))))), (12, vi .i64 (x.vals.length : Int)), (13, vi .i64 (j : Int))] [(6, .box [.d (.raw nilV), .d (.raw nilV)]), (0, .row 3 1 (x.locs.map intD)), (7, .box [.own 0 x.locs.length, .own 8 ((x.vals.take j).map clZ).length]), (8, .row 28 2 (((x.vals.take j).map clZ).map ziD)), (9, .box (zi x2))] (by kernel_rfl) h ?_; clear h; intro a w h
   obtain ⟨r3, er3, vr3, or3, lr3⟩ := mkZ (v := x2.val) (m := M) (Nat.le_trans (len_id gx2.1) gx2.2)
   refine rS fam0ok 10 [(6, .call (Fn.cast ((show Fn _ _ _ _ (vz (ZI.of x2.val)) _ from SFrom x2.neg x2.abs gx2.1 (by omega))) (congrArg vz er3.symm)) ia_3), (7, .gen _ _ _ fun _ _ _ _ => Op.buildD (d := 24) (len := 1) (rows := [r3].map ziD) (rs := [(23, vz r3)]) kk_3 (.cons (i := 0) (OV.tmp 23 _) (.nil)) (by kernel_rfl) rfl (by simp [ziD]) (by decide) (by decide)), (8, .gen _ _ _ fun _ _ _ _ => Op.appOD (d := 25) (t := 18) (u := 24) (n := 8) (n' := 10) (len := ((x.vals.take j).map clZ).length) (len' := (((x.vals.take j).map clZ) ++ [r3]).length) (rows := ((x.vals.take j).map clZ).map ziD) (rows2 := [r3].map ziD) (rows' := (((x.vals.take j).map clZ) ++ [r3]).map ziD) kk_4 (by first | exact (List.length_map _).symm | simp) (by first | (rw [List.length_append, List.length_map]; done) | simp) (by simp) (by simp [ziD]) (by first | omega | (simp at *; done) | (simp at *; omega)))] [(2, vp 6 0), (3, vp 7 0), (11, .t (.c (.d (.sl 2 (x.vals.map ziD))))), (12, vi .i64 (x.vals.length : Int)), (13, vi .i64 (j : Int))] [(6, .box [.d (.raw nilV), .d (.raw nilV)]), (0, .row 3 1 (x.locs.map intD)), (7, .box ([.own 0 x.locs.length, .own 10 (((x.vals.take j).map clZ) ++ [r3]).length])), (10, .row 28 2 ((((x.vals.take j).map clZ) ++ [r3]).map ziD))] (by kernel_rfl) h ?_; clear h; intro a w h
   refine block_n ?_
   refine then_n ?_
   refine rS fam0ok 11 [(0, .add .i64 (m := (j : Int)) (n := 1) (i64_id (by omega) (by omega)))] [(2, vp 6 0), (3, vp 7 0), (11, .t (.c (.d (.sl 2 (x.vals.map ziD))))), (12, vi .i64 (x.vals.length : Int)), (13, vi .i64 ((j : Int) + 1))] [(6, .box [.d (.raw nilV), .d (.raw nilV)]), (0, .row 3 1 (x.locs.map intD)), (7, .box ([.own 0 x.locs.length, .own 10 (((x.vals.take j).map clZ) ++ [r3]).length])), (10, .row 28 2 ((((x.vals.take j).map clZ) ++ [r3]).map ziD))] (by kernel_rfl) h ?_; clear h; intro a w h
   refine then_n ?_
   replace h := h.conv (f' := F.of [(2, vp 6 0), (3, vp 7 0), (11, .t (.c (.d (.sl 2 (x.vals.map ziD))))), (12, vi .i64 (x.vals.length : Int)), (13, vi .i64 ((j : Int) + 1))] [(6, .box [.d (.raw nilV), .d (.raw nilV)]), (0, .row 3 1 (x.locs.map intD)), (7, .box [.own 0 x.locs.length, .own 10 ((x.vals.take (j + 1)).map clZ).length]), (10, .row 28 2 (((x.vals.take (j + 1)).map clZ).map ziD))]) (congrArg (fun (z_ : List ZI) => F.of [(2, vp 6 0), (3, vp 7 0), (11, .t (.c (.d (.sl 2 (x.vals.map ziD))))), (12, vi .i64 (x.vals.length : Int)), (13, vi .i64 ((j : Int) + 1))] [(6, .box [.d (.raw nilV), .d (.raw nilV)]), (0, .row 3 1 (x.locs.map intD)), (7, .box [.own 0 x.locs.length, .own 10 z_.length]), (10, .row 28 2 (z_.map ziD))]) (show ((((x.vals.take j).map clZ) ++ [r3]) : List ZI) = ((x.vals.take (j + 1)).map clZ) from (by rw [← map_snoc hx2]; congr 1; simp [clZ, *])))
   replace h := renS 10 8 [(2, vp 6 0), (3, vp 7 0), (11, .t (.c (.d (.sl 2 (x.vals.map ziD))))), (12, vi .i64 (x.vals.length : Int)), (13, vi .i64 ((j : Int) + 1))] [(6, .box [.d (.raw nilV), .d (.raw nilV)]), (0, .row 3 1 (x.locs.map intD)), (7, .box [.own 0 x.locs.length, .own 8 ((x.vals.take (j + 1)).map clZ).length]), (8, .row 28 2 (((x.vals.take (j + 1)).map clZ).map ziD))] h (by kernel_rfl) (by kernel_rfl) (by kernel_rfl)
   refine roundS (x := j) (y := j + 1) h ?_ ?_ (by kernel_rfl) (by kernel_rfl)
   ·have := at_lt hx2
    show j + 1 ≤ x.vals.length
    omega
   ·show x.vals.length - (j + 1) < x.vals.length - j
    have := at_lt hx2; omega
  ·have hc2 := hc; clear hc
   have hc2' := of_decide_eq_false hc2
   refine wp_exit ?_
   refine then_x ?_
   refine then_x ?_
   refine inBlock_exit ?_
   refine then_n ?_
   refine rSeq fam0ok 11 [] [(2, vp 6 0)] [(6, .box [.own 0 x.locs.length, .own 8 ((x.vals.take j).map clZ).length]), (0, .row 3 1 (x.locs.map intD)), (8, .row 28 2 (((x.vals.take j).map clZ).map ziD))] (by kernel_rfl) h ?_; clear h; intro a w h
   refine wp_ret ?_
   replace h := h.conv (f' := F.of [(2, vp 6 0)] [(6, .box [.own 0 x.locs.length, .own 8 (x.vals.map clZ).length]), (0, .row 3 1 (x.locs.map intD)), (8, .row 28 2 ((x.vals.map clZ).map ziD))]) (congrArg (fun (z_ : List ZI) => F.of [(2, vp 6 0)] [(6, .box [.own 0 x.locs.length, .own 8 z_.length]), (0, .row 3 1 (x.locs.map intD)), (8, .row 28 2 (z_.map ziD))]) (show (((x.vals.take j).map clZ) : List ZI) = (x.vals.map clZ) from (by rw [List.take_of_length_le (by omega)])))
   replace h := renS 8 1 [(2, vp 6 0)] [(6, .box [.own 0 x.locs.length, .own 1 (x.vals.map clZ).length]), (0, .row 3 1 (x.locs.map intD)), (1, .row 28 2 ((x.vals.map clZ).map ziD))] h (by kernel_rfl) (by kernel_rfl) (by kernel_rfl)
   refine retS [.agg [.own 0 x.locs.length, .own 1 (x.vals.map clZ).length]] h Exit.ret (.inl rfl)  rfl ⟨RV.agg _ 6 0 _ _ _ _ kk_5 rfl rfl rfl rfl, trivial⟩ ?_ (by kernel_rfl) (by kernel_rfl)
   rfl
set_option maxHeartbeats 4000000 in
theorem SCanN (s : SysD) (x : StD) (i : Int) {L M : Nat} (_hL : L + M ≤ 4000) (_hs : SysOk L s) (_hx : StOk M x) (hi : actAt s i = none) : Fn Try.prog 9 [] [.t (.agg (sysC s)), .t (.agg [.d (.sl 1 (x.locs.map intD)), .d (.sl 2 (x.vals.map ziD))]), vi .i64 i] (vb (can s x i)) [] := by
 refine Fn.body Try.func9 rfl 67 rfl fun w H B a h => ?_
 refine rSeq fam0ok 0 [] [(2, vi .i64 i), (3, vp 0 0), (4, vp 1 0), (6, vb false)] [(0, .box (sysC s)), (1, .box [.d (.sl 1 (x.locs.map intD)), .d (.sl 2 (x.vals.map ziD))])] (by kernel_rfl) h ?_; clear h; intro a w h
 refine rSeq fam0ok 2 [(2, .call (SactN s i hi) kk_6)] [(3, vp 0 0), (4, vp 1 0), (6, vb false), (7, vp 2 0), (8, vb false)] [(0, .box (sysC s)), (1, .box [.d (.sl 1 (x.locs.map intD)), .d (.sl 2 (x.vals.map ziD))]), (2, .box ([.d (.raw (.int .i64 act0.proc)), .d (.raw (.int .i64 act0.from_)), .d (.raw (.int .i64 act0.to_)), .d (.raw (.int .i64 act0.guard.kind)), .d (.sl 3 (act0.guard.r.t.parts.map Part.d))] ++ zi act0.guard.r.t.k ++ [.d (.raw (.bool act0.guard.r.eq)), .d (.sl 6 (act0.guard.kids.map FormD.d)), .d (.sl 5 (act0.moves.map MoveD.d))]))] (by kernel_rfl) h ?_; clear h; intro a w h
 refine wp_seq ?_
 refine rSeq fam0ok 3 [] [(3, vp 0 0), (4, vp 1 0), (6, vb false), (7, vp 2 0), (27, vb true)] [(0, .box (sysC s)), (1, .box [.d (.sl 1 (x.locs.map intD)), .d (.sl 2 (x.vals.map ziD))]), (2, .box ([.d (.raw (.int .i64 act0.proc)), .d (.raw (.int .i64 act0.from_)), .d (.raw (.int .i64 act0.to_)), .d (.raw (.int .i64 act0.guard.kind)), .d (.sl 3 (act0.guard.r.t.parts.map Part.d))] ++ zi act0.guard.r.t.k ++ [.d (.raw (.bool act0.guard.r.eq)), .d (.sl 6 (act0.guard.kids.map FormD.d)), .d (.sl 5 (act0.moves.map MoveD.d))]))] (by kernel_rfl) h ?_; clear h; intro a w h
 refine condS true h rfl (fun hc => ?_) (fun hc => ?_)
 ·clear hc
  refine rSeq fam0ok 3 [] [(3, vp 0 0), (4, vp 1 0), (6, vb false), (7, vp 2 0)] [(0, .box (sysC s)), (1, .box [.d (.sl 1 (x.locs.map intD)), .d (.sl 2 (x.vals.map ziD))]), (2, .box ([.d (.raw (.int .i64 act0.proc)), .d (.raw (.int .i64 act0.from_)), .d (.raw (.int .i64 act0.to_)), .d (.raw (.int .i64 act0.guard.kind)), .d (.sl 3 (act0.guard.r.t.parts.map Part.d))] ++ zi act0.guard.r.t.k ++ [.d (.raw (.bool act0.guard.r.eq)), .d (.sl 6 (act0.guard.kids.map FormD.d)), .d (.sl 5 (act0.moves.map MoveD.d))]))] (by kernel_rfl) h ?_; clear h; intro a w h
  refine wp_ret ?_
  refine then_r ?_
  refine retS [.c (.d (.raw (.bool false)))] h Exit.ret (.inl rfl)  rfl ⟨RV.tmp _ _ rfl, trivial⟩ ?_ (by kernel_rfl) (by kernel_rfl)
  unfold can; rw [hi]; first | done | rfl
 ·cases hc
set_option maxHeartbeats 4000000 in
theorem SCanS (s : SysD) (x : StD) (i : Int) (c : ActD) {L M : Nat} (hL : L + M ≤ 4000) (hs : SysOk L s) (hx : StOk M x) (hi : actAt s i = some c) : Fn Try.prog 9 [] [.t (.agg (sysC s)), .t (.agg [.d (.sl 1 (x.locs.map intD)), .d (.sl 2 (x.vals.map ziD))]), vi .i64 i] (vb (can s x i)) [] := by
 have lx1 := hx.locs
 have lx2 := hx.vals
 have ls1 := hs.vars
 have ls2 := hs.procs
 have hc : ActOk L c := act_ok hs hi
 refine Fn.body Try.func9 rfl 67 rfl fun w H B a h => ?_
 refine rSeq fam0ok 0 [] [(2, vi .i64 i), (3, vp 0 0), (4, vp 1 0), (6, vb false)] [(0, .box (sysC s)), (1, .box [.d (.sl 1 (x.locs.map intD)), .d (.sl 2 (x.vals.map ziD))])] (by kernel_rfl) h ?_; clear h; intro a w h
 refine rSeq fam0ok 2 [(2, .call (SactS s i c hi) kk_6)] [(3, vp 0 0), (4, vp 1 0), (6, vb false), (7, vp 2 0), (8, vb true)] [(0, .box (sysC s)), (1, .box [.d (.sl 1 (x.locs.map intD)), .d (.sl 2 (x.vals.map ziD))]), (2, .box ([.d (.raw (.int .i64 c.proc)), .d (.raw (.int .i64 c.from_)), .d (.raw (.int .i64 c.to_)), .d (.raw (.int .i64 c.guard.kind)), .d (.sl 3 (c.guard.r.t.parts.map Part.d))] ++ zi c.guard.r.t.k ++ [.d (.raw (.bool c.guard.r.eq)), .d (.sl 6 (c.guard.kids.map FormD.d)), .d (.sl 5 (c.moves.map MoveD.d))]))] (by kernel_rfl) h ?_; clear h; intro a w h
 refine wp_seq ?_
 refine rSeq fam0ok 3 [(6, .call (Senabled s x c (L := L) (M := M) (by omega) hs hx hc) kk_7)] [(3, vp 0 0), (4, vp 1 0), (6, vb false), (7, vp 2 0), (27, vb (!(enabled s x c)))] [(0, .box (sysC s)), (1, .box [.d (.sl 1 (x.locs.map intD)), .d (.sl 2 (x.vals.map ziD))]), (2, .box ([.d (.raw (.int .i64 c.proc)), .d (.raw (.int .i64 c.from_)), .d (.raw (.int .i64 c.to_)), .d (.raw (.int .i64 c.guard.kind)), .d (.sl 3 (c.guard.r.t.parts.map Part.d))] ++ zi c.guard.r.t.k ++ [.d (.raw (.bool c.guard.r.eq)), .d (.sl 6 (c.guard.kids.map FormD.d)), .d (.sl 5 (c.moves.map MoveD.d))]))] (by kernel_rfl) h ?_; clear h; intro a w h
 refine condS (!(enabled s x c)) h rfl (fun hc => ?_) (fun hc => ?_)
 ·have hc1 := hc; clear hc
  have hc1' := hc1; (try simp at hc1')
  refine rSeq fam0ok 3 [] [(3, vp 0 0), (4, vp 1 0), (6, vb false), (7, vp 2 0)] [(0, .box (sysC s)), (1, .box [.d (.sl 1 (x.locs.map intD)), .d (.sl 2 (x.vals.map ziD))]), (2, .box ([.d (.raw (.int .i64 c.proc)), .d (.raw (.int .i64 c.from_)), .d (.raw (.int .i64 c.to_)), .d (.raw (.int .i64 c.guard.kind)), .d (.sl 3 (c.guard.r.t.parts.map Part.d))] ++ zi c.guard.r.t.k ++ [.d (.raw (.bool c.guard.r.eq)), .d (.sl 6 (c.guard.kids.map FormD.d)), .d (.sl 5 (c.moves.map MoveD.d))]))] (by kernel_rfl) h ?_; clear h; intro a w h
  refine wp_ret ?_
  refine then_r ?_
  refine retS [.c (.d (.raw (.bool false)))] h Exit.ret (.inl rfl)  rfl ⟨RV.tmp _ _ rfl, trivial⟩ ?_ (by kernel_rfl) (by kernel_rfl)
  have hz : can s x i = false := by unfold can; rw [hi]; show canC s x c = _; unfold canC; rw [(show (enabled s x c) = false from by simpa using hc1), Bool.false_and]
  rw [hz]; first | done | rfl
 ·have hc2 := hc; clear hc
  have hc2' := hc2; (try simp at hc2')
  refine wp_skip ?_
  refine then_n ?_
  refine wp_seq ?_
  have hen := (show (enabled s x c) = true from by simpa using hc2)
  refine rSeq fam0ok 3 [(2, .len (c := (.d (.sl 1 (s.vars.map strD)))) (n := s.vars.length) (lenC_map _ _ _))] [(3, vp 0 0), (4, vp 1 0), (6, vb false), (7, vp 2 0), (30, vi .i64 (s.vars.length : Int)), (31, vi .i64 0)] [(0, .box (sysC s)), (1, .box [.d (.sl 1 (x.locs.map intD)), .d (.sl 2 (x.vals.map ziD))]), (2, .box ([.d (.raw (.int .i64 c.proc)), .d (.raw (.int .i64 c.from_)), .d (.raw (.int .i64 c.to_)), .d (.raw (.int .i64 c.guard.kind)), .d (.sl 3 (c.guard.r.t.parts.map Part.d))] ++ zi c.guard.r.t.k ++ [.d (.raw (.bool c.guard.r.eq)), .d (.sl 6 (c.guard.kids.map FormD.d)), .d (.sl 5 (c.moves.map MoveD.d))]))] (by kernel_rfl) h ?_; clear h; intro a w h
  refine wp_block ?_
  refine loopS (ι := (Nat)) (fun (z_ : (Nat)) => match z_ with | j => j ≤ s.vars.length ∧ allN j (canAt s x c) = true)
    (fun (z_ : (Nat)) => match z_ with | j => [(3, vp 0 0), (4, vp 1 0), (7, vp 2 0), (30, vi .i64 (s.vars.length : Int)), (31, vi .i64 (j : Int))])
    (fun (z_ : (Nat)) => match z_ with | j => [(0, .box (sysC s)), (1, .box [.d (.sl 1 (x.locs.map intD)), .d (.sl 2 (x.vals.map ziD))]), (2, .box ([.d (.raw (.int .i64 c.proc)), .d (.raw (.int .i64 c.from_)), .d (.raw (.int .i64 c.to_)), .d (.raw (.int .i64 c.guard.kind)), .d (.sl 3 (c.guard.r.t.parts.map Part.d))] ++ zi c.guard.r.t.k ++ [.d (.raw (.bool c.guard.r.eq)), .d (.sl 6 (c.guard.kids.map FormD.d)), .d (.sl 5 (c.moves.map MoveD.d))]))])
    (fun (z_ : (Nat)) => match z_ with | j => s.vars.length - j) 0 ?_ h (by kernel_rfl) (by kernel_rfl) ?_
  ·exact ⟨Nat.zero_le _, rfl⟩
  ·clear h; rintro j a w hI h
   change St _ (F.of [(3, vp 0 0), (4, vp 1 0), (7, vp 2 0), (30, vi .i64 (s.vars.length : Int)), (31, vi .i64 (j : Int))] [(0, .box (sysC s)), (1, .box [.d (.sl 1 (x.locs.map intD)), .d (.sl 2 (x.vals.map ziD))]), (2, .box ([.d (.raw (.int .i64 c.proc)), .d (.raw (.int .i64 c.from_)), .d (.raw (.int .i64 c.to_)), .d (.raw (.int .i64 c.guard.kind)), .d (.sl 3 (c.guard.r.t.parts.map Part.d))] ++ zi c.guard.r.t.k ++ [.d (.raw (.bool c.guard.r.eq)), .d (.sl 6 (c.guard.kids.map FormD.d)), .d (.sl 5 (c.moves.map MoveD.d))]))]) a w at h
   obtain ⟨hI1, hI2⟩ := hI
   have lb1 := (bnd_ok hs j).1.2
   have lb2 := (bnd_ok hs j).2.2
   refine rSeq fam0ok 3 [] [(3, vp 0 0), (4, vp 1 0), (7, vp 2 0), (30, vi .i64 (s.vars.length : Int)), (31, vi .i64 (j : Int)), (32, vb (decide ((j : Int) < (s.vars.length : Int))))] [(0, .box (sysC s)), (1, .box [.d (.sl 1 (x.locs.map intD)), .d (.sl 2 (x.vals.map ziD))]), (2, .box ([.d (.raw (.int .i64 c.proc)), .d (.raw (.int .i64 c.from_)), .d (.raw (.int .i64 c.to_)), .d (.raw (.int .i64 c.guard.kind)), .d (.sl 3 (c.guard.r.t.parts.map Part.d))] ++ zi c.guard.r.t.k ++ [.d (.raw (.bool c.guard.r.eq)), .d (.sl 6 (c.guard.kids.map FormD.d)), .d (.sl 5 (c.moves.map MoveD.d))]))] (by kernel_rfl) h ?_; clear h; intro a w h
   refine wp_seq ?_
   refine condS (decide ((j : Int) < (s.vars.length : Int))) h rfl (fun hc => ?_) (fun hc => ?_)
   ·have hc3 := hc; clear hc
    have hc3' := of_decide_eq_true hc3
    refine wp_skip ?_
    refine then_n ?_
    refine wp_seq ?_
    refine wp_block ?_
    refine rSeq fam0ok 3 [] [(3, vp 0 0), (4, vp 1 0), (7, vp 2 0), (9, vi .i64 (j : Int)), (30, vi .i64 (s.vars.length : Int)), (31, vi .i64 (j : Int))] [(0, .box (sysC s)), (1, .box [.d (.sl 1 (x.locs.map intD)), .d (.sl 2 (x.vals.map ziD))]), (2, .box ([.d (.raw (.int .i64 c.proc)), .d (.raw (.int .i64 c.from_)), .d (.raw (.int .i64 c.to_)), .d (.raw (.int .i64 c.guard.kind)), .d (.sl 3 (c.guard.r.t.parts.map Part.d))] ++ zi c.guard.r.t.k ++ [.d (.raw (.bool c.guard.r.eq)), .d (.sl 6 (c.guard.kids.map FormD.d)), .d (.sl 5 (c.moves.map MoveD.d))]))] (by kernel_rfl) h ?_; clear h; intro a w h
    have gn := new_ok hc hx j
    have lgn := gn.2
    refine rSeq fam0ok 3 [(3, .call (Safter x c j (L := L) (M := M) (by omega) hc hx (by have := fits_len (enabled_fits hen); omega)) kk_8)] [(3, vp 0 0), (4, vp 1 0), (7, vp 2 0), (9, vi .i64 (j : Int)), (10, vp 3 0), (11, vb (freeAt c j)), (30, vi .i64 (s.vars.length : Int)), (31, vi .i64 (j : Int))] [(0, .box (sysC s)), (1, .box [.d (.sl 1 (x.locs.map intD)), .d (.sl 2 (x.vals.map ziD))]), (2, .box ([.d (.raw (.int .i64 c.proc)), .d (.raw (.int .i64 c.from_)), .d (.raw (.int .i64 c.to_)), .d (.raw (.int .i64 c.guard.kind)), .d (.sl 3 (c.guard.r.t.parts.map Part.d))] ++ zi c.guard.r.t.k ++ [.d (.raw (.bool c.guard.r.eq)), .d (.sl 6 (c.guard.kids.map FormD.d)), .d (.sl 5 (c.moves.map MoveD.d))])), (3, .box (zi (newAt x c j)))] (by kernel_rfl) h ?_; clear h; intro a w h
    refine wp_seq ?_
    refine rSeq fam0ok 4 [(2, .call (Sbound s j (by have := hs.bnds; omega)) kf_2)] [(3, vp 0 0), (4, vp 1 0), (7, vp 2 0), (9, vi .i64 (j : Int)), (10, vp 3 0), (11, vb (freeAt c j)), (12, vp 4 0), (30, vi .i64 (s.vars.length : Int)), (31, vi .i64 (j : Int))] [(0, .box (sysC s)), (1, .box [.d (.sl 1 (x.locs.map intD)), .d (.sl 2 (x.vals.map ziD))]), (2, .box ([.d (.raw (.int .i64 c.proc)), .d (.raw (.int .i64 c.from_)), .d (.raw (.int .i64 c.to_)), .d (.raw (.int .i64 c.guard.kind)), .d (.sl 3 (c.guard.r.t.parts.map Part.d))] ++ zi c.guard.r.t.k ++ [.d (.raw (.bool c.guard.r.eq)), .d (.sl 6 (c.guard.kids.map FormD.d)), .d (.sl 5 (c.moves.map MoveD.d))])), (3, .box (zi (newAt x c j))), (4, .box ([.d (.raw (.bool (bndAt s j).is_))] ++ zi (bndAt s j).lo ++ zi (bndAt s j).hi))] (by kernel_rfl) h ?_; clear h; intro a w h
    rcases Bool.eq_false_or_eq_true (freeAt c j) with hc | hc
    ·have hc4 := hc; clear hc
     rw [hc4] at h
     rcases Bool.eq_false_or_eq_true (bndAt s j).is_ with hc | hc
     ·have hc5 := hc; clear hc
      rw [hc5] at h
      refine rSeq fam0ok 5 [(10, .call (SCmp (bndAt s j).lo (bndAt s j).hi (bnd_ok hs j).1.1 (bnd_ok hs j).2.1 (by omega) (by omega)) kf_3)] [(3, vp 0 0), (4, vp 1 0), (7, vp 2 0), (9, vi .i64 (j : Int)), (10, vp 3 0), (11, vb true), (30, vi .i64 (s.vars.length : Int)), (31, vi .i64 (j : Int)), (56, vb (decide (cmpZ (bndAt s j).lo.val (bndAt s j).hi.val > 0)))] [(0, .box (sysC s)), (1, .box [.d (.sl 1 (x.locs.map intD)), .d (.sl 2 (x.vals.map ziD))]), (2, .box ([.d (.raw (.int .i64 c.proc)), .d (.raw (.int .i64 c.from_)), .d (.raw (.int .i64 c.to_)), .d (.raw (.int .i64 c.guard.kind)), .d (.sl 3 (c.guard.r.t.parts.map Part.d))] ++ zi c.guard.r.t.k ++ [.d (.raw (.bool c.guard.r.eq)), .d (.sl 6 (c.guard.kids.map FormD.d)), .d (.sl 5 (c.moves.map MoveD.d))])), (3, .box (zi (newAt x c j)))] (by kernel_rfl) h ?_; clear h; intro a w h
      refine condS (decide (cmpZ (bndAt s j).lo.val (bndAt s j).hi.val > 0)) h rfl (fun hc => ?_) (fun hc => ?_)
      ·have hc6 := hc; clear hc
       have hc6' := of_decide_eq_true hc6
       refine rSeq fam0ok 5 [] [(3, vp 0 0), (4, vp 1 0), (6, vb false), (7, vp 2 0), (9, vi .i64 (j : Int)), (10, vp 3 0), (11, vb true), (30, vi .i64 (s.vars.length : Int)), (31, vi .i64 (j : Int))] [(0, .box (sysC s)), (1, .box [.d (.sl 1 (x.locs.map intD)), .d (.sl 2 (x.vals.map ziD))]), (2, .box ([.d (.raw (.int .i64 c.proc)), .d (.raw (.int .i64 c.from_)), .d (.raw (.int .i64 c.to_)), .d (.raw (.int .i64 c.guard.kind)), .d (.sl 3 (c.guard.r.t.parts.map Part.d))] ++ zi c.guard.r.t.k ++ [.d (.raw (.bool c.guard.r.eq)), .d (.sl 6 (c.guard.kids.map FormD.d)), .d (.sl 5 (c.moves.map MoveD.d))])), (3, .box (zi (newAt x c j)))] (by kernel_rfl) h ?_; clear h; intro a w h
       refine wp_ret ?_
       refine then_r ?_
       refine block_r ?_
       refine then_r ?_
       refine then_r ?_
       refine block_r ?_
       refine then_r ?_
       refine retS [.c (.d (.raw (.bool false)))] h Exit.ret (.inl rfl)  rfl ⟨RV.tmp _ _ rfl, trivial⟩ ?_ (by kernel_rfl) (by kernel_rfl)
       have hz : can s x i = false := by unfold can; rw [hi]; show canC s x c = _; unfold canC; rw [(show (enabled s x c) = true from by simpa using hc2), Bool.true_and, allN_fail (j := j) (by have := of_decide_eq_true hc3; omega) (show canAt s x c j = false by unfold canAt; rw [if_pos hc4, hc5, hc6]; rfl)]
       rw [hz]; first | done | rfl
      ·have hc7 := hc; clear hc
       have hc7' := of_decide_eq_false hc7
       refine wp_skip ?_
       refine then_n ?_
       refine rSeq fam0ok 5 [] [(3, vp 0 0), (4, vp 1 0), (7, vp 2 0), (30, vi .i64 (s.vars.length : Int)), (31, vi .i64 (j : Int)), (65, vb false)] [(0, .box (sysC s)), (1, .box [.d (.sl 1 (x.locs.map intD)), .d (.sl 2 (x.vals.map ziD))]), (2, .box ([.d (.raw (.int .i64 c.proc)), .d (.raw (.int .i64 c.from_)), .d (.raw (.int .i64 c.to_)), .d (.raw (.int .i64 c.guard.kind)), .d (.sl 3 (c.guard.r.t.parts.map Part.d))] ++ zi c.guard.r.t.k ++ [.d (.raw (.bool c.guard.r.eq)), .d (.sl 6 (c.guard.kids.map FormD.d)), .d (.sl 5 (c.moves.map MoveD.d))]))] (by kernel_rfl) h ?_; clear h; intro a w h
       refine condS false h rfl (fun hc => ?_) (fun hc => ?_)
       ·cases hc
       ·clear hc
        refine wp_skip ?_
        refine block_n ?_
        refine then_n ?_
        refine rS fam0ok 5 [(0, .add .i64 (m := (j : Int)) (n := 1) (i64_id (by omega) (by omega)))] [(3, vp 0 0), (4, vp 1 0), (7, vp 2 0), (30, vi .i64 (s.vars.length : Int)), (31, vi .i64 ((j : Int) + 1))] [(0, .box (sysC s)), (1, .box [.d (.sl 1 (x.locs.map intD)), .d (.sl 2 (x.vals.map ziD))]), (2, .box ([.d (.raw (.int .i64 c.proc)), .d (.raw (.int .i64 c.from_)), .d (.raw (.int .i64 c.to_)), .d (.raw (.int .i64 c.guard.kind)), .d (.sl 3 (c.guard.r.t.parts.map Part.d))] ++ zi c.guard.r.t.k ++ [.d (.raw (.bool c.guard.r.eq)), .d (.sl 6 (c.guard.kids.map FormD.d)), .d (.sl 5 (c.moves.map MoveD.d))]))] (by kernel_rfl) h ?_; clear h; intro a w h
        refine then_n ?_
        refine roundS (x := j) (y := j + 1) h ?_ ?_ (by kernel_rfl) (by kernel_rfl)
        ·exact ⟨by omega, allN_step hI2 (by unfold canAt; rw [if_pos hc4, hc5, hc7]; rfl)⟩
        ·show s.vars.length - (j + 1) < s.vars.length - j
         omega
     ·have hc8 := hc; clear hc
      rw [hc8] at h
      refine rSeq fam0ok 5 [] [(3, vp 0 0), (4, vp 1 0), (7, vp 2 0), (9, vi .i64 (j : Int)), (10, vp 3 0), (11, vb true), (30, vi .i64 (s.vars.length : Int)), (31, vi .i64 (j : Int)), (56, vb false)] [(0, .box (sysC s)), (1, .box [.d (.sl 1 (x.locs.map intD)), .d (.sl 2 (x.vals.map ziD))]), (2, .box ([.d (.raw (.int .i64 c.proc)), .d (.raw (.int .i64 c.from_)), .d (.raw (.int .i64 c.to_)), .d (.raw (.int .i64 c.guard.kind)), .d (.sl 3 (c.guard.r.t.parts.map Part.d))] ++ zi c.guard.r.t.k ++ [.d (.raw (.bool c.guard.r.eq)), .d (.sl 6 (c.guard.kids.map FormD.d)), .d (.sl 5 (c.moves.map MoveD.d))])), (3, .box (zi (newAt x c j)))] (by kernel_rfl) h ?_; clear h; intro a w h
      refine condS false h rfl (fun hc => ?_) (fun hc => ?_)
      ·cases hc
      ·clear hc
       refine wp_skip ?_
       refine then_n ?_
       refine rSeq fam0ok 5 [] [(3, vp 0 0), (4, vp 1 0), (7, vp 2 0), (30, vi .i64 (s.vars.length : Int)), (31, vi .i64 (j : Int)), (65, vb false)] [(0, .box (sysC s)), (1, .box [.d (.sl 1 (x.locs.map intD)), .d (.sl 2 (x.vals.map ziD))]), (2, .box ([.d (.raw (.int .i64 c.proc)), .d (.raw (.int .i64 c.from_)), .d (.raw (.int .i64 c.to_)), .d (.raw (.int .i64 c.guard.kind)), .d (.sl 3 (c.guard.r.t.parts.map Part.d))] ++ zi c.guard.r.t.k ++ [.d (.raw (.bool c.guard.r.eq)), .d (.sl 6 (c.guard.kids.map FormD.d)), .d (.sl 5 (c.moves.map MoveD.d))]))] (by kernel_rfl) h ?_; clear h; intro a w h
       refine condS false h rfl (fun hc => ?_) (fun hc => ?_)
       ·cases hc
       ·clear hc
        refine wp_skip ?_
        refine block_n ?_
        refine then_n ?_
        refine rS fam0ok 5 [(0, .add .i64 (m := (j : Int)) (n := 1) (i64_id (by omega) (by omega)))] [(3, vp 0 0), (4, vp 1 0), (7, vp 2 0), (30, vi .i64 (s.vars.length : Int)), (31, vi .i64 ((j : Int) + 1))] [(0, .box (sysC s)), (1, .box [.d (.sl 1 (x.locs.map intD)), .d (.sl 2 (x.vals.map ziD))]), (2, .box ([.d (.raw (.int .i64 c.proc)), .d (.raw (.int .i64 c.from_)), .d (.raw (.int .i64 c.to_)), .d (.raw (.int .i64 c.guard.kind)), .d (.sl 3 (c.guard.r.t.parts.map Part.d))] ++ zi c.guard.r.t.k ++ [.d (.raw (.bool c.guard.r.eq)), .d (.sl 6 (c.guard.kids.map FormD.d)), .d (.sl 5 (c.moves.map MoveD.d))]))] (by kernel_rfl) h ?_; clear h; intro a w h
        refine then_n ?_
        refine roundS (x := j) (y := j + 1) h ?_ ?_ (by kernel_rfl) (by kernel_rfl)
        ·exact ⟨by omega, allN_step hI2 (by unfold canAt; rw [if_pos hc4, hc8]; rfl)⟩
        ·show s.vars.length - (j + 1) < s.vars.length - j
         omega
    ·have hc9 := hc; clear hc
     rw [hc9] at h
     refine rSeq fam0ok 5 [] [(3, vp 0 0), (4, vp 1 0), (7, vp 2 0), (9, vi .i64 (j : Int)), (10, vp 3 0), (11, vb false), (30, vi .i64 (s.vars.length : Int)), (31, vi .i64 (j : Int)), (56, vb false)] [(0, .box (sysC s)), (1, .box [.d (.sl 1 (x.locs.map intD)), .d (.sl 2 (x.vals.map ziD))]), (2, .box ([.d (.raw (.int .i64 c.proc)), .d (.raw (.int .i64 c.from_)), .d (.raw (.int .i64 c.to_)), .d (.raw (.int .i64 c.guard.kind)), .d (.sl 3 (c.guard.r.t.parts.map Part.d))] ++ zi c.guard.r.t.k ++ [.d (.raw (.bool c.guard.r.eq)), .d (.sl 6 (c.guard.kids.map FormD.d)), .d (.sl 5 (c.moves.map MoveD.d))])), (3, .box (zi (newAt x c j)))] (by kernel_rfl) h ?_; clear h; intro a w h
     refine condS false h rfl (fun hc => ?_) (fun hc => ?_)
     ·cases hc
     ·clear hc
      refine wp_skip ?_
      refine then_n ?_
      refine rSeq fam0ok 5 [(6, .call (Swithin s j (newAt x c j) (L := L) (M := L + M + 2) (by omega) hs gn) kf_7)] [(3, vp 0 0), (4, vp 1 0), (7, vp 2 0), (30, vi .i64 (s.vars.length : Int)), (31, vi .i64 (j : Int)), (65, vb (!(withinB (bndAt s j) (newAt x c j))))] [(0, .box (sysC s)), (1, .box [.d (.sl 1 (x.locs.map intD)), .d (.sl 2 (x.vals.map ziD))]), (2, .box ([.d (.raw (.int .i64 c.proc)), .d (.raw (.int .i64 c.from_)), .d (.raw (.int .i64 c.to_)), .d (.raw (.int .i64 c.guard.kind)), .d (.sl 3 (c.guard.r.t.parts.map Part.d))] ++ zi c.guard.r.t.k ++ [.d (.raw (.bool c.guard.r.eq)), .d (.sl 6 (c.guard.kids.map FormD.d)), .d (.sl 5 (c.moves.map MoveD.d))]))] (by kernel_rfl) h ?_; clear h; intro a w h
      refine condS (!(withinB (bndAt s j) (newAt x c j))) h rfl (fun hc => ?_) (fun hc => ?_)
      ·have hc10 := hc; clear hc
       have hc10' := hc10; (try simp at hc10')
       refine rSeq fam0ok 5 [] [(3, vp 0 0), (4, vp 1 0), (6, vb false), (7, vp 2 0), (30, vi .i64 (s.vars.length : Int)), (31, vi .i64 (j : Int))] [(0, .box (sysC s)), (1, .box [.d (.sl 1 (x.locs.map intD)), .d (.sl 2 (x.vals.map ziD))]), (2, .box ([.d (.raw (.int .i64 c.proc)), .d (.raw (.int .i64 c.from_)), .d (.raw (.int .i64 c.to_)), .d (.raw (.int .i64 c.guard.kind)), .d (.sl 3 (c.guard.r.t.parts.map Part.d))] ++ zi c.guard.r.t.k ++ [.d (.raw (.bool c.guard.r.eq)), .d (.sl 6 (c.guard.kids.map FormD.d)), .d (.sl 5 (c.moves.map MoveD.d))]))] (by kernel_rfl) h ?_; clear h; intro a w h
       refine wp_ret ?_
       refine block_r ?_
       refine then_r ?_
       refine then_r ?_
       refine block_r ?_
       refine then_r ?_
       refine retS [.c (.d (.raw (.bool false)))] h Exit.ret (.inl rfl)  rfl ⟨RV.tmp _ _ rfl, trivial⟩ ?_ (by kernel_rfl) (by kernel_rfl)
       have hz : can s x i = false := by unfold can; rw [hi]; show canC s x c = _; unfold canC; rw [(show (enabled s x c) = true from by simpa using hc2), Bool.true_and, allN_fail (j := j) (by have := of_decide_eq_true hc3; omega) (show canAt s x c j = false by unfold canAt; rw [if_neg (by rw [hc9]; exact Bool.noConfusion)]; exact (show (withinB (bndAt s j) (newAt x c j)) = false from by simpa using hc10))]
       rw [hz]; first | done | rfl
      ·have hc11 := hc; clear hc
       have hc11' := hc11; (try simp at hc11')
       refine wp_skip ?_
       refine block_n ?_
       refine then_n ?_
       refine rS fam0ok 5 [(0, .add .i64 (m := (j : Int)) (n := 1) (i64_id (by omega) (by omega)))] [(3, vp 0 0), (4, vp 1 0), (7, vp 2 0), (30, vi .i64 (s.vars.length : Int)), (31, vi .i64 ((j : Int) + 1))] [(0, .box (sysC s)), (1, .box [.d (.sl 1 (x.locs.map intD)), .d (.sl 2 (x.vals.map ziD))]), (2, .box ([.d (.raw (.int .i64 c.proc)), .d (.raw (.int .i64 c.from_)), .d (.raw (.int .i64 c.to_)), .d (.raw (.int .i64 c.guard.kind)), .d (.sl 3 (c.guard.r.t.parts.map Part.d))] ++ zi c.guard.r.t.k ++ [.d (.raw (.bool c.guard.r.eq)), .d (.sl 6 (c.guard.kids.map FormD.d)), .d (.sl 5 (c.moves.map MoveD.d))]))] (by kernel_rfl) h ?_; clear h; intro a w h
       refine then_n ?_
       refine roundS (x := j) (y := j + 1) h ?_ ?_ (by kernel_rfl) (by kernel_rfl)
       ·exact ⟨by omega, allN_step hI2 (by unfold canAt; rw [if_neg (by rw [hc9]; exact Bool.noConfusion)]; exact (show (withinB (bndAt s j) (newAt x c j)) = true from by simpa using hc11))⟩
       ·show s.vars.length - (j + 1) < s.vars.length - j
        omega
   ·have hc12 := hc; clear hc
    have hc12' := of_decide_eq_false hc12
    refine wp_exit ?_
    refine then_x ?_
    refine then_x ?_
    refine inBlock_exit ?_
    refine then_n ?_
    refine rSeq fam0ok 5 [] [(6, vb true)] [] (by kernel_rfl) h ?_; clear h; intro a w h
    refine wp_ret ?_
    refine retS [.c (.d (.raw (.bool true)))] h Exit.ret (.inl rfl)  rfl ⟨RV.tmp _ _ rfl, trivial⟩ ?_ (by kernel_rfl) (by kernel_rfl)
    have hz : can s x i = true := by unfold can; rw [hi]; show canC s x c = _; unfold canC; rw [(show (enabled s x c) = true from by simpa using hc2), Bool.true_and, show s.vars.length = j by have := of_decide_eq_false hc12; omega, hI2]
    rw [hz]; first | done | rfl
theorem SCan (s : SysD) (x : StD) (i : Int) {L M : Nat} (hL : L + M ≤ 4000) (hs : SysOk L s) (hx : StOk M x) : Fn Try.prog 9 [] [.t (.agg (sysC s)), .t (.agg [.d (.sl 1 (x.locs.map intD)), .d (.sl 2 (x.vals.map ziD))]), vi .i64 i] (vb (can s x i)) [] := by
 cases hi : actAt s i with
 | none => exact SCanN s x i hL hs hx hi
 | some c => exact SCanS s x i c hL hs hx hi
set_option maxHeartbeats 4000000 in
theorem SStuck (s : SysD) (x : StD) {L M : Nat} (hL : L + M ≤ 4000) (hs : SysOk L s) (hx : StOk M x) : Fn Try.prog 12 [] [.t (.agg (sysC s)), .t (.agg [.d (.sl 1 (x.locs.map intD)), .d (.sl 2 (x.vals.map ziD))])] (vb (stuck s x)) [] := by
 have lx1 := hx.locs
 have lx2 := hx.vals
 have ls1 := hs.vars
 have ls2 := hs.procs
 have las := hs.acts
 refine Fn.body Try.func12 rfl 20 rfl fun w H B a h => ?_
 refine rSeq fam0ok 0 [] [(2, vp 0 0), (3, vp 1 0), (4, vb false)] [(0, .box (sysC s)), (1, .box [.d (.sl 1 (x.locs.map intD)), .d (.sl 2 (x.vals.map ziD))])] (by kernel_rfl) h ?_; clear h; intro a w h
 refine wp_seq ?_
 refine rSeq fam0ok 2 [(2, .len (c := (.d (.sl 10 (s.acts.map ActD.d)))) (n := s.acts.length) (lenC_map _ _ _))] [(2, vp 0 0), (3, vp 1 0), (4, vb false), (8, vi .i64 (s.acts.length : Int)), (9, vi .i64 0)] [(0, .box (sysC s)), (1, .box [.d (.sl 1 (x.locs.map intD)), .d (.sl 2 (x.vals.map ziD))])] (by kernel_rfl) h ?_; clear h; intro a w h
 refine wp_block ?_
 refine loopS (ι := (Nat)) (fun (z_ : (Nat)) => match z_ with | j => j ≤ s.acts.length ∧ allN j (fun i => !can s x (i : Int)) = true)
   (fun (z_ : (Nat)) => match z_ with | j => [(2, vp 0 0), (3, vp 1 0), (8, vi .i64 (s.acts.length : Int)), (9, vi .i64 (j : Int))])
   (fun (z_ : (Nat)) => match z_ with | j => [(0, .box (sysC s)), (1, .box [.d (.sl 1 (x.locs.map intD)), .d (.sl 2 (x.vals.map ziD))])])
   (fun (z_ : (Nat)) => match z_ with | j => s.acts.length - j) 0 ?_ h (by kernel_rfl) (by kernel_rfl) ?_
 ·exact ⟨Nat.zero_le _, rfl⟩
 ·clear h; rintro j a w hI h
  change St _ (F.of [(2, vp 0 0), (3, vp 1 0), (8, vi .i64 (s.acts.length : Int)), (9, vi .i64 (j : Int))] [(0, .box (sysC s)), (1, .box [.d (.sl 1 (x.locs.map intD)), .d (.sl 2 (x.vals.map ziD))])]) a w at h
  obtain ⟨hI1, hI2⟩ := hI
  refine rSeq fam0ok 2 [] [(2, vp 0 0), (3, vp 1 0), (8, vi .i64 (s.acts.length : Int)), (9, vi .i64 (j : Int)), (10, vb (decide ((j : Int) < (s.acts.length : Int))))] [(0, .box (sysC s)), (1, .box [.d (.sl 1 (x.locs.map intD)), .d (.sl 2 (x.vals.map ziD))])] (by kernel_rfl) h ?_; clear h; intro a w h
  refine wp_seq ?_
  refine condS (decide ((j : Int) < (s.acts.length : Int))) h rfl (fun hc => ?_) (fun hc => ?_)
  ·have hc1 := hc; clear hc
   have hc1' := of_decide_eq_true hc1
   refine wp_skip ?_
   refine then_n ?_
   refine wp_seq ?_
   refine wp_block ?_
   refine rSeq fam0ok 2 [] [(2, vp 0 0), (3, vp 1 0), (5, vi .i64 (j : Int)), (8, vi .i64 (s.acts.length : Int)), (9, vi .i64 (j : Int))] [(0, .box (sysC s)), (1, .box [.d (.sl 1 (x.locs.map intD)), .d (.sl 2 (x.vals.map ziD))])] (by kernel_rfl) h ?_; clear h; intro a w h
   refine rSeq fam0ok 2 [(3, .call (SCan s x (j : Int) hL hs hx) kk_12)] [(2, vp 0 0), (3, vp 1 0), (8, vi .i64 (s.acts.length : Int)), (9, vi .i64 (j : Int)), (15, vb (can s x (j : Int)))] [(0, .box (sysC s)), (1, .box [.d (.sl 1 (x.locs.map intD)), .d (.sl 2 (x.vals.map ziD))])] (by kernel_rfl) h ?_; clear h; intro a w h
   refine condS (can s x (j : Int)) h rfl (fun hc => ?_) (fun hc => ?_)
   ·have hc2 := hc; clear hc
    refine rSeq fam0ok 2 [] [(2, vp 0 0), (3, vp 1 0), (4, vb false), (8, vi .i64 (s.acts.length : Int)), (9, vi .i64 (j : Int))] [(0, .box (sysC s)), (1, .box [.d (.sl 1 (x.locs.map intD)), .d (.sl 2 (x.vals.map ziD))])] (by kernel_rfl) h ?_; clear h; intro a w h
    refine wp_ret ?_
    refine block_r ?_
    refine then_r ?_
    refine then_r ?_
    refine block_r ?_
    refine then_r ?_
    refine retS [.c (.d (.raw (.bool false)))] h Exit.ret (.inl rfl)  rfl ⟨RV.tmp _ _ rfl, trivial⟩ ?_ (by kernel_rfl) (by kernel_rfl)
    have hz : stuck s x = false := by unfold stuck; rw [allN_fail (j := j) (by have := of_decide_eq_true hc1; omega) (show (!can s x (j : Int)) = false by rw [hc2]; rfl)]; rfl
    rw [hz]; first | done | rfl
   ·have hc3 := hc; clear hc
    refine wp_skip ?_
    refine block_n ?_
    refine then_n ?_
    refine rS fam0ok 2 [(0, .add .i64 (m := (j : Int)) (n := 1) (i64_id (by omega) (by omega)))] [(2, vp 0 0), (3, vp 1 0), (8, vi .i64 (s.acts.length : Int)), (9, vi .i64 ((j : Int) + 1))] [(0, .box (sysC s)), (1, .box [.d (.sl 1 (x.locs.map intD)), .d (.sl 2 (x.vals.map ziD))])] (by kernel_rfl) h ?_; clear h; intro a w h
    refine then_n ?_
    refine roundS (x := j) (y := j + 1) h ?_ ?_ (by kernel_rfl) (by kernel_rfl)
    ·exact ⟨by omega, allN_step hI2 (by rw [hc3]; rfl)⟩
    ·show s.acts.length - (j + 1) < s.acts.length - j
     omega
  ·have hc4 := hc; clear hc
   have hc4' := of_decide_eq_false hc4
   refine wp_exit ?_
   refine then_x ?_
   refine then_x ?_
   refine inBlock_exit ?_
   refine then_n ?_
   refine rSeq fam0ok 2 [(2, .call (SFits s x (L := L) (M := M) (by omega) hs hx) kg_9)] [(4, vb (fits s x))] [] (by kernel_rfl) h ?_; clear h; intro a w h
   refine wp_ret ?_
   refine retS [.c (.d (.raw (.bool (fits s x))))] h Exit.ret (.inl rfl)  rfl ⟨RV.tmp _ _ rfl, trivial⟩ ?_ (by kernel_rfl) (by kernel_rfl)
   have hz : stuck s x = (fits s x) := by unfold stuck; rw [show s.acts.length = j by have := of_decide_eq_false hc4; omega, hI2]; rfl
   rw [hz]; first | done | rfl
end Go.Proofs.Ytmohlifepfjmdaa.S
end
