/-
  Part 4 of the proof of the statement KripkeRuns: the walk through the program and the references lifted to the given row. It holds for every input.
-/
import Derived.Test.YtmohlifepfjmdaaGreatVr3
set_option maxRecDepth 100000
section
namespace Go.Proofs.YtmohlifepfjmdaaGreat.S
open Go.RowKit

theorem kj_0 : Bodied Tryz.prog 63 := Bodied.mk' (by kernel_rfl)
theorem kj_2 : Bodied Tryz.prog 65 := Bodied.mk' (by kernel_rfl)
theorem kj_7 : Bodied Tryz.prog 64 := Bodied.mk' (by kernel_rfl)
theorem fits_len {s : SysD} {x : StD} (h : fits s x = true) : x.locs.length = s.procs.length ∧ x.vals.length = s.vars.length := by
 unfold fits at h; rw [Bool.and_eq_true] at h; exact of_decide_eq_true h.1
set_option maxHeartbeats 4000000 in
theorem SEn1 (s : SysD) (m : MoveD)  : Fn Tryz.prog 63 [(0, .box (sysC s))] [.t (.agg ([.d (.raw (.int .i64 m.v)), .d (.raw (.bool m.any)), .d (.sl 3 (m.t.parts.map Part.d))] ++ zi m.t.k)), vp 0 0] (vb (there s m)) [(0, .box (sysC s))] := by
 refine Fn.body Tryz.func63 rfl 15 rfl fun w H B a h => ?_
 refine rSeq fam2ok 5 [] [(1, vp 0 0), (2, vp 5 0), (3, vb false)] [(0, .box (sysC s)), (5, .box ([.d (.raw (.int .i64 m.v)), .d (.raw (.bool m.any)), .d (.sl 3 (m.t.parts.map Part.d))] ++ zi m.t.k))] (by kernel_rfl) h ?_; clear h; intro a w h
 rcases Bool.eq_false_or_eq_true (decide (m.v ≥ 0)) with hc | hc
 ·have hc1 := hc; clear hc
  have hc1' := of_decide_eq_true hc1
  refine rSeq fam2ok 6 [(2, .cmp (op := .geq) (m := m.v) (n := 0) (b := true) .i64 hc1), (8, .len (c := (.d (.sl 1 (s.vars.map strD)))) (n := s.vars.length) (lenC_map _ _ _))] [(3, vb (decide (m.v < (s.vars.length : Int))))] [(0, .box (sysC s))] (by kernel_rfl) h ?_; clear h; intro a w h
  refine wp_ret ?_
  refine retS [.c (.d (.raw (.bool (decide (m.v < (s.vars.length : Int))))))] h Exit.ret (.inl rfl)  rfl ⟨RV.tmp _ _ rfl, trivial⟩ ?_ (by kernel_rfl) (by kernel_rfl)
  have hz : there s m = (decide (m.v < (s.vars.length : Int))) := by unfold there; rw [hc1]; rfl
  rw [hz]; first | done | rfl
 ·have hc2 := hc; clear hc
  have hc2' := of_decide_eq_false hc2
  refine rSeq fam2ok 6 [(2, .cmp (op := .geq) (m := m.v) (n := 0) (b := false) .i64 hc2)] [(3, vb false)] [(0, .box (sysC s))] (by kernel_rfl) h ?_; clear h; intro a w h
  refine wp_ret ?_
  refine retS [.c (.d (.raw (.bool false)))] h Exit.ret (.inl rfl)  rfl ⟨RV.tmp _ _ rfl, trivial⟩ ?_ (by kernel_rfl) (by kernel_rfl)
  have hz : there s m = (false) := by unfold there; rw [hc2]; rfl
  rw [hz]; first | done | rfl
set_option maxHeartbeats 4000000 in
theorem SEn2 (s : SysD) (m : MoveD)  : Fn Tryz.prog 65 [(3, .box [.fn (.func 63) [] [.ptr 0 0]]), (0, .box (sysC s))] [.t (.agg ([.d (.raw (.int .i64 m.v)), .d (.raw (.bool m.any)), .d (.sl 3 (m.t.parts.map Part.d))] ++ zi m.t.k)), vp 3 0] (vb (!there s m)) [(3, .box [.fn (.func 63) [] [.ptr 0 0]]), (0, .box (sysC s))] := by
 refine Fn.body Tryz.func65 rfl 8 rfl fun w H B a h => ?_
 refine rSeq fam2ok 5 [] [(1, vp 3 0), (2, vp 5 0), (3, vb false)] [(3, .box [.fn (.func 63) [] [.ptr 0 0]]), (0, .box (sysC s)), (5, .box ([.d (.raw (.int .i64 m.v)), .d (.raw (.bool m.any)), .d (.sl 3 (m.t.parts.map Part.d))] ++ zi m.t.k))] (by kernel_rfl) h ?_; clear h; intro a w h
 refine rSeq fam2ok 6 [(2, .gen _ _ _ fun _ _ _ _ => Op.callV (d := 6) (t := 4) (cap := [.ptr 0 0]) (args := [.t (.agg ([.d (.raw (.int .i64 m.v)), .d (.raw (.bool m.any)), .d (.sl 3 (m.t.parts.map Part.d))] ++ zi m.t.k))]) (rs := [(5, .t (.agg ([.d (.raw (.int .i64 m.v)), .d (.raw (.bool m.any)), .d (.sl 3 (m.t.parts.map Part.d))] ++ zi m.t.k)))]) (tys := #[81]) (SEn1 s m) kj_0 (OVs.cons (OV.tmp 5 _) (OVs.nil)))] [(3, vb (!(there s m)))] [(3, .box [.fn (.func 63) [] [.ptr 0 0]]), (0, .box (sysC s))] (by kernel_rfl) h ?_; clear h; intro a w h
 refine wp_ret ?_
 refine retS [.c (.d (.raw (.bool (!(there s m)))))] h Exit.ret (.inl rfl)  rfl ⟨RV.tmp _ _ rfl, trivial⟩ ?_ (by kernel_rfl) (by kernel_rfl)
 rfl
set_option maxHeartbeats 4000000 in
theorem SIdxEN (pr : MoveD → Bool) (xs : List MoveD) (s : SysD) (hf : ∀ x ∈ xs, Fn Tryz.prog 65 [(3, .box [.fn (.func 63) [] [.ptr 0 0]]), (0, .box (sysC s))] [.t (.agg ([.d (.raw (.int .i64 x.v)), .d (.raw (.bool x.any)), .d (.sl 3 (x.t.parts.map Part.d))] ++ zi x.t.k)), vp 3 0] (vb (pr x)) [(3, .box [.fn (.func 63) [] [.ptr 0 0]]), (0, .box (sysC s))]) (hl : xs.length ≤ 9223372036854775807) : Fn Tryz.prog 88 [(3, .box [.fn (.func 63) [] [.ptr 0 0]]), (0, .box (sysC s))] [.t (.c (.d (.sl 5 (xs.map MoveD.d)))), .t (.c (.fn (.func 65) [] [.ptr 3 0]))] (vi .i64 (idxB pr xs 0)) [(3, .box [.fn (.func 63) [] [.ptr 0 0]]), (0, .box (sysC s))] := by
 refine Fn.body Tryz.func88 rfl 19 rfl fun w H B a h => ?_
 refine rSeq fam2ok 5 [] [(0, .t (.c (.d (.sl 5 (xs.map MoveD.d))))), (1, .t (.c (.fn (.func 65) [] [.ptr 3 0]))), (4, vi .i64 0)] [(3, .box [.fn (.func 63) [] [.ptr 0 0]]), (0, .box (sysC s))] (by kernel_rfl) h ?_; clear h; intro a w h
 refine wp_seq ?_
 refine rSeq fam2ok 5 [(1, .len (c := (.d (.sl 5 (xs.map MoveD.d)))) (n := xs.length) (lenC_map _ _ _))] [(0, .t (.c (.d (.sl 5 (xs.map MoveD.d))))), (1, .t (.c (.fn (.func 65) [] [.ptr 3 0]))), (4, vi .i64 0), (7, vi .i64 (xs.length : Int)), (8, vi .i64 0)] [(3, .box [.fn (.func 63) [] [.ptr 0 0]]), (0, .box (sysC s))] (by kernel_rfl) h ?_; clear h; intro a w h
 refine wp_block ?_
 refine loopS (ι := (Nat)) (fun (z_ : (Nat)) => match z_ with | j => j ≤ xs.length ∧ idxB pr xs 0 = idxB pr (xs.drop j) j)
   (fun (z_ : (Nat)) => match z_ with | j => [(0, .t (.c (.d (.sl 5 (xs.map MoveD.d))))), (1, .t (.c (.fn (.func 65) [] [.ptr 3 0]))), (7, vi .i64 (xs.length : Int)), (8, vi .i64 (j : Int))])
   (fun (z_ : (Nat)) => match z_ with | j => [(3, .box [.fn (.func 63) [] [.ptr 0 0]]), (0, .box (sysC s))])
   (fun (z_ : (Nat)) => match z_ with | j => xs.length - j) 0 ?_ h (by kernel_rfl) (by kernel_rfl) ?_
 ·exact ⟨Nat.zero_le _, rfl⟩
 ·clear h; rintro j a w hI h
  change St _ (F.of [(0, .t (.c (.d (.sl 5 (xs.map MoveD.d))))), (1, .t (.c (.fn (.func 65) [] [.ptr 3 0]))), (7, vi .i64 (xs.length : Int)), (8, vi .i64 (j : Int))] [(3, .box [.fn (.func 63) [] [.ptr 0 0]]), (0, .box (sysC s))]) a w at h
  obtain ⟨hI1, hI2⟩ := hI
  refine rSeq fam2ok 5 [] [(0, .t (.c (.d (.sl 5 (xs.map MoveD.d))))), (1, .t (.c (.fn (.func 65) [] [.ptr 3 0]))), (7, vi .i64 (xs.length : Int)), (8, vi .i64 (j : Int)), (9, vb (decide ((j : Int) < (xs.length : Int))))] [(3, .box [.fn (.func 63) [] [.ptr 0 0]]), (0, .box (sysC s))] (by kernel_rfl) h ?_; clear h; intro a w h
  refine wp_seq ?_
  refine condS (decide ((j : Int) < (xs.length : Int))) h rfl (fun hc => ?_) (fun hc => ?_)
  ·have hc1 := hc; clear hc
   have hc1' := of_decide_eq_true hc1
   refine wp_skip ?_
   refine then_n ?_
   refine wp_seq ?_
   refine wp_block ?_
   refine rSeq fam2ok 5 [] [(0, .t (.c (.d (.sl 5 (xs.map MoveD.d))))), (1, .t (.c (.fn (.func 65) [] [.ptr 3 0]))), (5, vi .i64 (j : Int)), (7, vi .i64 (xs.length : Int)), (8, vi .i64 (j : Int))] [(3, .box [.fn (.func 63) [] [.ptr 0 0]]), (0, .box (sysC s))] (by kernel_rfl) h ?_; clear h; intro a w h
   obtain ⟨x1, hx1⟩ : ∃ z_ : MoveD, xs[j]? = some z_ := ⟨_, List.getElem?_eq_getElem (by first | omega | (simp at *; omega))⟩
   refine rSeq fam2ok 5 [(3, .gen _ _ _ fun _ _ _ _ => Op.idxD (d := 14) (t := 12) (k := .i64) ki_2 (map_at hx1 (f := MoveD.d)) (OV.tmp 13 _)), (5, .gen _ _ _ fun _ _ _ _ => Op.callV (d := 16) (t := 11) (cap := [.ptr 3 0]) (args := [.t (.agg ([.d (.raw (.int .i64 x1.v)), .d (.raw (.bool x1.any)), .d (.sl 3 (x1.t.parts.map Part.d))] ++ zi x1.t.k))]) (rs := [(15, .t (.agg ([.d (.raw (.int .i64 x1.v)), .d (.raw (.bool x1.any)), .d (.sl 3 (x1.t.parts.map Part.d))] ++ zi x1.t.k)))]) (tys := #[81]) (hf x1 (List.mem_of_getElem? hx1)) kj_2 (OVs.cons (OV.tmp 15 _) (OVs.nil)))] [(0, .t (.c (.d (.sl 5 (xs.map MoveD.d))))), (1, .t (.c (.fn (.func 65) [] [.ptr 3 0]))), (5, vi .i64 (j : Int)), (7, vi .i64 (xs.length : Int)), (8, vi .i64 (j : Int)), (16, vb (pr x1))] [(3, .box [.fn (.func 63) [] [.ptr 0 0]]), (0, .box (sysC s))] (by kernel_rfl) h ?_; clear h; intro a w h
   refine condS (pr x1) h rfl (fun hc => ?_) (fun hc => ?_)
   ·have hc2 := hc; clear hc
    refine rSeq fam2ok 5 [] [(0, .t (.c (.d (.sl 5 (xs.map MoveD.d))))), (1, .t (.c (.fn (.func 65) [] [.ptr 3 0]))), (4, vi .i64 (j : Int)), (7, vi .i64 (xs.length : Int)), (8, vi .i64 (j : Int))] [(3, .box [.fn (.func 63) [] [.ptr 0 0]]), (0, .box (sysC s))] (by kernel_rfl) h ?_; clear h; intro a w h
    refine wp_ret ?_
    refine block_r ?_
    refine then_r ?_
    refine then_r ?_
    refine block_r ?_
    refine then_r ?_
    refine retS [.c (.d (.raw (.int .i64 (j : Int))))] h Exit.ret (.inl rfl)  rfl ⟨RV.tmp _ _ rfl, trivial⟩ ?_ (by kernel_rfl) (by kernel_rfl)
    have hz : idxB pr xs 0 = (j : Int) := by rw [hI2, idxB_at hx1, if_pos hc2]
    rw [hz]; first | done | rfl
   ·have hc3 := hc; clear hc
    refine wp_skip ?_
    refine block_n ?_
    refine then_n ?_
    refine rS fam2ok 5 [(0, .add .i64 (m := (j : Int)) (n := 1) (i64_id (by omega) (by omega)))] [(0, .t (.c (.d (.sl 5 (xs.map MoveD.d))))), (1, .t (.c (.fn (.func 65) [] [.ptr 3 0]))), (7, vi .i64 (xs.length : Int)), (8, vi .i64 ((j : Int) + 1))] [(3, .box [.fn (.func 63) [] [.ptr 0 0]]), (0, .box (sysC s))] (by kernel_rfl) h ?_; clear h; intro a w h
    refine then_n ?_
    refine roundS (x := j) (y := j + 1) h ?_ ?_ (by kernel_rfl) (by kernel_rfl)
    ·exact ⟨by have := at_lt hx1; omega, by rw [hI2, idxB_at hx1, if_neg (by rw [hc3]; exact Bool.noConfusion)]⟩
    ·simp; omega
  ·have hc4 := hc; clear hc
   have hc4' := of_decide_eq_false hc4
   refine wp_exit ?_
   refine then_x ?_
   refine then_x ?_
   refine inBlock_exit ?_
   refine then_n ?_
   refine rSeq fam2ok 5 [] [(4, vi .i64 (-1))] [(3, .box [.fn (.func 63) [] [.ptr 0 0]]), (0, .box (sysC s))] (by kernel_rfl) h ?_; clear h; intro a w h
   refine wp_ret ?_
   refine retS [.c (.d (.raw (.int .i64 (-1))))] h Exit.ret (.inl rfl)  rfl ⟨RV.tmp _ _ rfl, trivial⟩ ?_ (by kernel_rfl) (by kernel_rfl)
   have hz : idxB pr xs 0 = -1 := by rw [hI2, List.drop_of_length_le (by omega)]; rfl
   rw [hz]; first | done | rfl
set_option maxHeartbeats 4000000 in
theorem SAnyEN (pr : MoveD → Bool) (xs : List MoveD) (s : SysD) (hf : ∀ x ∈ xs, Fn Tryz.prog 65 [(3, .box [.fn (.func 63) [] [.ptr 0 0]]), (0, .box (sysC s))] [.t (.agg ([.d (.raw (.int .i64 x.v)), .d (.raw (.bool x.any)), .d (.sl 3 (x.t.parts.map Part.d))] ++ zi x.t.k)), vp 3 0] (vb (pr x)) [(3, .box [.fn (.func 63) [] [.ptr 0 0]]), (0, .box (sysC s))]) (hl : xs.length ≤ 9223372036854775807) : Fn Tryz.prog 64 [(3, .box [.fn (.func 63) [] [.ptr 0 0]]), (0, .box (sysC s))] [.t (.c (.d (.sl 5 (xs.map MoveD.d)))), .t (.c (.fn (.func 65) [] [.ptr 3 0]))] (vb (xs.any pr)) [(3, .box [.fn (.func 63) [] [.ptr 0 0]]), (0, .box (sysC s))] := by
 refine Fn.body Tryz.func64 rfl 9 rfl fun w H B a h => ?_
 refine rSeq fam2ok 5 [] [(0, .t (.c (.d (.sl 5 (xs.map MoveD.d))))), (1, .t (.c (.fn (.func 65) [] [.ptr 3 0]))), (4, vb false)] [(3, .box [.fn (.func 63) [] [.ptr 0 0]]), (0, .box (sysC s))] (by kernel_rfl) h ?_; clear h; intro a w h
 refine rSeq fam2ok 5 [(2, .call (SIdxEN pr xs s hf  hl) ki_4)] [(4, vb (decide (idxB pr xs 0 ≥ 0)))] [(3, .box [.fn (.func 63) [] [.ptr 0 0]]), (0, .box (sysC s))] (by kernel_rfl) h ?_; clear h; intro a w h
 refine wp_ret ?_
 refine retS [.c (.d (.raw (.bool (decide (idxB pr xs 0 ≥ 0)))))] h Exit.ret (.inl rfl)  rfl ⟨RV.tmp _ _ rfl, trivial⟩ ?_ (by kernel_rfl) (by kernel_rfl)
 rw [← idxB_any]; first | done | rfl
set_option maxHeartbeats 4000000 in
theorem Senabled (s : SysD) (x : StD) (c : ActD) {L M : Nat} (hL : L + M ≤ 10000) (hs : SysOk L s) (hx : StOk M x) (hc : ActOk L c) : Fn Tryz.prog 35 [] [.t (.agg (sysC s)), .t (.agg [.d (.sl 1 (x.locs.map intD)), .d (.sl 2 (x.vals.map ziD))]), .t (.agg ([.d (.raw (.int .i64 c.proc)), .d (.raw (.int .i64 c.from_)), .d (.raw (.int .i64 c.to_)), .d (.raw (.int .i64 c.guard.kind)), .d (.sl 3 (c.guard.r.t.parts.map Part.d))] ++ zi c.guard.r.t.k ++ [.d (.raw (.bool c.guard.r.eq)), .d (.sl 6 (c.guard.kids.map FormD.d)), .d (.sl 5 (c.moves.map MoveD.d))]))] (vb (enabled s x c)) [] := by
 have lx1 := hx.locs
 have lx2 := hx.vals
 have ls1 := hs.vars
 have ls2 := hs.procs
 refine Fn.body Tryz.func35 rfl 67 rfl fun w H B a h => ?_
 refine rSeq fam2ok 0 [] [(3, vp 0 0), (4, vp 1 0), (5, vp 2 0), (6, vb false)] [(0, .box (sysC s)), (1, .box [.d (.sl 1 (x.locs.map intD)), .d (.sl 2 (x.vals.map ziD))]), (2, .box ([.d (.raw (.int .i64 c.proc)), .d (.raw (.int .i64 c.from_)), .d (.raw (.int .i64 c.to_)), .d (.raw (.int .i64 c.guard.kind)), .d (.sl 3 (c.guard.r.t.parts.map Part.d))] ++ zi c.guard.r.t.k ++ [.d (.raw (.bool c.guard.r.eq)), .d (.sl 6 (c.guard.kids.map FormD.d)), .d (.sl 5 (c.moves.map MoveD.d))]))] (by kernel_rfl) h ?_; clear h; intro a w h
 refine wp_seq ?_
 rcases Bool.eq_false_or_eq_true (fits s x) with hc | hc
 ·have hc1 := hc; clear hc
  rcases Bool.eq_false_or_eq_true (decide (c.proc < 0)) with hc | hc
  ·have hc2 := hc; clear hc
   have hc2' := of_decide_eq_true hc2
   refine rSeq fam2ok 3 [(2, .call (Fn.cast (SFits s x hL hs hx) (congrArg vb hc1)) kg_9), (7, .cmp (op := .lss) (m := c.proc) (n := 0) (b := true) .i64 hc2)] [(3, vp 0 0), (4, vp 1 0), (5, vp 2 0), (6, vb false), (53, vb true)] [(0, .box (sysC s)), (1, .box [.d (.sl 1 (x.locs.map intD)), .d (.sl 2 (x.vals.map ziD))]), (2, .box ([.d (.raw (.int .i64 c.proc)), .d (.raw (.int .i64 c.from_)), .d (.raw (.int .i64 c.to_)), .d (.raw (.int .i64 c.guard.kind)), .d (.sl 3 (c.guard.r.t.parts.map Part.d))] ++ zi c.guard.r.t.k ++ [.d (.raw (.bool c.guard.r.eq)), .d (.sl 6 (c.guard.kids.map FormD.d)), .d (.sl 5 (c.moves.map MoveD.d))]))] (by kernel_rfl) h ?_; clear h; intro a w h
   refine condS true h rfl (fun hc => ?_) (fun hc => ?_)
   ·clear hc
    refine rSeq fam2ok 3 [] [(3, vp 0 0), (4, vp 1 0), (5, vp 2 0), (6, vb false)] [(0, .box (sysC s)), (1, .box [.d (.sl 1 (x.locs.map intD)), .d (.sl 2 (x.vals.map ziD))]), (2, .box ([.d (.raw (.int .i64 c.proc)), .d (.raw (.int .i64 c.from_)), .d (.raw (.int .i64 c.to_)), .d (.raw (.int .i64 c.guard.kind)), .d (.sl 3 (c.guard.r.t.parts.map Part.d))] ++ zi c.guard.r.t.k ++ [.d (.raw (.bool c.guard.r.eq)), .d (.sl 6 (c.guard.kids.map FormD.d)), .d (.sl 5 (c.moves.map MoveD.d))]))] (by kernel_rfl) h ?_; clear h; intro a w h
    refine wp_ret ?_
    refine then_r ?_
    refine retS [.c (.d (.raw (.bool false)))] h Exit.ret (.inl rfl)  rfl ⟨RV.tmp _ _ rfl, trivial⟩ ?_ (by kernel_rfl) (by kernel_rfl)
    have hz : enabled s x c = (false) := by unfold enabled; rw [hc1, Bool.true_and]; rw [decide_eq_false (p := 0 ≤ c.proc ∧ c.proc < (s.procs.length : Int)) (by have := of_decide_eq_true hc2; omega)]; rfl
    rw [hz]; first | done | rfl
   ·cases hc
  ·have hc3 := hc; clear hc
   have hc3' := of_decide_eq_false hc3
   rcases Bool.eq_false_or_eq_true (decide (c.proc ≥ (s.procs.length : Int))) with hc | hc
   ·have hc4 := hc; clear hc
    have hc4' := of_decide_eq_true hc4
    refine rSeq fam2ok 3 [(2, .call (Fn.cast (SFits s x hL hs hx) (congrArg vb hc1)) kg_9), (7, .cmp (op := .lss) (m := c.proc) (n := 0) (b := false) .i64 hc3), (14, .len (c := (.d (.sl 3 (s.procs.map ProcD.d)))) (n := s.procs.length) (lenC_map _ _ _)), (15, .cmp (op := .geq) (m := c.proc) (n := (s.procs.length : Int)) (b := true) .i64 hc4)] [(3, vp 0 0), (4, vp 1 0), (5, vp 2 0), (6, vb false), (53, vb true)] [(0, .box (sysC s)), (1, .box [.d (.sl 1 (x.locs.map intD)), .d (.sl 2 (x.vals.map ziD))]), (2, .box ([.d (.raw (.int .i64 c.proc)), .d (.raw (.int .i64 c.from_)), .d (.raw (.int .i64 c.to_)), .d (.raw (.int .i64 c.guard.kind)), .d (.sl 3 (c.guard.r.t.parts.map Part.d))] ++ zi c.guard.r.t.k ++ [.d (.raw (.bool c.guard.r.eq)), .d (.sl 6 (c.guard.kids.map FormD.d)), .d (.sl 5 (c.moves.map MoveD.d))]))] (by kernel_rfl) h ?_; clear h; intro a w h
    refine condS true h rfl (fun hc => ?_) (fun hc => ?_)
    ·clear hc
     refine rSeq fam2ok 3 [] [(3, vp 0 0), (4, vp 1 0), (5, vp 2 0), (6, vb false)] [(0, .box (sysC s)), (1, .box [.d (.sl 1 (x.locs.map intD)), .d (.sl 2 (x.vals.map ziD))]), (2, .box ([.d (.raw (.int .i64 c.proc)), .d (.raw (.int .i64 c.from_)), .d (.raw (.int .i64 c.to_)), .d (.raw (.int .i64 c.guard.kind)), .d (.sl 3 (c.guard.r.t.parts.map Part.d))] ++ zi c.guard.r.t.k ++ [.d (.raw (.bool c.guard.r.eq)), .d (.sl 6 (c.guard.kids.map FormD.d)), .d (.sl 5 (c.moves.map MoveD.d))]))] (by kernel_rfl) h ?_; clear h; intro a w h
     refine wp_ret ?_
     refine then_r ?_
     refine retS [.c (.d (.raw (.bool false)))] h Exit.ret (.inl rfl)  rfl ⟨RV.tmp _ _ rfl, trivial⟩ ?_ (by kernel_rfl) (by kernel_rfl)
     have hz : enabled s x c = (false) := by unfold enabled; rw [hc1, Bool.true_and]; rw [decide_eq_false (p := 0 ≤ c.proc ∧ c.proc < (s.procs.length : Int)) (by have := of_decide_eq_true hc4; omega)]; rfl
     rw [hz]; first | done | rfl
    ·cases hc
   ·have hc5 := hc; clear hc
    have hc5' := of_decide_eq_false hc5
    have hfl := fits_len hc1
    obtain ⟨k, hkk⟩ : ∃ k_ : Nat, c.proc = (k_ : Int) := ⟨_, (Int.toNat_of_nonneg (by have := of_decide_eq_false hc3; omega)).symm⟩
    replace h := h.conv (f' := F.of [(3, vp 0 0), (4, vp 1 0), (5, vp 2 0), (6, vb false)] [(0, .box (sysC s)), (1, .box [.d (.sl 1 (x.locs.map intD)), .d (.sl 2 (x.vals.map ziD))]), (2, .box ([.d (.raw (.int .i64 (k : Int))), .d (.raw (.int .i64 c.from_)), .d (.raw (.int .i64 c.to_)), .d (.raw (.int .i64 c.guard.kind)), .d (.sl 3 (c.guard.r.t.parts.map Part.d))] ++ zi c.guard.r.t.k ++ [.d (.raw (.bool c.guard.r.eq)), .d (.sl 6 (c.guard.kids.map FormD.d)), .d (.sl 5 (c.moves.map MoveD.d))]))]) (by rw [hkk])
    obtain ⟨x7, hx7⟩ : ∃ z_ : Int, x.locs[k]? = some z_ := ⟨_, List.getElem?_eq_getElem (by first | omega | (simp at *; omega))⟩
    rcases Bool.eq_false_or_eq_true (x7 != c.from_) with hc | hc
    ·have hc6 := hc; clear hc
     have hc6' := hc6; (try simp at hc6')
     refine rSeq fam2ok 3 [(2, .call (Fn.cast (SFits s x hL hs hx) (congrArg vb hc1)) kg_9), (7, .cmp (op := .lss) (m := (k : Int)) (n := 0) (b := false) .i64 (show (decide ((k : Int) < 0)) = false from by rw [← hkk]; exact hc3)), (14, .len (c := (.d (.sl 3 (s.procs.map ProcD.d)))) (n := s.procs.length) (lenC_map _ _ _)), (15, .cmp (op := .geq) (m := (k : Int)) (n := (s.procs.length : Int)) (b := false) .i64 (show (decide ((k : Int) ≥ (s.procs.length : Int))) = false from by rw [← hkk]; exact hc5)), (22, .gen _ _ _ fun _ _ _ _ => Op.idxD (d := 30) (t := 27) (k := .i64) tb_1 (map_at hx7 (f := intD)) (OV.tmp 29 _)), (26, .cmp (op := .neq) (m := x7) (n := c.from_) (b := true) .i64 hc6)] [(3, vp 0 0), (4, vp 1 0), (5, vp 2 0), (6, vb false), (53, vb true)] [(0, .box (sysC s)), (1, .box [.d (.sl 1 (x.locs.map intD)), .d (.sl 2 (x.vals.map ziD))]), (2, .box ([.d (.raw (.int .i64 (k : Int))), .d (.raw (.int .i64 c.from_)), .d (.raw (.int .i64 c.to_)), .d (.raw (.int .i64 c.guard.kind)), .d (.sl 3 (c.guard.r.t.parts.map Part.d))] ++ zi c.guard.r.t.k ++ [.d (.raw (.bool c.guard.r.eq)), .d (.sl 6 (c.guard.kids.map FormD.d)), .d (.sl 5 (c.moves.map MoveD.d))]))] (by kernel_rfl) h ?_; clear h; intro a w h
     refine condS true h rfl (fun hc => ?_) (fun hc => ?_)
     ·clear hc
      refine rSeq fam2ok 3 [] [(3, vp 0 0), (4, vp 1 0), (5, vp 2 0), (6, vb false)] [(0, .box (sysC s)), (1, .box [.d (.sl 1 (x.locs.map intD)), .d (.sl 2 (x.vals.map ziD))]), (2, .box ([.d (.raw (.int .i64 (k : Int))), .d (.raw (.int .i64 c.from_)), .d (.raw (.int .i64 c.to_)), .d (.raw (.int .i64 c.guard.kind)), .d (.sl 3 (c.guard.r.t.parts.map Part.d))] ++ zi c.guard.r.t.k ++ [.d (.raw (.bool c.guard.r.eq)), .d (.sl 6 (c.guard.kids.map FormD.d)), .d (.sl 5 (c.moves.map MoveD.d))]))] (by kernel_rfl) h ?_; clear h; intro a w h
      refine wp_ret ?_
      refine then_r ?_
      refine retS [.c (.d (.raw (.bool false)))] h Exit.ret (.inl rfl)  rfl ⟨RV.tmp _ _ rfl, trivial⟩ ?_ (by kernel_rfl) (by kernel_rfl)
      have hz : enabled s x c = (false) := by unfold enabled; rw [hc1, Bool.true_and]; rw [decide_eq_true (p := 0 ≤ c.proc ∧ c.proc < (s.procs.length : Int)) (by have := of_decide_eq_false hc3; have := of_decide_eq_false hc5; omega), show c.proc.toNat = k by omega, hx7, Option.getD_some, Bool.true_and]; rw [show (x7 == c.from_) = false by have := hc6; simpa using this]; rfl
      rw [hz]; first | done | rfl
     ·cases hc
    ·have hc7 := hc; clear hc
     have hc7' := hc7; (try simp at hc7')
     rcases Bool.eq_false_or_eq_true (decide (c.to_ < 0)) with hc | hc
     ·have hc8 := hc; clear hc
      have hc8' := of_decide_eq_true hc8
      refine rSeq fam2ok 3 [(2, .call (Fn.cast (SFits s x hL hs hx) (congrArg vb hc1)) kg_9), (7, .cmp (op := .lss) (m := (k : Int)) (n := 0) (b := false) .i64 (show (decide ((k : Int) < 0)) = false from by rw [← hkk]; exact hc3)), (14, .len (c := (.d (.sl 3 (s.procs.map ProcD.d)))) (n := s.procs.length) (lenC_map _ _ _)), (15, .cmp (op := .geq) (m := (k : Int)) (n := (s.procs.length : Int)) (b := false) .i64 (show (decide ((k : Int) ≥ (s.procs.length : Int))) = false from by rw [← hkk]; exact hc5)), (22, .gen _ _ _ fun _ _ _ _ => Op.idxD (d := 30) (t := 27) (k := .i64) tb_1 (map_at hx7 (f := intD)) (OV.tmp 29 _)), (26, .cmp (op := .neq) (m := x7) (n := c.from_) (b := false) .i64 hc7), (31, .cmp (op := .lss) (m := c.to_) (n := 0) (b := true) .i64 hc8)] [(3, vp 0 0), (4, vp 1 0), (5, vp 2 0), (6, vb false), (53, vb true)] [(0, .box (sysC s)), (1, .box [.d (.sl 1 (x.locs.map intD)), .d (.sl 2 (x.vals.map ziD))]), (2, .box ([.d (.raw (.int .i64 (k : Int))), .d (.raw (.int .i64 c.from_)), .d (.raw (.int .i64 c.to_)), .d (.raw (.int .i64 c.guard.kind)), .d (.sl 3 (c.guard.r.t.parts.map Part.d))] ++ zi c.guard.r.t.k ++ [.d (.raw (.bool c.guard.r.eq)), .d (.sl 6 (c.guard.kids.map FormD.d)), .d (.sl 5 (c.moves.map MoveD.d))]))] (by kernel_rfl) h ?_; clear h; intro a w h
      refine condS true h rfl (fun hc => ?_) (fun hc => ?_)
      ·clear hc
       refine rSeq fam2ok 3 [] [(3, vp 0 0), (4, vp 1 0), (5, vp 2 0), (6, vb false)] [(0, .box (sysC s)), (1, .box [.d (.sl 1 (x.locs.map intD)), .d (.sl 2 (x.vals.map ziD))]), (2, .box ([.d (.raw (.int .i64 (k : Int))), .d (.raw (.int .i64 c.from_)), .d (.raw (.int .i64 c.to_)), .d (.raw (.int .i64 c.guard.kind)), .d (.sl 3 (c.guard.r.t.parts.map Part.d))] ++ zi c.guard.r.t.k ++ [.d (.raw (.bool c.guard.r.eq)), .d (.sl 6 (c.guard.kids.map FormD.d)), .d (.sl 5 (c.moves.map MoveD.d))]))] (by kernel_rfl) h ?_; clear h; intro a w h
       refine wp_ret ?_
       refine then_r ?_
       refine retS [.c (.d (.raw (.bool false)))] h Exit.ret (.inl rfl)  rfl ⟨RV.tmp _ _ rfl, trivial⟩ ?_ (by kernel_rfl) (by kernel_rfl)
       have hz : enabled s x c = (false) := by unfold enabled; rw [hc1, Bool.true_and]; rw [decide_eq_true (p := 0 ≤ c.proc ∧ c.proc < (s.procs.length : Int)) (by have := of_decide_eq_false hc3; have := of_decide_eq_false hc5; omega), show c.proc.toNat = k by omega, hx7, Option.getD_some, Bool.true_and]; rw [show (x7 == c.from_) = true by have := hc7; simpa using this, Bool.true_and]; rw [decide_eq_false (by have := of_decide_eq_true hc8; omega)]; rfl
       rw [hz]; first | done | rfl
      ·cases hc
     ·have hc9 := hc; clear hc
      have hc9' := of_decide_eq_false hc9
      obtain ⟨x12, hx12⟩ : ∃ z_ : ProcD, s.procs[k]? = some z_ := ⟨_, List.getElem?_eq_getElem (by first | omega | (simp at *; omega))⟩
      refine rSeq fam2ok 3 [(2, .call (Fn.cast (SFits s x hL hs hx) (congrArg vb hc1)) kg_9), (7, .cmp (op := .lss) (m := (k : Int)) (n := 0) (b := false) .i64 (show (decide ((k : Int) < 0)) = false from by rw [← hkk]; exact hc3)), (14, .len (c := (.d (.sl 3 (s.procs.map ProcD.d)))) (n := s.procs.length) (lenC_map _ _ _)), (15, .cmp (op := .geq) (m := (k : Int)) (n := (s.procs.length : Int)) (b := false) .i64 (show (decide ((k : Int) ≥ (s.procs.length : Int))) = false from by rw [← hkk]; exact hc5)), (22, .gen _ _ _ fun _ _ _ _ => Op.idxD (d := 30) (t := 27) (k := .i64) tb_1 (map_at hx7 (f := intD)) (OV.tmp 29 _)), (26, .cmp (op := .neq) (m := x7) (n := c.from_) (b := false) .i64 hc7), (31, .cmp (op := .lss) (m := c.to_) (n := 0) (b := false) .i64 hc9), (40, .gen _ _ _ fun _ _ _ _ => Op.idxD (d := 48) (t := 45) (k := .i64) kf_5 (map_at hx12 (f := ProcD.d)) (OV.tmp 47 _)), (43, .len (c := (.d (.sl 1 (x12.locs.map strD)))) (n := x12.locs.length) (lenC_map _ _ _))] [(3, vp 0 0), (4, vp 1 0), (5, vp 2 0), (6, vb false), (53, vb (decide (c.to_ ≥ (x12.locs.length : Int))))] [(0, .box (sysC s)), (1, .box [.d (.sl 1 (x.locs.map intD)), .d (.sl 2 (x.vals.map ziD))]), (2, .box ([.d (.raw (.int .i64 (k : Int))), .d (.raw (.int .i64 c.from_)), .d (.raw (.int .i64 c.to_)), .d (.raw (.int .i64 c.guard.kind)), .d (.sl 3 (c.guard.r.t.parts.map Part.d))] ++ zi c.guard.r.t.k ++ [.d (.raw (.bool c.guard.r.eq)), .d (.sl 6 (c.guard.kids.map FormD.d)), .d (.sl 5 (c.moves.map MoveD.d))]))] (by kernel_rfl) h ?_; clear h; intro a w h
      refine condS (decide (c.to_ ≥ (x12.locs.length : Int))) h rfl (fun hc => ?_) (fun hc => ?_)
      ·have hc10 := hc; clear hc
       have hc10' := of_decide_eq_true hc10
       refine rSeq fam2ok 3 [] [(3, vp 0 0), (4, vp 1 0), (5, vp 2 0), (6, vb false)] [(0, .box (sysC s)), (1, .box [.d (.sl 1 (x.locs.map intD)), .d (.sl 2 (x.vals.map ziD))]), (2, .box ([.d (.raw (.int .i64 (k : Int))), .d (.raw (.int .i64 c.from_)), .d (.raw (.int .i64 c.to_)), .d (.raw (.int .i64 c.guard.kind)), .d (.sl 3 (c.guard.r.t.parts.map Part.d))] ++ zi c.guard.r.t.k ++ [.d (.raw (.bool c.guard.r.eq)), .d (.sl 6 (c.guard.kids.map FormD.d)), .d (.sl 5 (c.moves.map MoveD.d))]))] (by kernel_rfl) h ?_; clear h; intro a w h
       refine wp_ret ?_
       refine then_r ?_
       refine retS [.c (.d (.raw (.bool false)))] h Exit.ret (.inl rfl)  rfl ⟨RV.tmp _ _ rfl, trivial⟩ ?_ (by kernel_rfl) (by kernel_rfl)
       have hz : enabled s x c = (false) := by unfold enabled; rw [hc1, Bool.true_and]; rw [decide_eq_true (p := 0 ≤ c.proc ∧ c.proc < (s.procs.length : Int)) (by have := of_decide_eq_false hc3; have := of_decide_eq_false hc5; omega), show c.proc.toNat = k by omega, hx7, Option.getD_some, Bool.true_and]; rw [show (x7 == c.from_) = true by have := hc7; simpa using this, Bool.true_and]; rw [show nlocs s k = x12.locs.length by unfold nlocs; rw [hx12]; rfl]; rw [decide_eq_false (by have := of_decide_eq_true hc10; omega)]; rfl
       rw [hz]; first | done | rfl
      ·have hc11 := hc; clear hc
       have hc11' := of_decide_eq_false hc11
       refine wp_skip ?_
       refine then_n ?_
       refine rSeq fam2ok 3 [(0, .gen _ _ _ fun _ _ _ _ => Op.makeFs (d := 54) (fn := .func 63) [(3, 0, 0)])] [(4, vp 1 0), (5, vp 2 0), (6, vb false), (7, vp 3 0)] [(0, .box (sysC s)), (1, .box [.d (.sl 1 (x.locs.map intD)), .d (.sl 2 (x.vals.map ziD))]), (2, .box ([.d (.raw (.int .i64 (k : Int))), .d (.raw (.int .i64 c.from_)), .d (.raw (.int .i64 c.to_)), .d (.raw (.int .i64 c.guard.kind)), .d (.sl 3 (c.guard.r.t.parts.map Part.d))] ++ zi c.guard.r.t.k ++ [.d (.raw (.bool c.guard.r.eq)), .d (.sl 6 (c.guard.kids.map FormD.d)), .d (.sl 5 (c.moves.map MoveD.d))])), (3, .box [.fn (.func 63) [] [.ptr 0 0]])] (by kernel_rfl) h ?_; clear h; intro a w h
       rcases Bool.eq_false_or_eq_true (c.moves.any fun m => !there s m) with hc | hc
       ·have hc12 := hc; clear hc
        refine rSeq fam2ok 4 [(2, .gen _ _ _ fun _ _ _ _ => Op.makeFs (d := 57) (fn := .func 65) [(7, 3, 0)]), (3, .call (Fn.cast (SAnyEN (fun m => !there s m) c.moves s (fun m _ => SEn2 s m) (by have := hc.len; omega)) (congrArg vb hc12)) kj_7)] [(6, vb false)] [] (by kernel_rfl) h ?_; clear h; intro a w h
        refine wp_ret ?_
        refine retS [.c (.d (.raw (.bool false)))] h Exit.ret (.inl rfl)  rfl ⟨RV.tmp _ _ rfl, trivial⟩ ?_ (by kernel_rfl) (by kernel_rfl)
        have hz : enabled s x c = (false) := by unfold enabled; rw [hc1, Bool.true_and]; rw [decide_eq_true (p := 0 ≤ c.proc ∧ c.proc < (s.procs.length : Int)) (by have := of_decide_eq_false hc3; have := of_decide_eq_false hc5; omega), show c.proc.toNat = k by omega, hx7, Option.getD_some, Bool.true_and]; rw [show (x7 == c.from_) = true by have := hc7; simpa using this, Bool.true_and]; rw [show nlocs s k = x12.locs.length by unfold nlocs; rw [hx12]; rfl]; rw [decide_eq_true (p := 0 ≤ c.to_ ∧ c.to_ < (x12.locs.length : Int)) (by have := of_decide_eq_false hc9; have := of_decide_eq_false hc11; omega), Bool.true_and, hc12]; rfl
        rw [hz]; first | done | rfl
       ·have hc13 := hc; clear hc
        refine rSeq fam2ok 4 [(2, .gen _ _ _ fun _ _ _ _ => Op.makeFs (d := 57) (fn := .func 65) [(7, 3, 0)]), (3, .call (Fn.cast (SAnyEN (fun m => !there s m) c.moves s (fun m _ => SEn2 s m) (by have := hc.len; omega)) (congrArg vb hc13)) kj_7), (10, .call (SHolds x.vals (L := L) (M := M) (by omega) hx.vok c.guard hc.guard.1 hc.guard.2) ke_4)] [(6, vb (FormD.holds x.vals c.guard))] [] (by kernel_rfl) h ?_; clear h; intro a w h
        refine wp_ret ?_
        refine retS [.c (.d (.raw (.bool (FormD.holds x.vals c.guard))))] h Exit.ret (.inl rfl)  rfl ⟨RV.tmp _ _ rfl, trivial⟩ ?_ (by kernel_rfl) (by kernel_rfl)
        have hz : enabled s x c = (FormD.holds x.vals c.guard) := by unfold enabled; rw [hc1, Bool.true_and]; rw [decide_eq_true (p := 0 ≤ c.proc ∧ c.proc < (s.procs.length : Int)) (by have := of_decide_eq_false hc3; have := of_decide_eq_false hc5; omega), show c.proc.toNat = k by omega, hx7, Option.getD_some, Bool.true_and]; rw [show (x7 == c.from_) = true by have := hc7; simpa using this, Bool.true_and]; rw [show nlocs s k = x12.locs.length by unfold nlocs; rw [hx12]; rfl]; rw [decide_eq_true (p := 0 ≤ c.to_ ∧ c.to_ < (x12.locs.length : Int)) (by have := of_decide_eq_false hc9; have := of_decide_eq_false hc11; omega), Bool.true_and, hc13]; rfl
        rw [hz]; first | done | rfl
 ·have hc14 := hc; clear hc
  refine rSeq fam2ok 4 [(2, .call (Fn.cast (SFits s x hL hs hx) (congrArg vb hc14)) kg_9)] [(3, vp 0 0), (4, vp 1 0), (5, vp 2 0), (6, vb false), (53, vb true)] [(0, .box (sysC s)), (1, .box [.d (.sl 1 (x.locs.map intD)), .d (.sl 2 (x.vals.map ziD))]), (2, .box ([.d (.raw (.int .i64 c.proc)), .d (.raw (.int .i64 c.from_)), .d (.raw (.int .i64 c.to_)), .d (.raw (.int .i64 c.guard.kind)), .d (.sl 3 (c.guard.r.t.parts.map Part.d))] ++ zi c.guard.r.t.k ++ [.d (.raw (.bool c.guard.r.eq)), .d (.sl 6 (c.guard.kids.map FormD.d)), .d (.sl 5 (c.moves.map MoveD.d))]))] (by kernel_rfl) h ?_; clear h; intro a w h
  refine condS true h rfl (fun hc => ?_) (fun hc => ?_)
  ·clear hc
   refine rSeq fam2ok 4 [] [(3, vp 0 0), (4, vp 1 0), (5, vp 2 0), (6, vb false)] [(0, .box (sysC s)), (1, .box [.d (.sl 1 (x.locs.map intD)), .d (.sl 2 (x.vals.map ziD))]), (2, .box ([.d (.raw (.int .i64 c.proc)), .d (.raw (.int .i64 c.from_)), .d (.raw (.int .i64 c.to_)), .d (.raw (.int .i64 c.guard.kind)), .d (.sl 3 (c.guard.r.t.parts.map Part.d))] ++ zi c.guard.r.t.k ++ [.d (.raw (.bool c.guard.r.eq)), .d (.sl 6 (c.guard.kids.map FormD.d)), .d (.sl 5 (c.moves.map MoveD.d))]))] (by kernel_rfl) h ?_; clear h; intro a w h
   refine wp_ret ?_
   refine then_r ?_
   refine retS [.c (.d (.raw (.bool false)))] h Exit.ret (.inl rfl)  rfl ⟨RV.tmp _ _ rfl, trivial⟩ ?_ (by kernel_rfl) (by kernel_rfl)
   have hz : enabled s x c = false := by unfold enabled; rw [hc14]; rfl
   rw [hz]; first | done | rfl
  ·cases hc
set_option maxHeartbeats 4000000 in
theorem SCloneI1 (xs : List Int) (hn : 0 < xs.length) (hl : xs.length ≤ 1000000) : Fn Tryz.prog 62 [] [.t (.c (.d (.sl 1 (xs.map intD))))] (.t (.c (.own 0 xs.length))) [(0, .row 3 1 (xs.map intD))] := by
 refine Fn.body Tryz.func62 rfl 8 rfl fun w H B a h => ?_
 refine rSeq fam2ok 1 [] [(0, .t (.c (.d (.sl 1 (xs.map intD))))), (2, .t (.c (.d (.raw nilV))))] [] (by kernel_rfl) h ?_; clear h; intro a w h
 refine wp_seq ?_
 refine rSeq fam2ok 1 [(1, .gen _ _ _ fun _ _ _ _ => Op.eqNilD (d := 4) (t := 3) (es := 1) (xt := 40) (yt := 40) (rows := xs.map intD) tb_1.hu ((by rw [List.length_map]; exact hn)) (OV.const nilV rfl))] [(0, .t (.c (.d (.sl 1 (xs.map intD))))), (2, .t (.c (.d (.raw nilV)))), (4, vb false)] [] (by kernel_rfl) h ?_; clear h; intro a w h
 refine condS false h rfl (fun hc => ?_) (fun hc => ?_)
 ·cases hc
 ·clear hc
  refine wp_skip ?_
  refine then_n ?_
  refine rSeq fam2ok 1 [(0, .gen _ _ _ fun _ _ _ _ => Op.buildE (d := 5) (n := 1) tb_0), (2, .gen _ _ _ fun _ _ _ _ => Op.appOD (d := 7) (t := 5) (u := 6) (n := 1) (n' := 2) (len := 0) (len' := xs.length) (rows := [].map intD) (rows2 := xs.map intD) (rows' := xs.map intD) tb_2 (by first | exact (List.length_map _).symm | simp) (by first | (rw [List.length_append, List.length_map]; done) | simp) (by simp) (by simp [intD]) (by first | omega | (simp at *; done) | (simp at *; omega)))] [(2, .t (.c (.own 2 xs.length)))] [(2, .row 3 1 (xs.map intD))] (by kernel_rfl) h ?_; clear h; intro a w h
  refine wp_ret ?_
  replace h := renS 2 0 [(2, .t (.c (.own 0 xs.length)))] [(0, .row 3 1 (xs.map intD))] h (by kernel_rfl) (by kernel_rfl) (by kernel_rfl)
  refine retS [.c (.own 0 xs.length)] h Exit.ret (.inl rfl)  rfl ⟨RV.tmp _ _ rfl, trivial⟩ ?_ (by kernel_rfl) (by kernel_rfl)
  rfl
set_option maxHeartbeats 4000000 in
theorem SCloneI2  : Fn Tryz.prog 62 [] [.t (.c (.d (.raw nilV)))] (.t (.c (.own 0 0))) [(0, .row 3 1 ([].map intD))] := by
 refine Fn.body Tryz.func62 rfl 8 rfl fun w H B a h => ?_
 refine rSeq fam2ok 1 [] [(0, .t (.c (.d (.raw nilV)))), (2, .t (.c (.d (.raw nilV))))] [] (by kernel_rfl) h ?_; clear h; intro a w h
 refine wp_seq ?_
 refine rSeq fam2ok 1 [(1, .gen _ _ _ fun _ _ _ _ => Op.eqNilR (d := 4) (xt := 40) (yt := 40) (ao := none) (n := 0) (c := 0) tb_1.hu (OV.tmp 3 _) (OV.const nilV rfl))] [(0, .t (.c (.d (.raw nilV)))), (2, .t (.c (.d (.raw nilV)))), (4, vb true)] [] (by kernel_rfl) h ?_; clear h; intro a w h
 refine condS true h rfl (fun hc => ?_) (fun hc => ?_)
 ·clear hc
  refine rSeq fam2ok 1 [] [(0, .t (.c (.d (.raw nilV)))), (2, .t (.c (.d (.raw nilV))))] [] (by kernel_rfl) h ?_; clear h; intro a w h
  refine wp_ret ?_
  refine then_r ?_
  replace h := nilOSs 2 0 1 1 3 (.t (.c (.d (.raw nilV)))) [(0, .t (.c (.d (.raw nilV)))), (2, .t (.c (.own 1 0)))] [(1, .row 3 1 ([].map intD))] h (by kernel_rfl) rfl rfl (by kernel_rfl) (by kernel_rfl)
  replace h := renS 1 0 [(0, .t (.c (.d (.raw nilV)))), (2, .t (.c (.own 0 0)))] [(0, .row 3 1 ([].map intD))] h (by kernel_rfl) (by kernel_rfl) (by kernel_rfl)
  refine retS [.c (.own 0 0)] h Exit.ret (.inl rfl)  rfl ⟨RV.tmp _ _ rfl, trivial⟩ ?_ (by kernel_rfl) (by kernel_rfl)
  rfl
 ·cases hc
set_option maxHeartbeats 4000000 in
theorem SCloneI3 (ao : Addr) (c : Nat) (hc : c ≤ maxLen) : Fn Tryz.prog 62 [] [.t (.c (.d (.raw (.slice (some ao) 0 c))))] (.t (.c (.own 0 0))) [(0, .row 3 1 ([].map intD))] := by
 refine Fn.body Tryz.func62 rfl 8 rfl fun w H B a h => ?_
 refine rSeq fam2ok 1 [] [(0, .t (.c (.d (.raw (.slice (some ao) 0 c))))), (2, .t (.c (.d (.raw nilV))))] [] (by kernel_rfl) h ?_; clear h; intro a w h
 refine wp_seq ?_
 refine rSeq fam2ok 1 [(1, .gen _ _ _ fun _ _ _ _ => Op.eqNilR (d := 4) (xt := 40) (yt := 40) (ao := some ao) (n := 0) (c := c) tb_1.hu (OV.tmp 3 _) (OV.const nilV rfl))] [(0, .t (.c (.d (.raw (.slice (some ao) 0 c))))), (2, .t (.c (.d (.raw nilV)))), (4, vb false)] [] (by kernel_rfl) h ?_; clear h; intro a w h
 refine condS false h rfl (fun hc => ?_) (fun hc => ?_)
 ·cases hc
 ·clear hc
  refine wp_skip ?_
  refine then_n ?_
  replace h := nilDSr 0 0 1 (.t (.c (.d (.raw (.slice (some ao) 0 c))))) (some ao) c (fun e => by cases e) hc [(0, .t (.c (.d (.sl 1 ([].map intD))))), (2, .t (.c (.d (.raw nilV)))), (4, vb false)] [] h rfl rfl (by kernel_rfl) (by kernel_rfl)
  refine rSeq fam2ok 1 [(0, .gen _ _ _ fun _ _ _ _ => Op.buildE (d := 5) (n := 1) tb_0), (2, .gen _ _ _ fun _ _ _ _ => Op.appOD (d := 7) (t := 5) (u := 6) (n := 1) (n' := 2) (len := 0) (len' := 0) (rows := [].map intD) (rows2 := [].map intD) (rows' := [].map intD) tb_2 (by first | exact (List.length_map _).symm | simp) (by first | (rw [List.length_append, List.length_map]; done) | simp) (by simp) (by simp [intD]) (by first | omega | (simp at *; done) | (simp at *; omega)))] [(2, .t (.c (.own 2 0)))] [(2, .row 3 1 ([].map intD))] (by kernel_rfl) h ?_; clear h; intro a w h
  refine wp_ret ?_
  replace h := renS 2 0 [(2, .t (.c (.own 0 0)))] [(0, .row 3 1 ([].map intD))] h (by kernel_rfl) (by kernel_rfl) (by kernel_rfl)
  refine retS [.c (.own 0 0)] h Exit.ret (.inl rfl)  rfl ⟨RV.tmp _ _ rfl, trivial⟩ ?_ (by kernel_rfl) (by kernel_rfl)
  rfl
theorem SCloneI (xs : List Int) (hl : xs.length ≤ 1000000) : Fn Tryz.prog 62 [] [.t (.c (.d (.sl 1 (xs.map intD))))] (.t (.c (.own 0 xs.length))) [(0, .row 3 1 (xs.map intD))] := by
 cases xs with
 | nil =>
  refine Fn.rawE fun ao c h1 h2 => ?_
  cases ao with
  | none => obtain rfl := h1 rfl; exact SCloneI2
  | some ao => exact SCloneI3 ao c h2
 | cons x xs => exact SCloneI1 (x :: xs) (by simp) hl
end Go.Proofs.YtmohlifepfjmdaaGreat.S
end
section
namespace Go.Proofs.YtmohlifepfjmdaaGreat.S
open Go.RowKit

theorem kk_0 : Bodied Tryz.prog 62 := Bodied.mk' (by kernel_rfl)
theorem kk_3 : ElZ Tryz.prog 41 28 2 := ElZ.mk' Tryz.underlying41 _ _ rfl rfl (by kernel_rfl) (by kernel_rfl) (by kernel_rfl) (by decide)
theorem kk_4 : ElT Tryz.prog 41 28 2 32 := ElT.mk' Tryz.underlying41 _ _ rfl rfl (by kernel_rfl) (by kernel_rfl) (by kernel_rfl) (by decide) (by decide)
theorem kk_5 : Sz Tryz.prog 43 2 true := Sz.mk' (by kernel_rfl) Tryz.underlying43 _ rfl
theorem kk_6 : Bodied Tryz.prog 34 := Bodied.mk' (by kernel_rfl)
theorem kk_7 : Bodied Tryz.prog 35 := Bodied.mk' (by kernel_rfl)
theorem kk_8 : Bodied Tryz.prog 36 := Bodied.mk' (by kernel_rfl)
theorem kk_12 : Bodied Tryz.prog 17 := Bodied.mk' (by kernel_rfl)
def clZ (z : ZI) : ZI := ZI.of z.val
def cloneS (x : StD) : StD := ⟨x.locs, x.vals.map clZ⟩
def st0 : StD := ⟨[], []⟩
def canAt (s : SysD) (x : StD) (c : ActD) (v : Nat) : Bool := if freeAt c v = true then !((bndAt s v).is_ && decide (cmpZ (bndAt s v).lo.val (bndAt s v).hi.val > 0)) else withinB (bndAt s v) (newAt x c v)
def canC (s : SysD) (x : StD) (c : ActD) : Bool := enabled s x c && allN s.vars.length (canAt s x c)
def can (s : SysD) (x : StD) (i : Int) : Bool := match actAt s i with | none => false | some c => canC s x c
def stuck (s : SysD) (x : StD) : Bool := allN s.acts.length (fun i => !can s x (i : Int)) && fits s x
def cntFree (c : ActD) : Nat → Nat
  | 0 => 0
  | v + 1 => cntFree c v + if freeAt c v = true then 1 else 0
def newV (x : StD) (c : ActD) (picks : List ZI) (v : Nat) : ZI := if freeAt c v = true then (match picks[cntFree c v]? with | some p => ZI.of p.val | none => zero0) else newAt x c v
def outS (s : SysD) (x : StD) (c : ActD) (picks : List ZI) : StD := ⟨x.locs.set c.proc.toNat c.to_, (List.range s.vars.length).map (newV x c picks)⟩
def goC (s : SysD) (x : StD) (c : ActD) (picks : List ZI) : StD × Bool := if enabled s x c = true ∧ fits s (outS s x c picks) = true then (outS s x c picks, true) else (st0, false)
def goS (s : SysD) (x : StD) (i : Int) (picks : List ZI) : StD × Bool := if i = -1 ∧ stuck s x = true then (cloneS x, true) else match actAt s i with | none => (st0, false) | some c => goC s x c picks
theorem enabled_fits {s : SysD} {x : StD} {c : ActD} (h : enabled s x c = true) : fits s x = true := by unfold enabled at h; simp only [Bool.and_eq_true] at h; exact h.1.1
theorem enabled_proc {s : SysD} {x : StD} {c : ActD} (h : enabled s x c = true) : 0 ≤ c.proc ∧ c.proc < (s.procs.length : Int) := by unfold enabled at h; simp only [Bool.and_eq_true, decide_eq_true_eq] at h; exact h.1.2.1.1
theorem range_set {α : Type} {f : Nat → α} {cl : List α} {j : Nat} {y : α} (hj : j < cl.length) (hy : y = f j) : ((List.range j).map f ++ cl.drop j).set j y = (List.range (j + 1)).map f ++ cl.drop (j + 1) := by
 subst hy
 have hl : ((List.range j).map f).length = j := by simp
 rw [List.set_append_right _ _ (by omega), hl, Nat.sub_self, List.drop_eq_getElem_cons hj, List.set_cons_zero, List.range_succ, List.map_append, List.append_assoc]; rfl
theorem range_end {α : Type} {f : Nat → α} {cl : List α} {n : Nat} (hn : cl.length = n) : (List.range n).map f ++ cl.drop n = (List.range n).map f := by rw [List.drop_of_length_le (by omega), List.append_nil]
theorem range_len {α : Type} {f : Nat → α} {cl : List α} {j : Nat} (hj : j ≤ cl.length) : ((List.range j).map f ++ cl.drop j).length = cl.length := by rw [List.length_append, List.length_map, List.length_range, List.length_drop]; omega
theorem map_snoc {α β : Type} {f : α → β} {xs : List α} {j : Nat} {x : α} (h : xs[j]? = some x) : (xs.take j).map f ++ [f x] = (xs.take (j + 1)).map f := by rw [List.take_add_one, h, List.map_append]; rfl
set_option maxHeartbeats 4000000 in
theorem Sclone (x : StD) {M : Nat} (hM : M ≤ 40000) (hx : StOk M x) : Fn Tryz.prog 33 [] [.t (.agg [.d (.sl 1 (x.locs.map intD)), .d (.sl 2 (x.vals.map ziD))])] (.t (.agg [.own 0 x.locs.length, .own 1 (x.vals.map clZ).length])) [(0, .row 3 1 (x.locs.map intD)), (1, .row 28 2 ((x.vals.map clZ).map ziD))] := by
 have lx1 := hx.locs
 have lx2 := hx.vals
 refine Fn.body Tryz.func33 rfl 29 rfl fun w H B a h => ?_
 refine rSeq fam0ok 5 [] [(1, vp 5 0), (2, vp 6 0)] [(5, .box [.d (.sl 1 (x.locs.map intD)), .d (.sl 2 (x.vals.map ziD))]), (6, .box [.d (.raw nilV), .d (.raw nilV)])] (by kernel_rfl) h ?_; clear h; intro a w h
 refine rSeq fam0ok 7 [(2, .call (SCloneI x.locs (by omega)) kk_0)] [(1, vp 5 0), (2, vp 6 0), (3, vp 7 0)] [(5, .box [.d (.sl 1 (x.locs.map intD)), .d (.sl 2 (x.vals.map ziD))]), (6, .box [.d (.raw nilV), .d (.raw nilV)]), (0, .row 3 1 (x.locs.map intD)), (7, .box [.own 0 x.locs.length, .d (.raw nilV)])] (by kernel_rfl) h ?_; clear h; intro a w h
 refine wp_seq ?_
 replace h := nilOLs 7 1 8 2 28 [.own 0 x.locs.length, .d (.raw nilV)] [(1, vp 5 0), (2, vp 6 0), (3, vp 7 0)] [(5, .box [.d (.sl 1 (x.locs.map intD)), .d (.sl 2 (x.vals.map ziD))]), (6, .box [.d (.raw nilV), .d (.raw nilV)]), (0, .row 3 1 (x.locs.map intD)), (7, .box [.own 0 x.locs.length, .own 8 0]), (8, .row 28 2 ([].map ziD))] h (by kernel_rfl) rfl rfl (by kernel_rfl) (by kernel_rfl)
 refine rSeq fam0ok 9 [(2, .len (c := (.d (.sl 2 (x.vals.map ziD)))) (n := x.vals.length) (lenC_map _ _ _))] [(2, vp 6 0), (3, vp 7 0), (11, .t (.c (.d (.sl 2 (x.vals.map ziD))))), (12, vi .i64 (x.vals.length : Int)), (13, vi .i64 0)] [(6, .box [.d (.raw nilV), .d (.raw nilV)]), (0, .row 3 1 (x.locs.map intD)), (7, .box [.own 0 x.locs.length, .own 8 0]), (8, .row 28 2 ([].map ziD))] (by kernel_rfl) h ?_; clear h; intro a w h
 refine wp_block ?_
 refine loopS (ι := (Nat)) (fun (z_ : (Nat)) => match z_ with | j => j ≤ x.vals.length)
   (fun (z_ : (Nat)) => match z_ with | j => [(2, vp 6 0), (3, vp 7 0), (11, .t (.c (.d (.sl 2 (x.vals.map ziD))))), (12, vi .i64 (x.vals.length : Int)), (13, vi .i64 (j : Int))])
   (fun (z_ : (Nat)) => match z_ with | j => [(6, .box [.d (.raw nilV), .d (.raw nilV)]), (0, .row 3 1 (x.locs.map intD)), (7, .box [.own 0 x.locs.length, .own 8 ((x.vals.take j).map clZ).length]), (8, .row 28 2 (((x.vals.take j).map clZ).map ziD))])
   (fun (z_ : (Nat)) => match z_ with | j => x.vals.length - j) 0 ?_ h (by kernel_rfl) (by kernel_rfl) ?_
 ·exact Nat.zero_le _
 ·clear h; rintro j a w hI h
  change St _ (F.of [(2, vp 6 0), (3, vp 7 0), (11, .t (.c (.d (.sl 2 (x.vals.map ziD))))), (12, vi .i64 (x.vals.length : Int)), (13, vi .i64 (j : Int))] [(6, .box [.d (.raw nilV), .d (.raw nilV)]), (0, .row 3 1 (x.locs.map intD)), (7, .box [.own 0 x.locs.length, .own 8 ((x.vals.take j).map clZ).length]), (8, .row 28 2 (((x.vals.take j).map clZ).map ziD))]) a w at h
  refine rSeq fam0ok 9 [] [(2, vp 6 0), (3, vp 7 0), (11, .t (.c (.d (.sl 2 (x.vals.map ziD))))), (12, vi .i64 (x.vals.length : Int)), (13, vi .i64 (j : Int)), (14, vb (decide ((j : Int) < (x.vals.length : Int))))] [(6, .box [.d (.raw nilV), .d (.raw nilV)]), (0, .row 3 1 (x.locs.map intD)), (7, .box [.own 0 x.locs.length, .own 8 ((x.vals.take j).map clZ).length]), (8, .row 28 2 (((x.vals.take j).map clZ).map ziD))] (by kernel_rfl) h ?_; clear h; intro a w h
  refine wp_seq ?_
  refine condS (decide ((j : Int) < (x.vals.length : Int))) h rfl (fun hc => ?_) (fun hc => ?_)
  ·have hc1 := hc; clear hc
   have hc1' := of_decide_eq_true hc1
   refine wp_skip ?_
   refine then_n ?_
   refine wp_seq ?_
   refine wp_block ?_
   obtain ⟨x2, hx2⟩ : ∃ z_ : ZI, x.vals[j]? = some z_ := ⟨_, List.getElem?_eq_getElem (by first | omega | (simp at *; omega))⟩
   have gx2 := hx.val x2 (List.mem_of_getElem? hx2)
   have lgx2 := gx2.2
   refine rSeq fam0ok 9 [(0, .gen _ _ _ fun _ _ _ _ => Op.idxD (d := 15) (t := 11) (k := .i64) tt_6 (map_at hx2 (f := ziD)) (OV.tmp 13 _))] [(2, vp 6 0), (3, vp 7 0), (5, vp 9 0), (11, .t (.c (.d (.sl 2 (x.vals.map ziD))))), (12, vi .i64 (x.vals.length : Int)), (13, vi .i64 (j : Int))] [(6, .box [.d (.raw nilV), .d (.raw nilV)]), (0, .row 3 1 (x.locs.map intD)), (7, .box [.own 0 x.locs.length, .own 8 ((x.vals.take j).map clZ).length]), (8, .row 28 2 (((x.vals.take j).map clZ).map ziD)), (9, .box (zi x2))] (by kernel_rfl) h ?_; clear h; intro a w h
   obtain ⟨r3, er3, vr3, or3, lr3⟩ := mkZ (v := x2.val) (m := M) (Nat.le_trans (len_id gx2.1) gx2.2)
   refine rS fam0ok 10 [(6, .call (Fn.cast ((show Fn _ _ _ _ (vz (ZI.of x2.val)) _ from SFrom x2.neg x2.abs gx2.1 (by omega))) (congrArg vz er3.symm)) ia_3), (7, .gen _ _ _ fun _ _ _ _ => Op.buildD (d := 24) (len := 1) (rows := [r3].map ziD) (rs := [(23, vz r3)]) kk_3 (.cons (i := 0) (OV.tmp 23 _) (.nil)) (by kernel_rfl) rfl (by simp [ziD]) (by decide) (by decide)), (8, .gen _ _ _ fun _ _ _ _ => Op.appOD (d := 25) (t := 18) (u := 24) (n := 8) (n' := 10) (len := ((x.vals.take j).map clZ).length) (len' := (((x.vals.take j).map clZ) ++ [r3]).length) (rows := ((x.vals.take j).map clZ).map ziD) (rows2 := [r3].map ziD) (rows' := (((x.vals.take j).map clZ) ++ [r3]).map ziD) kk_4 (by first | exact (List.length_map _).symm | simp) (by first | (rw [List.length_append, List.length_map]; done) | simp) (by simp) (by simp [ziD]) (by first | omega | (simp at *; done) | (simp at *; omega)))] [(2, vp 6 0), (3, vp 7 0), (11, .t (.c (.d (.sl 2 (x.vals.map ziD))))), (12, vi .i64 (x.vals.length : Int)), (13, vi .i64 (j : Int))] [(6, .box [.d (.raw nilV), .d (.raw nilV)]), (0, .row 3 1 (x.locs.map intD)), (7, .box ([.own 0 x.locs.length, .own 10 (((x.vals.take j).map clZ) ++ [r3]).length])), (10, .row 28 2 ((((x.vals.take j).map clZ) ++ [r3]).map ziD))] (by kernel_rfl) h ?_; clear h; intro a w h
   refine block_n ?_
   refine then_n ?_
   refine rS fam0ok 11 [(0, .add .i64 (m := (j : Int)) (n := 1) (i64_id (by omega) (by omega)))] [(2, vp 6 0), (3, vp 7 0), (11, .t (.c (.d (.sl 2 (x.vals.map ziD))))), (12, vi .i64 (x.vals.length : Int)), (13, vi .i64 ((j : Int) + 1))] [(6, .box [.d (.raw nilV), .d (.raw nilV)]), (0, .row 3 1 (x.locs.map intD)), (7, .box ([.own 0 x.locs.length, .own 10 (((x.vals.take j).map clZ) ++ [r3]).length])), (10, .row 28 2 ((((x.vals.take j).map clZ) ++ [r3]).map ziD))] (by kernel_rfl) h ?_; clear h; intro a w h
   refine then_n ?_
   replace h := h.conv (f' := F.of [(2, vp 6 0), (3, vp 7 0), (11, .t (.c (.d (.sl 2 (x.vals.map ziD))))), (12, vi .i64 (x.vals.length : Int)), (13, vi .i64 ((j : Int) + 1))] [(6, .box [.d (.raw nilV), .d (.raw nilV)]), (0, .row 3 1 (x.locs.map intD)), (7, .box [.own 0 x.locs.length, .own 10 ((x.vals.take (j + 1)).map clZ).length]), (10, .row 28 2 (((x.vals.take (j + 1)).map clZ).map ziD))]) (congrArg (fun (z_ : List ZI) => F.of [(2, vp 6 0), (3, vp 7 0), (11, .t (.c (.d (.sl 2 (x.vals.map ziD))))), (12, vi .i64 (x.vals.length : Int)), (13, vi .i64 ((j : Int) + 1))] [(6, .box [.d (.raw nilV), .d (.raw nilV)]), (0, .row 3 1 (x.locs.map intD)), (7, .box [.own 0 x.locs.length, .own 10 z_.length]), (10, .row 28 2 (z_.map ziD))]) (show ((((x.vals.take j).map clZ) ++ [r3]) : List ZI) = ((x.vals.take (j + 1)).map clZ) from (by rw [← map_snoc hx2]; congr 1; simp [clZ, *])))
   replace h := renS 10 8 [(2, vp 6 0), (3, vp 7 0), (11, .t (.c (.d (.sl 2 (x.vals.map ziD))))), (12, vi .i64 (x.vals.length : Int)), (13, vi .i64 ((j : Int) + 1))] [(6, .box [.d (.raw nilV), .d (.raw nilV)]), (0, .row 3 1 (x.locs.map intD)), (7, .box [.own 0 x.locs.length, .own 8 ((x.vals.take (j + 1)).map clZ).length]), (8, .row 28 2 (((x.vals.take (j + 1)).map clZ).map ziD))] h (by kernel_rfl) (by kernel_rfl) (by kernel_rfl)
   refine roundS (x := j) (y := j + 1) h ?_ ?_ (by kernel_rfl) (by kernel_rfl)
   ·have := at_lt hx2
    show j + 1 ≤ x.vals.length
    omega
   ·show x.vals.length - (j + 1) < x.vals.length - j
    have := at_lt hx2; omega
  ·have hc2 := hc; clear hc
   have hc2' := of_decide_eq_false hc2
   refine wp_exit ?_
   refine then_x ?_
   refine then_x ?_
   refine inBlock_exit ?_
   refine then_n ?_
   refine rSeq fam0ok 11 [] [(2, vp 6 0)] [(6, .box [.own 0 x.locs.length, .own 8 ((x.vals.take j).map clZ).length]), (0, .row 3 1 (x.locs.map intD)), (8, .row 28 2 (((x.vals.take j).map clZ).map ziD))] (by kernel_rfl) h ?_; clear h; intro a w h
   refine wp_ret ?_
   replace h := h.conv (f' := F.of [(2, vp 6 0)] [(6, .box [.own 0 x.locs.length, .own 8 (x.vals.map clZ).length]), (0, .row 3 1 (x.locs.map intD)), (8, .row 28 2 ((x.vals.map clZ).map ziD))]) (congrArg (fun (z_ : List ZI) => F.of [(2, vp 6 0)] [(6, .box [.own 0 x.locs.length, .own 8 z_.length]), (0, .row 3 1 (x.locs.map intD)), (8, .row 28 2 (z_.map ziD))]) (show (((x.vals.take j).map clZ) : List ZI) = (x.vals.map clZ) from (by rw [List.take_of_length_le (by omega)])))
   replace h := renS 8 1 [(2, vp 6 0)] [(6, .box [.own 0 x.locs.length, .own 1 (x.vals.map clZ).length]), (0, .row 3 1 (x.locs.map intD)), (1, .row 28 2 ((x.vals.map clZ).map ziD))] h (by kernel_rfl) (by kernel_rfl) (by kernel_rfl)
   refine retS [.agg [.own 0 x.locs.length, .own 1 (x.vals.map clZ).length]] h Exit.ret (.inl rfl)  rfl ⟨RV.agg _ 6 0 _ _ _ _ kk_5 rfl rfl rfl rfl, trivial⟩ ?_ (by kernel_rfl) (by kernel_rfl)
   rfl
set_option maxHeartbeats 4000000 in
theorem SCanN (s : SysD) (x : StD) (i : Int) {L M : Nat} (_hL : L + M ≤ 4000) (_hs : SysOk L s) (_hx : StOk M x) (hi : actAt s i = none) : Fn Tryz.prog 17 [] [.t (.agg (sysC s)), .t (.agg [.d (.sl 1 (x.locs.map intD)), .d (.sl 2 (x.vals.map ziD))]), vi .i64 i] (vb (can s x i)) [] := by
 refine Fn.body Tryz.func17 rfl 67 rfl fun w H B a h => ?_
 refine rSeq fam0ok 0 [] [(2, vi .i64 i), (3, vp 0 0), (4, vp 1 0), (6, vb false)] [(0, .box (sysC s)), (1, .box [.d (.sl 1 (x.locs.map intD)), .d (.sl 2 (x.vals.map ziD))])] (by kernel_rfl) h ?_; clear h; intro a w h
 refine rSeq fam0ok 2 [(2, .call (SactN s i hi) kk_6)] [(3, vp 0 0), (4, vp 1 0), (6, vb false), (7, vp 2 0), (8, vb false)] [(0, .box (sysC s)), (1, .box [.d (.sl 1 (x.locs.map intD)), .d (.sl 2 (x.vals.map ziD))]), (2, .box ([.d (.raw (.int .i64 act0.proc)), .d (.raw (.int .i64 act0.from_)), .d (.raw (.int .i64 act0.to_)), .d (.raw (.int .i64 act0.guard.kind)), .d (.sl 3 (act0.guard.r.t.parts.map Part.d))] ++ zi act0.guard.r.t.k ++ [.d (.raw (.bool act0.guard.r.eq)), .d (.sl 6 (act0.guard.kids.map FormD.d)), .d (.sl 5 (act0.moves.map MoveD.d))]))] (by kernel_rfl) h ?_; clear h; intro a w h
 refine wp_seq ?_
 refine rSeq fam0ok 3 [] [(3, vp 0 0), (4, vp 1 0), (6, vb false), (7, vp 2 0), (27, vb true)] [(0, .box (sysC s)), (1, .box [.d (.sl 1 (x.locs.map intD)), .d (.sl 2 (x.vals.map ziD))]), (2, .box ([.d (.raw (.int .i64 act0.proc)), .d (.raw (.int .i64 act0.from_)), .d (.raw (.int .i64 act0.to_)), .d (.raw (.int .i64 act0.guard.kind)), .d (.sl 3 (act0.guard.r.t.parts.map Part.d))] ++ zi act0.guard.r.t.k ++ [.d (.raw (.bool act0.guard.r.eq)), .d (.sl 6 (act0.guard.kids.map FormD.d)), .d (.sl 5 (act0.moves.map MoveD.d))]))] (by kernel_rfl) h ?_; clear h; intro a w h
 refine condS true h rfl (fun hc => ?_) (fun hc => ?_)
 ·clear hc
  refine rSeq fam0ok 3 [] [(3, vp 0 0), (4, vp 1 0), (6, vb false), (7, vp 2 0)] [(0, .box (sysC s)), (1, .box [.d (.sl 1 (x.locs.map intD)), .d (.sl 2 (x.vals.map ziD))]), (2, .box ([.d (.raw (.int .i64 act0.proc)), .d (.raw (.int .i64 act0.from_)), .d (.raw (.int .i64 act0.to_)), .d (.raw (.int .i64 act0.guard.kind)), .d (.sl 3 (act0.guard.r.t.parts.map Part.d))] ++ zi act0.guard.r.t.k ++ [.d (.raw (.bool act0.guard.r.eq)), .d (.sl 6 (act0.guard.kids.map FormD.d)), .d (.sl 5 (act0.moves.map MoveD.d))]))] (by kernel_rfl) h ?_; clear h; intro a w h
  refine wp_ret ?_
  refine then_r ?_
  refine retS [.c (.d (.raw (.bool false)))] h Exit.ret (.inl rfl)  rfl ⟨RV.tmp _ _ rfl, trivial⟩ ?_ (by kernel_rfl) (by kernel_rfl)
  unfold can; rw [hi]; first | done | rfl
 ·cases hc
set_option maxHeartbeats 4000000 in
theorem SCanS (s : SysD) (x : StD) (i : Int) (c : ActD) {L M : Nat} (hL : L + M ≤ 4000) (hs : SysOk L s) (hx : StOk M x) (hi : actAt s i = some c) : Fn Tryz.prog 17 [] [.t (.agg (sysC s)), .t (.agg [.d (.sl 1 (x.locs.map intD)), .d (.sl 2 (x.vals.map ziD))]), vi .i64 i] (vb (can s x i)) [] := by
 have lx1 := hx.locs
 have lx2 := hx.vals
 have ls1 := hs.vars
 have ls2 := hs.procs
 have hc : ActOk L c := act_ok hs hi
 refine Fn.body Tryz.func17 rfl 67 rfl fun w H B a h => ?_
 refine rSeq fam0ok 0 [] [(2, vi .i64 i), (3, vp 0 0), (4, vp 1 0), (6, vb false)] [(0, .box (sysC s)), (1, .box [.d (.sl 1 (x.locs.map intD)), .d (.sl 2 (x.vals.map ziD))])] (by kernel_rfl) h ?_; clear h; intro a w h
 refine rSeq fam0ok 2 [(2, .call (SactS s i c hi) kk_6)] [(3, vp 0 0), (4, vp 1 0), (6, vb false), (7, vp 2 0), (8, vb true)] [(0, .box (sysC s)), (1, .box [.d (.sl 1 (x.locs.map intD)), .d (.sl 2 (x.vals.map ziD))]), (2, .box ([.d (.raw (.int .i64 c.proc)), .d (.raw (.int .i64 c.from_)), .d (.raw (.int .i64 c.to_)), .d (.raw (.int .i64 c.guard.kind)), .d (.sl 3 (c.guard.r.t.parts.map Part.d))] ++ zi c.guard.r.t.k ++ [.d (.raw (.bool c.guard.r.eq)), .d (.sl 6 (c.guard.kids.map FormD.d)), .d (.sl 5 (c.moves.map MoveD.d))]))] (by kernel_rfl) h ?_; clear h; intro a w h
 refine wp_seq ?_
 refine rSeq fam0ok 3 [(6, .call (Senabled s x c (L := L) (M := M) (by omega) hs hx hc) kk_7)] [(3, vp 0 0), (4, vp 1 0), (6, vb false), (7, vp 2 0), (27, vb (!(enabled s x c)))] [(0, .box (sysC s)), (1, .box [.d (.sl 1 (x.locs.map intD)), .d (.sl 2 (x.vals.map ziD))]), (2, .box ([.d (.raw (.int .i64 c.proc)), .d (.raw (.int .i64 c.from_)), .d (.raw (.int .i64 c.to_)), .d (.raw (.int .i64 c.guard.kind)), .d (.sl 3 (c.guard.r.t.parts.map Part.d))] ++ zi c.guard.r.t.k ++ [.d (.raw (.bool c.guard.r.eq)), .d (.sl 6 (c.guard.kids.map FormD.d)), .d (.sl 5 (c.moves.map MoveD.d))]))] (by kernel_rfl) h ?_; clear h; intro a w h
 refine condS (!(enabled s x c)) h rfl (fun hc => ?_) (fun hc => ?_)
 ·have hc1 := hc; clear hc
  have hc1' := hc1; (try simp at hc1')
  refine rSeq fam0ok 3 [] [(3, vp 0 0), (4, vp 1 0), (6, vb false), (7, vp 2 0)] [(0, .box (sysC s)), (1, .box [.d (.sl 1 (x.locs.map intD)), .d (.sl 2 (x.vals.map ziD))]), (2, .box ([.d (.raw (.int .i64 c.proc)), .d (.raw (.int .i64 c.from_)), .d (.raw (.int .i64 c.to_)), .d (.raw (.int .i64 c.guard.kind)), .d (.sl 3 (c.guard.r.t.parts.map Part.d))] ++ zi c.guard.r.t.k ++ [.d (.raw (.bool c.guard.r.eq)), .d (.sl 6 (c.guard.kids.map FormD.d)), .d (.sl 5 (c.moves.map MoveD.d))]))] (by kernel_rfl) h ?_; clear h; intro a w h
  refine wp_ret ?_
  refine then_r ?_
  refine retS [.c (.d (.raw (.bool false)))] h Exit.ret (.inl rfl)  rfl ⟨RV.tmp _ _ rfl, trivial⟩ ?_ (by kernel_rfl) (by kernel_rfl)
  have hz : can s x i = false := by unfold can; rw [hi]; show canC s x c = _; unfold canC; rw [(show (enabled s x c) = false from by simpa using hc1), Bool.false_and]
  rw [hz]; first | done | rfl
 ·have hc2 := hc; clear hc
  have hc2' := hc2; (try simp at hc2')
  refine wp_skip ?_
  refine then_n ?_
  refine wp_seq ?_
  have hen := (show (enabled s x c) = true from by simpa using hc2)
  refine rSeq fam0ok 3 [(2, .len (c := (.d (.sl 1 (s.vars.map strD)))) (n := s.vars.length) (lenC_map _ _ _))] [(3, vp 0 0), (4, vp 1 0), (6, vb false), (7, vp 2 0), (30, vi .i64 (s.vars.length : Int)), (31, vi .i64 0)] [(0, .box (sysC s)), (1, .box [.d (.sl 1 (x.locs.map intD)), .d (.sl 2 (x.vals.map ziD))]), (2, .box ([.d (.raw (.int .i64 c.proc)), .d (.raw (.int .i64 c.from_)), .d (.raw (.int .i64 c.to_)), .d (.raw (.int .i64 c.guard.kind)), .d (.sl 3 (c.guard.r.t.parts.map Part.d))] ++ zi c.guard.r.t.k ++ [.d (.raw (.bool c.guard.r.eq)), .d (.sl 6 (c.guard.kids.map FormD.d)), .d (.sl 5 (c.moves.map MoveD.d))]))] (by kernel_rfl) h ?_; clear h; intro a w h
  refine wp_block ?_
  refine loopS (ι := (Nat)) (fun (z_ : (Nat)) => match z_ with | j => j ≤ s.vars.length ∧ allN j (canAt s x c) = true)
    (fun (z_ : (Nat)) => match z_ with | j => [(3, vp 0 0), (4, vp 1 0), (7, vp 2 0), (30, vi .i64 (s.vars.length : Int)), (31, vi .i64 (j : Int))])
    (fun (z_ : (Nat)) => match z_ with | j => [(0, .box (sysC s)), (1, .box [.d (.sl 1 (x.locs.map intD)), .d (.sl 2 (x.vals.map ziD))]), (2, .box ([.d (.raw (.int .i64 c.proc)), .d (.raw (.int .i64 c.from_)), .d (.raw (.int .i64 c.to_)), .d (.raw (.int .i64 c.guard.kind)), .d (.sl 3 (c.guard.r.t.parts.map Part.d))] ++ zi c.guard.r.t.k ++ [.d (.raw (.bool c.guard.r.eq)), .d (.sl 6 (c.guard.kids.map FormD.d)), .d (.sl 5 (c.moves.map MoveD.d))]))])
    (fun (z_ : (Nat)) => match z_ with | j => s.vars.length - j) 0 ?_ h (by kernel_rfl) (by kernel_rfl) ?_
  ·exact ⟨Nat.zero_le _, rfl⟩
  ·clear h; rintro j a w hI h
   change St _ (F.of [(3, vp 0 0), (4, vp 1 0), (7, vp 2 0), (30, vi .i64 (s.vars.length : Int)), (31, vi .i64 (j : Int))] [(0, .box (sysC s)), (1, .box [.d (.sl 1 (x.locs.map intD)), .d (.sl 2 (x.vals.map ziD))]), (2, .box ([.d (.raw (.int .i64 c.proc)), .d (.raw (.int .i64 c.from_)), .d (.raw (.int .i64 c.to_)), .d (.raw (.int .i64 c.guard.kind)), .d (.sl 3 (c.guard.r.t.parts.map Part.d))] ++ zi c.guard.r.t.k ++ [.d (.raw (.bool c.guard.r.eq)), .d (.sl 6 (c.guard.kids.map FormD.d)), .d (.sl 5 (c.moves.map MoveD.d))]))]) a w at h
   obtain ⟨hI1, hI2⟩ := hI
   have lb1 := (bnd_ok hs j).1.2
   have lb2 := (bnd_ok hs j).2.2
   refine rSeq fam0ok 3 [] [(3, vp 0 0), (4, vp 1 0), (7, vp 2 0), (30, vi .i64 (s.vars.length : Int)), (31, vi .i64 (j : Int)), (32, vb (decide ((j : Int) < (s.vars.length : Int))))] [(0, .box (sysC s)), (1, .box [.d (.sl 1 (x.locs.map intD)), .d (.sl 2 (x.vals.map ziD))]), (2, .box ([.d (.raw (.int .i64 c.proc)), .d (.raw (.int .i64 c.from_)), .d (.raw (.int .i64 c.to_)), .d (.raw (.int .i64 c.guard.kind)), .d (.sl 3 (c.guard.r.t.parts.map Part.d))] ++ zi c.guard.r.t.k ++ [.d (.raw (.bool c.guard.r.eq)), .d (.sl 6 (c.guard.kids.map FormD.d)), .d (.sl 5 (c.moves.map MoveD.d))]))] (by kernel_rfl) h ?_; clear h; intro a w h
   refine wp_seq ?_
   refine condS (decide ((j : Int) < (s.vars.length : Int))) h rfl (fun hc => ?_) (fun hc => ?_)
   ·have hc3 := hc; clear hc
    have hc3' := of_decide_eq_true hc3
    refine wp_skip ?_
    refine then_n ?_
    refine wp_seq ?_
    refine wp_block ?_
    refine rSeq fam0ok 3 [] [(3, vp 0 0), (4, vp 1 0), (7, vp 2 0), (9, vi .i64 (j : Int)), (30, vi .i64 (s.vars.length : Int)), (31, vi .i64 (j : Int))] [(0, .box (sysC s)), (1, .box [.d (.sl 1 (x.locs.map intD)), .d (.sl 2 (x.vals.map ziD))]), (2, .box ([.d (.raw (.int .i64 c.proc)), .d (.raw (.int .i64 c.from_)), .d (.raw (.int .i64 c.to_)), .d (.raw (.int .i64 c.guard.kind)), .d (.sl 3 (c.guard.r.t.parts.map Part.d))] ++ zi c.guard.r.t.k ++ [.d (.raw (.bool c.guard.r.eq)), .d (.sl 6 (c.guard.kids.map FormD.d)), .d (.sl 5 (c.moves.map MoveD.d))]))] (by kernel_rfl) h ?_; clear h; intro a w h
    have gn := new_ok hc hx j
    have lgn := gn.2
    refine rSeq fam0ok 3 [(3, .call (Safter x c j (L := L) (M := M) (by omega) hc hx (by have := fits_len (enabled_fits hen); omega)) kk_8)] [(3, vp 0 0), (4, vp 1 0), (7, vp 2 0), (9, vi .i64 (j : Int)), (10, vp 3 0), (11, vb (freeAt c j)), (30, vi .i64 (s.vars.length : Int)), (31, vi .i64 (j : Int))] [(0, .box (sysC s)), (1, .box [.d (.sl 1 (x.locs.map intD)), .d (.sl 2 (x.vals.map ziD))]), (2, .box ([.d (.raw (.int .i64 c.proc)), .d (.raw (.int .i64 c.from_)), .d (.raw (.int .i64 c.to_)), .d (.raw (.int .i64 c.guard.kind)), .d (.sl 3 (c.guard.r.t.parts.map Part.d))] ++ zi c.guard.r.t.k ++ [.d (.raw (.bool c.guard.r.eq)), .d (.sl 6 (c.guard.kids.map FormD.d)), .d (.sl 5 (c.moves.map MoveD.d))])), (3, .box (zi (newAt x c j)))] (by kernel_rfl) h ?_; clear h; intro a w h
    refine wp_seq ?_
    refine rSeq fam0ok 4 [(2, .call (Sbound s j (by have := hs.bnds; omega)) kf_2)] [(3, vp 0 0), (4, vp 1 0), (7, vp 2 0), (9, vi .i64 (j : Int)), (10, vp 3 0), (11, vb (freeAt c j)), (12, vp 4 0), (30, vi .i64 (s.vars.length : Int)), (31, vi .i64 (j : Int))] [(0, .box (sysC s)), (1, .box [.d (.sl 1 (x.locs.map intD)), .d (.sl 2 (x.vals.map ziD))]), (2, .box ([.d (.raw (.int .i64 c.proc)), .d (.raw (.int .i64 c.from_)), .d (.raw (.int .i64 c.to_)), .d (.raw (.int .i64 c.guard.kind)), .d (.sl 3 (c.guard.r.t.parts.map Part.d))] ++ zi c.guard.r.t.k ++ [.d (.raw (.bool c.guard.r.eq)), .d (.sl 6 (c.guard.kids.map FormD.d)), .d (.sl 5 (c.moves.map MoveD.d))])), (3, .box (zi (newAt x c j))), (4, .box ([.d (.raw (.bool (bndAt s j).is_))] ++ zi (bndAt s j).lo ++ zi (bndAt s j).hi))] (by kernel_rfl) h ?_; clear h; intro a w h
    rcases Bool.eq_false_or_eq_true (freeAt c j) with hc | hc
    ·have hc4 := hc; clear hc
     rw [hc4] at h
     rcases Bool.eq_false_or_eq_true (bndAt s j).is_ with hc | hc
     ·have hc5 := hc; clear hc
      rw [hc5] at h
      refine rSeq fam0ok 5 [(10, .call (SCmp (bndAt s j).lo (bndAt s j).hi (bnd_ok hs j).1.1 (bnd_ok hs j).2.1 (by omega) (by omega)) kf_3)] [(3, vp 0 0), (4, vp 1 0), (7, vp 2 0), (9, vi .i64 (j : Int)), (10, vp 3 0), (11, vb true), (30, vi .i64 (s.vars.length : Int)), (31, vi .i64 (j : Int)), (56, vb (decide (cmpZ (bndAt s j).lo.val (bndAt s j).hi.val > 0)))] [(0, .box (sysC s)), (1, .box [.d (.sl 1 (x.locs.map intD)), .d (.sl 2 (x.vals.map ziD))]), (2, .box ([.d (.raw (.int .i64 c.proc)), .d (.raw (.int .i64 c.from_)), .d (.raw (.int .i64 c.to_)), .d (.raw (.int .i64 c.guard.kind)), .d (.sl 3 (c.guard.r.t.parts.map Part.d))] ++ zi c.guard.r.t.k ++ [.d (.raw (.bool c.guard.r.eq)), .d (.sl 6 (c.guard.kids.map FormD.d)), .d (.sl 5 (c.moves.map MoveD.d))])), (3, .box (zi (newAt x c j)))] (by kernel_rfl) h ?_; clear h; intro a w h
      refine condS (decide (cmpZ (bndAt s j).lo.val (bndAt s j).hi.val > 0)) h rfl (fun hc => ?_) (fun hc => ?_)
      ·have hc6 := hc; clear hc
       have hc6' := of_decide_eq_true hc6
       refine rSeq fam0ok 5 [] [(3, vp 0 0), (4, vp 1 0), (6, vb false), (7, vp 2 0), (9, vi .i64 (j : Int)), (10, vp 3 0), (11, vb true), (30, vi .i64 (s.vars.length : Int)), (31, vi .i64 (j : Int))] [(0, .box (sysC s)), (1, .box [.d (.sl 1 (x.locs.map intD)), .d (.sl 2 (x.vals.map ziD))]), (2, .box ([.d (.raw (.int .i64 c.proc)), .d (.raw (.int .i64 c.from_)), .d (.raw (.int .i64 c.to_)), .d (.raw (.int .i64 c.guard.kind)), .d (.sl 3 (c.guard.r.t.parts.map Part.d))] ++ zi c.guard.r.t.k ++ [.d (.raw (.bool c.guard.r.eq)), .d (.sl 6 (c.guard.kids.map FormD.d)), .d (.sl 5 (c.moves.map MoveD.d))])), (3, .box (zi (newAt x c j)))] (by kernel_rfl) h ?_; clear h; intro a w h
       refine wp_ret ?_
       refine then_r ?_
       refine block_r ?_
       refine then_r ?_
       refine then_r ?_
       refine block_r ?_
       refine then_r ?_
       refine retS [.c (.d (.raw (.bool false)))] h Exit.ret (.inl rfl)  rfl ⟨RV.tmp _ _ rfl, trivial⟩ ?_ (by kernel_rfl) (by kernel_rfl)
       have hz : can s x i = false := by unfold can; rw [hi]; show canC s x c = _; unfold canC; rw [(show (enabled s x c) = true from by simpa using hc2), Bool.true_and, allN_fail (j := j) (by have := of_decide_eq_true hc3; omega) (show canAt s x c j = false by unfold canAt; rw [if_pos hc4, hc5, hc6]; rfl)]
       rw [hz]; first | done | rfl
      ·have hc7 := hc; clear hc
       have hc7' := of_decide_eq_false hc7
       refine wp_skip ?_
       refine then_n ?_
       refine rSeq fam0ok 5 [] [(3, vp 0 0), (4, vp 1 0), (7, vp 2 0), (30, vi .i64 (s.vars.length : Int)), (31, vi .i64 (j : Int)), (65, vb false)] [(0, .box (sysC s)), (1, .box [.d (.sl 1 (x.locs.map intD)), .d (.sl 2 (x.vals.map ziD))]), (2, .box ([.d (.raw (.int .i64 c.proc)), .d (.raw (.int .i64 c.from_)), .d (.raw (.int .i64 c.to_)), .d (.raw (.int .i64 c.guard.kind)), .d (.sl 3 (c.guard.r.t.parts.map Part.d))] ++ zi c.guard.r.t.k ++ [.d (.raw (.bool c.guard.r.eq)), .d (.sl 6 (c.guard.kids.map FormD.d)), .d (.sl 5 (c.moves.map MoveD.d))]))] (by kernel_rfl) h ?_; clear h; intro a w h
       refine condS false h rfl (fun hc => ?_) (fun hc => ?_)
       ·cases hc
       ·clear hc
        refine wp_skip ?_
        refine block_n ?_
        refine then_n ?_
        refine rS fam0ok 5 [(0, .add .i64 (m := (j : Int)) (n := 1) (i64_id (by omega) (by omega)))] [(3, vp 0 0), (4, vp 1 0), (7, vp 2 0), (30, vi .i64 (s.vars.length : Int)), (31, vi .i64 ((j : Int) + 1))] [(0, .box (sysC s)), (1, .box [.d (.sl 1 (x.locs.map intD)), .d (.sl 2 (x.vals.map ziD))]), (2, .box ([.d (.raw (.int .i64 c.proc)), .d (.raw (.int .i64 c.from_)), .d (.raw (.int .i64 c.to_)), .d (.raw (.int .i64 c.guard.kind)), .d (.sl 3 (c.guard.r.t.parts.map Part.d))] ++ zi c.guard.r.t.k ++ [.d (.raw (.bool c.guard.r.eq)), .d (.sl 6 (c.guard.kids.map FormD.d)), .d (.sl 5 (c.moves.map MoveD.d))]))] (by kernel_rfl) h ?_; clear h; intro a w h
        refine then_n ?_
        refine roundS (x := j) (y := j + 1) h ?_ ?_ (by kernel_rfl) (by kernel_rfl)
        ·exact ⟨by omega, allN_step hI2 (by unfold canAt; rw [if_pos hc4, hc5, hc7]; rfl)⟩
        ·show s.vars.length - (j + 1) < s.vars.length - j
         omega
     ·have hc8 := hc; clear hc
      rw [hc8] at h
      refine rSeq fam0ok 5 [] [(3, vp 0 0), (4, vp 1 0), (7, vp 2 0), (9, vi .i64 (j : Int)), (10, vp 3 0), (11, vb true), (30, vi .i64 (s.vars.length : Int)), (31, vi .i64 (j : Int)), (56, vb false)] [(0, .box (sysC s)), (1, .box [.d (.sl 1 (x.locs.map intD)), .d (.sl 2 (x.vals.map ziD))]), (2, .box ([.d (.raw (.int .i64 c.proc)), .d (.raw (.int .i64 c.from_)), .d (.raw (.int .i64 c.to_)), .d (.raw (.int .i64 c.guard.kind)), .d (.sl 3 (c.guard.r.t.parts.map Part.d))] ++ zi c.guard.r.t.k ++ [.d (.raw (.bool c.guard.r.eq)), .d (.sl 6 (c.guard.kids.map FormD.d)), .d (.sl 5 (c.moves.map MoveD.d))])), (3, .box (zi (newAt x c j)))] (by kernel_rfl) h ?_; clear h; intro a w h
      refine condS false h rfl (fun hc => ?_) (fun hc => ?_)
      ·cases hc
      ·clear hc
       refine wp_skip ?_
       refine then_n ?_
       refine rSeq fam0ok 5 [] [(3, vp 0 0), (4, vp 1 0), (7, vp 2 0), (30, vi .i64 (s.vars.length : Int)), (31, vi .i64 (j : Int)), (65, vb false)] [(0, .box (sysC s)), (1, .box [.d (.sl 1 (x.locs.map intD)), .d (.sl 2 (x.vals.map ziD))]), (2, .box ([.d (.raw (.int .i64 c.proc)), .d (.raw (.int .i64 c.from_)), .d (.raw (.int .i64 c.to_)), .d (.raw (.int .i64 c.guard.kind)), .d (.sl 3 (c.guard.r.t.parts.map Part.d))] ++ zi c.guard.r.t.k ++ [.d (.raw (.bool c.guard.r.eq)), .d (.sl 6 (c.guard.kids.map FormD.d)), .d (.sl 5 (c.moves.map MoveD.d))]))] (by kernel_rfl) h ?_; clear h; intro a w h
       refine condS false h rfl (fun hc => ?_) (fun hc => ?_)
       ·cases hc
       ·clear hc
        refine wp_skip ?_
        refine block_n ?_
        refine then_n ?_
        refine rS fam0ok 5 [(0, .add .i64 (m := (j : Int)) (n := 1) (i64_id (by omega) (by omega)))] [(3, vp 0 0), (4, vp 1 0), (7, vp 2 0), (30, vi .i64 (s.vars.length : Int)), (31, vi .i64 ((j : Int) + 1))] [(0, .box (sysC s)), (1, .box [.d (.sl 1 (x.locs.map intD)), .d (.sl 2 (x.vals.map ziD))]), (2, .box ([.d (.raw (.int .i64 c.proc)), .d (.raw (.int .i64 c.from_)), .d (.raw (.int .i64 c.to_)), .d (.raw (.int .i64 c.guard.kind)), .d (.sl 3 (c.guard.r.t.parts.map Part.d))] ++ zi c.guard.r.t.k ++ [.d (.raw (.bool c.guard.r.eq)), .d (.sl 6 (c.guard.kids.map FormD.d)), .d (.sl 5 (c.moves.map MoveD.d))]))] (by kernel_rfl) h ?_; clear h; intro a w h
        refine then_n ?_
        refine roundS (x := j) (y := j + 1) h ?_ ?_ (by kernel_rfl) (by kernel_rfl)
        ·exact ⟨by omega, allN_step hI2 (by unfold canAt; rw [if_pos hc4, hc8]; rfl)⟩
        ·show s.vars.length - (j + 1) < s.vars.length - j
         omega
    ·have hc9 := hc; clear hc
     rw [hc9] at h
     refine rSeq fam0ok 5 [] [(3, vp 0 0), (4, vp 1 0), (7, vp 2 0), (9, vi .i64 (j : Int)), (10, vp 3 0), (11, vb false), (30, vi .i64 (s.vars.length : Int)), (31, vi .i64 (j : Int)), (56, vb false)] [(0, .box (sysC s)), (1, .box [.d (.sl 1 (x.locs.map intD)), .d (.sl 2 (x.vals.map ziD))]), (2, .box ([.d (.raw (.int .i64 c.proc)), .d (.raw (.int .i64 c.from_)), .d (.raw (.int .i64 c.to_)), .d (.raw (.int .i64 c.guard.kind)), .d (.sl 3 (c.guard.r.t.parts.map Part.d))] ++ zi c.guard.r.t.k ++ [.d (.raw (.bool c.guard.r.eq)), .d (.sl 6 (c.guard.kids.map FormD.d)), .d (.sl 5 (c.moves.map MoveD.d))])), (3, .box (zi (newAt x c j)))] (by kernel_rfl) h ?_; clear h; intro a w h
     refine condS false h rfl (fun hc => ?_) (fun hc => ?_)
     ·cases hc
     ·clear hc
      refine wp_skip ?_
      refine then_n ?_
      refine rSeq fam0ok 5 [(6, .call (Swithin s j (newAt x c j) (L := L) (M := L + M + 2) (by omega) hs gn) kf_7)] [(3, vp 0 0), (4, vp 1 0), (7, vp 2 0), (30, vi .i64 (s.vars.length : Int)), (31, vi .i64 (j : Int)), (65, vb (!(withinB (bndAt s j) (newAt x c j))))] [(0, .box (sysC s)), (1, .box [.d (.sl 1 (x.locs.map intD)), .d (.sl 2 (x.vals.map ziD))]), (2, .box ([.d (.raw (.int .i64 c.proc)), .d (.raw (.int .i64 c.from_)), .d (.raw (.int .i64 c.to_)), .d (.raw (.int .i64 c.guard.kind)), .d (.sl 3 (c.guard.r.t.parts.map Part.d))] ++ zi c.guard.r.t.k ++ [.d (.raw (.bool c.guard.r.eq)), .d (.sl 6 (c.guard.kids.map FormD.d)), .d (.sl 5 (c.moves.map MoveD.d))]))] (by kernel_rfl) h ?_; clear h; intro a w h
      refine condS (!(withinB (bndAt s j) (newAt x c j))) h rfl (fun hc => ?_) (fun hc => ?_)
      ·have hc10 := hc; clear hc
       have hc10' := hc10; (try simp at hc10')
       refine rSeq fam0ok 5 [] [(3, vp 0 0), (4, vp 1 0), (6, vb false), (7, vp 2 0), (30, vi .i64 (s.vars.length : Int)), (31, vi .i64 (j : Int))] [(0, .box (sysC s)), (1, .box [.d (.sl 1 (x.locs.map intD)), .d (.sl 2 (x.vals.map ziD))]), (2, .box ([.d (.raw (.int .i64 c.proc)), .d (.raw (.int .i64 c.from_)), .d (.raw (.int .i64 c.to_)), .d (.raw (.int .i64 c.guard.kind)), .d (.sl 3 (c.guard.r.t.parts.map Part.d))] ++ zi c.guard.r.t.k ++ [.d (.raw (.bool c.guard.r.eq)), .d (.sl 6 (c.guard.kids.map FormD.d)), .d (.sl 5 (c.moves.map MoveD.d))]))] (by kernel_rfl) h ?_; clear h; intro a w h
       refine wp_ret ?_
       refine block_r ?_
       refine then_r ?_
       refine then_r ?_
       refine block_r ?_
       refine then_r ?_
       refine retS [.c (.d (.raw (.bool false)))] h Exit.ret (.inl rfl)  rfl ⟨RV.tmp _ _ rfl, trivial⟩ ?_ (by kernel_rfl) (by kernel_rfl)
       have hz : can s x i = false := by unfold can; rw [hi]; show canC s x c = _; unfold canC; rw [(show (enabled s x c) = true from by simpa using hc2), Bool.true_and, allN_fail (j := j) (by have := of_decide_eq_true hc3; omega) (show canAt s x c j = false by unfold canAt; rw [if_neg (by rw [hc9]; exact Bool.noConfusion)]; exact (show (withinB (bndAt s j) (newAt x c j)) = false from by simpa using hc10))]
       rw [hz]; first | done | rfl
      ·have hc11 := hc; clear hc
       have hc11' := hc11; (try simp at hc11')
       refine wp_skip ?_
       refine block_n ?_
       refine then_n ?_
       refine rS fam0ok 5 [(0, .add .i64 (m := (j : Int)) (n := 1) (i64_id (by omega) (by omega)))] [(3, vp 0 0), (4, vp 1 0), (7, vp 2 0), (30, vi .i64 (s.vars.length : Int)), (31, vi .i64 ((j : Int) + 1))] [(0, .box (sysC s)), (1, .box [.d (.sl 1 (x.locs.map intD)), .d (.sl 2 (x.vals.map ziD))]), (2, .box ([.d (.raw (.int .i64 c.proc)), .d (.raw (.int .i64 c.from_)), .d (.raw (.int .i64 c.to_)), .d (.raw (.int .i64 c.guard.kind)), .d (.sl 3 (c.guard.r.t.parts.map Part.d))] ++ zi c.guard.r.t.k ++ [.d (.raw (.bool c.guard.r.eq)), .d (.sl 6 (c.guard.kids.map FormD.d)), .d (.sl 5 (c.moves.map MoveD.d))]))] (by kernel_rfl) h ?_; clear h; intro a w h
       refine then_n ?_
       refine roundS (x := j) (y := j + 1) h ?_ ?_ (by kernel_rfl) (by kernel_rfl)
       ·exact ⟨by omega, allN_step hI2 (by unfold canAt; rw [if_neg (by rw [hc9]; exact Bool.noConfusion)]; exact (show (withinB (bndAt s j) (newAt x c j)) = true from by simpa using hc11))⟩
       ·show s.vars.length - (j + 1) < s.vars.length - j
        omega
   ·have hc12 := hc; clear hc
    have hc12' := of_decide_eq_false hc12
    refine wp_exit ?_
    refine then_x ?_
    refine then_x ?_
    refine inBlock_exit ?_
    refine then_n ?_
    refine rSeq fam0ok 5 [] [(6, vb true)] [] (by kernel_rfl) h ?_; clear h; intro a w h
    refine wp_ret ?_
    refine retS [.c (.d (.raw (.bool true)))] h Exit.ret (.inl rfl)  rfl ⟨RV.tmp _ _ rfl, trivial⟩ ?_ (by kernel_rfl) (by kernel_rfl)
    have hz : can s x i = true := by unfold can; rw [hi]; show canC s x c = _; unfold canC; rw [(show (enabled s x c) = true from by simpa using hc2), Bool.true_and, show s.vars.length = j by have := of_decide_eq_false hc12; omega, hI2]
    rw [hz]; first | done | rfl
theorem SCan (s : SysD) (x : StD) (i : Int) {L M : Nat} (hL : L + M ≤ 4000) (hs : SysOk L s) (hx : StOk M x) : Fn Tryz.prog 17 [] [.t (.agg (sysC s)), .t (.agg [.d (.sl 1 (x.locs.map intD)), .d (.sl 2 (x.vals.map ziD))]), vi .i64 i] (vb (can s x i)) [] := by
 cases hi : actAt s i with
 | none => exact SCanN s x i hL hs hx hi
 | some c => exact SCanS s x i c hL hs hx hi
set_option maxHeartbeats 4000000 in
theorem SStuck (s : SysD) (x : StD) {L M : Nat} (hL : L + M ≤ 4000) (hs : SysOk L s) (hx : StOk M x) : Fn Tryz.prog 19 [] [.t (.agg (sysC s)), .t (.agg [.d (.sl 1 (x.locs.map intD)), .d (.sl 2 (x.vals.map ziD))])] (vb (stuck s x)) [] := by
 have lx1 := hx.locs
 have lx2 := hx.vals
 have ls1 := hs.vars
 have ls2 := hs.procs
 have las := hs.acts
 refine Fn.body Tryz.func19 rfl 20 rfl fun w H B a h => ?_
 refine rSeq fam0ok 0 [] [(2, vp 0 0), (3, vp 1 0), (4, vb false)] [(0, .box (sysC s)), (1, .box [.d (.sl 1 (x.locs.map intD)), .d (.sl 2 (x.vals.map ziD))])] (by kernel_rfl) h ?_; clear h; intro a w h
 refine wp_seq ?_
 refine rSeq fam0ok 2 [(2, .len (c := (.d (.sl 10 (s.acts.map ActD.d)))) (n := s.acts.length) (lenC_map _ _ _))] [(2, vp 0 0), (3, vp 1 0), (4, vb false), (8, vi .i64 (s.acts.length : Int)), (9, vi .i64 0)] [(0, .box (sysC s)), (1, .box [.d (.sl 1 (x.locs.map intD)), .d (.sl 2 (x.vals.map ziD))])] (by kernel_rfl) h ?_; clear h; intro a w h
 refine wp_block ?_
 refine loopS (ι := (Nat)) (fun (z_ : (Nat)) => match z_ with | j => j ≤ s.acts.length ∧ allN j (fun i => !can s x (i : Int)) = true)
   (fun (z_ : (Nat)) => match z_ with | j => [(2, vp 0 0), (3, vp 1 0), (8, vi .i64 (s.acts.length : Int)), (9, vi .i64 (j : Int))])
   (fun (z_ : (Nat)) => match z_ with | j => [(0, .box (sysC s)), (1, .box [.d (.sl 1 (x.locs.map intD)), .d (.sl 2 (x.vals.map ziD))])])
   (fun (z_ : (Nat)) => match z_ with | j => s.acts.length - j) 0 ?_ h (by kernel_rfl) (by kernel_rfl) ?_
 ·exact ⟨Nat.zero_le _, rfl⟩
 ·clear h; rintro j a w hI h
  change St _ (F.of [(2, vp 0 0), (3, vp 1 0), (8, vi .i64 (s.acts.length : Int)), (9, vi .i64 (j : Int))] [(0, .box (sysC s)), (1, .box [.d (.sl 1 (x.locs.map intD)), .d (.sl 2 (x.vals.map ziD))])]) a w at h
  obtain ⟨hI1, hI2⟩ := hI
  refine rSeq fam0ok 2 [] [(2, vp 0 0), (3, vp 1 0), (8, vi .i64 (s.acts.length : Int)), (9, vi .i64 (j : Int)), (10, vb (decide ((j : Int) < (s.acts.length : Int))))] [(0, .box (sysC s)), (1, .box [.d (.sl 1 (x.locs.map intD)), .d (.sl 2 (x.vals.map ziD))])] (by kernel_rfl) h ?_; clear h; intro a w h
  refine wp_seq ?_
  refine condS (decide ((j : Int) < (s.acts.length : Int))) h rfl (fun hc => ?_) (fun hc => ?_)
  ·have hc1 := hc; clear hc
   have hc1' := of_decide_eq_true hc1
   refine wp_skip ?_
   refine then_n ?_
   refine wp_seq ?_
   refine wp_block ?_
   refine rSeq fam0ok 2 [] [(2, vp 0 0), (3, vp 1 0), (5, vi .i64 (j : Int)), (8, vi .i64 (s.acts.length : Int)), (9, vi .i64 (j : Int))] [(0, .box (sysC s)), (1, .box [.d (.sl 1 (x.locs.map intD)), .d (.sl 2 (x.vals.map ziD))])] (by kernel_rfl) h ?_; clear h; intro a w h
   refine rSeq fam0ok 2 [(3, .call (SCan s x (j : Int) hL hs hx) kk_12)] [(2, vp 0 0), (3, vp 1 0), (8, vi .i64 (s.acts.length : Int)), (9, vi .i64 (j : Int)), (15, vb (can s x (j : Int)))] [(0, .box (sysC s)), (1, .box [.d (.sl 1 (x.locs.map intD)), .d (.sl 2 (x.vals.map ziD))])] (by kernel_rfl) h ?_; clear h; intro a w h
   refine condS (can s x (j : Int)) h rfl (fun hc => ?_) (fun hc => ?_)
   ·have hc2 := hc; clear hc
    refine rSeq fam0ok 2 [] [(2, vp 0 0), (3, vp 1 0), (4, vb false), (8, vi .i64 (s.acts.length : Int)), (9, vi .i64 (j : Int))] [(0, .box (sysC s)), (1, .box [.d (.sl 1 (x.locs.map intD)), .d (.sl 2 (x.vals.map ziD))])] (by kernel_rfl) h ?_; clear h; intro a w h
    refine wp_ret ?_
    refine block_r ?_
    refine then_r ?_
    refine then_r ?_
    refine block_r ?_
    refine then_r ?_
    refine retS [.c (.d (.raw (.bool false)))] h Exit.ret (.inl rfl)  rfl ⟨RV.tmp _ _ rfl, trivial⟩ ?_ (by kernel_rfl) (by kernel_rfl)
    have hz : stuck s x = false := by unfold stuck; rw [allN_fail (j := j) (by have := of_decide_eq_true hc1; omega) (show (!can s x (j : Int)) = false by rw [hc2]; rfl)]; rfl
    rw [hz]; first | done | rfl
   ·have hc3 := hc; clear hc
    refine wp_skip ?_
    refine block_n ?_
    refine then_n ?_
    refine rS fam0ok 2 [(0, .add .i64 (m := (j : Int)) (n := 1) (i64_id (by omega) (by omega)))] [(2, vp 0 0), (3, vp 1 0), (8, vi .i64 (s.acts.length : Int)), (9, vi .i64 ((j : Int) + 1))] [(0, .box (sysC s)), (1, .box [.d (.sl 1 (x.locs.map intD)), .d (.sl 2 (x.vals.map ziD))])] (by kernel_rfl) h ?_; clear h; intro a w h
    refine then_n ?_
    refine roundS (x := j) (y := j + 1) h ?_ ?_ (by kernel_rfl) (by kernel_rfl)
    ·exact ⟨by omega, allN_step hI2 (by rw [hc3]; rfl)⟩
    ·show s.acts.length - (j + 1) < s.acts.length - j
     omega
  ·have hc4 := hc; clear hc
   have hc4' := of_decide_eq_false hc4
   refine wp_exit ?_
   refine then_x ?_
   refine then_x ?_
   refine inBlock_exit ?_
   refine then_n ?_
   refine rSeq fam0ok 2 [(2, .call (SFits s x (L := L) (M := M) (by omega) hs hx) kg_9)] [(4, vb (fits s x))] [] (by kernel_rfl) h ?_; clear h; intro a w h
   refine wp_ret ?_
   refine retS [.c (.d (.raw (.bool (fits s x))))] h Exit.ret (.inl rfl)  rfl ⟨RV.tmp _ _ rfl, trivial⟩ ?_ (by kernel_rfl) (by kernel_rfl)
   have hz : stuck s x = (fits s x) := by unfold stuck; rw [show s.acts.length = j by have := of_decide_eq_false hc4; omega, hI2]; rfl
   rw [hz]; first | done | rfl
end Go.Proofs.YtmohlifepfjmdaaGreat.S
end
section
namespace Go.Proofs.YtmohlifepfjmdaaGreat.S
open Go.RowKit

theorem kl_0 : Bodied Tryz.prog 19 := Bodied.mk' (by kernel_rfl)
theorem kl_1 : Bodied Tryz.prog 33 := Bodied.mk' (by kernel_rfl)
theorem free_new {x : StD} {c : ActD} {v : Nat} (h : freeAt c v = true) : newAt x c v = zero0 := by
 unfold freeAt at h; unfold newAt
 cases hm : mvAt c v with
 | none => rw [hm] at h; cases h
 | some m => rw [hm] at h; simp only at h ⊢; rw [if_pos h]
theorem newV_pick {x : StD} {c : ActD} {picks : List ZI} {v : Nat} {p : ZI} (h : freeAt c v = true) (hp : (picks.drop (cntFree c v))[0]? = some p) : newV x c picks v = ZI.of p.val := by
 rw [List.getElem?_drop, Nat.add_zero] at hp; unfold newV; rw [if_pos h, hp]
theorem newV_out {x : StD} {c : ActD} {picks : List ZI} {v : Nat} (h : freeAt c v = true) (hp : ¬ ((picks.drop (cntFree c v)).length : Int) > 0) : newV x c picks v = zero0 := by
 rw [List.length_drop] at hp; unfold newV; rw [if_pos h, List.getElem?_eq_none (by omega)]
theorem newV_new {x : StD} {c : ActD} {picks : List ZI} {v : Nat} (h : freeAt c v = false) : newV x c picks v = newAt x c v := by unfold newV; rw [if_neg (by rw [h]; exact Bool.noConfusion)]
theorem cnt_free {c : ActD} {v : Nat} (h : freeAt c v = true) : cntFree c (v + 1) = cntFree c v + 1 := by rw [cntFree, if_pos h]
theorem cnt_kept {c : ActD} {v : Nat} (h : freeAt c v = false) : cntFree c (v + 1) = cntFree c v := by rw [cntFree, if_neg (by rw [h]; exact Bool.noConfusion), Nat.add_zero]
theorem outS_ok {L M : Nat} {s : SysD} {x : StD} {c : ActD} {picks : List ZI} (hs : SysOk L s) (hx : StOk M x) (hc : ActOk L c) (hp : ∀ z ∈ picks, ZOk M z) : StOk (L + M + 2) (outS s x c picks) := by
 refine ⟨by simp only [outS, List.length_set]; exact hx.locs, by simp only [outS, List.length_map, List.length_range]; exact Nat.le_trans hs.vars (by decide), fun z hz => ?_⟩
 simp only [outS, List.mem_map] at hz
 obtain ⟨v, _, rfl⟩ := hz
 unfold newV
 split
 ·split
  ·rename_i p hp2
   have g := hp p (List.mem_of_getElem? hp2)
   exact ⟨ZI.lb_of _, Nat.le_trans (len_id g.1) (by have := g.2; omega)⟩
  ·exact ZOk.zero
 ·exact new_ok hc hx v
set_option maxHeartbeats 4000000 in
theorem SGo1 (s : SysD) (x : StD) (picks : List ZI) {L M : Nat} (hL : L + M ≤ 4000) (hs : SysOk L s) (hx : StOk M x) (_hp : ∀ z ∈ picks, ZOk M z) (hst : stuck s x = true) : Fn Tryz.prog 8 [] [.t (.agg (sysC s)), .t (.agg [.d (.sl 1 (x.locs.map intD)), .d (.sl 2 (x.vals.map ziD))]), vi .i64 (-1), .t (.c (.d (.sl 2 (picks.map ziD))))] (.tup [.agg [.d (.sl 1 ((cloneS x).locs.map intD)), .d (.sl 2 ((cloneS x).vals.map ziD))], .c (.d (.raw (.bool true)))]) [] := by
 refine Fn.body Tryz.func8 rfl 92 rfl fun w H B a h => ?_
 refine rSeq fam0ok 5 [] [(2, vi .i64 (-1)), (3, .t (.c (.d (.sl 2 (picks.map ziD))))), (4, vp 5 0), (5, vp 6 0), (8, vp 7 0), (9, vb false)] [(5, .box (sysC s)), (6, .box [.d (.sl 1 (x.locs.map intD)), .d (.sl 2 (x.vals.map ziD))]), (7, .box [.d (.raw nilV), .d (.raw nilV)])] (by kernel_rfl) h ?_; clear h; intro a w h
 refine wp_seq ?_
 refine rSeq fam0ok 8 [(1, .cmp (op := .eql) (m := (-1)) (n := (-1)) (b := true) .i64 rfl), (5, .call (Fn.cast (SStuck s x hL hs hx) (congrArg vb hst)) kl_0)] [(2, vi .i64 (-1)), (3, .t (.c (.d (.sl 2 (picks.map ziD))))), (4, vp 5 0), (5, vp 6 0), (8, vp 7 0), (9, vb false), (22, vb true)] [(5, .box (sysC s)), (6, .box [.d (.sl 1 (x.locs.map intD)), .d (.sl 2 (x.vals.map ziD))]), (7, .box [.d (.raw nilV), .d (.raw nilV)])] (by kernel_rfl) h ?_; clear h; intro a w h
 refine condS true h rfl (fun hc => ?_) (fun hc => ?_)
 ·clear hc
  refine rSeq fam0ok 8 [(1, .call (Sclone x (by omega) hx) kl_1)] [(2, vi .i64 (-1)), (3, .t (.c (.d (.sl 2 (picks.map ziD))))), (4, vp 5 0), (5, vp 6 0), (8, vp 7 0), (9, vb true)] [(5, .box (sysC s)), (6, .box [.d (.sl 1 (x.locs.map intD)), .d (.sl 2 (x.vals.map ziD))]), (7, .box [.own 0 x.locs.length, .own 1 (x.vals.map clZ).length]), (0, .row 3 1 (x.locs.map intD)), (1, .row 28 2 ((x.vals.map clZ).map ziD))] (by kernel_rfl) h ?_; clear h; intro a w h
  refine wp_ret ?_
  refine then_r ?_
  replace h := pubS 0 1 3 (x.locs.map intD) [(2, vi .i64 (-1)), (3, .t (.c (.d (.sl 2 (picks.map ziD))))), (4, vp 5 0), (5, vp 6 0), (8, vp 7 0), (9, vb true)] [(5, .box (sysC s)), (6, .box [.d (.sl 1 (x.locs.map intD)), .d (.sl 2 (x.vals.map ziD))]), (7, .box [.d (.sl 1 (x.locs.map intD)), .own 1 (x.vals.map clZ).length]), (1, .row 28 2 ((x.vals.map clZ).map ziD))] h rfl trivial (show AllEq _ [x.locs.length] from ⟨by first | exact (List.length_map _).symm | (simp; done) | (simp; omega), trivial⟩) (by kernel_rfl) (by kernel_rfl)
  replace h := pubS 1 2 28 ((x.vals.map clZ).map ziD) [(2, vi .i64 (-1)), (3, .t (.c (.d (.sl 2 (picks.map ziD))))), (4, vp 5 0), (5, vp 6 0), (8, vp 7 0), (9, vb true)] [(5, .box (sysC s)), (6, .box [.d (.sl 1 (x.locs.map intD)), .d (.sl 2 (x.vals.map ziD))]), (7, .box [.d (.sl 1 (x.locs.map intD)), .d (.sl 2 ((x.vals.map clZ).map ziD))])] h rfl trivial (show AllEq _ [(x.vals.map clZ).length] from ⟨by first | exact (List.length_map _).symm | (simp; done) | (simp; omega), trivial⟩) (by kernel_rfl) (by kernel_rfl)
  refine retS [.agg [.d (.sl 1 (x.locs.map intD)), .d (.sl 2 ((x.vals.map clZ).map ziD))], .c (.d (.raw (.bool true)))] h Exit.ret (.inl rfl)  rfl ⟨RV.agg _ 7 0 _ _ _ _ kk_5 rfl rfl rfl rfl, RV.tmp _ _ rfl, trivial⟩ ?_ (by kernel_rfl) (by kernel_rfl)
  rfl
 ·cases hc
set_option maxHeartbeats 4000000 in
theorem SGo2 (s : SysD) (x : StD) (i : Int) (picks : List ZI) {L M : Nat} (hL : L + M ≤ 4000) (hs : SysOk L s) (hx : StOk M x) (_hp : ∀ z ∈ picks, ZOk M z) (hst : ¬ (i = -1 ∧ stuck s x = true)) (hi : actAt s i = none) : Fn Tryz.prog 8 [] [.t (.agg (sysC s)), .t (.agg [.d (.sl 1 (x.locs.map intD)), .d (.sl 2 (x.vals.map ziD))]), vi .i64 i, .t (.c (.d (.sl 2 (picks.map ziD))))] (.tup [.agg [.d (.sl 1 (st0.locs.map intD)), .d (.sl 2 (st0.vals.map ziD))], .c (.d (.raw (.bool false)))]) [] := by
 refine Fn.body Tryz.func8 rfl 92 rfl fun w H B a h => ?_
 refine rSeq fam0ok 5 [] [(2, vi .i64 i), (3, .t (.c (.d (.sl 2 (picks.map ziD))))), (4, vp 5 0), (5, vp 6 0), (8, vp 7 0), (9, vb false)] [(5, .box (sysC s)), (6, .box [.d (.sl 1 (x.locs.map intD)), .d (.sl 2 (x.vals.map ziD))]), (7, .box [.d (.raw nilV), .d (.raw nilV)])] (by kernel_rfl) h ?_; clear h; intro a w h
 refine wp_seq ?_
 rcases Bool.eq_false_or_eq_true (i == (-1)) with hc | hc
 ·have hc1 := hc; clear hc
  have hc1' := hc1; (try simp at hc1')
  refine rSeq fam0ok 8 [(1, .cmp (op := .eql) (m := i) (n := (-1)) (b := true) .i64 hc1), (5, .call (Fn.cast (SStuck s x hL hs hx) (congrArg vb (show stuck s x = false by cases hq : stuck s x with | false => rfl | true => exact absurd ⟨by have := hc1; simpa using this, hq⟩ hst))) kl_0)] [(2, vi .i64 i), (3, .t (.c (.d (.sl 2 (picks.map ziD))))), (4, vp 5 0), (5, vp 6 0), (8, vp 7 0), (9, vb false), (22, vb false)] [(5, .box (sysC s)), (6, .box [.d (.sl 1 (x.locs.map intD)), .d (.sl 2 (x.vals.map ziD))]), (7, .box [.d (.raw nilV), .d (.raw nilV)])] (by kernel_rfl) h ?_; clear h; intro a w h
  refine condS false h rfl (fun hc => ?_) (fun hc => ?_)
  ·cases hc
  ·clear hc
   refine wp_skip ?_
   refine then_n ?_
   refine rSeq fam0ok 8 [(2, .call (SactN s i hi) kk_6)] [(3, .t (.c (.d (.sl 2 (picks.map ziD))))), (4, vp 5 0), (5, vp 6 0), (8, vp 7 0), (9, vb false), (10, vp 8 0), (11, vb false)] [(5, .box (sysC s)), (6, .box [.d (.sl 1 (x.locs.map intD)), .d (.sl 2 (x.vals.map ziD))]), (7, .box [.d (.raw nilV), .d (.raw nilV)]), (8, .box ([.d (.raw (.int .i64 act0.proc)), .d (.raw (.int .i64 act0.from_)), .d (.raw (.int .i64 act0.to_)), .d (.raw (.int .i64 act0.guard.kind)), .d (.sl 3 (act0.guard.r.t.parts.map Part.d))] ++ zi act0.guard.r.t.k ++ [.d (.raw (.bool act0.guard.r.eq)), .d (.sl 6 (act0.guard.kids.map FormD.d)), .d (.sl 5 (act0.moves.map MoveD.d))]))] (by kernel_rfl) h ?_; clear h; intro a w h
   refine wp_seq ?_
   refine rSeq fam0ok 9 [] [(3, .t (.c (.d (.sl 2 (picks.map ziD))))), (4, vp 5 0), (5, vp 6 0), (8, vp 7 0), (9, vb false), (10, vp 8 0), (39, vb true)] [(5, .box (sysC s)), (6, .box [.d (.sl 1 (x.locs.map intD)), .d (.sl 2 (x.vals.map ziD))]), (7, .box [.d (.raw nilV), .d (.raw nilV)]), (8, .box ([.d (.raw (.int .i64 act0.proc)), .d (.raw (.int .i64 act0.from_)), .d (.raw (.int .i64 act0.to_)), .d (.raw (.int .i64 act0.guard.kind)), .d (.sl 3 (act0.guard.r.t.parts.map Part.d))] ++ zi act0.guard.r.t.k ++ [.d (.raw (.bool act0.guard.r.eq)), .d (.sl 6 (act0.guard.kids.map FormD.d)), .d (.sl 5 (act0.moves.map MoveD.d))]))] (by kernel_rfl) h ?_; clear h; intro a w h
   refine condS true h rfl (fun hc => ?_) (fun hc => ?_)
   ·clear hc
    refine rSeq fam0ok 9 [] [(3, .t (.c (.d (.sl 2 (picks.map ziD))))), (4, vp 5 0), (5, vp 6 0), (8, vp 7 0), (9, vb false), (10, vp 8 0)] [(5, .box (sysC s)), (6, .box [.d (.sl 1 (x.locs.map intD)), .d (.sl 2 (x.vals.map ziD))]), (7, .box [.d (.raw nilV), .d (.raw nilV)]), (8, .box ([.d (.raw (.int .i64 act0.proc)), .d (.raw (.int .i64 act0.from_)), .d (.raw (.int .i64 act0.to_)), .d (.raw (.int .i64 act0.guard.kind)), .d (.sl 3 (act0.guard.r.t.parts.map Part.d))] ++ zi act0.guard.r.t.k ++ [.d (.raw (.bool act0.guard.r.eq)), .d (.sl 6 (act0.guard.kids.map FormD.d)), .d (.sl 5 (act0.moves.map MoveD.d))]))] (by kernel_rfl) h ?_; clear h; intro a w h
    refine wp_ret ?_
    refine then_r ?_
    replace h := nilDLs 7 0 1 [.d (.raw nilV), .d (.raw nilV)] [(3, .t (.c (.d (.sl 2 (picks.map ziD))))), (4, vp 5 0), (5, vp 6 0), (8, vp 7 0), (9, vb false), (10, vp 8 0)] [(5, .box (sysC s)), (6, .box [.d (.sl 1 (x.locs.map intD)), .d (.sl 2 (x.vals.map ziD))]), (7, .box [.d (.sl 1 ([].map intD)), .d (.raw nilV)]), (8, .box ([.d (.raw (.int .i64 act0.proc)), .d (.raw (.int .i64 act0.from_)), .d (.raw (.int .i64 act0.to_)), .d (.raw (.int .i64 act0.guard.kind)), .d (.sl 3 (act0.guard.r.t.parts.map Part.d))] ++ zi act0.guard.r.t.k ++ [.d (.raw (.bool act0.guard.r.eq)), .d (.sl 6 (act0.guard.kids.map FormD.d)), .d (.sl 5 (act0.moves.map MoveD.d))]))] h rfl rfl (by kernel_rfl) (by kernel_rfl)
    replace h := nilDLs 7 1 2 [.d (.sl 1 ([].map intD)), .d (.raw nilV)] [(3, .t (.c (.d (.sl 2 (picks.map ziD))))), (4, vp 5 0), (5, vp 6 0), (8, vp 7 0), (9, vb false), (10, vp 8 0)] [(5, .box (sysC s)), (6, .box [.d (.sl 1 (x.locs.map intD)), .d (.sl 2 (x.vals.map ziD))]), (7, .box [.d (.sl 1 ([].map intD)), .d (.sl 2 ([].map ziD))]), (8, .box ([.d (.raw (.int .i64 act0.proc)), .d (.raw (.int .i64 act0.from_)), .d (.raw (.int .i64 act0.to_)), .d (.raw (.int .i64 act0.guard.kind)), .d (.sl 3 (act0.guard.r.t.parts.map Part.d))] ++ zi act0.guard.r.t.k ++ [.d (.raw (.bool act0.guard.r.eq)), .d (.sl 6 (act0.guard.kids.map FormD.d)), .d (.sl 5 (act0.moves.map MoveD.d))]))] h rfl rfl (by kernel_rfl) (by kernel_rfl)
    refine retS [.agg [.d (.sl 1 ([].map intD)), .d (.sl 2 ([].map ziD))], .c (.d (.raw (.bool false)))] h Exit.ret (.inl rfl)  rfl ⟨RV.agg _ 7 0 _ _ _ _ kk_5 rfl rfl rfl rfl, RV.tmp _ _ rfl, trivial⟩ ?_ (by kernel_rfl) (by kernel_rfl)
    rfl
   ·cases hc
 ·have hc2 := hc; clear hc
  have hc2' := hc2; (try simp at hc2')
  refine rSeq fam0ok 9 [(1, .cmp (op := .eql) (m := i) (n := (-1)) (b := false) .i64 hc2)] [(2, vi .i64 i), (3, .t (.c (.d (.sl 2 (picks.map ziD))))), (4, vp 5 0), (5, vp 6 0), (8, vp 7 0), (9, vb false), (22, vb false)] [(5, .box (sysC s)), (6, .box [.d (.sl 1 (x.locs.map intD)), .d (.sl 2 (x.vals.map ziD))]), (7, .box [.d (.raw nilV), .d (.raw nilV)])] (by kernel_rfl) h ?_; clear h; intro a w h
  refine condS false h rfl (fun hc => ?_) (fun hc => ?_)
  ·cases hc
  ·clear hc
   refine wp_skip ?_
   refine then_n ?_
   refine rSeq fam0ok 9 [(2, .call (SactN s i hi) kk_6)] [(3, .t (.c (.d (.sl 2 (picks.map ziD))))), (4, vp 5 0), (5, vp 6 0), (8, vp 7 0), (9, vb false), (10, vp 9 0), (11, vb false)] [(5, .box (sysC s)), (6, .box [.d (.sl 1 (x.locs.map intD)), .d (.sl 2 (x.vals.map ziD))]), (7, .box [.d (.raw nilV), .d (.raw nilV)]), (9, .box ([.d (.raw (.int .i64 act0.proc)), .d (.raw (.int .i64 act0.from_)), .d (.raw (.int .i64 act0.to_)), .d (.raw (.int .i64 act0.guard.kind)), .d (.sl 3 (act0.guard.r.t.parts.map Part.d))] ++ zi act0.guard.r.t.k ++ [.d (.raw (.bool act0.guard.r.eq)), .d (.sl 6 (act0.guard.kids.map FormD.d)), .d (.sl 5 (act0.moves.map MoveD.d))]))] (by kernel_rfl) h ?_; clear h; intro a w h
   refine wp_seq ?_
   refine rSeq fam0ok 10 [] [(3, .t (.c (.d (.sl 2 (picks.map ziD))))), (4, vp 5 0), (5, vp 6 0), (8, vp 7 0), (9, vb false), (10, vp 9 0), (39, vb true)] [(5, .box (sysC s)), (6, .box [.d (.sl 1 (x.locs.map intD)), .d (.sl 2 (x.vals.map ziD))]), (7, .box [.d (.raw nilV), .d (.raw nilV)]), (9, .box ([.d (.raw (.int .i64 act0.proc)), .d (.raw (.int .i64 act0.from_)), .d (.raw (.int .i64 act0.to_)), .d (.raw (.int .i64 act0.guard.kind)), .d (.sl 3 (act0.guard.r.t.parts.map Part.d))] ++ zi act0.guard.r.t.k ++ [.d (.raw (.bool act0.guard.r.eq)), .d (.sl 6 (act0.guard.kids.map FormD.d)), .d (.sl 5 (act0.moves.map MoveD.d))]))] (by kernel_rfl) h ?_; clear h; intro a w h
   refine condS true h rfl (fun hc => ?_) (fun hc => ?_)
   ·clear hc
    refine rSeq fam0ok 10 [] [(3, .t (.c (.d (.sl 2 (picks.map ziD))))), (4, vp 5 0), (5, vp 6 0), (8, vp 7 0), (9, vb false), (10, vp 9 0)] [(5, .box (sysC s)), (6, .box [.d (.sl 1 (x.locs.map intD)), .d (.sl 2 (x.vals.map ziD))]), (7, .box [.d (.raw nilV), .d (.raw nilV)]), (9, .box ([.d (.raw (.int .i64 act0.proc)), .d (.raw (.int .i64 act0.from_)), .d (.raw (.int .i64 act0.to_)), .d (.raw (.int .i64 act0.guard.kind)), .d (.sl 3 (act0.guard.r.t.parts.map Part.d))] ++ zi act0.guard.r.t.k ++ [.d (.raw (.bool act0.guard.r.eq)), .d (.sl 6 (act0.guard.kids.map FormD.d)), .d (.sl 5 (act0.moves.map MoveD.d))]))] (by kernel_rfl) h ?_; clear h; intro a w h
    refine wp_ret ?_
    refine then_r ?_
    replace h := nilDLs 7 0 1 [.d (.raw nilV), .d (.raw nilV)] [(3, .t (.c (.d (.sl 2 (picks.map ziD))))), (4, vp 5 0), (5, vp 6 0), (8, vp 7 0), (9, vb false), (10, vp 9 0)] [(5, .box (sysC s)), (6, .box [.d (.sl 1 (x.locs.map intD)), .d (.sl 2 (x.vals.map ziD))]), (7, .box [.d (.sl 1 ([].map intD)), .d (.raw nilV)]), (9, .box ([.d (.raw (.int .i64 act0.proc)), .d (.raw (.int .i64 act0.from_)), .d (.raw (.int .i64 act0.to_)), .d (.raw (.int .i64 act0.guard.kind)), .d (.sl 3 (act0.guard.r.t.parts.map Part.d))] ++ zi act0.guard.r.t.k ++ [.d (.raw (.bool act0.guard.r.eq)), .d (.sl 6 (act0.guard.kids.map FormD.d)), .d (.sl 5 (act0.moves.map MoveD.d))]))] h rfl rfl (by kernel_rfl) (by kernel_rfl)
    replace h := nilDLs 7 1 2 [.d (.sl 1 ([].map intD)), .d (.raw nilV)] [(3, .t (.c (.d (.sl 2 (picks.map ziD))))), (4, vp 5 0), (5, vp 6 0), (8, vp 7 0), (9, vb false), (10, vp 9 0)] [(5, .box (sysC s)), (6, .box [.d (.sl 1 (x.locs.map intD)), .d (.sl 2 (x.vals.map ziD))]), (7, .box [.d (.sl 1 ([].map intD)), .d (.sl 2 ([].map ziD))]), (9, .box ([.d (.raw (.int .i64 act0.proc)), .d (.raw (.int .i64 act0.from_)), .d (.raw (.int .i64 act0.to_)), .d (.raw (.int .i64 act0.guard.kind)), .d (.sl 3 (act0.guard.r.t.parts.map Part.d))] ++ zi act0.guard.r.t.k ++ [.d (.raw (.bool act0.guard.r.eq)), .d (.sl 6 (act0.guard.kids.map FormD.d)), .d (.sl 5 (act0.moves.map MoveD.d))]))] h rfl rfl (by kernel_rfl) (by kernel_rfl)
    refine retS [.agg [.d (.sl 1 ([].map intD)), .d (.sl 2 ([].map ziD))], .c (.d (.raw (.bool false)))] h Exit.ret (.inl rfl)  rfl ⟨RV.agg _ 7 0 _ _ _ _ kk_5 rfl rfl rfl rfl, RV.tmp _ _ rfl, trivial⟩ ?_ (by kernel_rfl) (by kernel_rfl)
    rfl
   ·cases hc
set_option maxHeartbeats 4000000 in
theorem SGo3 (s : SysD) (x : StD) (i : Int) (picks : List ZI) (c : ActD) {L M : Nat} (hL : L + M ≤ 4000) (hs : SysOk L s) (hx : StOk M x) (hp : ∀ z ∈ picks, ZOk M z) (hi : actAt s i = some c) : Fn Tryz.prog 8 [] [.t (.agg (sysC s)), .t (.agg [.d (.sl 1 (x.locs.map intD)), .d (.sl 2 (x.vals.map ziD))]), vi .i64 i, .t (.c (.d (.sl 2 (picks.map ziD))))] (.tup [.agg [.d (.sl 1 ((goC s x c picks).1.locs.map intD)), .d (.sl 2 ((goC s x c picks).1.vals.map ziD))], .c (.d (.raw (.bool (goC s x c picks).2)))]) [] := by
 have lx1 := hx.locs
 have lx2 := hx.vals
 have ls1 := hs.vars
 have ls2 := hs.procs
 have hc : ActOk L c := act_ok hs hi
 refine Fn.body Tryz.func8 rfl 92 rfl fun w H B a h => ?_
 refine rSeq fam0ok 5 [] [(2, vi .i64 i), (3, .t (.c (.d (.sl 2 (picks.map ziD))))), (4, vp 5 0), (5, vp 6 0), (8, vp 7 0), (9, vb false)] [(5, .box (sysC s)), (6, .box [.d (.sl 1 (x.locs.map intD)), .d (.sl 2 (x.vals.map ziD))]), (7, .box [.d (.raw nilV), .d (.raw nilV)])] (by kernel_rfl) h ?_; clear h; intro a w h
 refine wp_seq ?_
 refine rSeq fam0ok 8 [(1, .cmp (op := .eql) (m := i) (n := (-1)) (b := false) .i64 (by obtain ⟨k, rfl, _⟩ := actAt_some hi; exact beq_eq_false_iff_ne.2 (by omega)))] [(2, vi .i64 i), (3, .t (.c (.d (.sl 2 (picks.map ziD))))), (4, vp 5 0), (5, vp 6 0), (8, vp 7 0), (9, vb false), (22, vb false)] [(5, .box (sysC s)), (6, .box [.d (.sl 1 (x.locs.map intD)), .d (.sl 2 (x.vals.map ziD))]), (7, .box [.d (.raw nilV), .d (.raw nilV)])] (by kernel_rfl) h ?_; clear h; intro a w h
 refine condS false h rfl (fun hc => ?_) (fun hc => ?_)
 ·cases hc
 ·clear hc
  refine wp_skip ?_
  refine then_n ?_
  refine rSeq fam0ok 8 [(2, .call (SactS s i c hi) kk_6)] [(3, .t (.c (.d (.sl 2 (picks.map ziD))))), (4, vp 5 0), (5, vp 6 0), (8, vp 7 0), (9, vb false), (10, vp 8 0), (11, vb true)] [(5, .box (sysC s)), (6, .box [.d (.sl 1 (x.locs.map intD)), .d (.sl 2 (x.vals.map ziD))]), (7, .box [.d (.raw nilV), .d (.raw nilV)]), (8, .box ([.d (.raw (.int .i64 c.proc)), .d (.raw (.int .i64 c.from_)), .d (.raw (.int .i64 c.to_)), .d (.raw (.int .i64 c.guard.kind)), .d (.sl 3 (c.guard.r.t.parts.map Part.d))] ++ zi c.guard.r.t.k ++ [.d (.raw (.bool c.guard.r.eq)), .d (.sl 6 (c.guard.kids.map FormD.d)), .d (.sl 5 (c.moves.map MoveD.d))]))] (by kernel_rfl) h ?_; clear h; intro a w h
  refine wp_seq ?_
  refine rSeq fam0ok 9 [(6, .call (Senabled s x c (L := L) (M := M) (by omega) hs hx hc) kk_7)] [(3, .t (.c (.d (.sl 2 (picks.map ziD))))), (4, vp 5 0), (5, vp 6 0), (8, vp 7 0), (9, vb false), (10, vp 8 0), (39, vb (!(enabled s x c)))] [(5, .box (sysC s)), (6, .box [.d (.sl 1 (x.locs.map intD)), .d (.sl 2 (x.vals.map ziD))]), (7, .box [.d (.raw nilV), .d (.raw nilV)]), (8, .box ([.d (.raw (.int .i64 c.proc)), .d (.raw (.int .i64 c.from_)), .d (.raw (.int .i64 c.to_)), .d (.raw (.int .i64 c.guard.kind)), .d (.sl 3 (c.guard.r.t.parts.map Part.d))] ++ zi c.guard.r.t.k ++ [.d (.raw (.bool c.guard.r.eq)), .d (.sl 6 (c.guard.kids.map FormD.d)), .d (.sl 5 (c.moves.map MoveD.d))]))] (by kernel_rfl) h ?_; clear h; intro a w h
  refine condS (!(enabled s x c)) h rfl (fun hc => ?_) (fun hc => ?_)
  ·have hc1 := hc; clear hc
   have hc1' := hc1; (try simp at hc1')
   refine rSeq fam0ok 9 [] [(3, .t (.c (.d (.sl 2 (picks.map ziD))))), (4, vp 5 0), (5, vp 6 0), (8, vp 7 0), (9, vb false), (10, vp 8 0)] [(5, .box (sysC s)), (6, .box [.d (.sl 1 (x.locs.map intD)), .d (.sl 2 (x.vals.map ziD))]), (7, .box [.d (.raw nilV), .d (.raw nilV)]), (8, .box ([.d (.raw (.int .i64 c.proc)), .d (.raw (.int .i64 c.from_)), .d (.raw (.int .i64 c.to_)), .d (.raw (.int .i64 c.guard.kind)), .d (.sl 3 (c.guard.r.t.parts.map Part.d))] ++ zi c.guard.r.t.k ++ [.d (.raw (.bool c.guard.r.eq)), .d (.sl 6 (c.guard.kids.map FormD.d)), .d (.sl 5 (c.moves.map MoveD.d))]))] (by kernel_rfl) h ?_; clear h; intro a w h
   refine wp_ret ?_
   refine then_r ?_
   replace h := nilDLs 7 0 1 [.d (.raw nilV), .d (.raw nilV)] [(3, .t (.c (.d (.sl 2 (picks.map ziD))))), (4, vp 5 0), (5, vp 6 0), (8, vp 7 0), (9, vb false), (10, vp 8 0)] [(5, .box (sysC s)), (6, .box [.d (.sl 1 (x.locs.map intD)), .d (.sl 2 (x.vals.map ziD))]), (7, .box [.d (.sl 1 ([].map intD)), .d (.raw nilV)]), (8, .box ([.d (.raw (.int .i64 c.proc)), .d (.raw (.int .i64 c.from_)), .d (.raw (.int .i64 c.to_)), .d (.raw (.int .i64 c.guard.kind)), .d (.sl 3 (c.guard.r.t.parts.map Part.d))] ++ zi c.guard.r.t.k ++ [.d (.raw (.bool c.guard.r.eq)), .d (.sl 6 (c.guard.kids.map FormD.d)), .d (.sl 5 (c.moves.map MoveD.d))]))] h rfl rfl (by kernel_rfl) (by kernel_rfl)
   replace h := nilDLs 7 1 2 [.d (.sl 1 ([].map intD)), .d (.raw nilV)] [(3, .t (.c (.d (.sl 2 (picks.map ziD))))), (4, vp 5 0), (5, vp 6 0), (8, vp 7 0), (9, vb false), (10, vp 8 0)] [(5, .box (sysC s)), (6, .box [.d (.sl 1 (x.locs.map intD)), .d (.sl 2 (x.vals.map ziD))]), (7, .box [.d (.sl 1 ([].map intD)), .d (.sl 2 ([].map ziD))]), (8, .box ([.d (.raw (.int .i64 c.proc)), .d (.raw (.int .i64 c.from_)), .d (.raw (.int .i64 c.to_)), .d (.raw (.int .i64 c.guard.kind)), .d (.sl 3 (c.guard.r.t.parts.map Part.d))] ++ zi c.guard.r.t.k ++ [.d (.raw (.bool c.guard.r.eq)), .d (.sl 6 (c.guard.kids.map FormD.d)), .d (.sl 5 (c.moves.map MoveD.d))]))] h rfl rfl (by kernel_rfl) (by kernel_rfl)
   refine retS [.agg [.d (.sl 1 ([].map intD)), .d (.sl 2 ([].map ziD))], .c (.d (.raw (.bool false)))] h Exit.ret (.inl rfl)  rfl ⟨RV.agg _ 7 0 _ _ _ _ kk_5 rfl rfl rfl rfl, RV.tmp _ _ rfl, trivial⟩ ?_ (by kernel_rfl) (by kernel_rfl)
   have hz : goC s x c picks = (st0, false) := by unfold goC; rw [if_neg (fun h => by have := h.1; rw [(show (enabled s x c) = false from by simpa using hc1)] at this; cases this)]
   rw [hz]; first | done | rfl
  ·have hc2 := hc; clear hc
   have hc2' := hc2; (try simp at hc2')
   refine wp_skip ?_
   refine then_n ?_
   have hen := (show (enabled s x c) = true from by simpa using hc2)
   have hfl := fits_len (enabled_fits hen)
   have hpr := enabled_proc hen
   refine rSeq fam0ok 9 [(1, .call (Sclone x (by omega) hx) kl_1)] [(3, .t (.c (.d (.sl 2 (picks.map ziD))))), (4, vp 5 0), (5, vp 6 0), (8, vp 7 0), (9, vb false), (10, vp 8 0), (12, vp 9 0)] [(5, .box (sysC s)), (6, .box [.d (.sl 1 (x.locs.map intD)), .d (.sl 2 (x.vals.map ziD))]), (7, .box [.d (.raw nilV), .d (.raw nilV)]), (8, .box ([.d (.raw (.int .i64 c.proc)), .d (.raw (.int .i64 c.from_)), .d (.raw (.int .i64 c.to_)), .d (.raw (.int .i64 c.guard.kind)), .d (.sl 3 (c.guard.r.t.parts.map Part.d))] ++ zi c.guard.r.t.k ++ [.d (.raw (.bool c.guard.r.eq)), .d (.sl 6 (c.guard.kids.map FormD.d)), .d (.sl 5 (c.moves.map MoveD.d))])), (0, .row 3 1 (x.locs.map intD)), (1, .row 28 2 ((x.vals.map clZ).map ziD)), (9, .box [.own 0 x.locs.length, .own 1 (x.vals.map clZ).length])] (by kernel_rfl) h ?_; clear h; intro a w h
   obtain ⟨k, hkk⟩ : ∃ k_ : Nat, c.proc = (k_ : Int) := ⟨_, (Int.toNat_of_nonneg (by omega)).symm⟩
   replace h := h.conv (f' := F.of [(3, .t (.c (.d (.sl 2 (picks.map ziD))))), (4, vp 5 0), (5, vp 6 0), (8, vp 7 0), (9, vb false), (10, vp 8 0), (12, vp 9 0)] [(5, .box (sysC s)), (6, .box [.d (.sl 1 (x.locs.map intD)), .d (.sl 2 (x.vals.map ziD))]), (7, .box [.d (.raw nilV), .d (.raw nilV)]), (8, .box ([.d (.raw (.int .i64 (k : Int))), .d (.raw (.int .i64 c.from_)), .d (.raw (.int .i64 c.to_)), .d (.raw (.int .i64 c.guard.kind)), .d (.sl 3 (c.guard.r.t.parts.map Part.d))] ++ zi c.guard.r.t.k ++ [.d (.raw (.bool c.guard.r.eq)), .d (.sl 6 (c.guard.kids.map FormD.d)), .d (.sl 5 (c.moves.map MoveD.d))])), (0, .row 3 1 (x.locs.map intD)), (1, .row 28 2 ((x.vals.map clZ).map ziD)), (9, .box [.own 0 x.locs.length, .own 1 (x.vals.map clZ).length])]) (by rw [hkk])
   obtain ⟨x4, hx4⟩ : ∃ z_ : Int, x.locs[k]? = some z_ := ⟨_, List.getElem?_eq_getElem (by first | omega | (simp at *; omega))⟩
   refine rSeq fam0ok 10 [(6, .gen _ _ _ fun _ _ _ _ => Op.idxO (d := 49) (t := 44) (k := .i64) (n := 0) (len := x.locs.length) (i := k) tb_1 (by first | omega | (simp at *; omega)) (OV.tmp 46 _)), (7, .gen _ _ _ fun _ _ _ _ => Op.storeR (t := 49) (n := 0) (i := k) (fo := 0) (rty := 3) (es := 1) (r := intD x4) (ds := [.raw (.int .i64 c.to_)]) (rs := [(48, vi .i64 c.to_)]) (rows := x.locs.map intD) (rows' := (x.locs.set k c.to_).map intD) tl_7 (OV.tmp 48 _) rfl rfl rfl (map_at hx4 (f := intD)) (by simp [intD]) (set_map (xs := x.locs) (F := intD) k _ _ rfl))] [(3, .t (.c (.d (.sl 2 (picks.map ziD))))), (4, vp 5 0), (5, vp 6 0), (8, vp 7 0), (9, vb false), (10, vp 8 0), (12, vp 9 0)] [(5, .box (sysC s)), (6, .box [.d (.sl 1 (x.locs.map intD)), .d (.sl 2 (x.vals.map ziD))]), (7, .box [.d (.raw nilV), .d (.raw nilV)]), (8, .box ([.d (.raw (.int .i64 (k : Int))), .d (.raw (.int .i64 c.from_)), .d (.raw (.int .i64 c.to_)), .d (.raw (.int .i64 c.guard.kind)), .d (.sl 3 (c.guard.r.t.parts.map Part.d))] ++ zi c.guard.r.t.k ++ [.d (.raw (.bool c.guard.r.eq)), .d (.sl 6 (c.guard.kids.map FormD.d)), .d (.sl 5 (c.moves.map MoveD.d))])), (0, .row 3 1 ((x.locs.set k c.to_).map intD)), (1, .row 28 2 ((x.vals.map clZ).map ziD)), (9, .box [.own 0 x.locs.length, .own 1 (x.vals.map clZ).length])] (by kernel_rfl) h ?_; clear h; intro a w h
   refine wp_seq ?_
   replace h := h.conv (f' := F.of [(3, .t (.c (.d (.sl 2 (picks.map ziD))))), (4, vp 5 0), (5, vp 6 0), (8, vp 7 0), (9, vb false), (10, vp 8 0), (12, vp 9 0)] [(5, .box (sysC s)), (6, .box [.d (.sl 1 (x.locs.map intD)), .d (.sl 2 (x.vals.map ziD))]), (7, .box [.d (.raw nilV), .d (.raw nilV)]), (8, .box ([.d (.raw (.int .i64 c.proc)), .d (.raw (.int .i64 c.from_)), .d (.raw (.int .i64 c.to_)), .d (.raw (.int .i64 c.guard.kind)), .d (.sl 3 (c.guard.r.t.parts.map Part.d))] ++ zi c.guard.r.t.k ++ [.d (.raw (.bool c.guard.r.eq)), .d (.sl 6 (c.guard.kids.map FormD.d)), .d (.sl 5 (c.moves.map MoveD.d))])), (0, .row 3 1 ((x.locs.set k c.to_).map intD)), (1, .row 28 2 ((x.vals.map clZ).map ziD)), (9, .box [.own 0 x.locs.length, .own 1 (x.vals.map clZ).length])]) (by rw [hkk])
   refine rSeq fam0ok 10 [(2, .len (c := (.d (.sl 1 (s.vars.map strD)))) (n := s.vars.length) (lenC_map _ _ _))] [(3, .t (.c (.d (.sl 2 (picks.map ziD))))), (4, vp 5 0), (5, vp 6 0), (8, vp 7 0), (9, vb false), (10, vp 8 0), (12, vp 9 0), (52, vi .i64 (s.vars.length : Int)), (53, vi .i64 0)] [(5, .box (sysC s)), (6, .box [.d (.sl 1 (x.locs.map intD)), .d (.sl 2 (x.vals.map ziD))]), (7, .box [.d (.raw nilV), .d (.raw nilV)]), (8, .box ([.d (.raw (.int .i64 c.proc)), .d (.raw (.int .i64 c.from_)), .d (.raw (.int .i64 c.to_)), .d (.raw (.int .i64 c.guard.kind)), .d (.sl 3 (c.guard.r.t.parts.map Part.d))] ++ zi c.guard.r.t.k ++ [.d (.raw (.bool c.guard.r.eq)), .d (.sl 6 (c.guard.kids.map FormD.d)), .d (.sl 5 (c.moves.map MoveD.d))])), (0, .row 3 1 ((x.locs.set k c.to_).map intD)), (1, .row 28 2 ((x.vals.map clZ).map ziD)), (9, .box [.own 0 x.locs.length, .own 1 (x.vals.map clZ).length])] (by kernel_rfl) h ?_; clear h; intro a w h
   refine wp_block ?_
   refine loopS (ι := (Nat)) (fun (z_ : (Nat)) => match z_ with | j => j ≤ s.vars.length)
     (fun (z_ : (Nat)) => match z_ with | j => [(3, .t (.c (.d (.sl 2 ((picks.drop (cntFree c j)).map ziD))))), (4, vp 5 0), (5, vp 6 0), (8, vp 7 0), (9, vb false), (10, vp 8 0), (12, vp 9 0), (52, vi .i64 (s.vars.length : Int)), (53, vi .i64 (j : Int))])
     (fun (z_ : (Nat)) => match z_ with | j => [(5, .box (sysC s)), (6, .box [.d (.sl 1 (x.locs.map intD)), .d (.sl 2 (x.vals.map ziD))]), (7, .box [.d (.raw nilV), .d (.raw nilV)]), (8, .box ([.d (.raw (.int .i64 c.proc)), .d (.raw (.int .i64 c.from_)), .d (.raw (.int .i64 c.to_)), .d (.raw (.int .i64 c.guard.kind)), .d (.sl 3 (c.guard.r.t.parts.map Part.d))] ++ zi c.guard.r.t.k ++ [.d (.raw (.bool c.guard.r.eq)), .d (.sl 6 (c.guard.kids.map FormD.d)), .d (.sl 5 (c.moves.map MoveD.d))])), (0, .row 3 1 ((x.locs.set k c.to_).map intD)), (1, .row 28 2 (((List.range j).map (newV x c picks) ++ (x.vals.map clZ).drop j).map ziD)), (9, .box [.own 0 x.locs.length, .own 1 (x.vals.map clZ).length])])
     (fun (z_ : (Nat)) => match z_ with | j => s.vars.length - j) 0 ?_ h (by kernel_rfl) (by kernel_rfl) ?_
   ·exact Nat.zero_le _
   ·clear h; rintro j a w hI h
    change St _ (F.of [(3, .t (.c (.d (.sl 2 ((picks.drop (cntFree c j)).map ziD))))), (4, vp 5 0), (5, vp 6 0), (8, vp 7 0), (9, vb false), (10, vp 8 0), (12, vp 9 0), (52, vi .i64 (s.vars.length : Int)), (53, vi .i64 (j : Int))] [(5, .box (sysC s)), (6, .box [.d (.sl 1 (x.locs.map intD)), .d (.sl 2 (x.vals.map ziD))]), (7, .box [.d (.raw nilV), .d (.raw nilV)]), (8, .box ([.d (.raw (.int .i64 c.proc)), .d (.raw (.int .i64 c.from_)), .d (.raw (.int .i64 c.to_)), .d (.raw (.int .i64 c.guard.kind)), .d (.sl 3 (c.guard.r.t.parts.map Part.d))] ++ zi c.guard.r.t.k ++ [.d (.raw (.bool c.guard.r.eq)), .d (.sl 6 (c.guard.kids.map FormD.d)), .d (.sl 5 (c.moves.map MoveD.d))])), (0, .row 3 1 ((x.locs.set k c.to_).map intD)), (1, .row 28 2 (((List.range j).map (newV x c picks) ++ (x.vals.map clZ).drop j).map ziD)), (9, .box [.own 0 x.locs.length, .own 1 (x.vals.map clZ).length])]) a w at h
    have hrl := range_len (f := (newV x c picks)) (cl := (x.vals.map clZ)) (j := j) (by rw [List.length_map]; omega)
    rw [List.length_map] at hrl
    refine rSeq fam0ok 10 [] [(3, .t (.c (.d (.sl 2 ((picks.drop (cntFree c j)).map ziD))))), (4, vp 5 0), (5, vp 6 0), (8, vp 7 0), (9, vb false), (10, vp 8 0), (12, vp 9 0), (52, vi .i64 (s.vars.length : Int)), (53, vi .i64 (j : Int)), (54, vb (decide ((j : Int) < (s.vars.length : Int))))] [(5, .box (sysC s)), (6, .box [.d (.sl 1 (x.locs.map intD)), .d (.sl 2 (x.vals.map ziD))]), (7, .box [.d (.raw nilV), .d (.raw nilV)]), (8, .box ([.d (.raw (.int .i64 c.proc)), .d (.raw (.int .i64 c.from_)), .d (.raw (.int .i64 c.to_)), .d (.raw (.int .i64 c.guard.kind)), .d (.sl 3 (c.guard.r.t.parts.map Part.d))] ++ zi c.guard.r.t.k ++ [.d (.raw (.bool c.guard.r.eq)), .d (.sl 6 (c.guard.kids.map FormD.d)), .d (.sl 5 (c.moves.map MoveD.d))])), (0, .row 3 1 ((x.locs.set k c.to_).map intD)), (1, .row 28 2 (((List.range j).map (newV x c picks) ++ (x.vals.map clZ).drop j).map ziD)), (9, .box [.own 0 x.locs.length, .own 1 (x.vals.map clZ).length])] (by kernel_rfl) h ?_; clear h; intro a w h
    refine wp_seq ?_
    refine condS (decide ((j : Int) < (s.vars.length : Int))) h rfl (fun hc => ?_) (fun hc => ?_)
    ·have hc3 := hc; clear hc
     have hc3' := of_decide_eq_true hc3
     refine wp_skip ?_
     refine then_n ?_
     refine wp_seq ?_
     refine wp_block ?_
     refine rSeq fam0ok 10 [] [(3, .t (.c (.d (.sl 2 ((picks.drop (cntFree c j)).map ziD))))), (4, vp 5 0), (5, vp 6 0), (8, vp 7 0), (9, vb false), (10, vp 8 0), (12, vp 9 0), (13, vi .i64 (j : Int)), (52, vi .i64 (s.vars.length : Int)), (53, vi .i64 (j : Int))] [(5, .box (sysC s)), (6, .box [.d (.sl 1 (x.locs.map intD)), .d (.sl 2 (x.vals.map ziD))]), (7, .box [.d (.raw nilV), .d (.raw nilV)]), (8, .box ([.d (.raw (.int .i64 c.proc)), .d (.raw (.int .i64 c.from_)), .d (.raw (.int .i64 c.to_)), .d (.raw (.int .i64 c.guard.kind)), .d (.sl 3 (c.guard.r.t.parts.map Part.d))] ++ zi c.guard.r.t.k ++ [.d (.raw (.bool c.guard.r.eq)), .d (.sl 6 (c.guard.kids.map FormD.d)), .d (.sl 5 (c.moves.map MoveD.d))])), (0, .row 3 1 ((x.locs.set k c.to_).map intD)), (1, .row 28 2 (((List.range j).map (newV x c picks) ++ (x.vals.map clZ).drop j).map ziD)), (9, .box [.own 0 x.locs.length, .own 1 (x.vals.map clZ).length])] (by kernel_rfl) h ?_; clear h; intro a w h
     have gn := new_ok hc hx j
     have lgn := gn.2
     refine rSeq fam0ok 10 [(3, .call (Safter x c j (L := L) (M := M) (by omega) hc hx (by have := fits_len (enabled_fits hen); omega)) kk_8)] [(3, .t (.c (.d (.sl 2 ((picks.drop (cntFree c j)).map ziD))))), (4, vp 5 0), (5, vp 6 0), (8, vp 7 0), (9, vb false), (10, vp 8 0), (12, vp 9 0), (13, vi .i64 (j : Int)), (14, vp 10 0), (15, vb (freeAt c j)), (52, vi .i64 (s.vars.length : Int)), (53, vi .i64 (j : Int))] [(5, .box (sysC s)), (6, .box [.d (.sl 1 (x.locs.map intD)), .d (.sl 2 (x.vals.map ziD))]), (7, .box [.d (.raw nilV), .d (.raw nilV)]), (8, .box ([.d (.raw (.int .i64 c.proc)), .d (.raw (.int .i64 c.from_)), .d (.raw (.int .i64 c.to_)), .d (.raw (.int .i64 c.guard.kind)), .d (.sl 3 (c.guard.r.t.parts.map Part.d))] ++ zi c.guard.r.t.k ++ [.d (.raw (.bool c.guard.r.eq)), .d (.sl 6 (c.guard.kids.map FormD.d)), .d (.sl 5 (c.moves.map MoveD.d))])), (0, .row 3 1 ((x.locs.set k c.to_).map intD)), (1, .row 28 2 (((List.range j).map (newV x c picks) ++ (x.vals.map clZ).drop j).map ziD)), (9, .box [.own 0 x.locs.length, .own 1 (x.vals.map clZ).length]), (10, .box (zi (newAt x c j)))] (by kernel_rfl) h ?_; clear h; intro a w h
     refine wp_seq ?_
     rcases Bool.eq_false_or_eq_true (freeAt c j) with hc | hc
     ·have hc4 := hc; clear hc
      rw [hc4] at h
      refine rSeq fam0ok 11 [(3, .len (c := (.d (.sl 2 ((picks.drop (cntFree c j)).map ziD)))) (n := (picks.drop (cntFree c j)).length) (lenC_map _ _ _))] [(3, .t (.c (.d (.sl 2 ((picks.drop (cntFree c j)).map ziD))))), (4, vp 5 0), (5, vp 6 0), (8, vp 7 0), (9, vb false), (10, vp 8 0), (12, vp 9 0), (13, vi .i64 (j : Int)), (14, vp 10 0), (52, vi .i64 (s.vars.length : Int)), (53, vi .i64 (j : Int)), (68, vb (decide (((picks.drop (cntFree c j)).length : Int) > 0)))] [(5, .box (sysC s)), (6, .box [.d (.sl 1 (x.locs.map intD)), .d (.sl 2 (x.vals.map ziD))]), (7, .box [.d (.raw nilV), .d (.raw nilV)]), (8, .box ([.d (.raw (.int .i64 c.proc)), .d (.raw (.int .i64 c.from_)), .d (.raw (.int .i64 c.to_)), .d (.raw (.int .i64 c.guard.kind)), .d (.sl 3 (c.guard.r.t.parts.map Part.d))] ++ zi c.guard.r.t.k ++ [.d (.raw (.bool c.guard.r.eq)), .d (.sl 6 (c.guard.kids.map FormD.d)), .d (.sl 5 (c.moves.map MoveD.d))])), (0, .row 3 1 ((x.locs.set k c.to_).map intD)), (1, .row 28 2 (((List.range j).map (newV x c picks) ++ (x.vals.map clZ).drop j).map ziD)), (9, .box [.own 0 x.locs.length, .own 1 (x.vals.map clZ).length]), (10, .box (zi (newAt x c j)))] (by kernel_rfl) h ?_; clear h; intro a w h
      refine condS (decide (((picks.drop (cntFree c j)).length : Int) > 0)) h rfl (fun hc => ?_) (fun hc => ?_)
      ·have hc5 := hc; clear hc
       have hc5' := of_decide_eq_true hc5
       obtain ⟨x6, hx6⟩ : ∃ z_ : ZI, (picks.drop (cntFree c j))[0]? = some z_ := ⟨_, List.getElem?_eq_getElem (by first | omega | (simp at *; omega))⟩
       have gx6 := hp x6 (List.mem_of_mem_drop (List.mem_of_getElem? hx6))
       have lgx6 := gx6.2
       obtain ⟨r7, er7, vr7, or7, lr7⟩ := mkZ (v := x6.val) (m := M) (Nat.le_trans (len_id gx6.1) gx6.2)
       refine rSeq fam0ok 11 [(1, .gen _ _ _ fun _ _ _ _ => Op.idxD (d := 70) (t := 69) (k := .i64) tt_6 (map_at hx6 (f := ziD)) (OV.const (.int .i64 0) rfl)), (5, .gen _ _ _ fun _ _ _ _ => Op.idxD (d := 74) (t := 73) (k := .i64) tt_6 (map_at hx6 (f := ziD)) (OV.const (.int .i64 0) rfl)), (8, .call (Fn.cast ((show Fn _ _ _ _ (vz (ZI.of x6.val)) _ from SFrom x6.neg x6.abs gx6.1 (by omega))) (congrArg vz er7.symm)) ia_3)] [(3, .t (.c (.d (.sl 2 ((picks.drop (cntFree c j)).map ziD))))), (4, vp 5 0), (5, vp 6 0), (8, vp 7 0), (9, vb false), (10, vp 8 0), (12, vp 9 0), (13, vi .i64 (j : Int)), (14, vp 10 0), (52, vi .i64 (s.vars.length : Int)), (53, vi .i64 (j : Int))] [(5, .box (sysC s)), (6, .box [.d (.sl 1 (x.locs.map intD)), .d (.sl 2 (x.vals.map ziD))]), (7, .box [.d (.raw nilV), .d (.raw nilV)]), (8, .box ([.d (.raw (.int .i64 c.proc)), .d (.raw (.int .i64 c.from_)), .d (.raw (.int .i64 c.to_)), .d (.raw (.int .i64 c.guard.kind)), .d (.sl 3 (c.guard.r.t.parts.map Part.d))] ++ zi c.guard.r.t.k ++ [.d (.raw (.bool c.guard.r.eq)), .d (.sl 6 (c.guard.kids.map FormD.d)), .d (.sl 5 (c.moves.map MoveD.d))])), (0, .row 3 1 ((x.locs.set k c.to_).map intD)), (1, .row 28 2 (((List.range j).map (newV x c picks) ++ (x.vals.map clZ).drop j).map ziD)), (9, .box [.own 0 x.locs.length, .own 1 (x.vals.map clZ).length]), (10, .box (zi r7))] (by kernel_rfl) h ?_; clear h; intro a w h
       refine rS fam0ok 11 [(1, .gen _ _ _ fun _ _ _ _ => Op.sliceD (d := 79) (t := 78) (l := 1) (h := (picks.drop (cntFree c j)).length) (rows := (picks.drop (cntFree c j)).map ziD) (rows' := ((picks.drop (cntFree c j)).drop 1).map ziD) tt_6 (BO.yes _ (OV.const (.int .i64 1) rfl)) (by rw [List.length_map]; exact BO.no _) (by first | omega | (simp at *; omega)) (by first | omega | (simp only [List.length_map]; omega) | (simp at *; omega)) (by first | (simp [List.map_drop]; done) | (rw [List.take_of_length_le (by simp <;> omega)]; simp [List.map_drop])))] [(3, .t (.c (.d (.sl 2 (((picks.drop (cntFree c j)).drop 1).map ziD))))), (4, vp 5 0), (5, vp 6 0), (8, vp 7 0), (9, vb false), (10, vp 8 0), (12, vp 9 0), (13, vi .i64 (j : Int)), (14, vp 10 0), (52, vi .i64 (s.vars.length : Int)), (53, vi .i64 (j : Int))] [(5, .box (sysC s)), (6, .box [.d (.sl 1 (x.locs.map intD)), .d (.sl 2 (x.vals.map ziD))]), (7, .box [.d (.raw nilV), .d (.raw nilV)]), (8, .box ([.d (.raw (.int .i64 c.proc)), .d (.raw (.int .i64 c.from_)), .d (.raw (.int .i64 c.to_)), .d (.raw (.int .i64 c.guard.kind)), .d (.sl 3 (c.guard.r.t.parts.map Part.d))] ++ zi c.guard.r.t.k ++ [.d (.raw (.bool c.guard.r.eq)), .d (.sl 6 (c.guard.kids.map FormD.d)), .d (.sl 5 (c.moves.map MoveD.d))])), (0, .row 3 1 ((x.locs.set k c.to_).map intD)), (1, .row 28 2 (((List.range j).map (newV x c picks) ++ (x.vals.map clZ).drop j).map ziD)), (9, .box [.own 0 x.locs.length, .own 1 (x.vals.map clZ).length]), (10, .box (zi r7))] (by kernel_rfl) h ?_; clear h; intro a w h
       refine then_n ?_
       obtain ⟨x8, hx8⟩ : ∃ z_ : ZI, ((List.range j).map (newV x c picks) ++ (x.vals.map clZ).drop j)[j]? = some z_ := ⟨_, List.getElem?_eq_getElem (by first | omega | (simp at *; omega))⟩
       refine rS fam0ok 11 [(4, .gen _ _ _ fun _ _ _ _ => Op.idxO (d := 84) (t := 81) (k := .i64) (n := 1) (len := (x.vals.map clZ).length) (i := j) tt_6 (by first | omega | (simp at *; omega)) (OV.tmp 82 _)), (5, .gen _ _ _ fun _ _ _ _ => Op.storeR (t := 84) (n := 1) (i := j) (fo := 0) (rty := 28) (es := 2) (r := ziD x8) (ds := [.raw (.bool r7.neg), nsl r7.abs]) (rs := [(83, vz r7)]) (rows := ((List.range j).map (newV x c picks) ++ (x.vals.map clZ).drop j).map ziD) (rows' := (((List.range j).map (newV x c picks) ++ (x.vals.map clZ).drop j).set j r7).map ziD) ia_1 (OV.tmp 83 _) rfl rfl rfl (map_at hx8 (f := ziD)) (by simp [ziD]) (set_map (xs := ((List.range j).map (newV x c picks) ++ (x.vals.map clZ).drop j)) (F := ziD) j _ _ rfl))] [(3, .t (.c (.d (.sl 2 (((picks.drop (cntFree c j)).drop 1).map ziD))))), (4, vp 5 0), (5, vp 6 0), (8, vp 7 0), (9, vb false), (10, vp 8 0), (12, vp 9 0), (52, vi .i64 (s.vars.length : Int)), (53, vi .i64 (j : Int))] [(5, .box (sysC s)), (6, .box [.d (.sl 1 (x.locs.map intD)), .d (.sl 2 (x.vals.map ziD))]), (7, .box [.d (.raw nilV), .d (.raw nilV)]), (8, .box ([.d (.raw (.int .i64 c.proc)), .d (.raw (.int .i64 c.from_)), .d (.raw (.int .i64 c.to_)), .d (.raw (.int .i64 c.guard.kind)), .d (.sl 3 (c.guard.r.t.parts.map Part.d))] ++ zi c.guard.r.t.k ++ [.d (.raw (.bool c.guard.r.eq)), .d (.sl 6 (c.guard.kids.map FormD.d)), .d (.sl 5 (c.moves.map MoveD.d))])), (0, .row 3 1 ((x.locs.set k c.to_).map intD)), (1, .row 28 2 ((((List.range j).map (newV x c picks) ++ (x.vals.map clZ).drop j).set j r7).map ziD)), (9, .box [.own 0 x.locs.length, .own 1 (x.vals.map clZ).length])] (by kernel_rfl) h ?_; clear h; intro a w h
       refine block_n ?_
       refine then_n ?_
       refine rS fam0ok 11 [(0, .add .i64 (m := (j : Int)) (n := 1) (i64_id (by omega) (by omega)))] [(3, .t (.c (.d (.sl 2 (((picks.drop (cntFree c j)).drop 1).map ziD))))), (4, vp 5 0), (5, vp 6 0), (8, vp 7 0), (9, vb false), (10, vp 8 0), (12, vp 9 0), (52, vi .i64 (s.vars.length : Int)), (53, vi .i64 ((j : Int) + 1))] [(5, .box (sysC s)), (6, .box [.d (.sl 1 (x.locs.map intD)), .d (.sl 2 (x.vals.map ziD))]), (7, .box [.d (.raw nilV), .d (.raw nilV)]), (8, .box ([.d (.raw (.int .i64 c.proc)), .d (.raw (.int .i64 c.from_)), .d (.raw (.int .i64 c.to_)), .d (.raw (.int .i64 c.guard.kind)), .d (.sl 3 (c.guard.r.t.parts.map Part.d))] ++ zi c.guard.r.t.k ++ [.d (.raw (.bool c.guard.r.eq)), .d (.sl 6 (c.guard.kids.map FormD.d)), .d (.sl 5 (c.moves.map MoveD.d))])), (0, .row 3 1 ((x.locs.set k c.to_).map intD)), (1, .row 28 2 ((((List.range j).map (newV x c picks) ++ (x.vals.map clZ).drop j).set j r7).map ziD)), (9, .box [.own 0 x.locs.length, .own 1 (x.vals.map clZ).length])] (by kernel_rfl) h ?_; clear h; intro a w h
       refine then_n ?_
       replace h := h.conv (f' := F.of [(3, .t (.c (.d (.sl 2 (((picks.drop (cntFree c j)).drop 1).map ziD))))), (4, vp 5 0), (5, vp 6 0), (8, vp 7 0), (9, vb false), (10, vp 8 0), (12, vp 9 0), (52, vi .i64 (s.vars.length : Int)), (53, vi .i64 ((j : Int) + 1))] [(5, .box (sysC s)), (6, .box [.d (.sl 1 (x.locs.map intD)), .d (.sl 2 (x.vals.map ziD))]), (7, .box [.d (.raw nilV), .d (.raw nilV)]), (8, .box ([.d (.raw (.int .i64 c.proc)), .d (.raw (.int .i64 c.from_)), .d (.raw (.int .i64 c.to_)), .d (.raw (.int .i64 c.guard.kind)), .d (.sl 3 (c.guard.r.t.parts.map Part.d))] ++ zi c.guard.r.t.k ++ [.d (.raw (.bool c.guard.r.eq)), .d (.sl 6 (c.guard.kids.map FormD.d)), .d (.sl 5 (c.moves.map MoveD.d))])), (0, .row 3 1 ((x.locs.set k c.to_).map intD)), (1, .row 28 2 (((List.range (j + 1)).map (newV x c picks) ++ (x.vals.map clZ).drop (j + 1)).map ziD)), (9, .box [.own 0 x.locs.length, .own 1 (x.vals.map clZ).length])]) (congrArg (fun (z_ : List ZI) => F.of [(3, .t (.c (.d (.sl 2 (((picks.drop (cntFree c j)).drop 1).map ziD))))), (4, vp 5 0), (5, vp 6 0), (8, vp 7 0), (9, vb false), (10, vp 8 0), (12, vp 9 0), (52, vi .i64 (s.vars.length : Int)), (53, vi .i64 ((j : Int) + 1))] [(5, .box (sysC s)), (6, .box [.d (.sl 1 (x.locs.map intD)), .d (.sl 2 (x.vals.map ziD))]), (7, .box [.d (.raw nilV), .d (.raw nilV)]), (8, .box ([.d (.raw (.int .i64 c.proc)), .d (.raw (.int .i64 c.from_)), .d (.raw (.int .i64 c.to_)), .d (.raw (.int .i64 c.guard.kind)), .d (.sl 3 (c.guard.r.t.parts.map Part.d))] ++ zi c.guard.r.t.k ++ [.d (.raw (.bool c.guard.r.eq)), .d (.sl 6 (c.guard.kids.map FormD.d)), .d (.sl 5 (c.moves.map MoveD.d))])), (0, .row 3 1 ((x.locs.set k c.to_).map intD)), (1, .row 28 2 (z_.map ziD)), (9, .box [.own 0 x.locs.length, .own 1 (x.vals.map clZ).length])]) (show ((((List.range j).map (newV x c picks) ++ (x.vals.map clZ).drop j).set j r7) : List ZI) = ((List.range (j + 1)).map (newV x c picks) ++ (x.vals.map clZ).drop (j + 1)) from (range_set (by rw [List.length_map]; omega) (by rw [newV_pick hc4 hx6]; simp [*]))))
       replace h := h.conv (f' := F.of [(3, .t (.c (.d (.sl 2 ((picks.drop (cntFree c (j + 1))).map ziD))))), (4, vp 5 0), (5, vp 6 0), (8, vp 7 0), (9, vb false), (10, vp 8 0), (12, vp 9 0), (52, vi .i64 (s.vars.length : Int)), (53, vi .i64 ((j : Int) + 1))] [(5, .box (sysC s)), (6, .box [.d (.sl 1 (x.locs.map intD)), .d (.sl 2 (x.vals.map ziD))]), (7, .box [.d (.raw nilV), .d (.raw nilV)]), (8, .box ([.d (.raw (.int .i64 c.proc)), .d (.raw (.int .i64 c.from_)), .d (.raw (.int .i64 c.to_)), .d (.raw (.int .i64 c.guard.kind)), .d (.sl 3 (c.guard.r.t.parts.map Part.d))] ++ zi c.guard.r.t.k ++ [.d (.raw (.bool c.guard.r.eq)), .d (.sl 6 (c.guard.kids.map FormD.d)), .d (.sl 5 (c.moves.map MoveD.d))])), (0, .row 3 1 ((x.locs.set k c.to_).map intD)), (1, .row 28 2 (((List.range (j + 1)).map (newV x c picks) ++ (x.vals.map clZ).drop (j + 1)).map ziD)), (9, .box [.own 0 x.locs.length, .own 1 (x.vals.map clZ).length])]) (congrArg (fun (z_ : List ZI) => F.of [(3, .t (.c (.d (.sl 2 (z_.map ziD))))), (4, vp 5 0), (5, vp 6 0), (8, vp 7 0), (9, vb false), (10, vp 8 0), (12, vp 9 0), (52, vi .i64 (s.vars.length : Int)), (53, vi .i64 ((j : Int) + 1))] [(5, .box (sysC s)), (6, .box [.d (.sl 1 (x.locs.map intD)), .d (.sl 2 (x.vals.map ziD))]), (7, .box [.d (.raw nilV), .d (.raw nilV)]), (8, .box ([.d (.raw (.int .i64 c.proc)), .d (.raw (.int .i64 c.from_)), .d (.raw (.int .i64 c.to_)), .d (.raw (.int .i64 c.guard.kind)), .d (.sl 3 (c.guard.r.t.parts.map Part.d))] ++ zi c.guard.r.t.k ++ [.d (.raw (.bool c.guard.r.eq)), .d (.sl 6 (c.guard.kids.map FormD.d)), .d (.sl 5 (c.moves.map MoveD.d))])), (0, .row 3 1 ((x.locs.set k c.to_).map intD)), (1, .row 28 2 (((List.range (j + 1)).map (newV x c picks) ++ (x.vals.map clZ).drop (j + 1)).map ziD)), (9, .box [.own 0 x.locs.length, .own 1 (x.vals.map clZ).length])]) (show (((picks.drop (cntFree c j)).drop 1) : List ZI) = (picks.drop (cntFree c (j + 1))) from (by rw [cnt_free hc4, List.drop_drop])))
       refine roundS (x := j) (y := j + 1) h ?_ ?_ (by kernel_rfl) (by kernel_rfl)
       ·show j + 1 ≤ s.vars.length
        omega
       ·show s.vars.length - (j + 1) < s.vars.length - j
        omega
      ·have hc6 := hc; clear hc
       have hc6' := of_decide_eq_false hc6
       refine wp_skip ?_
       refine then_n ?_
       obtain ⟨x9, hx9⟩ : ∃ z_ : ZI, ((List.range j).map (newV x c picks) ++ (x.vals.map clZ).drop j)[j]? = some z_ := ⟨_, List.getElem?_eq_getElem (by first | omega | (simp at *; omega))⟩
       refine rS fam0ok 11 [(4, .gen _ _ _ fun _ _ _ _ => Op.idxO (d := 84) (t := 81) (k := .i64) (n := 1) (len := (x.vals.map clZ).length) (i := j) tt_6 (by first | omega | (simp at *; omega)) (OV.tmp 82 _)), (5, .gen _ _ _ fun _ _ _ _ => Op.storeR (t := 84) (n := 1) (i := j) (fo := 0) (rty := 28) (es := 2) (r := ziD x9) (ds := [.raw (.bool (newAt x c j).neg), nsl (newAt x c j).abs]) (rs := [(83, vz (newAt x c j))]) (rows := ((List.range j).map (newV x c picks) ++ (x.vals.map clZ).drop j).map ziD) (rows' := (((List.range j).map (newV x c picks) ++ (x.vals.map clZ).drop j).set j (newAt x c j)).map ziD) ia_1 (OV.tmp 83 _) rfl rfl rfl (map_at hx9 (f := ziD)) (by simp [ziD]) (set_map (xs := ((List.range j).map (newV x c picks) ++ (x.vals.map clZ).drop j)) (F := ziD) j _ _ rfl))] [(3, .t (.c (.d (.sl 2 ((picks.drop (cntFree c j)).map ziD))))), (4, vp 5 0), (5, vp 6 0), (8, vp 7 0), (9, vb false), (10, vp 8 0), (12, vp 9 0), (52, vi .i64 (s.vars.length : Int)), (53, vi .i64 (j : Int))] [(5, .box (sysC s)), (6, .box [.d (.sl 1 (x.locs.map intD)), .d (.sl 2 (x.vals.map ziD))]), (7, .box [.d (.raw nilV), .d (.raw nilV)]), (8, .box ([.d (.raw (.int .i64 c.proc)), .d (.raw (.int .i64 c.from_)), .d (.raw (.int .i64 c.to_)), .d (.raw (.int .i64 c.guard.kind)), .d (.sl 3 (c.guard.r.t.parts.map Part.d))] ++ zi c.guard.r.t.k ++ [.d (.raw (.bool c.guard.r.eq)), .d (.sl 6 (c.guard.kids.map FormD.d)), .d (.sl 5 (c.moves.map MoveD.d))])), (0, .row 3 1 ((x.locs.set k c.to_).map intD)), (1, .row 28 2 ((((List.range j).map (newV x c picks) ++ (x.vals.map clZ).drop j).set j (newAt x c j)).map ziD)), (9, .box [.own 0 x.locs.length, .own 1 (x.vals.map clZ).length])] (by kernel_rfl) h ?_; clear h; intro a w h
       refine block_n ?_
       refine then_n ?_
       refine rS fam0ok 11 [(0, .add .i64 (m := (j : Int)) (n := 1) (i64_id (by omega) (by omega)))] [(3, .t (.c (.d (.sl 2 ((picks.drop (cntFree c j)).map ziD))))), (4, vp 5 0), (5, vp 6 0), (8, vp 7 0), (9, vb false), (10, vp 8 0), (12, vp 9 0), (52, vi .i64 (s.vars.length : Int)), (53, vi .i64 ((j : Int) + 1))] [(5, .box (sysC s)), (6, .box [.d (.sl 1 (x.locs.map intD)), .d (.sl 2 (x.vals.map ziD))]), (7, .box [.d (.raw nilV), .d (.raw nilV)]), (8, .box ([.d (.raw (.int .i64 c.proc)), .d (.raw (.int .i64 c.from_)), .d (.raw (.int .i64 c.to_)), .d (.raw (.int .i64 c.guard.kind)), .d (.sl 3 (c.guard.r.t.parts.map Part.d))] ++ zi c.guard.r.t.k ++ [.d (.raw (.bool c.guard.r.eq)), .d (.sl 6 (c.guard.kids.map FormD.d)), .d (.sl 5 (c.moves.map MoveD.d))])), (0, .row 3 1 ((x.locs.set k c.to_).map intD)), (1, .row 28 2 ((((List.range j).map (newV x c picks) ++ (x.vals.map clZ).drop j).set j (newAt x c j)).map ziD)), (9, .box [.own 0 x.locs.length, .own 1 (x.vals.map clZ).length])] (by kernel_rfl) h ?_; clear h; intro a w h
       refine then_n ?_
       replace h := h.conv (f' := F.of [(3, .t (.c (.d (.sl 2 ((picks.drop (cntFree c j)).map ziD))))), (4, vp 5 0), (5, vp 6 0), (8, vp 7 0), (9, vb false), (10, vp 8 0), (12, vp 9 0), (52, vi .i64 (s.vars.length : Int)), (53, vi .i64 ((j : Int) + 1))] [(5, .box (sysC s)), (6, .box [.d (.sl 1 (x.locs.map intD)), .d (.sl 2 (x.vals.map ziD))]), (7, .box [.d (.raw nilV), .d (.raw nilV)]), (8, .box ([.d (.raw (.int .i64 c.proc)), .d (.raw (.int .i64 c.from_)), .d (.raw (.int .i64 c.to_)), .d (.raw (.int .i64 c.guard.kind)), .d (.sl 3 (c.guard.r.t.parts.map Part.d))] ++ zi c.guard.r.t.k ++ [.d (.raw (.bool c.guard.r.eq)), .d (.sl 6 (c.guard.kids.map FormD.d)), .d (.sl 5 (c.moves.map MoveD.d))])), (0, .row 3 1 ((x.locs.set k c.to_).map intD)), (1, .row 28 2 (((List.range (j + 1)).map (newV x c picks) ++ (x.vals.map clZ).drop (j + 1)).map ziD)), (9, .box [.own 0 x.locs.length, .own 1 (x.vals.map clZ).length])]) (congrArg (fun (z_ : List ZI) => F.of [(3, .t (.c (.d (.sl 2 ((picks.drop (cntFree c j)).map ziD))))), (4, vp 5 0), (5, vp 6 0), (8, vp 7 0), (9, vb false), (10, vp 8 0), (12, vp 9 0), (52, vi .i64 (s.vars.length : Int)), (53, vi .i64 ((j : Int) + 1))] [(5, .box (sysC s)), (6, .box [.d (.sl 1 (x.locs.map intD)), .d (.sl 2 (x.vals.map ziD))]), (7, .box [.d (.raw nilV), .d (.raw nilV)]), (8, .box ([.d (.raw (.int .i64 c.proc)), .d (.raw (.int .i64 c.from_)), .d (.raw (.int .i64 c.to_)), .d (.raw (.int .i64 c.guard.kind)), .d (.sl 3 (c.guard.r.t.parts.map Part.d))] ++ zi c.guard.r.t.k ++ [.d (.raw (.bool c.guard.r.eq)), .d (.sl 6 (c.guard.kids.map FormD.d)), .d (.sl 5 (c.moves.map MoveD.d))])), (0, .row 3 1 ((x.locs.set k c.to_).map intD)), (1, .row 28 2 (z_.map ziD)), (9, .box [.own 0 x.locs.length, .own 1 (x.vals.map clZ).length])]) (show ((((List.range j).map (newV x c picks) ++ (x.vals.map clZ).drop j).set j (newAt x c j)) : List ZI) = ((List.range (j + 1)).map (newV x c picks) ++ (x.vals.map clZ).drop (j + 1)) from (range_set (by rw [List.length_map]; omega) (by rw [newV_out hc4 (of_decide_eq_false hc6)]; exact free_new hc4))))
       replace h := h.conv (f' := F.of [(3, .t (.c (.d (.sl 2 ((picks.drop (cntFree c (j + 1))).map ziD))))), (4, vp 5 0), (5, vp 6 0), (8, vp 7 0), (9, vb false), (10, vp 8 0), (12, vp 9 0), (52, vi .i64 (s.vars.length : Int)), (53, vi .i64 ((j : Int) + 1))] [(5, .box (sysC s)), (6, .box [.d (.sl 1 (x.locs.map intD)), .d (.sl 2 (x.vals.map ziD))]), (7, .box [.d (.raw nilV), .d (.raw nilV)]), (8, .box ([.d (.raw (.int .i64 c.proc)), .d (.raw (.int .i64 c.from_)), .d (.raw (.int .i64 c.to_)), .d (.raw (.int .i64 c.guard.kind)), .d (.sl 3 (c.guard.r.t.parts.map Part.d))] ++ zi c.guard.r.t.k ++ [.d (.raw (.bool c.guard.r.eq)), .d (.sl 6 (c.guard.kids.map FormD.d)), .d (.sl 5 (c.moves.map MoveD.d))])), (0, .row 3 1 ((x.locs.set k c.to_).map intD)), (1, .row 28 2 (((List.range (j + 1)).map (newV x c picks) ++ (x.vals.map clZ).drop (j + 1)).map ziD)), (9, .box [.own 0 x.locs.length, .own 1 (x.vals.map clZ).length])]) (congrArg (fun (z_ : List ZI) => F.of [(3, .t (.c (.d (.sl 2 (z_.map ziD))))), (4, vp 5 0), (5, vp 6 0), (8, vp 7 0), (9, vb false), (10, vp 8 0), (12, vp 9 0), (52, vi .i64 (s.vars.length : Int)), (53, vi .i64 ((j : Int) + 1))] [(5, .box (sysC s)), (6, .box [.d (.sl 1 (x.locs.map intD)), .d (.sl 2 (x.vals.map ziD))]), (7, .box [.d (.raw nilV), .d (.raw nilV)]), (8, .box ([.d (.raw (.int .i64 c.proc)), .d (.raw (.int .i64 c.from_)), .d (.raw (.int .i64 c.to_)), .d (.raw (.int .i64 c.guard.kind)), .d (.sl 3 (c.guard.r.t.parts.map Part.d))] ++ zi c.guard.r.t.k ++ [.d (.raw (.bool c.guard.r.eq)), .d (.sl 6 (c.guard.kids.map FormD.d)), .d (.sl 5 (c.moves.map MoveD.d))])), (0, .row 3 1 ((x.locs.set k c.to_).map intD)), (1, .row 28 2 (((List.range (j + 1)).map (newV x c picks) ++ (x.vals.map clZ).drop (j + 1)).map ziD)), (9, .box [.own 0 x.locs.length, .own 1 (x.vals.map clZ).length])]) (show ((picks.drop (cntFree c j)) : List ZI) = (picks.drop (cntFree c (j + 1))) from (by rw [cnt_free hc4]; have := of_decide_eq_false hc6; rw [List.length_drop] at this; rw [List.drop_of_length_le (by omega), List.drop_of_length_le (by omega)])))
       refine roundS (x := j) (y := j + 1) h ?_ ?_ (by kernel_rfl) (by kernel_rfl)
       ·show j + 1 ≤ s.vars.length
        omega
       ·show s.vars.length - (j + 1) < s.vars.length - j
        omega
     ·have hc7 := hc; clear hc
      rw [hc7] at h
      refine rSeq fam0ok 11 [] [(3, .t (.c (.d (.sl 2 ((picks.drop (cntFree c j)).map ziD))))), (4, vp 5 0), (5, vp 6 0), (8, vp 7 0), (9, vb false), (10, vp 8 0), (12, vp 9 0), (13, vi .i64 (j : Int)), (14, vp 10 0), (52, vi .i64 (s.vars.length : Int)), (53, vi .i64 (j : Int)), (68, vb false)] [(5, .box (sysC s)), (6, .box [.d (.sl 1 (x.locs.map intD)), .d (.sl 2 (x.vals.map ziD))]), (7, .box [.d (.raw nilV), .d (.raw nilV)]), (8, .box ([.d (.raw (.int .i64 c.proc)), .d (.raw (.int .i64 c.from_)), .d (.raw (.int .i64 c.to_)), .d (.raw (.int .i64 c.guard.kind)), .d (.sl 3 (c.guard.r.t.parts.map Part.d))] ++ zi c.guard.r.t.k ++ [.d (.raw (.bool c.guard.r.eq)), .d (.sl 6 (c.guard.kids.map FormD.d)), .d (.sl 5 (c.moves.map MoveD.d))])), (0, .row 3 1 ((x.locs.set k c.to_).map intD)), (1, .row 28 2 (((List.range j).map (newV x c picks) ++ (x.vals.map clZ).drop j).map ziD)), (9, .box [.own 0 x.locs.length, .own 1 (x.vals.map clZ).length]), (10, .box (zi (newAt x c j)))] (by kernel_rfl) h ?_; clear h; intro a w h
      refine condS false h rfl (fun hc => ?_) (fun hc => ?_)
      ·cases hc
      ·clear hc
       refine wp_skip ?_
       refine then_n ?_
       obtain ⟨x10, hx10⟩ : ∃ z_ : ZI, ((List.range j).map (newV x c picks) ++ (x.vals.map clZ).drop j)[j]? = some z_ := ⟨_, List.getElem?_eq_getElem (by first | omega | (simp at *; omega))⟩
       refine rS fam0ok 11 [(4, .gen _ _ _ fun _ _ _ _ => Op.idxO (d := 84) (t := 81) (k := .i64) (n := 1) (len := (x.vals.map clZ).length) (i := j) tt_6 (by first | omega | (simp at *; omega)) (OV.tmp 82 _)), (5, .gen _ _ _ fun _ _ _ _ => Op.storeR (t := 84) (n := 1) (i := j) (fo := 0) (rty := 28) (es := 2) (r := ziD x10) (ds := [.raw (.bool (newAt x c j).neg), nsl (newAt x c j).abs]) (rs := [(83, vz (newAt x c j))]) (rows := ((List.range j).map (newV x c picks) ++ (x.vals.map clZ).drop j).map ziD) (rows' := (((List.range j).map (newV x c picks) ++ (x.vals.map clZ).drop j).set j (newAt x c j)).map ziD) ia_1 (OV.tmp 83 _) rfl rfl rfl (map_at hx10 (f := ziD)) (by simp [ziD]) (set_map (xs := ((List.range j).map (newV x c picks) ++ (x.vals.map clZ).drop j)) (F := ziD) j _ _ rfl))] [(3, .t (.c (.d (.sl 2 ((picks.drop (cntFree c j)).map ziD))))), (4, vp 5 0), (5, vp 6 0), (8, vp 7 0), (9, vb false), (10, vp 8 0), (12, vp 9 0), (52, vi .i64 (s.vars.length : Int)), (53, vi .i64 (j : Int))] [(5, .box (sysC s)), (6, .box [.d (.sl 1 (x.locs.map intD)), .d (.sl 2 (x.vals.map ziD))]), (7, .box [.d (.raw nilV), .d (.raw nilV)]), (8, .box ([.d (.raw (.int .i64 c.proc)), .d (.raw (.int .i64 c.from_)), .d (.raw (.int .i64 c.to_)), .d (.raw (.int .i64 c.guard.kind)), .d (.sl 3 (c.guard.r.t.parts.map Part.d))] ++ zi c.guard.r.t.k ++ [.d (.raw (.bool c.guard.r.eq)), .d (.sl 6 (c.guard.kids.map FormD.d)), .d (.sl 5 (c.moves.map MoveD.d))])), (0, .row 3 1 ((x.locs.set k c.to_).map intD)), (1, .row 28 2 ((((List.range j).map (newV x c picks) ++ (x.vals.map clZ).drop j).set j (newAt x c j)).map ziD)), (9, .box [.own 0 x.locs.length, .own 1 (x.vals.map clZ).length])] (by kernel_rfl) h ?_; clear h; intro a w h
       refine block_n ?_
       refine then_n ?_
       refine rS fam0ok 11 [(0, .add .i64 (m := (j : Int)) (n := 1) (i64_id (by omega) (by omega)))] [(3, .t (.c (.d (.sl 2 ((picks.drop (cntFree c j)).map ziD))))), (4, vp 5 0), (5, vp 6 0), (8, vp 7 0), (9, vb false), (10, vp 8 0), (12, vp 9 0), (52, vi .i64 (s.vars.length : Int)), (53, vi .i64 ((j : Int) + 1))] [(5, .box (sysC s)), (6, .box [.d (.sl 1 (x.locs.map intD)), .d (.sl 2 (x.vals.map ziD))]), (7, .box [.d (.raw nilV), .d (.raw nilV)]), (8, .box ([.d (.raw (.int .i64 c.proc)), .d (.raw (.int .i64 c.from_)), .d (.raw (.int .i64 c.to_)), .d (.raw (.int .i64 c.guard.kind)), .d (.sl 3 (c.guard.r.t.parts.map Part.d))] ++ zi c.guard.r.t.k ++ [.d (.raw (.bool c.guard.r.eq)), .d (.sl 6 (c.guard.kids.map FormD.d)), .d (.sl 5 (c.moves.map MoveD.d))])), (0, .row 3 1 ((x.locs.set k c.to_).map intD)), (1, .row 28 2 ((((List.range j).map (newV x c picks) ++ (x.vals.map clZ).drop j).set j (newAt x c j)).map ziD)), (9, .box [.own 0 x.locs.length, .own 1 (x.vals.map clZ).length])] (by kernel_rfl) h ?_; clear h; intro a w h
       refine then_n ?_
       replace h := h.conv (f' := F.of [(3, .t (.c (.d (.sl 2 ((picks.drop (cntFree c j)).map ziD))))), (4, vp 5 0), (5, vp 6 0), (8, vp 7 0), (9, vb false), (10, vp 8 0), (12, vp 9 0), (52, vi .i64 (s.vars.length : Int)), (53, vi .i64 ((j : Int) + 1))] [(5, .box (sysC s)), (6, .box [.d (.sl 1 (x.locs.map intD)), .d (.sl 2 (x.vals.map ziD))]), (7, .box [.d (.raw nilV), .d (.raw nilV)]), (8, .box ([.d (.raw (.int .i64 c.proc)), .d (.raw (.int .i64 c.from_)), .d (.raw (.int .i64 c.to_)), .d (.raw (.int .i64 c.guard.kind)), .d (.sl 3 (c.guard.r.t.parts.map Part.d))] ++ zi c.guard.r.t.k ++ [.d (.raw (.bool c.guard.r.eq)), .d (.sl 6 (c.guard.kids.map FormD.d)), .d (.sl 5 (c.moves.map MoveD.d))])), (0, .row 3 1 ((x.locs.set k c.to_).map intD)), (1, .row 28 2 (((List.range (j + 1)).map (newV x c picks) ++ (x.vals.map clZ).drop (j + 1)).map ziD)), (9, .box [.own 0 x.locs.length, .own 1 (x.vals.map clZ).length])]) (congrArg (fun (z_ : List ZI) => F.of [(3, .t (.c (.d (.sl 2 ((picks.drop (cntFree c j)).map ziD))))), (4, vp 5 0), (5, vp 6 0), (8, vp 7 0), (9, vb false), (10, vp 8 0), (12, vp 9 0), (52, vi .i64 (s.vars.length : Int)), (53, vi .i64 ((j : Int) + 1))] [(5, .box (sysC s)), (6, .box [.d (.sl 1 (x.locs.map intD)), .d (.sl 2 (x.vals.map ziD))]), (7, .box [.d (.raw nilV), .d (.raw nilV)]), (8, .box ([.d (.raw (.int .i64 c.proc)), .d (.raw (.int .i64 c.from_)), .d (.raw (.int .i64 c.to_)), .d (.raw (.int .i64 c.guard.kind)), .d (.sl 3 (c.guard.r.t.parts.map Part.d))] ++ zi c.guard.r.t.k ++ [.d (.raw (.bool c.guard.r.eq)), .d (.sl 6 (c.guard.kids.map FormD.d)), .d (.sl 5 (c.moves.map MoveD.d))])), (0, .row 3 1 ((x.locs.set k c.to_).map intD)), (1, .row 28 2 (z_.map ziD)), (9, .box [.own 0 x.locs.length, .own 1 (x.vals.map clZ).length])]) (show ((((List.range j).map (newV x c picks) ++ (x.vals.map clZ).drop j).set j (newAt x c j)) : List ZI) = ((List.range (j + 1)).map (newV x c picks) ++ (x.vals.map clZ).drop (j + 1)) from (range_set (by rw [List.length_map]; omega) (newV_new hc7).symm)))
       replace h := h.conv (f' := F.of [(3, .t (.c (.d (.sl 2 ((picks.drop (cntFree c (j + 1))).map ziD))))), (4, vp 5 0), (5, vp 6 0), (8, vp 7 0), (9, vb false), (10, vp 8 0), (12, vp 9 0), (52, vi .i64 (s.vars.length : Int)), (53, vi .i64 ((j : Int) + 1))] [(5, .box (sysC s)), (6, .box [.d (.sl 1 (x.locs.map intD)), .d (.sl 2 (x.vals.map ziD))]), (7, .box [.d (.raw nilV), .d (.raw nilV)]), (8, .box ([.d (.raw (.int .i64 c.proc)), .d (.raw (.int .i64 c.from_)), .d (.raw (.int .i64 c.to_)), .d (.raw (.int .i64 c.guard.kind)), .d (.sl 3 (c.guard.r.t.parts.map Part.d))] ++ zi c.guard.r.t.k ++ [.d (.raw (.bool c.guard.r.eq)), .d (.sl 6 (c.guard.kids.map FormD.d)), .d (.sl 5 (c.moves.map MoveD.d))])), (0, .row 3 1 ((x.locs.set k c.to_).map intD)), (1, .row 28 2 (((List.range (j + 1)).map (newV x c picks) ++ (x.vals.map clZ).drop (j + 1)).map ziD)), (9, .box [.own 0 x.locs.length, .own 1 (x.vals.map clZ).length])]) (congrArg (fun (z_ : List ZI) => F.of [(3, .t (.c (.d (.sl 2 (z_.map ziD))))), (4, vp 5 0), (5, vp 6 0), (8, vp 7 0), (9, vb false), (10, vp 8 0), (12, vp 9 0), (52, vi .i64 (s.vars.length : Int)), (53, vi .i64 ((j : Int) + 1))] [(5, .box (sysC s)), (6, .box [.d (.sl 1 (x.locs.map intD)), .d (.sl 2 (x.vals.map ziD))]), (7, .box [.d (.raw nilV), .d (.raw nilV)]), (8, .box ([.d (.raw (.int .i64 c.proc)), .d (.raw (.int .i64 c.from_)), .d (.raw (.int .i64 c.to_)), .d (.raw (.int .i64 c.guard.kind)), .d (.sl 3 (c.guard.r.t.parts.map Part.d))] ++ zi c.guard.r.t.k ++ [.d (.raw (.bool c.guard.r.eq)), .d (.sl 6 (c.guard.kids.map FormD.d)), .d (.sl 5 (c.moves.map MoveD.d))])), (0, .row 3 1 ((x.locs.set k c.to_).map intD)), (1, .row 28 2 (((List.range (j + 1)).map (newV x c picks) ++ (x.vals.map clZ).drop (j + 1)).map ziD)), (9, .box [.own 0 x.locs.length, .own 1 (x.vals.map clZ).length])]) (show ((picks.drop (cntFree c j)) : List ZI) = (picks.drop (cntFree c (j + 1))) from (by rw [cnt_kept hc7])))
       refine roundS (x := j) (y := j + 1) h ?_ ?_ (by kernel_rfl) (by kernel_rfl)
       ·show j + 1 ≤ s.vars.length
        omega
       ·show s.vars.length - (j + 1) < s.vars.length - j
        omega
    ·have hc8 := hc; clear hc
     have hc8' := of_decide_eq_false hc8
     refine wp_exit ?_
     refine then_x ?_
     refine then_x ?_
     refine inBlock_exit ?_
     refine then_n ?_
     refine wp_seq ?_
     replace h := pubS 0 1 3 ((x.locs.set k c.to_).map intD) [(3, .t (.c (.d (.sl 2 ((picks.drop (cntFree c j)).map ziD))))), (4, vp 5 0), (5, vp 6 0), (8, vp 7 0), (9, vb false), (10, vp 8 0), (12, vp 9 0), (52, vi .i64 (s.vars.length : Int)), (53, vi .i64 (j : Int)), (54, vb (decide ((j : Int) < (s.vars.length : Int))))] [(5, .box (sysC s)), (6, .box [.d (.sl 1 (x.locs.map intD)), .d (.sl 2 (x.vals.map ziD))]), (7, .box [.d (.raw nilV), .d (.raw nilV)]), (8, .box ([.d (.raw (.int .i64 c.proc)), .d (.raw (.int .i64 c.from_)), .d (.raw (.int .i64 c.to_)), .d (.raw (.int .i64 c.guard.kind)), .d (.sl 3 (c.guard.r.t.parts.map Part.d))] ++ zi c.guard.r.t.k ++ [.d (.raw (.bool c.guard.r.eq)), .d (.sl 6 (c.guard.kids.map FormD.d)), .d (.sl 5 (c.moves.map MoveD.d))])), (1, .row 28 2 (((List.range j).map (newV x c picks) ++ (x.vals.map clZ).drop j).map ziD)), (9, .box [.d (.sl 1 ((x.locs.set k c.to_).map intD)), .own 1 (x.vals.map clZ).length])] h rfl trivial (show AllEq _ [x.locs.length] from ⟨by first | exact (List.length_map _).symm | (simp; done) | (simp; omega), trivial⟩) (by kernel_rfl) (by kernel_rfl)
     replace h := pubS 1 2 28 (((List.range j).map (newV x c picks) ++ (x.vals.map clZ).drop j).map ziD) [(3, .t (.c (.d (.sl 2 ((picks.drop (cntFree c j)).map ziD))))), (4, vp 5 0), (5, vp 6 0), (8, vp 7 0), (9, vb false), (10, vp 8 0), (12, vp 9 0), (52, vi .i64 (s.vars.length : Int)), (53, vi .i64 (j : Int)), (54, vb (decide ((j : Int) < (s.vars.length : Int))))] [(5, .box (sysC s)), (6, .box [.d (.sl 1 (x.locs.map intD)), .d (.sl 2 (x.vals.map ziD))]), (7, .box [.d (.raw nilV), .d (.raw nilV)]), (8, .box ([.d (.raw (.int .i64 c.proc)), .d (.raw (.int .i64 c.from_)), .d (.raw (.int .i64 c.to_)), .d (.raw (.int .i64 c.guard.kind)), .d (.sl 3 (c.guard.r.t.parts.map Part.d))] ++ zi c.guard.r.t.k ++ [.d (.raw (.bool c.guard.r.eq)), .d (.sl 6 (c.guard.kids.map FormD.d)), .d (.sl 5 (c.moves.map MoveD.d))])), (9, .box ([.d (.sl 1 ((x.locs.set k c.to_).map intD)), .d (.sl 2 (((List.range j).map (newV x c picks) ++ (x.vals.map clZ).drop j).map ziD))]))] h rfl trivial (show AllEq _ [(x.vals.map clZ).length] from ⟨by first | exact (List.length_map _).symm | (simp; done) | (simp; omega), trivial⟩) (by kernel_rfl) (by kernel_rfl)
     replace h := h.conv (f' := F.of [(3, .t (.c (.d (.sl 2 ((picks.drop (cntFree c j)).map ziD))))), (4, vp 5 0), (5, vp 6 0), (8, vp 7 0), (9, vb false), (10, vp 8 0), (12, vp 9 0), (52, vi .i64 (s.vars.length : Int)), (53, vi .i64 (j : Int)), (54, vb (decide ((j : Int) < (s.vars.length : Int))))] [(5, .box (sysC s)), (6, .box [.d (.sl 1 (x.locs.map intD)), .d (.sl 2 (x.vals.map ziD))]), (7, .box [.d (.raw nilV), .d (.raw nilV)]), (8, .box ([.d (.raw (.int .i64 c.proc)), .d (.raw (.int .i64 c.from_)), .d (.raw (.int .i64 c.to_)), .d (.raw (.int .i64 c.guard.kind)), .d (.sl 3 (c.guard.r.t.parts.map Part.d))] ++ zi c.guard.r.t.k ++ [.d (.raw (.bool c.guard.r.eq)), .d (.sl 6 (c.guard.kids.map FormD.d)), .d (.sl 5 (c.moves.map MoveD.d))])), (9, .box ([.d (.sl 1 ((outS s x c picks).locs.map intD)), .d (.sl 2 (((List.range j).map (newV x c picks) ++ (x.vals.map clZ).drop j).map ziD))]))]) (congrArg (fun (z_ : List Int) => F.of [(3, .t (.c (.d (.sl 2 ((picks.drop (cntFree c j)).map ziD))))), (4, vp 5 0), (5, vp 6 0), (8, vp 7 0), (9, vb false), (10, vp 8 0), (12, vp 9 0), (52, vi .i64 (s.vars.length : Int)), (53, vi .i64 (j : Int)), (54, vb (decide ((j : Int) < (s.vars.length : Int))))] [(5, .box (sysC s)), (6, .box [.d (.sl 1 (x.locs.map intD)), .d (.sl 2 (x.vals.map ziD))]), (7, .box [.d (.raw nilV), .d (.raw nilV)]), (8, .box ([.d (.raw (.int .i64 c.proc)), .d (.raw (.int .i64 c.from_)), .d (.raw (.int .i64 c.to_)), .d (.raw (.int .i64 c.guard.kind)), .d (.sl 3 (c.guard.r.t.parts.map Part.d))] ++ zi c.guard.r.t.k ++ [.d (.raw (.bool c.guard.r.eq)), .d (.sl 6 (c.guard.kids.map FormD.d)), .d (.sl 5 (c.moves.map MoveD.d))])), (9, .box ([.d (.sl 1 (z_.map intD)), .d (.sl 2 (((List.range j).map (newV x c picks) ++ (x.vals.map clZ).drop j).map ziD))]))]) (show ((x.locs.set k c.to_) : List Int) = (outS s x c picks).locs from (by show _ = x.locs.set c.proc.toNat c.to_; rw [show c.proc.toNat = k by omega])))
     replace h := h.conv (f' := F.of [(3, .t (.c (.d (.sl 2 ((picks.drop (cntFree c j)).map ziD))))), (4, vp 5 0), (5, vp 6 0), (8, vp 7 0), (9, vb false), (10, vp 8 0), (12, vp 9 0), (52, vi .i64 (s.vars.length : Int)), (53, vi .i64 (j : Int)), (54, vb (decide ((j : Int) < (s.vars.length : Int))))] [(5, .box (sysC s)), (6, .box [.d (.sl 1 (x.locs.map intD)), .d (.sl 2 (x.vals.map ziD))]), (7, .box [.d (.raw nilV), .d (.raw nilV)]), (8, .box ([.d (.raw (.int .i64 c.proc)), .d (.raw (.int .i64 c.from_)), .d (.raw (.int .i64 c.to_)), .d (.raw (.int .i64 c.guard.kind)), .d (.sl 3 (c.guard.r.t.parts.map Part.d))] ++ zi c.guard.r.t.k ++ [.d (.raw (.bool c.guard.r.eq)), .d (.sl 6 (c.guard.kids.map FormD.d)), .d (.sl 5 (c.moves.map MoveD.d))])), (9, .box [.d (.sl 1 ((outS s x c picks).locs.map intD)), .d (.sl 2 ((outS s x c picks).vals.map ziD))])]) (congrArg (fun (z_ : List ZI) => F.of [(3, .t (.c (.d (.sl 2 ((picks.drop (cntFree c j)).map ziD))))), (4, vp 5 0), (5, vp 6 0), (8, vp 7 0), (9, vb false), (10, vp 8 0), (12, vp 9 0), (52, vi .i64 (s.vars.length : Int)), (53, vi .i64 (j : Int)), (54, vb (decide ((j : Int) < (s.vars.length : Int))))] [(5, .box (sysC s)), (6, .box [.d (.sl 1 (x.locs.map intD)), .d (.sl 2 (x.vals.map ziD))]), (7, .box [.d (.raw nilV), .d (.raw nilV)]), (8, .box ([.d (.raw (.int .i64 c.proc)), .d (.raw (.int .i64 c.from_)), .d (.raw (.int .i64 c.to_)), .d (.raw (.int .i64 c.guard.kind)), .d (.sl 3 (c.guard.r.t.parts.map Part.d))] ++ zi c.guard.r.t.k ++ [.d (.raw (.bool c.guard.r.eq)), .d (.sl 6 (c.guard.kids.map FormD.d)), .d (.sl 5 (c.moves.map MoveD.d))])), (9, .box [.d (.sl 1 ((outS s x c picks).locs.map intD)), .d (.sl 2 (z_.map ziD))])]) (show (((List.range j).map (newV x c picks) ++ (x.vals.map clZ).drop j) : List ZI) = (outS s x c picks).vals from (by rw [show j = s.vars.length by omega, range_end (by rw [List.length_map]; omega)]; rfl)))
     refine rSeq fam0ok 11 [(2, .call (SFits s (outS s x c picks) (L := L) (M := L + M + 2) (by omega) hs (outS_ok hs hx hc hp)) kg_9)] [(8, vp 7 0), (9, vb false), (12, vp 9 0), (89, vb (!(fits s (outS s x c picks))))] [(7, .box [.d (.raw nilV), .d (.raw nilV)]), (9, .box [.d (.sl 1 ((outS s x c picks).locs.map intD)), .d (.sl 2 ((outS s x c picks).vals.map ziD))])] (by kernel_rfl) h ?_; clear h; intro a w h
     refine condS (!(fits s (outS s x c picks))) h rfl (fun hc => ?_) (fun hc => ?_)
     ·have hc9 := hc; clear hc
      have hc9' := hc9; (try simp at hc9')
      refine rSeq fam0ok 11 [] [(8, vp 7 0), (9, vb false), (12, vp 9 0)] [(7, .box [.d (.raw nilV), .d (.raw nilV)]), (9, .box [.d (.sl 1 ((outS s x c picks).locs.map intD)), .d (.sl 2 ((outS s x c picks).vals.map ziD))])] (by kernel_rfl) h ?_; clear h; intro a w h
      refine wp_ret ?_
      refine then_r ?_
      replace h := nilDLs 7 0 1 [.d (.raw nilV), .d (.raw nilV)] [(8, vp 7 0), (9, vb false), (12, vp 9 0)] [(7, .box [.d (.sl 1 ([].map intD)), .d (.raw nilV)]), (9, .box [.d (.sl 1 ((outS s x c picks).locs.map intD)), .d (.sl 2 ((outS s x c picks).vals.map ziD))])] h rfl rfl (by kernel_rfl) (by kernel_rfl)
      replace h := nilDLs 7 1 2 [.d (.sl 1 ([].map intD)), .d (.raw nilV)] [(8, vp 7 0), (9, vb false), (12, vp 9 0)] [(7, .box [.d (.sl 1 ([].map intD)), .d (.sl 2 ([].map ziD))]), (9, .box [.d (.sl 1 ((outS s x c picks).locs.map intD)), .d (.sl 2 ((outS s x c picks).vals.map ziD))])] h rfl rfl (by kernel_rfl) (by kernel_rfl)
      refine retS [.agg [.d (.sl 1 ([].map intD)), .d (.sl 2 ([].map ziD))], .c (.d (.raw (.bool false)))] h Exit.ret (.inl rfl)  rfl ⟨RV.agg _ 7 0 _ _ _ _ kk_5 rfl rfl rfl rfl, RV.tmp _ _ rfl, trivial⟩ ?_ (by kernel_rfl) (by kernel_rfl)
      have hz : goC s x c picks = (st0, false) := by unfold goC; rw [if_neg (fun h => by have := h.2; rw [(show (fits s (outS s x c picks)) = false from by simpa using hc9)] at this; cases this)]
      rw [hz]; first | done | rfl
     ·have hc10 := hc; clear hc
      have hc10' := hc10; (try simp at hc10')
      refine wp_skip ?_
      refine then_n ?_
      refine rSeq fam0ok 11 [] [(8, vp 7 0), (9, vb true)] [(7, .box [.d (.sl 1 ((outS s x c picks).locs.map intD)), .d (.sl 2 ((outS s x c picks).vals.map ziD))])] (by kernel_rfl) h ?_; clear h; intro a w h
      refine wp_ret ?_
      refine retS [.agg [.d (.sl 1 ((outS s x c picks).locs.map intD)), .d (.sl 2 ((outS s x c picks).vals.map ziD))], .c (.d (.raw (.bool true)))] h Exit.ret (.inl rfl)  rfl ⟨RV.agg _ 7 0 _ _ _ _ kk_5 rfl rfl rfl rfl, RV.tmp _ _ rfl, trivial⟩ ?_ (by kernel_rfl) (by kernel_rfl)
      have hz : goC s x c picks = (outS s x c picks, true) := by unfold goC; rw [if_pos ⟨(show (enabled s x c) = true from by simpa using hc2), (show (fits s (outS s x c picks)) = true from by simpa using hc10)⟩]
      rw [hz]; first | done | rfl
end Go.Proofs.YtmohlifepfjmdaaGreat.S
end
section
namespace Go.Proofs.YtmohlifepfjmdaaGreat.S
open Go.RowKit

theorem km_1 : Bodied Tryz.prog 21 := Bodied.mk' (by kernel_rfl)
theorem km_9 : Bodied Tryz.prog 8 := Bodied.mk' (by kernel_rfl)
def picksOf (y : StD) (c : ActD) : Nat → List ZI
  | 0 => []
  | v + 1 => if freeAt c v = true then picksOf y c v ++ [(y.vals[v]?).getD zero0] else picksOf y c v
def leadsC (s : SysD) (x : StD) (c : ActD) (y : StD) : Bool := (enabled s x c && fits s y) && ((goC s x c (picksOf y c s.vars.length)).2 && sameS y (goC s x c (picksOf y c s.vars.length)).1)
def leads (s : SysD) (x : StD) (i : Int) (y : StD) : Bool := if i = -1 then stuck s x && sameS x y else match actAt s i with | none => false | some c => leadsC s x c y
theorem picks_ok {M : Nat} {y : StD} (hy : StOk M y) (c : ActD) : ∀ n, ∀ z ∈ picksOf y c n, ZOk M z
 | 0, z, hz => by cases hz
 | n + 1, z, hz => by
  rw [picksOf] at hz
  split at hz
  ·rcases List.mem_append.1 hz with h | h
   ·exact picks_ok hy c n z h
   ·rw [List.mem_singleton.1 h]
    cases hv : y.vals[n]? with
    | none => exact ZOk.zero
    | some q => exact hy.val q (List.mem_of_getElem? hv)
  ·exact picks_ok hy c n z hz
theorem st0_ok {M : Nat} : StOk M st0 := ⟨Nat.zero_le _, Nat.zero_le _, fun z hz => (by cases hz)⟩
theorem goC_ok {L M : Nat} {s : SysD} {x : StD} {c : ActD} {picks : List ZI} (hs : SysOk L s) (hx : StOk M x) (hc : ActOk L c) (hp : ∀ z ∈ picks, ZOk M z) : StOk (L + M + 2) (goC s x c picks).1 := by
 unfold goC; split
 ·exact outS_ok hs hx hc hp
 ·exact st0_ok
theorem picks_free {y : StD} {c : ActD} {v : Nat} {q : ZI} (h : freeAt c v = true) (hq : y.vals[v]? = some q) : picksOf y c v ++ [q] = picksOf y c (v + 1) := by rw [picksOf, if_pos h, hq]; rfl
theorem picks_kept {y : StD} {c : ActD} {v : Nat} (h : freeAt c v = false) : picksOf y c v = picksOf y c (v + 1) := by rw [picksOf, if_neg (by rw [h]; exact Bool.noConfusion)]
set_option maxHeartbeats 4000000 in
theorem SLeads1 (s : SysD) (x y : StD) {L M : Nat} (hL : L + M ≤ 4000) (hs : SysOk L s) (hx : StOk M x) (hy : StOk M y) : Fn Tryz.prog 11 [] [.t (.agg (sysC s)), .t (.agg [.d (.sl 1 (x.locs.map intD)), .d (.sl 2 (x.vals.map ziD))]), vi .i64 (-1), .t (.agg [.d (.sl 1 (y.locs.map intD)), .d (.sl 2 (y.vals.map ziD))])] (vb (stuck s x && sameS x y)) [] := by
 refine Fn.body Tryz.func11 rfl 84 rfl fun w H B a h => ?_
 refine rSeq fam0ok 0 [] [(2, vi .i64 (-1)), (4, vp 0 0), (5, vp 1 0), (7, vp 2 0), (8, vb false)] [(0, .box (sysC s)), (1, .box [.d (.sl 1 (x.locs.map intD)), .d (.sl 2 (x.vals.map ziD))]), (2, .box [.d (.sl 1 (y.locs.map intD)), .d (.sl 2 (y.vals.map ziD))])] (by kernel_rfl) h ?_; clear h; intro a w h
 refine wp_seq ?_
 refine rSeq fam0ok 3 [(1, .cmp (op := .eql) (m := (-1)) (n := (-1)) (b := true) .i64 rfl)] [(2, vi .i64 (-1)), (4, vp 0 0), (5, vp 1 0), (7, vp 2 0), (8, vb false), (17, vb true)] [(0, .box (sysC s)), (1, .box [.d (.sl 1 (x.locs.map intD)), .d (.sl 2 (x.vals.map ziD))]), (2, .box [.d (.sl 1 (y.locs.map intD)), .d (.sl 2 (y.vals.map ziD))])] (by kernel_rfl) h ?_; clear h; intro a w h
 refine condS true h rfl (fun hc => ?_) (fun hc => ?_)
 ·clear hc
  rcases Bool.eq_false_or_eq_true (stuck s x) with hc | hc
  ·have hc1 := hc; clear hc
   refine rSeq fam0ok 3 [(2, .call (Fn.cast (SStuck s x hL hs hx) (congrArg vb hc1)) kl_0), (6, .call (SSame x y (M := M) (by omega) hx hy) km_1)] [(2, vi .i64 (-1)), (4, vp 0 0), (5, vp 1 0), (7, vp 2 0), (8, vb (sameS x y))] [(0, .box (sysC s)), (1, .box [.d (.sl 1 (x.locs.map intD)), .d (.sl 2 (x.vals.map ziD))]), (2, .box [.d (.sl 1 (y.locs.map intD)), .d (.sl 2 (y.vals.map ziD))])] (by kernel_rfl) h ?_; clear h; intro a w h
   refine wp_ret ?_
   refine then_r ?_
   refine retS [.c (.d (.raw (.bool (sameS x y))))] h Exit.ret (.inl rfl)  rfl ⟨RV.tmp _ _ rfl, trivial⟩ ?_ (by kernel_rfl) (by kernel_rfl)
   rw [hc1]; first | done | rfl
  ·have hc2 := hc; clear hc
   refine rSeq fam0ok 3 [(2, .call (Fn.cast (SStuck s x hL hs hx) (congrArg vb hc2)) kl_0)] [(2, vi .i64 (-1)), (4, vp 0 0), (5, vp 1 0), (7, vp 2 0), (8, vb false)] [(0, .box (sysC s)), (1, .box [.d (.sl 1 (x.locs.map intD)), .d (.sl 2 (x.vals.map ziD))]), (2, .box [.d (.sl 1 (y.locs.map intD)), .d (.sl 2 (y.vals.map ziD))])] (by kernel_rfl) h ?_; clear h; intro a w h
   refine wp_ret ?_
   refine then_r ?_
   refine retS [.c (.d (.raw (.bool false)))] h Exit.ret (.inl rfl)  rfl ⟨RV.tmp _ _ rfl, trivial⟩ ?_ (by kernel_rfl) (by kernel_rfl)
   rw [hc2]; first | done | rfl
 ·cases hc
set_option maxHeartbeats 4000000 in
theorem SLeads2 (s : SysD) (x : StD) (i : Int) (y : StD) {L M : Nat} (_hL : L + M ≤ 4000) (_hs : SysOk L s) (_hx : StOk M x) (_hy : StOk M y) (hi : actAt s i = none) (hn : i ≠ -1) : Fn Tryz.prog 11 [] [.t (.agg (sysC s)), .t (.agg [.d (.sl 1 (x.locs.map intD)), .d (.sl 2 (x.vals.map ziD))]), vi .i64 i, .t (.agg [.d (.sl 1 (y.locs.map intD)), .d (.sl 2 (y.vals.map ziD))])] (vb false) [] := by
 refine Fn.body Tryz.func11 rfl 84 rfl fun w H B a h => ?_
 refine rSeq fam0ok 0 [] [(2, vi .i64 i), (4, vp 0 0), (5, vp 1 0), (7, vp 2 0), (8, vb false)] [(0, .box (sysC s)), (1, .box [.d (.sl 1 (x.locs.map intD)), .d (.sl 2 (x.vals.map ziD))]), (2, .box [.d (.sl 1 (y.locs.map intD)), .d (.sl 2 (y.vals.map ziD))])] (by kernel_rfl) h ?_; clear h; intro a w h
 refine wp_seq ?_
 refine rSeq fam0ok 3 [(1, .cmp (op := .eql) (m := i) (n := (-1)) (b := false) .i64 (beq_eq_false_iff_ne.2 hn))] [(2, vi .i64 i), (4, vp 0 0), (5, vp 1 0), (7, vp 2 0), (8, vb false), (17, vb false)] [(0, .box (sysC s)), (1, .box [.d (.sl 1 (x.locs.map intD)), .d (.sl 2 (x.vals.map ziD))]), (2, .box [.d (.sl 1 (y.locs.map intD)), .d (.sl 2 (y.vals.map ziD))])] (by kernel_rfl) h ?_; clear h; intro a w h
 refine condS false h rfl (fun hc => ?_) (fun hc => ?_)
 ·cases hc
 ·clear hc
  refine wp_skip ?_
  refine then_n ?_
  refine rSeq fam0ok 3 [(2, .call (SactN s i hi) kk_6)] [(2, vi .i64 i), (4, vp 0 0), (5, vp 1 0), (7, vp 2 0), (8, vb false), (9, vp 3 0), (10, vb false)] [(0, .box (sysC s)), (1, .box [.d (.sl 1 (x.locs.map intD)), .d (.sl 2 (x.vals.map ziD))]), (2, .box [.d (.sl 1 (y.locs.map intD)), .d (.sl 2 (y.vals.map ziD))]), (3, .box ([.d (.raw (.int .i64 act0.proc)), .d (.raw (.int .i64 act0.from_)), .d (.raw (.int .i64 act0.to_)), .d (.raw (.int .i64 act0.guard.kind)), .d (.sl 3 (act0.guard.r.t.parts.map Part.d))] ++ zi act0.guard.r.t.k ++ [.d (.raw (.bool act0.guard.r.eq)), .d (.sl 6 (act0.guard.kids.map FormD.d)), .d (.sl 5 (act0.moves.map MoveD.d))]))] (by kernel_rfl) h ?_; clear h; intro a w h
  refine wp_seq ?_
  refine rSeq fam0ok 4 [] [(2, vi .i64 i), (4, vp 0 0), (5, vp 1 0), (7, vp 2 0), (8, vb false), (9, vp 3 0), (10, vb false), (46, vb true)] [(0, .box (sysC s)), (1, .box [.d (.sl 1 (x.locs.map intD)), .d (.sl 2 (x.vals.map ziD))]), (2, .box [.d (.sl 1 (y.locs.map intD)), .d (.sl 2 (y.vals.map ziD))]), (3, .box ([.d (.raw (.int .i64 act0.proc)), .d (.raw (.int .i64 act0.from_)), .d (.raw (.int .i64 act0.to_)), .d (.raw (.int .i64 act0.guard.kind)), .d (.sl 3 (act0.guard.r.t.parts.map Part.d))] ++ zi act0.guard.r.t.k ++ [.d (.raw (.bool act0.guard.r.eq)), .d (.sl 6 (act0.guard.kids.map FormD.d)), .d (.sl 5 (act0.moves.map MoveD.d))]))] (by kernel_rfl) h ?_; clear h; intro a w h
  refine condS true h rfl (fun hc => ?_) (fun hc => ?_)
  ·clear hc
   refine rSeq fam0ok 4 [] [(2, vi .i64 i), (4, vp 0 0), (5, vp 1 0), (7, vp 2 0), (8, vb false), (9, vp 3 0), (10, vb false)] [(0, .box (sysC s)), (1, .box [.d (.sl 1 (x.locs.map intD)), .d (.sl 2 (x.vals.map ziD))]), (2, .box [.d (.sl 1 (y.locs.map intD)), .d (.sl 2 (y.vals.map ziD))]), (3, .box ([.d (.raw (.int .i64 act0.proc)), .d (.raw (.int .i64 act0.from_)), .d (.raw (.int .i64 act0.to_)), .d (.raw (.int .i64 act0.guard.kind)), .d (.sl 3 (act0.guard.r.t.parts.map Part.d))] ++ zi act0.guard.r.t.k ++ [.d (.raw (.bool act0.guard.r.eq)), .d (.sl 6 (act0.guard.kids.map FormD.d)), .d (.sl 5 (act0.moves.map MoveD.d))]))] (by kernel_rfl) h ?_; clear h; intro a w h
   refine wp_ret ?_
   refine then_r ?_
   refine retS [.c (.d (.raw (.bool false)))] h Exit.ret (.inl rfl)  rfl ⟨RV.tmp _ _ rfl, trivial⟩ ?_ (by kernel_rfl) (by kernel_rfl)
   rfl
  ·cases hc
set_option maxHeartbeats 4000000 in
theorem SLeads3 (s : SysD) (x : StD) (i : Int) (y : StD) (c : ActD) {L M : Nat} (hL : L + M ≤ 4000) (hs : SysOk L s) (hx : StOk M x) (hy : StOk M y) (hi : actAt s i = some c) : Fn Tryz.prog 11 [] [.t (.agg (sysC s)), .t (.agg [.d (.sl 1 (x.locs.map intD)), .d (.sl 2 (x.vals.map ziD))]), vi .i64 i, .t (.agg [.d (.sl 1 (y.locs.map intD)), .d (.sl 2 (y.vals.map ziD))])] (vb (leadsC s x c y)) [] := by
 have lx1 := hx.locs
 have lx2 := hx.vals
 have ls1 := hs.vars
 have ls2 := hs.procs
 have hc : ActOk L c := act_ok hs hi
 refine Fn.body Tryz.func11 rfl 84 rfl fun w H B a h => ?_
 refine rSeq fam0ok 5 [] [(2, vi .i64 i), (4, vp 5 0), (5, vp 6 0), (7, vp 7 0), (8, vb false)] [(5, .box (sysC s)), (6, .box [.d (.sl 1 (x.locs.map intD)), .d (.sl 2 (x.vals.map ziD))]), (7, .box [.d (.sl 1 (y.locs.map intD)), .d (.sl 2 (y.vals.map ziD))])] (by kernel_rfl) h ?_; clear h; intro a w h
 refine wp_seq ?_
 refine rSeq fam0ok 8 [(1, .cmp (op := .eql) (m := i) (n := (-1)) (b := false) .i64 (by obtain ⟨k, rfl, _⟩ := actAt_some hi; exact beq_eq_false_iff_ne.2 (by omega)))] [(2, vi .i64 i), (4, vp 5 0), (5, vp 6 0), (7, vp 7 0), (8, vb false), (17, vb false)] [(5, .box (sysC s)), (6, .box [.d (.sl 1 (x.locs.map intD)), .d (.sl 2 (x.vals.map ziD))]), (7, .box [.d (.sl 1 (y.locs.map intD)), .d (.sl 2 (y.vals.map ziD))])] (by kernel_rfl) h ?_; clear h; intro a w h
 refine condS false h rfl (fun hc => ?_) (fun hc => ?_)
 ·cases hc
 ·clear hc
  refine wp_skip ?_
  refine then_n ?_
  refine rSeq fam0ok 8 [(2, .call (SactS s i c hi) kk_6)] [(2, vi .i64 i), (4, vp 5 0), (5, vp 6 0), (7, vp 7 0), (8, vb false), (9, vp 8 0), (10, vb true)] [(5, .box (sysC s)), (6, .box [.d (.sl 1 (x.locs.map intD)), .d (.sl 2 (x.vals.map ziD))]), (7, .box [.d (.sl 1 (y.locs.map intD)), .d (.sl 2 (y.vals.map ziD))]), (8, .box ([.d (.raw (.int .i64 c.proc)), .d (.raw (.int .i64 c.from_)), .d (.raw (.int .i64 c.to_)), .d (.raw (.int .i64 c.guard.kind)), .d (.sl 3 (c.guard.r.t.parts.map Part.d))] ++ zi c.guard.r.t.k ++ [.d (.raw (.bool c.guard.r.eq)), .d (.sl 6 (c.guard.kids.map FormD.d)), .d (.sl 5 (c.moves.map MoveD.d))]))] (by kernel_rfl) h ?_; clear h; intro a w h
  refine wp_seq ?_
  rcases Bool.eq_false_or_eq_true (enabled s x c) with hc | hc
  ·have hc1 := hc; clear hc
   refine rSeq fam0ok 9 [(6, .call (Fn.cast (Senabled s x c (L := L) (M := M) (by omega) hs hx hc) (congrArg vb hc1)) kk_7), (12, .call (SFits s y (L := L) (M := M) (by omega) hs hy) kg_9)] [(2, vi .i64 i), (4, vp 5 0), (5, vp 6 0), (7, vp 7 0), (8, vb false), (9, vp 8 0), (10, vb true), (46, vb (!(fits s y)))] [(5, .box (sysC s)), (6, .box [.d (.sl 1 (x.locs.map intD)), .d (.sl 2 (x.vals.map ziD))]), (7, .box [.d (.sl 1 (y.locs.map intD)), .d (.sl 2 (y.vals.map ziD))]), (8, .box ([.d (.raw (.int .i64 c.proc)), .d (.raw (.int .i64 c.from_)), .d (.raw (.int .i64 c.to_)), .d (.raw (.int .i64 c.guard.kind)), .d (.sl 3 (c.guard.r.t.parts.map Part.d))] ++ zi c.guard.r.t.k ++ [.d (.raw (.bool c.guard.r.eq)), .d (.sl 6 (c.guard.kids.map FormD.d)), .d (.sl 5 (c.moves.map MoveD.d))]))] (by kernel_rfl) h ?_; clear h; intro a w h
   refine condS (!(fits s y)) h rfl (fun hc => ?_) (fun hc => ?_)
   ·have hc2 := hc; clear hc
    have hc2' := hc2; (try simp at hc2')
    refine rSeq fam0ok 9 [] [(2, vi .i64 i), (4, vp 5 0), (5, vp 6 0), (7, vp 7 0), (8, vb false), (9, vp 8 0), (10, vb true)] [(5, .box (sysC s)), (6, .box [.d (.sl 1 (x.locs.map intD)), .d (.sl 2 (x.vals.map ziD))]), (7, .box [.d (.sl 1 (y.locs.map intD)), .d (.sl 2 (y.vals.map ziD))]), (8, .box ([.d (.raw (.int .i64 c.proc)), .d (.raw (.int .i64 c.from_)), .d (.raw (.int .i64 c.to_)), .d (.raw (.int .i64 c.guard.kind)), .d (.sl 3 (c.guard.r.t.parts.map Part.d))] ++ zi c.guard.r.t.k ++ [.d (.raw (.bool c.guard.r.eq)), .d (.sl 6 (c.guard.kids.map FormD.d)), .d (.sl 5 (c.moves.map MoveD.d))]))] (by kernel_rfl) h ?_; clear h; intro a w h
    refine wp_ret ?_
    refine then_r ?_
    refine retS [.c (.d (.raw (.bool false)))] h Exit.ret (.inl rfl)  rfl ⟨RV.tmp _ _ rfl, trivial⟩ ?_ (by kernel_rfl) (by kernel_rfl)
    have hz : leadsC s x c y = (false) := by unfold leadsC; rw [hc1, (show (fits s y) = false from by simpa using hc2)]; rfl
    rw [hz]; first | done | rfl
   ·have hc3 := hc; clear hc
    have hc3' := hc3; (try simp at hc3')
    refine wp_skip ?_
    refine then_n ?_
    have hen := hc1
    have hfl := fits_len (enabled_fits hen)
    have hfy := fits_len (show (fits s y) = true from by simpa using hc3)
    refine rSeq fam0ok 9 [] [(2, vi .i64 i), (4, vp 5 0), (5, vp 6 0), (7, vp 7 0), (8, vb false), (9, vp 8 0), (10, vb true), (11, .t (.c (.d (.raw nilV))))] [(5, .box (sysC s)), (6, .box [.d (.sl 1 (x.locs.map intD)), .d (.sl 2 (x.vals.map ziD))]), (7, .box [.d (.sl 1 (y.locs.map intD)), .d (.sl 2 (y.vals.map ziD))]), (8, .box ([.d (.raw (.int .i64 c.proc)), .d (.raw (.int .i64 c.from_)), .d (.raw (.int .i64 c.to_)), .d (.raw (.int .i64 c.guard.kind)), .d (.sl 3 (c.guard.r.t.parts.map Part.d))] ++ zi c.guard.r.t.k ++ [.d (.raw (.bool c.guard.r.eq)), .d (.sl 6 (c.guard.kids.map FormD.d)), .d (.sl 5 (c.moves.map MoveD.d))]))] (by kernel_rfl) h ?_; clear h; intro a w h
    refine wp_seq ?_
    replace h := nilOSs 11 0 9 2 28 (.t (.c (.d (.raw nilV)))) [(2, vi .i64 i), (4, vp 5 0), (5, vp 6 0), (7, vp 7 0), (8, vb false), (9, vp 8 0), (10, vb true), (11, .t (.c (.own 9 0)))] [(5, .box (sysC s)), (6, .box [.d (.sl 1 (x.locs.map intD)), .d (.sl 2 (x.vals.map ziD))]), (7, .box [.d (.sl 1 (y.locs.map intD)), .d (.sl 2 (y.vals.map ziD))]), (8, .box ([.d (.raw (.int .i64 c.proc)), .d (.raw (.int .i64 c.from_)), .d (.raw (.int .i64 c.to_)), .d (.raw (.int .i64 c.guard.kind)), .d (.sl 3 (c.guard.r.t.parts.map Part.d))] ++ zi c.guard.r.t.k ++ [.d (.raw (.bool c.guard.r.eq)), .d (.sl 6 (c.guard.kids.map FormD.d)), .d (.sl 5 (c.moves.map MoveD.d))])), (9, .row 28 2 ([].map ziD))] h (by kernel_rfl) rfl rfl (by kernel_rfl) (by kernel_rfl)
    refine rSeq fam0ok 10 [(2, .len (c := (.d (.sl 1 (s.vars.map strD)))) (n := s.vars.length) (lenC_map _ _ _))] [(2, vi .i64 i), (4, vp 5 0), (5, vp 6 0), (7, vp 7 0), (8, vb false), (9, vp 8 0), (10, vb true), (11, .t (.c (.own 9 0))), (49, vi .i64 (s.vars.length : Int)), (50, vi .i64 0)] [(5, .box (sysC s)), (6, .box [.d (.sl 1 (x.locs.map intD)), .d (.sl 2 (x.vals.map ziD))]), (7, .box [.d (.sl 1 (y.locs.map intD)), .d (.sl 2 (y.vals.map ziD))]), (8, .box ([.d (.raw (.int .i64 c.proc)), .d (.raw (.int .i64 c.from_)), .d (.raw (.int .i64 c.to_)), .d (.raw (.int .i64 c.guard.kind)), .d (.sl 3 (c.guard.r.t.parts.map Part.d))] ++ zi c.guard.r.t.k ++ [.d (.raw (.bool c.guard.r.eq)), .d (.sl 6 (c.guard.kids.map FormD.d)), .d (.sl 5 (c.moves.map MoveD.d))])), (9, .row 28 2 ([].map ziD))] (by kernel_rfl) h ?_; clear h; intro a w h
    refine wp_block ?_
    refine loopS (ι := (Nat)) (fun (z_ : (Nat)) => match z_ with | j => j ≤ s.vars.length ∧ (picksOf y c j).length ≤ j)
      (fun (z_ : (Nat)) => match z_ with | j => [(2, vi .i64 i), (4, vp 5 0), (5, vp 6 0), (7, vp 7 0), (8, vb false), (9, vp 8 0), (10, vb true), (11, .t (.c (.own 9 (picksOf y c j).length))), (49, vi .i64 (s.vars.length : Int)), (50, vi .i64 (j : Int))])
      (fun (z_ : (Nat)) => match z_ with | j => [(5, .box (sysC s)), (6, .box [.d (.sl 1 (x.locs.map intD)), .d (.sl 2 (x.vals.map ziD))]), (7, .box [.d (.sl 1 (y.locs.map intD)), .d (.sl 2 (y.vals.map ziD))]), (8, .box ([.d (.raw (.int .i64 c.proc)), .d (.raw (.int .i64 c.from_)), .d (.raw (.int .i64 c.to_)), .d (.raw (.int .i64 c.guard.kind)), .d (.sl 3 (c.guard.r.t.parts.map Part.d))] ++ zi c.guard.r.t.k ++ [.d (.raw (.bool c.guard.r.eq)), .d (.sl 6 (c.guard.kids.map FormD.d)), .d (.sl 5 (c.moves.map MoveD.d))])), (9, .row 28 2 ((picksOf y c j).map ziD))])
      (fun (z_ : (Nat)) => match z_ with | j => s.vars.length - j) 0 ?_ h (by kernel_rfl) (by kernel_rfl) ?_
    ·exact ⟨Nat.zero_le _, Nat.le_refl _⟩
    ·clear h; rintro j a w hI h
     change St _ (F.of [(2, vi .i64 i), (4, vp 5 0), (5, vp 6 0), (7, vp 7 0), (8, vb false), (9, vp 8 0), (10, vb true), (11, .t (.c (.own 9 (picksOf y c j).length))), (49, vi .i64 (s.vars.length : Int)), (50, vi .i64 (j : Int))] [(5, .box (sysC s)), (6, .box [.d (.sl 1 (x.locs.map intD)), .d (.sl 2 (x.vals.map ziD))]), (7, .box [.d (.sl 1 (y.locs.map intD)), .d (.sl 2 (y.vals.map ziD))]), (8, .box ([.d (.raw (.int .i64 c.proc)), .d (.raw (.int .i64 c.from_)), .d (.raw (.int .i64 c.to_)), .d (.raw (.int .i64 c.guard.kind)), .d (.sl 3 (c.guard.r.t.parts.map Part.d))] ++ zi c.guard.r.t.k ++ [.d (.raw (.bool c.guard.r.eq)), .d (.sl 6 (c.guard.kids.map FormD.d)), .d (.sl 5 (c.moves.map MoveD.d))])), (9, .row 28 2 ((picksOf y c j).map ziD))]) a w at h
     obtain ⟨hI1, hI2⟩ := hI
     refine rSeq fam0ok 10 [] [(2, vi .i64 i), (4, vp 5 0), (5, vp 6 0), (7, vp 7 0), (8, vb false), (9, vp 8 0), (10, vb true), (11, .t (.c (.own 9 (picksOf y c j).length))), (49, vi .i64 (s.vars.length : Int)), (50, vi .i64 (j : Int)), (51, vb (decide ((j : Int) < (s.vars.length : Int))))] [(5, .box (sysC s)), (6, .box [.d (.sl 1 (x.locs.map intD)), .d (.sl 2 (x.vals.map ziD))]), (7, .box [.d (.sl 1 (y.locs.map intD)), .d (.sl 2 (y.vals.map ziD))]), (8, .box ([.d (.raw (.int .i64 c.proc)), .d (.raw (.int .i64 c.from_)), .d (.raw (.int .i64 c.to_)), .d (.raw (.int .i64 c.guard.kind)), .d (.sl 3 (c.guard.r.t.parts.map Part.d))] ++ zi c.guard.r.t.k ++ [.d (.raw (.bool c.guard.r.eq)), .d (.sl 6 (c.guard.kids.map FormD.d)), .d (.sl 5 (c.moves.map MoveD.d))])), (9, .row 28 2 ((picksOf y c j).map ziD))] (by kernel_rfl) h ?_; clear h; intro a w h
     refine wp_seq ?_
     refine condS (decide ((j : Int) < (s.vars.length : Int))) h rfl (fun hc => ?_) (fun hc => ?_)
     ·have hc4 := hc; clear hc
      have hc4' := of_decide_eq_true hc4
      refine wp_skip ?_
      refine then_n ?_
      refine wp_seq ?_
      refine wp_block ?_
      refine rSeq fam0ok 10 [] [(2, vi .i64 i), (4, vp 5 0), (5, vp 6 0), (7, vp 7 0), (8, vb false), (9, vp 8 0), (10, vb true), (11, .t (.c (.own 9 (picksOf y c j).length))), (12, vi .i64 (j : Int)), (49, vi .i64 (s.vars.length : Int)), (50, vi .i64 (j : Int))] [(5, .box (sysC s)), (6, .box [.d (.sl 1 (x.locs.map intD)), .d (.sl 2 (x.vals.map ziD))]), (7, .box [.d (.sl 1 (y.locs.map intD)), .d (.sl 2 (y.vals.map ziD))]), (8, .box ([.d (.raw (.int .i64 c.proc)), .d (.raw (.int .i64 c.from_)), .d (.raw (.int .i64 c.to_)), .d (.raw (.int .i64 c.guard.kind)), .d (.sl 3 (c.guard.r.t.parts.map Part.d))] ++ zi c.guard.r.t.k ++ [.d (.raw (.bool c.guard.r.eq)), .d (.sl 6 (c.guard.kids.map FormD.d)), .d (.sl 5 (c.moves.map MoveD.d))])), (9, .row 28 2 ((picksOf y c j).map ziD))] (by kernel_rfl) h ?_; clear h; intro a w h
      have gn := new_ok hc hx j
      have lgn := gn.2
      refine rSeq fam0ok 10 [(3, .call (Safter x c j (L := L) (M := M) (by omega) hc hx (by have := fits_len (enabled_fits hen); omega)) kk_8)] [(2, vi .i64 i), (4, vp 5 0), (5, vp 6 0), (7, vp 7 0), (8, vb false), (9, vp 8 0), (10, vb true), (11, .t (.c (.own 9 (picksOf y c j).length))), (12, vi .i64 (j : Int)), (14, vb (freeAt c j)), (49, vi .i64 (s.vars.length : Int)), (50, vi .i64 (j : Int))] [(5, .box (sysC s)), (6, .box [.d (.sl 1 (x.locs.map intD)), .d (.sl 2 (x.vals.map ziD))]), (7, .box [.d (.sl 1 (y.locs.map intD)), .d (.sl 2 (y.vals.map ziD))]), (8, .box ([.d (.raw (.int .i64 c.proc)), .d (.raw (.int .i64 c.from_)), .d (.raw (.int .i64 c.to_)), .d (.raw (.int .i64 c.guard.kind)), .d (.sl 3 (c.guard.r.t.parts.map Part.d))] ++ zi c.guard.r.t.k ++ [.d (.raw (.bool c.guard.r.eq)), .d (.sl 6 (c.guard.kids.map FormD.d)), .d (.sl 5 (c.moves.map MoveD.d))])), (9, .row 28 2 ((picksOf y c j).map ziD))] (by kernel_rfl) h ?_; clear h; intro a w h
      refine rSeq fam0ok 11 [] [(2, vi .i64 i), (4, vp 5 0), (5, vp 6 0), (7, vp 7 0), (8, vb false), (9, vp 8 0), (10, vb true), (11, .t (.c (.own 9 (picksOf y c j).length))), (12, vi .i64 (j : Int)), (49, vi .i64 (s.vars.length : Int)), (50, vi .i64 (j : Int)), (60, vb (freeAt c j))] [(5, .box (sysC s)), (6, .box [.d (.sl 1 (x.locs.map intD)), .d (.sl 2 (x.vals.map ziD))]), (7, .box [.d (.sl 1 (y.locs.map intD)), .d (.sl 2 (y.vals.map ziD))]), (8, .box ([.d (.raw (.int .i64 c.proc)), .d (.raw (.int .i64 c.from_)), .d (.raw (.int .i64 c.to_)), .d (.raw (.int .i64 c.guard.kind)), .d (.sl 3 (c.guard.r.t.parts.map Part.d))] ++ zi c.guard.r.t.k ++ [.d (.raw (.bool c.guard.r.eq)), .d (.sl 6 (c.guard.kids.map FormD.d)), .d (.sl 5 (c.moves.map MoveD.d))])), (9, .row 28 2 ((picksOf y c j).map ziD))] (by kernel_rfl) h ?_; clear h; intro a w h
      refine condS (freeAt c j) h rfl (fun hc => ?_) (fun hc => ?_)
      ·have hc5 := hc; clear hc
       obtain ⟨x6, hx6⟩ : ∃ z_ : ZI, y.vals[j]? = some z_ := ⟨_, List.getElem?_eq_getElem (by first | omega | (simp at *; omega))⟩
       refine rS fam0ok 11 [(4, .gen _ _ _ fun _ _ _ _ => Op.idxD (d := 65) (t := 63) (k := .i64) tt_6 (map_at hx6 (f := ziD)) (OV.tmp 64 _)), (6, .gen _ _ _ fun _ _ _ _ => Op.buildD (d := 67) (len := 1) (rows := [x6].map ziD) (rs := [(66, vz x6)]) kk_3 (.cons (i := 0) (OV.tmp 66 _) (.nil)) (by kernel_rfl) rfl (by simp [ziD]) (by decide) (by decide)), (7, .gen _ _ _ fun _ _ _ _ => Op.appOD (d := 68) (t := 61) (u := 67) (n := 9) (n' := 11) (len := (picksOf y c j).length) (len' := ((picksOf y c j) ++ [x6]).length) (rows := (picksOf y c j).map ziD) (rows2 := [x6].map ziD) (rows' := ((picksOf y c j) ++ [x6]).map ziD) kk_4 (by first | exact (List.length_map _).symm | simp) (by first | (rw [List.length_append, List.length_map]; done) | simp) (by simp) (by simp [ziD]) (by first | omega | (simp at *; done) | (simp at *; omega)))] [(2, vi .i64 i), (4, vp 5 0), (5, vp 6 0), (7, vp 7 0), (8, vb false), (9, vp 8 0), (10, vb true), (11, .t (.c (.own 11 ((picksOf y c j) ++ [x6]).length))), (49, vi .i64 (s.vars.length : Int)), (50, vi .i64 (j : Int))] [(5, .box (sysC s)), (6, .box [.d (.sl 1 (x.locs.map intD)), .d (.sl 2 (x.vals.map ziD))]), (7, .box [.d (.sl 1 (y.locs.map intD)), .d (.sl 2 (y.vals.map ziD))]), (8, .box ([.d (.raw (.int .i64 c.proc)), .d (.raw (.int .i64 c.from_)), .d (.raw (.int .i64 c.to_)), .d (.raw (.int .i64 c.guard.kind)), .d (.sl 3 (c.guard.r.t.parts.map Part.d))] ++ zi c.guard.r.t.k ++ [.d (.raw (.bool c.guard.r.eq)), .d (.sl 6 (c.guard.kids.map FormD.d)), .d (.sl 5 (c.moves.map MoveD.d))])), (11, .row 28 2 (((picksOf y c j) ++ [x6]).map ziD))] (by kernel_rfl) h ?_; clear h; intro a w h
       refine block_n ?_
       refine then_n ?_
       refine rS fam0ok 12 [(0, .add .i64 (m := (j : Int)) (n := 1) (i64_id (by omega) (by omega)))] [(2, vi .i64 i), (4, vp 5 0), (5, vp 6 0), (7, vp 7 0), (8, vb false), (9, vp 8 0), (10, vb true), (11, .t (.c (.own 11 ((picksOf y c j) ++ [x6]).length))), (49, vi .i64 (s.vars.length : Int)), (50, vi .i64 ((j : Int) + 1))] [(5, .box (sysC s)), (6, .box [.d (.sl 1 (x.locs.map intD)), .d (.sl 2 (x.vals.map ziD))]), (7, .box [.d (.sl 1 (y.locs.map intD)), .d (.sl 2 (y.vals.map ziD))]), (8, .box ([.d (.raw (.int .i64 c.proc)), .d (.raw (.int .i64 c.from_)), .d (.raw (.int .i64 c.to_)), .d (.raw (.int .i64 c.guard.kind)), .d (.sl 3 (c.guard.r.t.parts.map Part.d))] ++ zi c.guard.r.t.k ++ [.d (.raw (.bool c.guard.r.eq)), .d (.sl 6 (c.guard.kids.map FormD.d)), .d (.sl 5 (c.moves.map MoveD.d))])), (11, .row 28 2 (((picksOf y c j) ++ [x6]).map ziD))] (by kernel_rfl) h ?_; clear h; intro a w h
       refine then_n ?_
       replace h := h.conv (f' := F.of [(2, vi .i64 i), (4, vp 5 0), (5, vp 6 0), (7, vp 7 0), (8, vb false), (9, vp 8 0), (10, vb true), (11, .t (.c (.own 11 (picksOf y c (j + 1)).length))), (49, vi .i64 (s.vars.length : Int)), (50, vi .i64 ((j : Int) + 1))] [(5, .box (sysC s)), (6, .box [.d (.sl 1 (x.locs.map intD)), .d (.sl 2 (x.vals.map ziD))]), (7, .box [.d (.sl 1 (y.locs.map intD)), .d (.sl 2 (y.vals.map ziD))]), (8, .box ([.d (.raw (.int .i64 c.proc)), .d (.raw (.int .i64 c.from_)), .d (.raw (.int .i64 c.to_)), .d (.raw (.int .i64 c.guard.kind)), .d (.sl 3 (c.guard.r.t.parts.map Part.d))] ++ zi c.guard.r.t.k ++ [.d (.raw (.bool c.guard.r.eq)), .d (.sl 6 (c.guard.kids.map FormD.d)), .d (.sl 5 (c.moves.map MoveD.d))])), (11, .row 28 2 ((picksOf y c (j + 1)).map ziD))]) (congrArg (fun (z_ : List ZI) => F.of [(2, vi .i64 i), (4, vp 5 0), (5, vp 6 0), (7, vp 7 0), (8, vb false), (9, vp 8 0), (10, vb true), (11, .t (.c (.own 11 z_.length))), (49, vi .i64 (s.vars.length : Int)), (50, vi .i64 ((j : Int) + 1))] [(5, .box (sysC s)), (6, .box [.d (.sl 1 (x.locs.map intD)), .d (.sl 2 (x.vals.map ziD))]), (7, .box [.d (.sl 1 (y.locs.map intD)), .d (.sl 2 (y.vals.map ziD))]), (8, .box ([.d (.raw (.int .i64 c.proc)), .d (.raw (.int .i64 c.from_)), .d (.raw (.int .i64 c.to_)), .d (.raw (.int .i64 c.guard.kind)), .d (.sl 3 (c.guard.r.t.parts.map Part.d))] ++ zi c.guard.r.t.k ++ [.d (.raw (.bool c.guard.r.eq)), .d (.sl 6 (c.guard.kids.map FormD.d)), .d (.sl 5 (c.moves.map MoveD.d))])), (11, .row 28 2 (z_.map ziD))]) (show (((picksOf y c j) ++ [x6]) : List ZI) = (picksOf y c (j + 1)) from (picks_free hc5 hx6)))
       replace h := renS 11 9 [(2, vi .i64 i), (4, vp 5 0), (5, vp 6 0), (7, vp 7 0), (8, vb false), (9, vp 8 0), (10, vb true), (11, .t (.c (.own 9 (picksOf y c (j + 1)).length))), (49, vi .i64 (s.vars.length : Int)), (50, vi .i64 ((j : Int) + 1))] [(5, .box (sysC s)), (6, .box [.d (.sl 1 (x.locs.map intD)), .d (.sl 2 (x.vals.map ziD))]), (7, .box [.d (.sl 1 (y.locs.map intD)), .d (.sl 2 (y.vals.map ziD))]), (8, .box ([.d (.raw (.int .i64 c.proc)), .d (.raw (.int .i64 c.from_)), .d (.raw (.int .i64 c.to_)), .d (.raw (.int .i64 c.guard.kind)), .d (.sl 3 (c.guard.r.t.parts.map Part.d))] ++ zi c.guard.r.t.k ++ [.d (.raw (.bool c.guard.r.eq)), .d (.sl 6 (c.guard.kids.map FormD.d)), .d (.sl 5 (c.moves.map MoveD.d))])), (9, .row 28 2 ((picksOf y c (j + 1)).map ziD))] h (by kernel_rfl) (by kernel_rfl) (by kernel_rfl)
       refine roundS (x := j) (y := j + 1) h ?_ ?_ (by kernel_rfl) (by kernel_rfl)
       ·exact ⟨by omega, by rw [← picks_free hc5 hx6, List.length_append]; show _ + 1 ≤ _; omega⟩
       ·show s.vars.length - (j + 1) < s.vars.length - j
        omega
      ·have hc6 := hc; clear hc
       refine wp_skip ?_
       refine block_n ?_
       refine then_n ?_
       refine rS fam0ok 12 [(0, .add .i64 (m := (j : Int)) (n := 1) (i64_id (by omega) (by omega)))] [(2, vi .i64 i), (4, vp 5 0), (5, vp 6 0), (7, vp 7 0), (8, vb false), (9, vp 8 0), (10, vb true), (11, .t (.c (.own 9 (picksOf y c j).length))), (49, vi .i64 (s.vars.length : Int)), (50, vi .i64 ((j : Int) + 1))] [(5, .box (sysC s)), (6, .box [.d (.sl 1 (x.locs.map intD)), .d (.sl 2 (x.vals.map ziD))]), (7, .box [.d (.sl 1 (y.locs.map intD)), .d (.sl 2 (y.vals.map ziD))]), (8, .box ([.d (.raw (.int .i64 c.proc)), .d (.raw (.int .i64 c.from_)), .d (.raw (.int .i64 c.to_)), .d (.raw (.int .i64 c.guard.kind)), .d (.sl 3 (c.guard.r.t.parts.map Part.d))] ++ zi c.guard.r.t.k ++ [.d (.raw (.bool c.guard.r.eq)), .d (.sl 6 (c.guard.kids.map FormD.d)), .d (.sl 5 (c.moves.map MoveD.d))])), (9, .row 28 2 ((picksOf y c j).map ziD))] (by kernel_rfl) h ?_; clear h; intro a w h
       refine then_n ?_
       replace h := h.conv (f' := F.of [(2, vi .i64 i), (4, vp 5 0), (5, vp 6 0), (7, vp 7 0), (8, vb false), (9, vp 8 0), (10, vb true), (11, .t (.c (.own 9 (picksOf y c (j + 1)).length))), (49, vi .i64 (s.vars.length : Int)), (50, vi .i64 ((j : Int) + 1))] [(5, .box (sysC s)), (6, .box [.d (.sl 1 (x.locs.map intD)), .d (.sl 2 (x.vals.map ziD))]), (7, .box [.d (.sl 1 (y.locs.map intD)), .d (.sl 2 (y.vals.map ziD))]), (8, .box ([.d (.raw (.int .i64 c.proc)), .d (.raw (.int .i64 c.from_)), .d (.raw (.int .i64 c.to_)), .d (.raw (.int .i64 c.guard.kind)), .d (.sl 3 (c.guard.r.t.parts.map Part.d))] ++ zi c.guard.r.t.k ++ [.d (.raw (.bool c.guard.r.eq)), .d (.sl 6 (c.guard.kids.map FormD.d)), .d (.sl 5 (c.moves.map MoveD.d))])), (9, .row 28 2 ((picksOf y c (j + 1)).map ziD))]) (congrArg (fun (z_ : List ZI) => F.of [(2, vi .i64 i), (4, vp 5 0), (5, vp 6 0), (7, vp 7 0), (8, vb false), (9, vp 8 0), (10, vb true), (11, .t (.c (.own 9 z_.length))), (49, vi .i64 (s.vars.length : Int)), (50, vi .i64 ((j : Int) + 1))] [(5, .box (sysC s)), (6, .box [.d (.sl 1 (x.locs.map intD)), .d (.sl 2 (x.vals.map ziD))]), (7, .box [.d (.sl 1 (y.locs.map intD)), .d (.sl 2 (y.vals.map ziD))]), (8, .box ([.d (.raw (.int .i64 c.proc)), .d (.raw (.int .i64 c.from_)), .d (.raw (.int .i64 c.to_)), .d (.raw (.int .i64 c.guard.kind)), .d (.sl 3 (c.guard.r.t.parts.map Part.d))] ++ zi c.guard.r.t.k ++ [.d (.raw (.bool c.guard.r.eq)), .d (.sl 6 (c.guard.kids.map FormD.d)), .d (.sl 5 (c.moves.map MoveD.d))])), (9, .row 28 2 (z_.map ziD))]) (show ((picksOf y c j) : List ZI) = (picksOf y c (j + 1)) from (picks_kept hc6)))
       refine roundS (x := j) (y := j + 1) h ?_ ?_ (by kernel_rfl) (by kernel_rfl)
       ·exact ⟨by omega, by rw [← picks_kept hc6]; omega⟩
       ·show s.vars.length - (j + 1) < s.vars.length - j
        omega
     ·have hc7 := hc; clear hc
      have hc7' := of_decide_eq_false hc7
      refine wp_exit ?_
      refine then_x ?_
      refine then_x ?_
      refine inBlock_exit ?_
      refine then_n ?_
      replace h := h.conv (f' := F.of [(2, vi .i64 i), (4, vp 5 0), (5, vp 6 0), (7, vp 7 0), (8, vb false), (9, vp 8 0), (10, vb true), (11, .t (.c (.own 9 (picksOf y c s.vars.length).length))), (49, vi .i64 (s.vars.length : Int)), (50, vi .i64 (j : Int)), (51, vb (decide ((j : Int) < (s.vars.length : Int))))] [(5, .box (sysC s)), (6, .box [.d (.sl 1 (x.locs.map intD)), .d (.sl 2 (x.vals.map ziD))]), (7, .box [.d (.sl 1 (y.locs.map intD)), .d (.sl 2 (y.vals.map ziD))]), (8, .box ([.d (.raw (.int .i64 c.proc)), .d (.raw (.int .i64 c.from_)), .d (.raw (.int .i64 c.to_)), .d (.raw (.int .i64 c.guard.kind)), .d (.sl 3 (c.guard.r.t.parts.map Part.d))] ++ zi c.guard.r.t.k ++ [.d (.raw (.bool c.guard.r.eq)), .d (.sl 6 (c.guard.kids.map FormD.d)), .d (.sl 5 (c.moves.map MoveD.d))])), (9, .row 28 2 ((picksOf y c s.vars.length).map ziD))]) (congrArg (fun (z_ : List ZI) => F.of [(2, vi .i64 i), (4, vp 5 0), (5, vp 6 0), (7, vp 7 0), (8, vb false), (9, vp 8 0), (10, vb true), (11, .t (.c (.own 9 z_.length))), (49, vi .i64 (s.vars.length : Int)), (50, vi .i64 (j : Int)), (51, vb (decide ((j : Int) < (s.vars.length : Int))))] [(5, .box (sysC s)), (6, .box [.d (.sl 1 (x.locs.map intD)), .d (.sl 2 (x.vals.map ziD))]), (7, .box [.d (.sl 1 (y.locs.map intD)), .d (.sl 2 (y.vals.map ziD))]), (8, .box ([.d (.raw (.int .i64 c.proc)), .d (.raw (.int .i64 c.from_)), .d (.raw (.int .i64 c.to_)), .d (.raw (.int .i64 c.guard.kind)), .d (.sl 3 (c.guard.r.t.parts.map Part.d))] ++ zi c.guard.r.t.k ++ [.d (.raw (.bool c.guard.r.eq)), .d (.sl 6 (c.guard.kids.map FormD.d)), .d (.sl 5 (c.moves.map MoveD.d))])), (9, .row 28 2 (z_.map ziD))]) (show ((picksOf y c j) : List ZI) = (picksOf y c s.vars.length) from (by rw [show j = s.vars.length by omega])))
      replace h := pubS 9 2 28 ((picksOf y c s.vars.length).map ziD) [(2, vi .i64 i), (4, vp 5 0), (5, vp 6 0), (7, vp 7 0), (8, vb false), (9, vp 8 0), (10, vb true), (11, .t (.c (.d (.sl 2 ((picksOf y c s.vars.length).map ziD))))), (49, vi .i64 (s.vars.length : Int)), (50, vi .i64 (j : Int)), (51, vb (decide ((j : Int) < (s.vars.length : Int))))] [(5, .box (sysC s)), (6, .box [.d (.sl 1 (x.locs.map intD)), .d (.sl 2 (x.vals.map ziD))]), (7, .box [.d (.sl 1 (y.locs.map intD)), .d (.sl 2 (y.vals.map ziD))]), (8, .box ([.d (.raw (.int .i64 c.proc)), .d (.raw (.int .i64 c.from_)), .d (.raw (.int .i64 c.to_)), .d (.raw (.int .i64 c.guard.kind)), .d (.sl 3 (c.guard.r.t.parts.map Part.d))] ++ zi c.guard.r.t.k ++ [.d (.raw (.bool c.guard.r.eq)), .d (.sl 6 (c.guard.kids.map FormD.d)), .d (.sl 5 (c.moves.map MoveD.d))]))] h rfl (show AllEq _ [(picksOf y c s.vars.length).length] from ⟨by first | exact (List.length_map _).symm | (simp; done) | (simp; omega), trivial⟩) trivial (by kernel_rfl) (by kernel_rfl)
      refine rSeq fam0ok 12 [(4, .call (SGo3 s x i (picksOf y c s.vars.length) c hL hs hx (picks_ok hy c _) hi) km_9)] [(7, vp 7 0), (8, vb false), (10, vb (goC s x c (picksOf y c s.vars.length)).2), (15, vp 12 0)] [(7, .box [.d (.sl 1 (y.locs.map intD)), .d (.sl 2 (y.vals.map ziD))]), (12, .box [.d (.sl 1 ((goC s x c (picksOf y c s.vars.length)).1.locs.map intD)), .d (.sl 2 ((goC s x c (picksOf y c s.vars.length)).1.vals.map ziD))])] (by kernel_rfl) h ?_; clear h; intro a w h
      rcases Bool.eq_false_or_eq_true (goC s x c (picksOf y c s.vars.length)).2 with hc | hc
      ·have hc8 := hc; clear hc
       rw [hc8] at h
       refine rSeq fam0ok 13 [(4, .call (SSame y (goC s x c (picksOf y c s.vars.length)).1 (M := L + M + 2) (by omega) (hy.mono (by omega)) (goC_ok hs hx hc (picks_ok hy c _))) km_1)] [(8, vb (sameS y (goC s x c (picksOf y c s.vars.length)).1))] [] (by kernel_rfl) h ?_; clear h; intro a w h
       refine wp_ret ?_
       refine retS [.c (.d (.raw (.bool (sameS y (goC s x c (picksOf y c s.vars.length)).1))))] h Exit.ret (.inl rfl)  rfl ⟨RV.tmp _ _ rfl, trivial⟩ ?_ (by kernel_rfl) (by kernel_rfl)
       have hz : leadsC s x c y = (sameS y (goC s x c (picksOf y c s.vars.length)).1) := by unfold leadsC; rw [hc1, (show (fits s y) = true from by simpa using hc3), hc8]; rfl
       rw [hz]; first | done | rfl
      ·have hc9 := hc; clear hc
       rw [hc9] at h
       refine rSeq fam0ok 13 [] [(8, vb false)] [] (by kernel_rfl) h ?_; clear h; intro a w h
       refine wp_ret ?_
       refine retS [.c (.d (.raw (.bool false)))] h Exit.ret (.inl rfl)  rfl ⟨RV.tmp _ _ rfl, trivial⟩ ?_ (by kernel_rfl) (by kernel_rfl)
       have hz : leadsC s x c y = (false) := by unfold leadsC; rw [hc1, (show (fits s y) = true from by simpa using hc3), hc9]; rfl
       rw [hz]; first | done | rfl
  ·have hc10 := hc; clear hc
   refine rSeq fam0ok 13 [(6, .call (Fn.cast (Senabled s x c (L := L) (M := M) (by omega) hs hx hc) (congrArg vb hc10)) kk_7)] [(2, vi .i64 i), (4, vp 5 0), (5, vp 6 0), (7, vp 7 0), (8, vb false), (9, vp 8 0), (10, vb true), (46, vb true)] [(5, .box (sysC s)), (6, .box [.d (.sl 1 (x.locs.map intD)), .d (.sl 2 (x.vals.map ziD))]), (7, .box [.d (.sl 1 (y.locs.map intD)), .d (.sl 2 (y.vals.map ziD))]), (8, .box ([.d (.raw (.int .i64 c.proc)), .d (.raw (.int .i64 c.from_)), .d (.raw (.int .i64 c.to_)), .d (.raw (.int .i64 c.guard.kind)), .d (.sl 3 (c.guard.r.t.parts.map Part.d))] ++ zi c.guard.r.t.k ++ [.d (.raw (.bool c.guard.r.eq)), .d (.sl 6 (c.guard.kids.map FormD.d)), .d (.sl 5 (c.moves.map MoveD.d))]))] (by kernel_rfl) h ?_; clear h; intro a w h
   refine condS true h rfl (fun hc => ?_) (fun hc => ?_)
   ·clear hc
    refine rSeq fam0ok 13 [] [(2, vi .i64 i), (4, vp 5 0), (5, vp 6 0), (7, vp 7 0), (8, vb false), (9, vp 8 0), (10, vb true)] [(5, .box (sysC s)), (6, .box [.d (.sl 1 (x.locs.map intD)), .d (.sl 2 (x.vals.map ziD))]), (7, .box [.d (.sl 1 (y.locs.map intD)), .d (.sl 2 (y.vals.map ziD))]), (8, .box ([.d (.raw (.int .i64 c.proc)), .d (.raw (.int .i64 c.from_)), .d (.raw (.int .i64 c.to_)), .d (.raw (.int .i64 c.guard.kind)), .d (.sl 3 (c.guard.r.t.parts.map Part.d))] ++ zi c.guard.r.t.k ++ [.d (.raw (.bool c.guard.r.eq)), .d (.sl 6 (c.guard.kids.map FormD.d)), .d (.sl 5 (c.moves.map MoveD.d))]))] (by kernel_rfl) h ?_; clear h; intro a w h
    refine wp_ret ?_
    refine then_r ?_
    refine retS [.c (.d (.raw (.bool false)))] h Exit.ret (.inl rfl)  rfl ⟨RV.tmp _ _ rfl, trivial⟩ ?_ (by kernel_rfl) (by kernel_rfl)
    have hz : leadsC s x c y = (false) := by unfold leadsC; rw [hc10]; rfl
    rw [hz]; first | done | rfl
   ·cases hc
theorem SLeads (s : SysD) (x : StD) (i : Int) (y : StD) {L M : Nat} (hL : L + M ≤ 4000) (hs : SysOk L s) (hx : StOk M x) (hy : StOk M y) : Fn Tryz.prog 11 [] [.t (.agg (sysC s)), .t (.agg [.d (.sl 1 (x.locs.map intD)), .d (.sl 2 (x.vals.map ziD))]), vi .i64 i, .t (.agg [.d (.sl 1 (y.locs.map intD)), .d (.sl 2 (y.vals.map ziD))])] (vb (leads s x i y)) [] := by
 by_cases hn : i = -1
 ·subst hn; unfold leads; rw [if_pos rfl]; exact SLeads1 s x y hL hs hx hy
 ·cases hi : actAt s i with
  | none => unfold leads; rw [if_neg hn, hi]; exact SLeads2 s x i y hL hs hx hy hi hn
  | some c => unfold leads; rw [if_neg hn, hi]; exact SLeads3 s x i y c hL hs hx hy hi
theorem SGo (s : SysD) (x : StD) (i : Int) (picks : List ZI) {L M : Nat} (hL : L + M ≤ 4000) (hs : SysOk L s) (hx : StOk M x) (hp : ∀ z ∈ picks, ZOk M z) : Fn Tryz.prog 8 [] [.t (.agg (sysC s)), .t (.agg [.d (.sl 1 (x.locs.map intD)), .d (.sl 2 (x.vals.map ziD))]), vi .i64 i, .t (.c (.d (.sl 2 (picks.map ziD))))] (.tup [.agg [.d (.sl 1 ((goS s x i picks).1.locs.map intD)), .d (.sl 2 ((goS s x i picks).1.vals.map ziD))], .c (.d (.raw (.bool (goS s x i picks).2)))]) [] := by
 by_cases hn : i = -1 ∧ stuck s x = true
 ·obtain ⟨rfl, hst⟩ := hn
  have : goS s x (-1) picks = (cloneS x, true) := by unfold goS; rw [if_pos ⟨rfl, hst⟩]
  rw [this]; exact SGo1 s x picks hL hs hx hp hst
 ·cases hi : actAt s i with
  | none =>
   have : goS s x i picks = (st0, false) := by unfold goS; rw [if_neg hn, hi]
   rw [this]; exact SGo2 s x i picks hL hs hx hp hn hi
  | some c =>
   have : goS s x i picks = goC s x c picks := by unfold goS; rw [if_neg hn, hi]
   rw [this]; exact SGo3 s x i picks c hL hs hx hp hi
end Go.Proofs.YtmohlifepfjmdaaGreat.S
end
section
namespace Go.Proofs.YtmohlifepfjmdaaGreat.S
open Go.RowKit

theorem kn_0 : SlT Tryz.prog 54 43 2 := SlT.mk' Tryz.underlying54 (by kernel_rfl)
theorem kn_1 : ElT Tryz.prog 54 43 2 48 := ElT.mk' Tryz.underlying54 _ _ rfl rfl (by kernel_rfl) (by kernel_rfl) (by kernel_rfl) (by decide) (by decide)
theorem kn_2 : SlT Tryz.prog 130 54 1 := SlT.mk' Tryz.underlying130 (by kernel_rfl)
theorem kn_3 : Bodied Tryz.prog 86 := Bodied.mk' (by kernel_rfl)
theorem kn_4 : ElZ Tryz.prog 130 54 1 := ElZ.mk' Tryz.underlying130 _ _ rfl rfl (by kernel_rfl) (by kernel_rfl) (by kernel_rfl) (by decide)
theorem kn_5 : Bodied Tryz.prog 59 := Bodied.mk' (by kernel_rfl)
theorem kn_6 : Bodied Tryz.prog 15 := Bodied.mk' (by kernel_rfl)
theorem kn_8 : Bodied Tryz.prog 11 := Bodied.mk' (by kernel_rfl)
theorem kn_10 : SlT Tryz.prog 57 60 9 := SlT.mk' Tryz.underlying57 (by kernel_rfl)
theorem kn_11 : Bodied Tryz.prog 61 := Bodied.mk' (by kernel_rfl)
theorem kn_12 : ElZ Tryz.prog 73 4 1 := ElZ.mk' Tryz.underlying73 _ _ rfl rfl (by kernel_rfl) (by kernel_rfl) (by kernel_rfl) (by decide)
theorem kn_13 : ElT Tryz.prog 73 4 1 1 := ElT.mk' Tryz.underlying73 _ _ rfl rfl (by kernel_rfl) (by kernel_rfl) (by kernel_rfl) (by decide) (by decide)
theorem kn_14 : Bodied Tryz.prog 32 := Bodied.mk' (by kernel_rfl)
theorem kn_15 : ElZ Tryz.prog 62 73 1 := ElZ.mk' Tryz.underlying62 _ _ rfl rfl (by kernel_rfl) (by kernel_rfl) (by kernel_rfl) (by decide)
theorem kn_16 : ElT Tryz.prog 62 73 1 24 := ElT.mk' Tryz.underlying62 _ _ rfl rfl (by kernel_rfl) (by kernel_rfl) (by kernel_rfl) (by decide) (by decide)
theorem kn_17 : Bodied Tryz.prog 57 := Bodied.mk' (by kernel_rfl)
theorem kn_18 : Sz Tryz.prog 64 2 true := Sz.mk' (by kernel_rfl) Tryz.underlying64 _ rfl
set_option maxHeartbeats 4000000 in
theorem SGrowSt (n : Nat) (hn : n ≤ 1000000) : Fn Tryz.prog 86 [] [.t (.c (.d (.raw nilV))), vi .i64 (n : Int)] (.t (.c (.own 0 0))) [(0, .row 43 2 ([].map StD.d))] := by
 refine Fn.body Tryz.func86 rfl 27 rfl fun w H B a h => ?_
 refine rSeq fam0ok 1 [] [(0, .t (.c (.d (.raw nilV)))), (1, vi .i64 (n : Int)), (4, .t (.c (.d (.raw nilV))))] [] (by kernel_rfl) h ?_; clear h; intro a w h
 refine wp_seq ?_
 refine rSeq fam0ok 1 [(1, .cmp (op := .lss) (m := (n : Int)) (n := 0) (b := false) .i64 (show decide ((n : Int) < 0) = false from decide_eq_false (by omega)))] [(0, .t (.c (.d (.raw nilV)))), (1, vi .i64 (n : Int)), (4, .t (.c (.d (.raw nilV)))), (6, vb false)] [] (by kernel_rfl) h ?_; clear h; intro a w h
 refine condS false h rfl (fun hc => ?_) (fun hc => ?_)
 ·cases hc
 ·clear hc
  refine wp_skip ?_
  refine then_n ?_
  refine wp_seq ?_
  refine rSeq fam0ok 1 [(2, .gen _ _ _ fun _ _ _ _ => Op.capR (d := 10) (ao := none) (n := 0) (c := 0) kn_0.hu (OV.tmp 9 _)), (5, .gen _ _ _ fun _ _ _ _ => Op.arith (op := .sub) (d := 13) (xt := 3) (yt := 3) (k := .i64) (m := 0) (n := 0) (r := 0) (OV.tmp 10 _) (OV.tmp 12 _) (.inr (.inl ⟨rfl, rfl⟩)) (i64_id (by omega) (by omega))), (6, .gen _ _ _ fun _ _ _ _ => Op.arith (op := .sub) (d := 14) (xt := 3) (yt := 3) (k := .i64) (m := (n : Int)) (n := 0) (r := (n : Int)) (OV.tmp 8 _) (OV.tmp 13 _) (.inr (.inl ⟨rfl, (Int.sub_zero _).symm⟩)) (i64_id (by omega) (by omega)))] [(0, .t (.c (.d (.raw nilV)))), (1, vi .i64 (n : Int)), (4, .t (.c (.d (.raw nilV))))] [] (by kernel_rfl) h ?_; clear h; intro a w h
  refine rSeq fam0ok 1 [] [(0, .t (.c (.d (.raw nilV)))), (1, vi .i64 (n : Int)), (4, .t (.c (.d (.raw nilV)))), (16, vb (decide ((n : Int) > 0)))] [] (by kernel_rfl) h ?_; clear h; intro a w h
  refine condS (decide ((n : Int) > 0)) h rfl (fun hc => ?_) (fun hc => ?_)
  ·have hc1 := hc; clear hc
   have hc1' := of_decide_eq_true hc1
   refine rS fam0ok 1 [(2, .gen _ _ _ fun _ _ _ _ => Op.capR (d := 19) (ao := none) (n := 0) (c := 0) kn_0.hu (OV.tmp 18 _)), (3, .gen _ _ _ fun _ _ _ _ => Op.sliceR0 (d := 20) (k := .i64) kn_0 (OV.tmp 17 _) (OV.tmp 19 _)), (5, .gen _ _ _ fun _ _ _ _ => Op.appNM (d := 22) (t := 20) (u := 21) (n := 1) (L := n) kn_1 Tryz.underlying3 (by omega) (by omega) (by omega)), (8, .gen _ _ _ fun _ _ _ _ => Op.sliceHi (d := 25) (t := 22) (k := .i64) (n := 1) (len := n) (h := 0) (rows := [].map StD.d) (rty := 43) kn_0 (by first | omega | (simp at *; omega)) (OV.tmp 24 _))] [(0, .t (.c (.own 1 0))), (4, .t (.c (.d (.raw nilV))))] [(1, .row 43 2 ([].map StD.d))] (by kernel_rfl) h ?_; clear h; intro a w h
   refine then_n ?_
   refine rSeq fam0ok 2 [] [(4, .t (.c (.own 1 0)))] [(1, .row 43 2 ([].map StD.d))] (by kernel_rfl) h ?_; clear h; intro a w h
   refine wp_ret ?_
   replace h := renS 1 0 [(4, .t (.c (.own 0 0)))] [(0, .row 43 2 ([].map StD.d))] h (by kernel_rfl) (by kernel_rfl) (by kernel_rfl)
   refine retS [.c (.own 0 0)] h Exit.ret (.inl rfl)  rfl ⟨RV.tmp _ _ rfl, trivial⟩ ?_ (by kernel_rfl) (by kernel_rfl)
   rfl
  ·have hc2 := hc; clear hc
   have hc2' := of_decide_eq_false hc2
   refine wp_skip ?_
   refine then_n ?_
   refine rSeq fam0ok 2 [] [(4, .t (.c (.d (.raw nilV))))] [] (by kernel_rfl) h ?_; clear h; intro a w h
   refine wp_ret ?_
   replace h := nilOSs 4 0 2 2 43 (.t (.c (.d (.raw nilV)))) [(4, .t (.c (.own 2 0)))] [(2, .row 43 2 ([].map StD.d))] h (by kernel_rfl) rfl rfl (by kernel_rfl) (by kernel_rfl)
   replace h := renS 2 0 [(4, .t (.c (.own 0 0)))] [(0, .row 43 2 ([].map StD.d))] h (by kernel_rfl) (by kernel_rfl) (by kernel_rfl)
   refine retS [.c (.own 0 0)] h Exit.ret (.inl rfl)  rfl ⟨RV.tmp _ _ rfl, trivial⟩ ?_ (by kernel_rfl) (by kernel_rfl)
   rfl
set_option maxHeartbeats 4000000 in
theorem SConcatSt (xss : List (List StD)) (hl : (xss.map List.length).sum ≤ 1000000) (hn : xss.length ≤ 1000) : Fn Tryz.prog 59 [] [.t (.c (.d (.sl 1 (xss.map (slD 2 StD.d)))))] (.t (.c (.d (.sl 2 (xss.flatten.map StD.d))))) [] := by
 refine Fn.body Tryz.func59 rfl 36 rfl fun w H B a h => ?_
 refine rSeq fam0ok 5 [] [(0, .t (.c (.d (.sl 1 (xss.map (slD 2 StD.d)))))), (2, .t (.c (.d (.raw nilV))))] [] (by kernel_rfl) h ?_; clear h; intro a w h
 refine rSeq fam0ok 5 [] [(0, .t (.c (.d (.sl 1 (xss.map (slD 2 StD.d)))))), (2, .t (.c (.d (.raw nilV)))), (3, vi .i64 0)] [] (by kernel_rfl) h ?_; clear h; intro a w h
 refine wp_seq ?_
 refine rSeq fam0ok 5 [(1, .len (c := (.d (.sl 1 (xss.map (slD 2 StD.d))))) (n := xss.length) (lenC_map _ _ _))] [(0, .t (.c (.d (.sl 1 (xss.map (slD 2 StD.d)))))), (2, .t (.c (.d (.raw nilV)))), (3, vi .i64 0), (9, .t (.c (.d (.sl 1 (xss.map (slD 2 StD.d)))))), (10, vi .i64 (xss.length : Int)), (11, vi .i64 0)] [] (by kernel_rfl) h ?_; clear h; intro a w h
 refine wp_block ?_
 refine loopS (ι := (Nat)) (fun (z_ : (Nat)) => match z_ with | j => j ≤ xss.length)
   (fun (z_ : (Nat)) => match z_ with | j => [(0, .t (.c (.d (.sl 1 (xss.map (slD 2 StD.d)))))), (2, .t (.c (.d (.raw nilV)))), (3, vi .i64 ((((xss.map List.length).take j).sum : Nat) : Int)), (9, .t (.c (.d (.sl 1 (xss.map (slD 2 StD.d)))))), (10, vi .i64 (xss.length : Int)), (11, vi .i64 (j : Int))])
   (fun (z_ : (Nat)) => match z_ with | j => [])
   (fun (z_ : (Nat)) => match z_ with | j => xss.length - j) 0 ?_ h (by kernel_rfl) (by kernel_rfl) ?_
 ·exact Nat.zero_le _
 ·clear h; rintro j a w hI h
  change St _ (F.of [(0, .t (.c (.d (.sl 1 (xss.map (slD 2 StD.d)))))), (2, .t (.c (.d (.raw nilV)))), (3, vi .i64 ((((xss.map List.length).take j).sum : Nat) : Int)), (9, .t (.c (.d (.sl 1 (xss.map (slD 2 StD.d)))))), (10, vi .i64 (xss.length : Int)), (11, vi .i64 (j : Int))] []) a w at h
  have hs1 := sum_take_le (xss.map List.length) j
  have hs2 := sum_take_le (xss.map List.length) (j + 1)
  refine rSeq fam0ok 5 [] [(0, .t (.c (.d (.sl 1 (xss.map (slD 2 StD.d)))))), (2, .t (.c (.d (.raw nilV)))), (3, vi .i64 ((((xss.map List.length).take j).sum : Nat) : Int)), (9, .t (.c (.d (.sl 1 (xss.map (slD 2 StD.d)))))), (10, vi .i64 (xss.length : Int)), (11, vi .i64 (j : Int)), (12, vb (decide ((j : Int) < (xss.length : Int))))] [] (by kernel_rfl) h ?_; clear h; intro a w h
  refine wp_seq ?_
  refine condS (decide ((j : Int) < (xss.length : Int))) h rfl (fun hc => ?_) (fun hc => ?_)
  ·have hc1 := hc; clear hc
   have hc1' := of_decide_eq_true hc1
   refine wp_skip ?_
   refine then_n ?_
   refine wp_seq ?_
   refine wp_block ?_
   obtain ⟨x1, hx1⟩ : ∃ z_ : List StD, xss[j]? = some z_ := ⟨_, List.getElem?_eq_getElem (by first | omega | (simp at *; omega))⟩
   have hsx : x1.length ≤ (xss.map List.length).sum := by
    have := sum_mem (List.mem_map_of_mem (f := List.length) (List.mem_of_getElem? hx1))
    omega
   refine rSeq fam0ok 5 [(0, .gen _ _ _ fun _ _ _ _ => Op.idxD (d := 13) (t := 9) (k := .i64) kn_2 (map_at hx1 (f := (slD 2 StD.d))) (OV.tmp 11 _))] [(0, .t (.c (.d (.sl 1 (xss.map (slD 2 StD.d)))))), (2, .t (.c (.d (.raw nilV)))), (3, vi .i64 ((((xss.map List.length).take j).sum : Nat) : Int)), (5, .t (.c (.d (.sl 2 (x1.map StD.d))))), (9, .t (.c (.d (.sl 1 (xss.map (slD 2 StD.d)))))), (10, vi .i64 (xss.length : Int)), (11, vi .i64 (j : Int))] [] (by kernel_rfl) h ?_; clear h; intro a w h
   refine rSeq fam0ok 5 [(2, .len (c := (.d (.sl 2 (x1.map StD.d)))) (n := x1.length) (lenC_map _ _ _)), (3, .gen _ _ _ fun _ _ _ _ => Op.arith (op := .add) (d := 18) (xt := 3) (yt := 3) (k := .i64) (m := ((((xss.map List.length).take j).sum : Nat) : Int)) (n := (x1.length : Int)) (r := ((((xss.map List.length).take (j + 1)).sum : Nat) : Int)) (OV.tmp 15 _) (OV.tmp 17 _) (.inl ⟨rfl, (by rw [List.take_add_one, List.getElem?_map, hx1]; simp)⟩) (i64_id (by omega) (by omega)))] [(0, .t (.c (.d (.sl 1 (xss.map (slD 2 StD.d)))))), (2, .t (.c (.d (.raw nilV)))), (3, vi .i64 ((((xss.map List.length).take (j + 1)).sum : Nat) : Int)), (9, .t (.c (.d (.sl 1 (xss.map (slD 2 StD.d)))))), (10, vi .i64 (xss.length : Int)), (11, vi .i64 (j : Int))] [] (by kernel_rfl) h ?_; clear h; intro a w h
   refine rSeq fam0ok 5 [(1, .cmp (op := .lss) (m := ((((xss.map List.length).take (j + 1)).sum : Nat) : Int)) (n := 0) (b := false) .i64 (show decide (((((xss.map List.length).take (j + 1)).sum : Nat) : Int) < 0) = false from decide_eq_false (by omega)))] [(0, .t (.c (.d (.sl 1 (xss.map (slD 2 StD.d)))))), (2, .t (.c (.d (.raw nilV)))), (3, vi .i64 ((((xss.map List.length).take (j + 1)).sum : Nat) : Int)), (9, .t (.c (.d (.sl 1 (xss.map (slD 2 StD.d)))))), (10, vi .i64 (xss.length : Int)), (11, vi .i64 (j : Int)), (20, vb false)] [] (by kernel_rfl) h ?_; clear h; intro a w h
   refine condS false h rfl (fun hc => ?_) (fun hc => ?_)
   ·cases hc
   ·clear hc
    refine wp_skip ?_
    refine block_n ?_
    refine then_n ?_
    refine rS fam0ok 5 [(0, .add .i64 (m := (j : Int)) (n := 1) (i64_id (by omega) (by omega)))] [(0, .t (.c (.d (.sl 1 (xss.map (slD 2 StD.d)))))), (2, .t (.c (.d (.raw nilV)))), (3, vi .i64 ((((xss.map List.length).take (j + 1)).sum : Nat) : Int)), (9, .t (.c (.d (.sl 1 (xss.map (slD 2 StD.d)))))), (10, vi .i64 (xss.length : Int)), (11, vi .i64 ((j : Int) + 1))] [] (by kernel_rfl) h ?_; clear h; intro a w h
    refine then_n ?_
    refine roundS (x := j) (y := (j + 1)) h ?_ ?_ (by kernel_rfl) (by kernel_rfl)
    ·have := at_lt hx1; omega
    ·show xss.length - (j + 1) < xss.length - j
     have := at_lt hx1; omega
  ·have hc2 := hc; clear hc
   have hc2' := of_decide_eq_false hc2
   refine wp_exit ?_
   refine then_x ?_
   refine then_x ?_
   refine inBlock_exit ?_
   refine then_n ?_
   have hj : j = xss.length := by omega
   refine rSeq fam0ok 5 [(1, .call (SGrowSt ((xss.map List.length).take j).sum (by omega)) kn_3)] [(0, .t (.c (.d (.sl 1 (xss.map (slD 2 StD.d)))))), (2, .t (.c (.d (.raw nilV)))), (6, .t (.c (.own 0 0)))] [(0, .row 43 2 ([].map StD.d))] (by kernel_rfl) h ?_; clear h; intro a w h
   refine wp_seq ?_
   refine rSeq fam0ok 5 [(1, .len (c := (.d (.sl 1 (xss.map (slD 2 StD.d))))) (n := xss.length) (lenC_map _ _ _))] [(2, .t (.c (.d (.raw nilV)))), (6, .t (.c (.own 0 0))), (25, .t (.c (.d (.sl 1 (xss.map (slD 2 StD.d)))))), (26, vi .i64 (xss.length : Int)), (27, vi .i64 0)] [(0, .row 43 2 ([].map StD.d))] (by kernel_rfl) h ?_; clear h; intro a w h
   refine wp_block ?_
   refine loopS (ι := (Nat)) (fun (z_ : (Nat)) => match z_ with | i => i ≤ xss.length)
     (fun (z_ : (Nat)) => match z_ with | i => [(2, .t (.c (.d (.raw nilV)))), (6, .t (.c (.own 0 ((xss.take i).flatten).length))), (25, .t (.c (.d (.sl 1 (xss.map (slD 2 StD.d)))))), (26, vi .i64 (xss.length : Int)), (27, vi .i64 (i : Int))])
     (fun (z_ : (Nat)) => match z_ with | i => [(0, .row 43 2 (((xss.take i).flatten).map StD.d))])
     (fun (z_ : (Nat)) => match z_ with | i => xss.length - i) 0 ?_ h (by kernel_rfl) (by kernel_rfl) ?_
   ·exact Nat.zero_le _
   ·clear h; rintro i a w hI h
    change St _ (F.of [(2, .t (.c (.d (.raw nilV)))), (6, .t (.c (.own 0 ((xss.take i).flatten).length))), (25, .t (.c (.d (.sl 1 (xss.map (slD 2 StD.d)))))), (26, vi .i64 (xss.length : Int)), (27, vi .i64 (i : Int))] [(0, .row 43 2 (((xss.take i).flatten).map StD.d))]) a w at h
    have hs1 := sum_take_le (xss.map List.length) i
    have hs2 := sum_take_le (xss.map List.length) (i + 1)
    have hf1 : ((xss.take i).flatten).length = ((xss.map List.length).take i).sum := by rw [flat_sum, List.map_take]
    have hf2 : ((xss.take (i + 1)).flatten).length = ((xss.map List.length).take (i + 1)).sum := by rw [flat_sum, List.map_take]
    refine rSeq fam0ok 5 [] [(2, .t (.c (.d (.raw nilV)))), (6, .t (.c (.own 0 ((xss.take i).flatten).length))), (25, .t (.c (.d (.sl 1 (xss.map (slD 2 StD.d)))))), (26, vi .i64 (xss.length : Int)), (27, vi .i64 (i : Int)), (28, vb (decide ((i : Int) < (xss.length : Int))))] [(0, .row 43 2 (((xss.take i).flatten).map StD.d))] (by kernel_rfl) h ?_; clear h; intro a w h
    refine wp_seq ?_
    refine condS (decide ((i : Int) < (xss.length : Int))) h rfl (fun hc => ?_) (fun hc => ?_)
    ·have hc3 := hc; clear hc
     have hc3' := of_decide_eq_true hc3
     refine wp_skip ?_
     refine then_n ?_
     refine wp_seq ?_
     refine wp_block ?_
     obtain ⟨x3, hx3⟩ : ∃ z_ : List StD, xss[i]? = some z_ := ⟨_, List.getElem?_eq_getElem (by first | omega | (simp at *; omega))⟩
     have hsx : x3.length ≤ (xss.map List.length).sum := by
      have := sum_mem (List.mem_map_of_mem (f := List.length) (List.mem_of_getElem? hx3))
      omega
     refine rSeq fam0ok 5 [(0, .gen _ _ _ fun _ _ _ _ => Op.idxD (d := 29) (t := 25) (k := .i64) kn_2 (map_at hx3 (f := (slD 2 StD.d))) (OV.tmp 27 _))] [(2, .t (.c (.d (.raw nilV)))), (6, .t (.c (.own 0 ((xss.take i).flatten).length))), (8, .t (.c (.d (.sl 2 (x3.map StD.d))))), (25, .t (.c (.d (.sl 1 (xss.map (slD 2 StD.d)))))), (26, vi .i64 (xss.length : Int)), (27, vi .i64 (i : Int))] [(0, .row 43 2 (((xss.take i).flatten).map StD.d))] (by kernel_rfl) h ?_; clear h; intro a w h
     refine rS fam0ok 5 [(2, .gen _ _ _ fun _ _ _ _ => Op.appOD (d := 33) (t := 31) (u := 32) (n := 0) (n' := 5) (len := ((xss.take i).flatten).length) (len' := (((xss.take i).flatten) ++ x3).length) (rows := ((xss.take i).flatten).map StD.d) (rows2 := x3.map StD.d) (rows' := (((xss.take i).flatten) ++ x3).map StD.d) kn_1 (by first | exact (List.length_map _).symm | simp) (by first | (rw [List.length_append, List.length_map]; done) | simp) (by simp) (by simp [StD.d]) (by first | omega | (simp at *; done) | (simp at *; omega)))] [(2, .t (.c (.d (.raw nilV)))), (6, .t (.c (.own 5 (((xss.take i).flatten) ++ x3).length))), (25, .t (.c (.d (.sl 1 (xss.map (slD 2 StD.d)))))), (26, vi .i64 (xss.length : Int)), (27, vi .i64 (i : Int))] [(5, .row 43 2 ((((xss.take i).flatten) ++ x3).map StD.d))] (by kernel_rfl) h ?_; clear h; intro a w h
     refine block_n ?_
     refine then_n ?_
     refine rS fam0ok 6 [(0, .add .i64 (m := (i : Int)) (n := 1) (i64_id (by omega) (by omega)))] [(2, .t (.c (.d (.raw nilV)))), (6, .t (.c (.own 5 (((xss.take i).flatten) ++ x3).length))), (25, .t (.c (.d (.sl 1 (xss.map (slD 2 StD.d)))))), (26, vi .i64 (xss.length : Int)), (27, vi .i64 ((i : Int) + 1))] [(5, .row 43 2 ((((xss.take i).flatten) ++ x3).map StD.d))] (by kernel_rfl) h ?_; clear h; intro a w h
     refine then_n ?_
     replace h := h.conv (f' := F.of [(2, .t (.c (.d (.raw nilV)))), (6, .t (.c (.own 5 ((xss.take (i + 1)).flatten).length))), (25, .t (.c (.d (.sl 1 (xss.map (slD 2 StD.d)))))), (26, vi .i64 (xss.length : Int)), (27, vi .i64 ((i : Int) + 1))] [(5, .row 43 2 (((xss.take (i + 1)).flatten).map StD.d))]) (congrArg (fun (z_ : List StD) => F.of [(2, .t (.c (.d (.raw nilV)))), (6, .t (.c (.own 5 z_.length))), (25, .t (.c (.d (.sl 1 (xss.map (slD 2 StD.d)))))), (26, vi .i64 (xss.length : Int)), (27, vi .i64 ((i : Int) + 1))] [(5, .row 43 2 (z_.map StD.d))]) (show ((((xss.take i).flatten) ++ x3) : List StD) = ((xss.take (i + 1)).flatten) from (by rw [List.take_add_one, hx3]; simp)))
     replace h := renS 5 0 [(2, .t (.c (.d (.raw nilV)))), (6, .t (.c (.own 0 ((xss.take (i + 1)).flatten).length))), (25, .t (.c (.d (.sl 1 (xss.map (slD 2 StD.d)))))), (26, vi .i64 (xss.length : Int)), (27, vi .i64 ((i : Int) + 1))] [(0, .row 43 2 (((xss.take (i + 1)).flatten).map StD.d))] h (by kernel_rfl) (by kernel_rfl) (by kernel_rfl)
     refine roundS (x := i) (y := (i + 1)) h ?_ ?_ (by kernel_rfl) (by kernel_rfl)
     ·have := at_lt hx3; omega
     ·show xss.length - (i + 1) < xss.length - i
      have := at_lt hx3; omega
    ·have hc4 := hc; clear hc
     have hc4' := of_decide_eq_false hc4
     refine wp_exit ?_
     refine then_x ?_
     refine then_x ?_
     refine inBlock_exit ?_
     refine then_n ?_
     refine rSeq fam0ok 6 [] [(2, .t (.c (.own 0 ((xss.take i).flatten).length)))] [(0, .row 43 2 (((xss.take i).flatten).map StD.d))] (by kernel_rfl) h ?_; clear h; intro a w h
     refine wp_ret ?_
     replace h := pubS 0 2 43 (((xss.take i).flatten).map StD.d) [(2, .t (.c (.d (.sl 2 (((xss.take i).flatten).map StD.d)))))] [] h rfl (show AllEq _ [((xss.take i).flatten).length] from ⟨by first | exact (List.length_map _).symm | (simp; done) | (simp; omega), trivial⟩) trivial (by kernel_rfl) (by kernel_rfl)
     refine retS [.c (.d (.sl 2 (((xss.take i).flatten).map StD.d)))] h Exit.ret (.inl rfl)  rfl ⟨RV.tmp _ _ rfl, trivial⟩ ?_ (by kernel_rfl) (by kernel_rfl)
     have hi : i = xss.length := by omega
     subst hi
     rw [List.take_length]; first | done | rfl
structure RunOk (M : Nat) (r : RunD) : Prop where
  len : r.stem.length + r.cycle.length ≤ 10
  stem : ∀ x ∈ r.stem, StOk M x
  cycle : ∀ x ∈ r.cycle, StOk M x
theorem RunOk.all {M : Nat} {r : RunD} (h : RunOk M r) : ∀ x ∈ r.stem ++ r.cycle, StOk M x := fun x hx => (List.mem_append.1 hx).elim (h.stem x) (h.cycle x)
def nxt (r : RunD) (i : Nat) : StD := if i + 1 < (r.stem ++ r.cycle).length then ((r.stem ++ r.cycle)[i + 1]?).getD st0 else (r.cycle[0]?).getD st0
def stepOk (s : SysD) (r : RunD) (i : Nat) : Bool := leads s (((r.stem ++ r.cycle)[i]?).getD st0) ((r.acts[i]?).getD 0) (nxt r i)
def right (s : SysD) (r : RunD) : Bool := decide (r.cycle.length ≠ 0 ∧ r.acts.length = (r.stem ++ r.cycle).length) && (first s (((r.stem ++ r.cycle)[0]?).getD st0) && allN (r.stem ++ r.cycle).length (stepOk s r))
def holdsP (p : PropD) (x : StD) : Bool := if p.at_ = true then decide (0 ≤ p.proc ∧ p.proc < (x.locs.length : Int)) && ((x.locs[p.proc.toNat]?).getD 0 == p.loc) else p.f.holds x.vals
def PropOk (L : Nat) (p : PropD) : Prop := p.f.lb ∧ p.f.ok L
def letter (ps : List PropD) (x : StD) : List Bool := ps.map fun p => holdsP p x
set_option maxHeartbeats 4000000 in
theorem SRight (s : SysD) (r : RunD) {L M : Nat} (hL : L + M ≤ 4000) (hs : SysOk L s) (hr : RunOk M r) : Fn Tryz.prog 27 [] [.t (.agg (sysC s)), .t (.agg [.d (.sl 2 (r.stem.map StD.d)), .d (.sl 2 (r.cycle.map StD.d)), .d (.sl 1 (r.acts.map intD))])] (vb (right s r)) [] := by
 have lr := hr.len
 have lall : (r.stem ++ r.cycle).length = r.stem.length + r.cycle.length := List.length_append
 refine Fn.body Tryz.func27 rfl 67 rfl fun w H B a h => ?_
 refine rSeq fam0ok 0 [] [(2, vp 0 0), (3, vp 1 0), (4, vb false)] [(0, .box (sysC s)), (1, .box [.d (.sl 2 (r.stem.map StD.d)), .d (.sl 2 (r.cycle.map StD.d)), .d (.sl 1 (r.acts.map intD))])] (by kernel_rfl) h ?_; clear h; intro a w h
 refine rSeq fam0ok 2 [(4, .gen _ _ _ fun _ _ _ _ => Op.buildD (d := 13) (len := 2) (rows := [r.stem, r.cycle].map (slD 2 StD.d)) (rs := [(10, .t (.c (.d (.sl 2 (r.stem.map StD.d))))), (12, .t (.c (.d (.sl 2 (r.cycle.map StD.d)))))]) kn_4 (.cons (i := 0) (OV.tmp 10 _) (.cons (i := 1) (OV.tmp 12 _) (.nil))) (by kernel_rfl) rfl (by simp [slD]) (by decide) (by decide)), (5, .call (Fn.cast (SConcatSt [r.stem, r.cycle] (by simp only [List.map_cons, List.map_nil, List.sum_cons, List.sum_nil]; omega) (by simp)) (show _ = (.t (.c (.d (.sl 2 ((r.stem ++ r.cycle).map StD.d)))) : V) by simp)) kn_5)] [(2, vp 0 0), (3, vp 1 0), (4, vb false), (5, .t (.c (.d (.sl 2 ((r.stem ++ r.cycle).map StD.d)))))] [(0, .box (sysC s)), (1, .box [.d (.sl 2 (r.stem.map StD.d)), .d (.sl 2 (r.cycle.map StD.d)), .d (.sl 1 (r.acts.map intD))])] (by kernel_rfl) h ?_; clear h; intro a w h
 refine wp_seq ?_
 rcases Bool.eq_false_or_eq_true ((r.cycle.length : Int) == 0) with hc | hc
 ·have hc1 := hc; clear hc
  have hc1' := hc1; (try simp at hc1')
  refine rSeq fam0ok 2 [(2, .len (c := (.d (.sl 2 (r.cycle.map StD.d)))) (n := r.cycle.length) (lenC_map _ _ _)), (3, .cmp (op := .eql) (m := (r.cycle.length : Int)) (n := 0) (b := true) .i64 hc1)] [(2, vp 0 0), (3, vp 1 0), (4, vb false), (5, .t (.c (.d (.sl 2 ((r.stem ++ r.cycle).map StD.d))))), (34, vb true)] [(0, .box (sysC s)), (1, .box [.d (.sl 2 (r.stem.map StD.d)), .d (.sl 2 (r.cycle.map StD.d)), .d (.sl 1 (r.acts.map intD))])] (by kernel_rfl) h ?_; clear h; intro a w h
  refine condS true h rfl (fun hc => ?_) (fun hc => ?_)
  ·clear hc
   refine rSeq fam0ok 2 [] [(2, vp 0 0), (3, vp 1 0), (4, vb false), (5, .t (.c (.d (.sl 2 ((r.stem ++ r.cycle).map StD.d)))))] [(0, .box (sysC s)), (1, .box [.d (.sl 2 (r.stem.map StD.d)), .d (.sl 2 (r.cycle.map StD.d)), .d (.sl 1 (r.acts.map intD))])] (by kernel_rfl) h ?_; clear h; intro a w h
   refine wp_ret ?_
   refine then_r ?_
   refine retS [.c (.d (.raw (.bool false)))] h Exit.ret (.inl rfl)  rfl ⟨RV.tmp _ _ rfl, trivial⟩ ?_ (by kernel_rfl) (by kernel_rfl)
   have hz : right s r = false := by unfold right; rw [decide_eq_false (by have := hc1; simp at this; intro h; exact h.1 (by simp [this]))]; rfl
   rw [hz]; first | done | rfl
  ·cases hc
 ·have hc2 := hc; clear hc
  have hc2' := hc2; (try simp at hc2')
  have hcl : 0 < r.cycle.length := by have := beq_eq_false_iff_ne.1 hc2; omega
  rcases Bool.eq_false_or_eq_true ((r.acts.length : Int) != ((r.stem ++ r.cycle).length : Int)) with hc | hc
  ·have hc3 := hc; clear hc
   have hc3' := hc3; (try simp at hc3')
   refine rSeq fam0ok 2 [(2, .len (c := (.d (.sl 2 (r.cycle.map StD.d)))) (n := r.cycle.length) (lenC_map _ _ _)), (3, .cmp (op := .eql) (m := (r.cycle.length : Int)) (n := 0) (b := false) .i64 hc2), (7, .len (c := (.d (.sl 1 (r.acts.map intD)))) (n := r.acts.length) (lenC_map _ _ _)), (9, .len (c := (.d (.sl 2 ((r.stem ++ r.cycle).map StD.d)))) (n := (r.stem ++ r.cycle).length) (lenC_map _ _ _)), (10, .cmp (op := .neq) (m := (r.acts.length : Int)) (n := ((r.stem ++ r.cycle).length : Int)) (b := true) .i64 hc3)] [(2, vp 0 0), (3, vp 1 0), (4, vb false), (5, .t (.c (.d (.sl 2 ((r.stem ++ r.cycle).map StD.d))))), (34, vb true)] [(0, .box (sysC s)), (1, .box [.d (.sl 2 (r.stem.map StD.d)), .d (.sl 2 (r.cycle.map StD.d)), .d (.sl 1 (r.acts.map intD))])] (by kernel_rfl) h ?_; clear h; intro a w h
   refine condS true h rfl (fun hc => ?_) (fun hc => ?_)
   ·clear hc
    refine rSeq fam0ok 2 [] [(2, vp 0 0), (3, vp 1 0), (4, vb false), (5, .t (.c (.d (.sl 2 ((r.stem ++ r.cycle).map StD.d)))))] [(0, .box (sysC s)), (1, .box [.d (.sl 2 (r.stem.map StD.d)), .d (.sl 2 (r.cycle.map StD.d)), .d (.sl 1 (r.acts.map intD))])] (by kernel_rfl) h ?_; clear h; intro a w h
    refine wp_ret ?_
    refine then_r ?_
    refine retS [.c (.d (.raw (.bool false)))] h Exit.ret (.inl rfl)  rfl ⟨RV.tmp _ _ rfl, trivial⟩ ?_ (by kernel_rfl) (by kernel_rfl)
    have hz : right s r = false := by unfold right; rw [decide_eq_false (by have := hc3; simp at this; intro h; have := h.2; simp at this; omega)]; rfl
    rw [hz]; first | done | rfl
   ·cases hc
  ·have hc4 := hc; clear hc
   have hc4' := hc4; (try simp at hc4')
   have hla : r.acts.length = (r.stem ++ r.cycle).length := by have := hc4; simp only [bne_eq_false_iff_eq] at this; omega
   obtain ⟨x2, hx2⟩ : ∃ z_ : StD, (r.stem ++ r.cycle)[0]? = some z_ := ⟨_, List.getElem?_eq_getElem (by first | omega | (simp at *; omega))⟩
   have gx2 := hr.all x2 (List.mem_of_getElem? hx2)
   refine rSeq fam0ok 2 [(2, .len (c := (.d (.sl 2 (r.cycle.map StD.d)))) (n := r.cycle.length) (lenC_map _ _ _)), (3, .cmp (op := .eql) (m := (r.cycle.length : Int)) (n := 0) (b := false) .i64 hc2), (7, .len (c := (.d (.sl 1 (r.acts.map intD)))) (n := r.acts.length) (lenC_map _ _ _)), (9, .len (c := (.d (.sl 2 ((r.stem ++ r.cycle).map StD.d)))) (n := (r.stem ++ r.cycle).length) (lenC_map _ _ _)), (10, .cmp (op := .neq) (m := (r.acts.length : Int)) (n := ((r.stem ++ r.cycle).length : Int)) (b := false) .i64 hc4), (15, .gen _ _ _ fun _ _ _ _ => Op.idxD (d := 30) (t := 29) (k := .i64) kn_0 (map_at hx2 (f := StD.d)) (OV.const (.int .i64 0) rfl)), (17, .call (SFirst s x2 (L := L) (M := M) (by omega) hs gx2) kn_6)] [(2, vp 0 0), (3, vp 1 0), (4, vb false), (5, .t (.c (.d (.sl 2 ((r.stem ++ r.cycle).map StD.d))))), (34, vb (!(first s x2)))] [(0, .box (sysC s)), (1, .box [.d (.sl 2 (r.stem.map StD.d)), .d (.sl 2 (r.cycle.map StD.d)), .d (.sl 1 (r.acts.map intD))])] (by kernel_rfl) h ?_; clear h; intro a w h
   refine condS (!(first s x2)) h rfl (fun hc => ?_) (fun hc => ?_)
   ·have hc5 := hc; clear hc
    have hc5' := hc5; (try simp at hc5')
    refine rSeq fam0ok 2 [] [(2, vp 0 0), (3, vp 1 0), (4, vb false), (5, .t (.c (.d (.sl 2 ((r.stem ++ r.cycle).map StD.d)))))] [(0, .box (sysC s)), (1, .box [.d (.sl 2 (r.stem.map StD.d)), .d (.sl 2 (r.cycle.map StD.d)), .d (.sl 1 (r.acts.map intD))])] (by kernel_rfl) h ?_; clear h; intro a w h
    refine wp_ret ?_
    refine then_r ?_
    refine retS [.c (.d (.raw (.bool false)))] h Exit.ret (.inl rfl)  rfl ⟨RV.tmp _ _ rfl, trivial⟩ ?_ (by kernel_rfl) (by kernel_rfl)
    have hz : right s r = false := by unfold right; rw [decide_eq_true ⟨by have := hc2; simp at this; intro h; exact this (List.length_eq_zero_iff.1 h), by have := hc4; simp at this; simp; omega⟩, Bool.true_and]; rw [hx2, Option.getD_some, (show (first s x2) = false from by simpa using hc5)]; rfl
    rw [hz]; first | done | rfl
   ·have hc6 := hc; clear hc
    have hc6' := hc6; (try simp at hc6')
    refine wp_skip ?_
    refine then_n ?_
    refine wp_seq ?_
    refine rSeq fam0ok 2 [(1, .len (c := (.d (.sl 2 ((r.stem ++ r.cycle).map StD.d)))) (n := (r.stem ++ r.cycle).length) (lenC_map _ _ _))] [(2, vp 0 0), (3, vp 1 0), (4, vb false), (5, .t (.c (.d (.sl 2 ((r.stem ++ r.cycle).map StD.d))))), (35, .t (.c (.d (.sl 2 ((r.stem ++ r.cycle).map StD.d))))), (36, vi .i64 ((r.stem ++ r.cycle).length : Int)), (37, vi .i64 0)] [(0, .box (sysC s)), (1, .box [.d (.sl 2 (r.stem.map StD.d)), .d (.sl 2 (r.cycle.map StD.d)), .d (.sl 1 (r.acts.map intD))])] (by kernel_rfl) h ?_; clear h; intro a w h
    refine wp_block ?_
    refine loopS (ι := (Nat)) (fun (z_ : (Nat)) => match z_ with | j => j ≤ (r.stem ++ r.cycle).length ∧ allN j (stepOk s r) = true)
      (fun (z_ : (Nat)) => match z_ with | j => [(2, vp 0 0), (3, vp 1 0), (5, .t (.c (.d (.sl 2 ((r.stem ++ r.cycle).map StD.d))))), (35, .t (.c (.d (.sl 2 ((r.stem ++ r.cycle).map StD.d))))), (36, vi .i64 ((r.stem ++ r.cycle).length : Int)), (37, vi .i64 (j : Int))])
      (fun (z_ : (Nat)) => match z_ with | j => [(0, .box (sysC s)), (1, .box [.d (.sl 2 (r.stem.map StD.d)), .d (.sl 2 (r.cycle.map StD.d)), .d (.sl 1 (r.acts.map intD))])])
      (fun (z_ : (Nat)) => match z_ with | j => (r.stem ++ r.cycle).length - j) 0 ?_ h (by kernel_rfl) (by kernel_rfl) ?_
    ·exact ⟨Nat.zero_le _, rfl⟩
    ·clear h; rintro j a w hI h
     change St _ (F.of [(2, vp 0 0), (3, vp 1 0), (5, .t (.c (.d (.sl 2 ((r.stem ++ r.cycle).map StD.d))))), (35, .t (.c (.d (.sl 2 ((r.stem ++ r.cycle).map StD.d))))), (36, vi .i64 ((r.stem ++ r.cycle).length : Int)), (37, vi .i64 (j : Int))] [(0, .box (sysC s)), (1, .box [.d (.sl 2 (r.stem.map StD.d)), .d (.sl 2 (r.cycle.map StD.d)), .d (.sl 1 (r.acts.map intD))])]) a w at h
     obtain ⟨hI1, hI2⟩ := hI
     refine rSeq fam0ok 2 [] [(2, vp 0 0), (3, vp 1 0), (5, .t (.c (.d (.sl 2 ((r.stem ++ r.cycle).map StD.d))))), (35, .t (.c (.d (.sl 2 ((r.stem ++ r.cycle).map StD.d))))), (36, vi .i64 ((r.stem ++ r.cycle).length : Int)), (37, vi .i64 (j : Int)), (38, vb (decide ((j : Int) < ((r.stem ++ r.cycle).length : Int))))] [(0, .box (sysC s)), (1, .box [.d (.sl 2 (r.stem.map StD.d)), .d (.sl 2 (r.cycle.map StD.d)), .d (.sl 1 (r.acts.map intD))])] (by kernel_rfl) h ?_; clear h; intro a w h
     refine wp_seq ?_
     refine condS (decide ((j : Int) < ((r.stem ++ r.cycle).length : Int))) h rfl (fun hc => ?_) (fun hc => ?_)
     ·have hc7 := hc; clear hc
      have hc7' := of_decide_eq_true hc7
      refine wp_skip ?_
      refine then_n ?_
      refine wp_seq ?_
      refine wp_block ?_
      obtain ⟨x4, hx4⟩ : ∃ z_ : StD, (r.stem ++ r.cycle)[j]? = some z_ := ⟨_, List.getElem?_eq_getElem (by first | omega | (simp at *; omega))⟩
      have gx4 := hr.all x4 (List.mem_of_getElem? hx4)
      refine rSeq fam0ok 2 [(1, .gen _ _ _ fun _ _ _ _ => Op.idxD (d := 40) (t := 35) (k := .i64) kn_0 (map_at hx4 (f := StD.d)) (OV.tmp 37 _))] [(2, vp 0 0), (3, vp 1 0), (5, .t (.c (.d (.sl 2 ((r.stem ++ r.cycle).map StD.d))))), (6, vi .i64 (j : Int)), (7, vp 2 0), (35, .t (.c (.d (.sl 2 ((r.stem ++ r.cycle).map StD.d))))), (36, vi .i64 ((r.stem ++ r.cycle).length : Int)), (37, vi .i64 (j : Int))] [(0, .box (sysC s)), (1, .box [.d (.sl 2 (r.stem.map StD.d)), .d (.sl 2 (r.cycle.map StD.d)), .d (.sl 1 (r.acts.map intD))]), (2, .box [.d (.sl 1 (x4.locs.map intD)), .d (.sl 2 (x4.vals.map ziD))])] (by kernel_rfl) h ?_; clear h; intro a w h
      obtain ⟨x5, hx5⟩ : ∃ z_ : StD, r.cycle[0]? = some z_ := ⟨_, List.getElem?_eq_getElem (by first | omega | (simp at *; omega))⟩
      have gx5 := hr.cycle x5 (List.mem_of_getElem? hx5)
      refine rSeq fam0ok 3 [(2, .gen _ _ _ fun _ _ _ _ => Op.idxD (d := 44) (t := 43) (k := .i64) kn_0 (map_at hx5 (f := StD.d)) (OV.const (.int .i64 0) rfl))] [(2, vp 0 0), (3, vp 1 0), (5, .t (.c (.d (.sl 2 ((r.stem ++ r.cycle).map StD.d))))), (6, vi .i64 (j : Int)), (7, vp 2 0), (8, vp 3 0), (35, .t (.c (.d (.sl 2 ((r.stem ++ r.cycle).map StD.d))))), (36, vi .i64 ((r.stem ++ r.cycle).length : Int)), (37, vi .i64 (j : Int))] [(0, .box (sysC s)), (1, .box [.d (.sl 2 (r.stem.map StD.d)), .d (.sl 2 (r.cycle.map StD.d)), .d (.sl 1 (r.acts.map intD))]), (2, .box [.d (.sl 1 (x4.locs.map intD)), .d (.sl 2 (x4.vals.map ziD))]), (3, .box [.d (.sl 1 (x5.locs.map intD)), .d (.sl 2 (x5.vals.map ziD))])] (by kernel_rfl) h ?_; clear h; intro a w h
      refine wp_seq ?_
      refine rSeq fam0ok 4 [(1, .add .i64 (m := (j : Int)) (n := 1) (i64_id (by omega) (by omega))), (3, .len (c := (.d (.sl 2 ((r.stem ++ r.cycle).map StD.d)))) (n := (r.stem ++ r.cycle).length) (lenC_map _ _ _))] [(2, vp 0 0), (3, vp 1 0), (5, .t (.c (.d (.sl 2 ((r.stem ++ r.cycle).map StD.d))))), (6, vi .i64 (j : Int)), (7, vp 2 0), (8, vp 3 0), (35, .t (.c (.d (.sl 2 ((r.stem ++ r.cycle).map StD.d))))), (36, vi .i64 ((r.stem ++ r.cycle).length : Int)), (37, vi .i64 (j : Int)), (50, vb (decide (((j : Int) + 1) < ((r.stem ++ r.cycle).length : Int))))] [(0, .box (sysC s)), (1, .box [.d (.sl 2 (r.stem.map StD.d)), .d (.sl 2 (r.cycle.map StD.d)), .d (.sl 1 (r.acts.map intD))]), (2, .box [.d (.sl 1 (x4.locs.map intD)), .d (.sl 2 (x4.vals.map ziD))]), (3, .box [.d (.sl 1 (x5.locs.map intD)), .d (.sl 2 (x5.vals.map ziD))])] (by kernel_rfl) h ?_; clear h; intro a w h
      refine condS (decide (((j : Int) + 1) < ((r.stem ++ r.cycle).length : Int))) h rfl (fun hc => ?_) (fun hc => ?_)
      ·have hc8 := hc; clear hc
       have hc8' := of_decide_eq_true hc8
       obtain ⟨x6, hx6⟩ : ∃ z_ : StD, (r.stem ++ r.cycle)[j + 1]? = some z_ := ⟨_, List.getElem?_eq_getElem (by first | omega | (simp at *; omega))⟩
       have gx6 := hr.all x6 (List.mem_of_getElem? hx6)
       refine rS fam0ok 4 [(2, .add .i64 (m := (j : Int)) (n := 1) (i64_id (by omega) (by omega))), (3, .gen _ _ _ fun _ _ _ _ => Op.idxD (d := 54) (t := 51) (k := .i64) kn_0 (map_at hx6 (f := StD.d)) (OV.tmp 53 _))] [(2, vp 0 0), (3, vp 1 0), (5, .t (.c (.d (.sl 2 ((r.stem ++ r.cycle).map StD.d))))), (6, vi .i64 (j : Int)), (7, vp 2 0), (8, vp 3 0), (35, .t (.c (.d (.sl 2 ((r.stem ++ r.cycle).map StD.d))))), (36, vi .i64 ((r.stem ++ r.cycle).length : Int)), (37, vi .i64 (j : Int))] [(0, .box (sysC s)), (1, .box [.d (.sl 2 (r.stem.map StD.d)), .d (.sl 2 (r.cycle.map StD.d)), .d (.sl 1 (r.acts.map intD))]), (2, .box [.d (.sl 1 (x4.locs.map intD)), .d (.sl 2 (x4.vals.map ziD))]), (3, .box [.d (.sl 1 (x6.locs.map intD)), .d (.sl 2 (x6.vals.map ziD))])] (by kernel_rfl) h ?_; clear h; intro a w h
       refine then_n ?_
       obtain ⟨x7, hx7⟩ : ∃ z_ : Int, r.acts[j]? = some z_ := ⟨_, List.getElem?_eq_getElem (by first | omega | (simp at *; omega))⟩
       refine rSeq fam0ok 4 [(5, .gen _ _ _ fun _ _ _ _ => Op.idxD (d := 61) (t := 59) (k := .i64) tb_1 (map_at hx7 (f := intD)) (OV.tmp 60 _)), (8, .call (SLeads s x4 x7 x6 hL hs gx4 gx6) kn_8)] [(2, vp 0 0), (3, vp 1 0), (5, .t (.c (.d (.sl 2 ((r.stem ++ r.cycle).map StD.d))))), (35, .t (.c (.d (.sl 2 ((r.stem ++ r.cycle).map StD.d))))), (36, vi .i64 ((r.stem ++ r.cycle).length : Int)), (37, vi .i64 (j : Int)), (65, vb (!(leads s x4 x7 x6)))] [(0, .box (sysC s)), (1, .box [.d (.sl 2 (r.stem.map StD.d)), .d (.sl 2 (r.cycle.map StD.d)), .d (.sl 1 (r.acts.map intD))])] (by kernel_rfl) h ?_; clear h; intro a w h
       refine condS (!(leads s x4 x7 x6)) h rfl (fun hc => ?_) (fun hc => ?_)
       ·have hc9 := hc; clear hc
        have hc9' := hc9; (try simp at hc9')
        refine rSeq fam0ok 4 [] [(2, vp 0 0), (3, vp 1 0), (4, vb false), (5, .t (.c (.d (.sl 2 ((r.stem ++ r.cycle).map StD.d))))), (35, .t (.c (.d (.sl 2 ((r.stem ++ r.cycle).map StD.d))))), (36, vi .i64 ((r.stem ++ r.cycle).length : Int)), (37, vi .i64 (j : Int))] [(0, .box (sysC s)), (1, .box [.d (.sl 2 (r.stem.map StD.d)), .d (.sl 2 (r.cycle.map StD.d)), .d (.sl 1 (r.acts.map intD))])] (by kernel_rfl) h ?_; clear h; intro a w h
        refine wp_ret ?_
        refine block_r ?_
        refine then_r ?_
        refine then_r ?_
        refine block_r ?_
        refine then_r ?_
        refine retS [.c (.d (.raw (.bool false)))] h Exit.ret (.inl rfl)  rfl ⟨RV.tmp _ _ rfl, trivial⟩ ?_ (by kernel_rfl) (by kernel_rfl)
        have hz : right s r = false := by unfold right; rw [decide_eq_true ⟨by have := hc2; simp at this; intro h; exact this (List.length_eq_zero_iff.1 h), by have := hc4; simp at this; simp; omega⟩, Bool.true_and]; rw [hx2, Option.getD_some, (show (first s x2) = true from by simpa using hc6)]; rw [allN_fail (j := j) (by have := of_decide_eq_true hc7; omega) (show stepOk s r j = false from by unfold stepOk nxt; rw [if_pos (by have := of_decide_eq_true hc8; omega), hx4, hx7, hx6]; exact (show (leads s x4 x7 x6) = false from by simpa using hc9))]; rfl
        rw [hz]; first | done | rfl
       ·have hc10 := hc; clear hc
        have hc10' := hc10; (try simp at hc10')
        refine wp_skip ?_
        refine block_n ?_
        refine then_n ?_
        refine rS fam0ok 4 [(0, .add .i64 (m := (j : Int)) (n := 1) (i64_id (by omega) (by omega)))] [(2, vp 0 0), (3, vp 1 0), (5, .t (.c (.d (.sl 2 ((r.stem ++ r.cycle).map StD.d))))), (35, .t (.c (.d (.sl 2 ((r.stem ++ r.cycle).map StD.d))))), (36, vi .i64 ((r.stem ++ r.cycle).length : Int)), (37, vi .i64 ((j : Int) + 1))] [(0, .box (sysC s)), (1, .box [.d (.sl 2 (r.stem.map StD.d)), .d (.sl 2 (r.cycle.map StD.d)), .d (.sl 1 (r.acts.map intD))])] (by kernel_rfl) h ?_; clear h; intro a w h
        refine then_n ?_
        refine roundS (x := j) (y := j + 1) h ?_ ?_ (by kernel_rfl) (by kernel_rfl)
        ·exact ⟨by omega, allN_step hI2 (by unfold stepOk nxt; rw [if_pos (by have := of_decide_eq_true hc8; omega), hx4, hx7, hx6]; exact (show (leads s x4 x7 x6) = true from by simpa using hc10))⟩
        ·show (r.stem ++ r.cycle).length - (j + 1) < (r.stem ++ r.cycle).length - j
         omega
      ·have hc11 := hc; clear hc
       have hc11' := of_decide_eq_false hc11
       refine wp_skip ?_
       refine then_n ?_
       obtain ⟨x9, hx9⟩ : ∃ z_ : Int, r.acts[j]? = some z_ := ⟨_, List.getElem?_eq_getElem (by first | omega | (simp at *; omega))⟩
       refine rSeq fam0ok 4 [(5, .gen _ _ _ fun _ _ _ _ => Op.idxD (d := 61) (t := 59) (k := .i64) tb_1 (map_at hx9 (f := intD)) (OV.tmp 60 _)), (8, .call (SLeads s x4 x9 x5 hL hs gx4 gx5) kn_8)] [(2, vp 0 0), (3, vp 1 0), (5, .t (.c (.d (.sl 2 ((r.stem ++ r.cycle).map StD.d))))), (35, .t (.c (.d (.sl 2 ((r.stem ++ r.cycle).map StD.d))))), (36, vi .i64 ((r.stem ++ r.cycle).length : Int)), (37, vi .i64 (j : Int)), (65, vb (!(leads s x4 x9 x5)))] [(0, .box (sysC s)), (1, .box [.d (.sl 2 (r.stem.map StD.d)), .d (.sl 2 (r.cycle.map StD.d)), .d (.sl 1 (r.acts.map intD))])] (by kernel_rfl) h ?_; clear h; intro a w h
       refine condS (!(leads s x4 x9 x5)) h rfl (fun hc => ?_) (fun hc => ?_)
       ·have hc12 := hc; clear hc
        have hc12' := hc12; (try simp at hc12')
        refine rSeq fam0ok 4 [] [(2, vp 0 0), (3, vp 1 0), (4, vb false), (5, .t (.c (.d (.sl 2 ((r.stem ++ r.cycle).map StD.d))))), (35, .t (.c (.d (.sl 2 ((r.stem ++ r.cycle).map StD.d))))), (36, vi .i64 ((r.stem ++ r.cycle).length : Int)), (37, vi .i64 (j : Int))] [(0, .box (sysC s)), (1, .box [.d (.sl 2 (r.stem.map StD.d)), .d (.sl 2 (r.cycle.map StD.d)), .d (.sl 1 (r.acts.map intD))])] (by kernel_rfl) h ?_; clear h; intro a w h
        refine wp_ret ?_
        refine block_r ?_
        refine then_r ?_
        refine then_r ?_
        refine block_r ?_
        refine then_r ?_
        refine retS [.c (.d (.raw (.bool false)))] h Exit.ret (.inl rfl)  rfl ⟨RV.tmp _ _ rfl, trivial⟩ ?_ (by kernel_rfl) (by kernel_rfl)
        have hz : right s r = false := by unfold right; rw [decide_eq_true ⟨by have := hc2; simp at this; intro h; exact this (List.length_eq_zero_iff.1 h), by have := hc4; simp at this; simp; omega⟩, Bool.true_and]; rw [hx2, Option.getD_some, (show (first s x2) = true from by simpa using hc6)]; rw [allN_fail (j := j) (by have := of_decide_eq_true hc7; omega) (show stepOk s r j = false from by unfold stepOk nxt; rw [if_neg (by have := of_decide_eq_false hc11; omega), hx4, hx9, hx5]; exact (show (leads s x4 x9 x5) = false from by simpa using hc12))]; rfl
        rw [hz]; first | done | rfl
       ·have hc13 := hc; clear hc
        have hc13' := hc13; (try simp at hc13')
        refine wp_skip ?_
        refine block_n ?_
        refine then_n ?_
        refine rS fam0ok 4 [(0, .add .i64 (m := (j : Int)) (n := 1) (i64_id (by omega) (by omega)))] [(2, vp 0 0), (3, vp 1 0), (5, .t (.c (.d (.sl 2 ((r.stem ++ r.cycle).map StD.d))))), (35, .t (.c (.d (.sl 2 ((r.stem ++ r.cycle).map StD.d))))), (36, vi .i64 ((r.stem ++ r.cycle).length : Int)), (37, vi .i64 ((j : Int) + 1))] [(0, .box (sysC s)), (1, .box [.d (.sl 2 (r.stem.map StD.d)), .d (.sl 2 (r.cycle.map StD.d)), .d (.sl 1 (r.acts.map intD))])] (by kernel_rfl) h ?_; clear h; intro a w h
        refine then_n ?_
        refine roundS (x := j) (y := j + 1) h ?_ ?_ (by kernel_rfl) (by kernel_rfl)
        ·exact ⟨by omega, allN_step hI2 (by unfold stepOk nxt; rw [if_neg (by have := of_decide_eq_false hc11; omega), hx4, hx9, hx5]; exact (show (leads s x4 x9 x5) = true from by simpa using hc13))⟩
        ·show (r.stem ++ r.cycle).length - (j + 1) < (r.stem ++ r.cycle).length - j
         omega
     ·have hc14 := hc; clear hc
      have hc14' := of_decide_eq_false hc14
      refine wp_exit ?_
      refine then_x ?_
      refine then_x ?_
      refine inBlock_exit ?_
      refine then_n ?_
      refine rSeq fam0ok 4 [] [(4, vb true)] [] (by kernel_rfl) h ?_; clear h; intro a w h
      refine wp_ret ?_
      refine retS [.c (.d (.raw (.bool true)))] h Exit.ret (.inl rfl)  rfl ⟨RV.tmp _ _ rfl, trivial⟩ ?_ (by kernel_rfl) (by kernel_rfl)
      have hz : right s r = true := by unfold right; rw [decide_eq_true ⟨by have := hc2; simp at this; intro h; exact this (List.length_eq_zero_iff.1 h), by have := hc4; simp at this; simp; omega⟩, Bool.true_and]; rw [hx2, Option.getD_some, (show (first s x2) = true from by simpa using hc6)]; rw [show (r.stem ++ r.cycle).length = j by have := of_decide_eq_false hc14; omega, hI2]; rfl
      rw [hz]; first | done | rfl
set_option maxHeartbeats 4000000 in
theorem SholdsP (p : PropD) (x : StD) {L M : Nat} (hL : L + M ≤ 4000) (hp : PropOk L p) (hx : StOk M x) : Fn Tryz.prog 61 [] [.t (.agg ([.d (.raw (.bool p.at_)), .d (.raw (.int .i64 p.proc)), .d (.raw (.int .i64 p.loc)), .d (.raw (.int .i64 p.f.kind)), .d (.sl 3 (p.f.r.t.parts.map Part.d))] ++ zi p.f.r.t.k ++ [.d (.raw (.bool p.f.r.eq)), .d (.sl 6 (p.f.kids.map FormD.d))])), .t (.agg [.d (.sl 1 (x.locs.map intD)), .d (.sl 2 (x.vals.map ziD))])] (vb (holdsP p x)) [] := by
 have lx1 := hx.locs
 refine Fn.body Tryz.func61 rfl 34 rfl fun w H B a h => ?_
 refine rSeq fam0ok 0 [] [(2, vp 0 0), (3, vp 1 0), (4, vb false)] [(0, .box ([.d (.raw (.bool p.at_)), .d (.raw (.int .i64 p.proc)), .d (.raw (.int .i64 p.loc)), .d (.raw (.int .i64 p.f.kind)), .d (.sl 3 (p.f.r.t.parts.map Part.d))] ++ zi p.f.r.t.k ++ [.d (.raw (.bool p.f.r.eq)), .d (.sl 6 (p.f.kids.map FormD.d))])), (1, .box [.d (.sl 1 (x.locs.map intD)), .d (.sl 2 (x.vals.map ziD))])] (by kernel_rfl) h ?_; clear h; intro a w h
 refine wp_seq ?_
 refine rSeq fam0ok 2 [] [(2, vp 0 0), (3, vp 1 0), (4, vb false), (6, vb p.at_)] [(0, .box ([.d (.raw (.bool p.at_)), .d (.raw (.int .i64 p.proc)), .d (.raw (.int .i64 p.loc)), .d (.raw (.int .i64 p.f.kind)), .d (.sl 3 (p.f.r.t.parts.map Part.d))] ++ zi p.f.r.t.k ++ [.d (.raw (.bool p.f.r.eq)), .d (.sl 6 (p.f.kids.map FormD.d))])), (1, .box [.d (.sl 1 (x.locs.map intD)), .d (.sl 2 (x.vals.map ziD))])] (by kernel_rfl) h ?_; clear h; intro a w h
 refine condS p.at_ h rfl (fun hc => ?_) (fun hc => ?_)
 ·have hc1 := hc; clear hc
  rcases Bool.eq_false_or_eq_true (decide (p.proc ≥ 0)) with hc | hc
  ·have hc2 := hc; clear hc
   have hc2' := of_decide_eq_true hc2
   rcases Bool.eq_false_or_eq_true (decide (p.proc < (x.locs.length : Int))) with hc | hc
   ·have hc3 := hc; clear hc
    have hc3' := of_decide_eq_true hc3
    obtain ⟨k, hkk⟩ : ∃ k_ : Nat, p.proc = (k_ : Int) := ⟨_, (Int.toNat_of_nonneg (by have := of_decide_eq_true hc2; omega)).symm⟩
    replace h := h.conv (f' := F.of [(2, vp 0 0), (3, vp 1 0), (4, vb false), (6, vb p.at_)] [(0, .box ([.d (.raw (.bool p.at_)), .d (.raw (.int .i64 (k : Int))), .d (.raw (.int .i64 p.loc)), .d (.raw (.int .i64 p.f.kind)), .d (.sl 3 (p.f.r.t.parts.map Part.d))] ++ zi p.f.r.t.k ++ [.d (.raw (.bool p.f.r.eq)), .d (.sl 6 (p.f.kids.map FormD.d))])), (1, .box [.d (.sl 1 (x.locs.map intD)), .d (.sl 2 (x.vals.map ziD))])]) (by rw [hkk])
    obtain ⟨x1, hx1⟩ : ∃ z_ : Int, x.locs[k]? = some z_ := ⟨_, List.getElem?_eq_getElem (by first | omega | (simp at *; omega))⟩
    refine rSeq fam0ok 2 [(2, .cmp (op := .geq) (m := (k : Int)) (n := 0) (b := true) .i64 (show (decide ((k : Int) ≥ 0)) = true from by rw [← hkk]; exact hc2)), (8, .len (c := (.d (.sl 1 (x.locs.map intD)))) (n := x.locs.length) (lenC_map _ _ _)), (9, .cmp (op := .lss) (m := (k : Int)) (n := (x.locs.length : Int)) (b := true) .i64 (show (decide ((k : Int) < (x.locs.length : Int))) = true from by rw [← hkk]; exact hc3)), (16, .gen _ _ _ fun _ _ _ _ => Op.idxD (d := 23) (t := 20) (k := .i64) tb_1 (map_at hx1 (f := intD)) (OV.tmp 22 _))] [(2, vp 0 0), (3, vp 1 0), (4, vb (x1 == p.loc))] [(0, .box ([.d (.raw (.bool p.at_)), .d (.raw (.int .i64 (k : Int))), .d (.raw (.int .i64 p.loc)), .d (.raw (.int .i64 p.f.kind)), .d (.sl 3 (p.f.r.t.parts.map Part.d))] ++ zi p.f.r.t.k ++ [.d (.raw (.bool p.f.r.eq)), .d (.sl 6 (p.f.kids.map FormD.d))])), (1, .box [.d (.sl 1 (x.locs.map intD)), .d (.sl 2 (x.vals.map ziD))])] (by kernel_rfl) h ?_; clear h; intro a w h
    refine wp_ret ?_
    refine then_r ?_
    refine retS [.c (.d (.raw (.bool (x1 == p.loc))))] h Exit.ret (.inl rfl)  rfl ⟨RV.tmp _ _ rfl, trivial⟩ ?_ (by kernel_rfl) (by kernel_rfl)
    have hz : holdsP p x = (x1 == p.loc) := by unfold holdsP; rw [if_pos hc1]; rw [decide_eq_true (p := 0 ≤ p.proc ∧ p.proc < (x.locs.length : Int)) (by have := of_decide_eq_true hc2; have := of_decide_eq_true hc3; omega), show p.proc.toNat = k by omega, hx1]; rfl
    rw [hz]; first | done | rfl
   ·have hc4 := hc; clear hc
    have hc4' := of_decide_eq_false hc4
    refine rSeq fam0ok 2 [(2, .cmp (op := .geq) (m := p.proc) (n := 0) (b := true) .i64 hc2), (8, .len (c := (.d (.sl 1 (x.locs.map intD)))) (n := x.locs.length) (lenC_map _ _ _)), (9, .cmp (op := .lss) (m := p.proc) (n := (x.locs.length : Int)) (b := false) .i64 hc4)] [(2, vp 0 0), (3, vp 1 0), (4, vb false)] [(0, .box ([.d (.raw (.bool p.at_)), .d (.raw (.int .i64 p.proc)), .d (.raw (.int .i64 p.loc)), .d (.raw (.int .i64 p.f.kind)), .d (.sl 3 (p.f.r.t.parts.map Part.d))] ++ zi p.f.r.t.k ++ [.d (.raw (.bool p.f.r.eq)), .d (.sl 6 (p.f.kids.map FormD.d))])), (1, .box [.d (.sl 1 (x.locs.map intD)), .d (.sl 2 (x.vals.map ziD))])] (by kernel_rfl) h ?_; clear h; intro a w h
    refine wp_ret ?_
    refine then_r ?_
    refine retS [.c (.d (.raw (.bool false)))] h Exit.ret (.inl rfl)  rfl ⟨RV.tmp _ _ rfl, trivial⟩ ?_ (by kernel_rfl) (by kernel_rfl)
    have hz : holdsP p x = (false) := by unfold holdsP; rw [if_pos hc1]; rw [decide_eq_false (by have := of_decide_eq_false hc4; omega)]; rfl
    rw [hz]; first | done | rfl
  ·have hc5 := hc; clear hc
   have hc5' := of_decide_eq_false hc5
   refine rSeq fam0ok 2 [(2, .cmp (op := .geq) (m := p.proc) (n := 0) (b := false) .i64 hc5)] [(2, vp 0 0), (3, vp 1 0), (4, vb false)] [(0, .box ([.d (.raw (.bool p.at_)), .d (.raw (.int .i64 p.proc)), .d (.raw (.int .i64 p.loc)), .d (.raw (.int .i64 p.f.kind)), .d (.sl 3 (p.f.r.t.parts.map Part.d))] ++ zi p.f.r.t.k ++ [.d (.raw (.bool p.f.r.eq)), .d (.sl 6 (p.f.kids.map FormD.d))])), (1, .box [.d (.sl 1 (x.locs.map intD)), .d (.sl 2 (x.vals.map ziD))])] (by kernel_rfl) h ?_; clear h; intro a w h
   refine wp_ret ?_
   refine then_r ?_
   refine retS [.c (.d (.raw (.bool false)))] h Exit.ret (.inl rfl)  rfl ⟨RV.tmp _ _ rfl, trivial⟩ ?_ (by kernel_rfl) (by kernel_rfl)
   have hz : holdsP p x = (false) := by unfold holdsP; rw [if_pos hc1]; rw [decide_eq_false (by have := of_decide_eq_false hc5; omega)]; rfl
   rw [hz]; first | done | rfl
 ·have hc6 := hc; clear hc
  refine wp_skip ?_
  refine then_n ?_
  refine rSeq fam0ok 2 [(4, .call (SHolds x.vals (L := L) (M := M) (by omega) hx.vok p.f hp.1 hp.2) ke_4)] [(4, vb (FormD.holds x.vals p.f))] [] (by kernel_rfl) h ?_; clear h; intro a w h
  refine wp_ret ?_
  refine retS [.c (.d (.raw (.bool (FormD.holds x.vals p.f))))] h Exit.ret (.inl rfl)  rfl ⟨RV.tmp _ _ rfl, trivial⟩ ?_ (by kernel_rfl) (by kernel_rfl)
  have hz : holdsP p x = (FormD.holds x.vals p.f) := by unfold holdsP; rw [if_neg (by rw [hc6]; exact Bool.noConfusion)]
  rw [hz]; first | done | rfl
set_option maxHeartbeats 4000000 in
theorem SLetter (ps : List PropD) (x : StD) {L M : Nat} (hL : L + M ≤ 4000) (hps : ∀ p ∈ ps, PropOk L p) (hpl : ps.length ≤ 1000) (hx : StOk M x) : Fn Tryz.prog 32 [] [.t (.c (.d (.sl 9 (ps.map PropD.d)))), .t (.agg [.d (.sl 1 (x.locs.map intD)), .d (.sl 2 (x.vals.map ziD))])] (.t (.c (.d (.sl 1 ((letter ps x).map boolD))))) [] := by
 refine Fn.body Tryz.func32 rfl 22 rfl fun w H B a h => ?_
 refine rSeq fam0ok 0 [] [(0, .t (.c (.d (.sl 9 (ps.map PropD.d))))), (3, vp 0 0), (4, .t (.c (.d (.raw nilV))))] [(0, .box [.d (.sl 1 (x.locs.map intD)), .d (.sl 2 (x.vals.map ziD))])] (by kernel_rfl) h ?_; clear h; intro a w h
 refine rSeq fam0ok 1 [] [(0, .t (.c (.d (.sl 9 (ps.map PropD.d))))), (3, vp 0 0), (4, .t (.c (.d (.raw nilV)))), (5, .t (.c (.d (.raw nilV))))] [(0, .box [.d (.sl 1 (x.locs.map intD)), .d (.sl 2 (x.vals.map ziD))])] (by kernel_rfl) h ?_; clear h; intro a w h
 refine wp_seq ?_
 replace h := nilOSs 5 0 1 1 4 (.t (.c (.d (.raw nilV)))) [(0, .t (.c (.d (.sl 9 (ps.map PropD.d))))), (3, vp 0 0), (4, .t (.c (.d (.raw nilV)))), (5, .t (.c (.own 1 0)))] [(0, .box [.d (.sl 1 (x.locs.map intD)), .d (.sl 2 (x.vals.map ziD))]), (1, .row 4 1 ([].map boolD))] h (by kernel_rfl) rfl rfl (by kernel_rfl) (by kernel_rfl)
 refine rSeq fam0ok 2 [(1, .len (c := (.d (.sl 9 (ps.map PropD.d)))) (n := ps.length) (lenC_map _ _ _))] [(3, vp 0 0), (4, .t (.c (.d (.raw nilV)))), (5, .t (.c (.own 1 0))), (8, .t (.c (.d (.sl 9 (ps.map PropD.d))))), (9, vi .i64 (ps.length : Int)), (10, vi .i64 0)] [(0, .box [.d (.sl 1 (x.locs.map intD)), .d (.sl 2 (x.vals.map ziD))]), (1, .row 4 1 ([].map boolD))] (by kernel_rfl) h ?_; clear h; intro a w h
 refine wp_block ?_
 refine loopS (ι := (Nat)) (fun (z_ : (Nat)) => match z_ with | j => j ≤ ps.length)
   (fun (z_ : (Nat)) => match z_ with | j => [(3, vp 0 0), (4, .t (.c (.d (.raw nilV)))), (5, .t (.c (.own 1 ((ps.take j).map (fun p => holdsP p x)).length))), (8, .t (.c (.d (.sl 9 (ps.map PropD.d))))), (9, vi .i64 (ps.length : Int)), (10, vi .i64 (j : Int))])
   (fun (z_ : (Nat)) => match z_ with | j => [(0, .box [.d (.sl 1 (x.locs.map intD)), .d (.sl 2 (x.vals.map ziD))]), (1, .row 4 1 (((ps.take j).map (fun p => holdsP p x)).map boolD))])
   (fun (z_ : (Nat)) => match z_ with | j => ps.length - j) 0 ?_ h (by kernel_rfl) (by kernel_rfl) ?_
 ·exact Nat.zero_le _
 ·clear h; rintro j a w hI h
  change St _ (F.of [(3, vp 0 0), (4, .t (.c (.d (.raw nilV)))), (5, .t (.c (.own 1 ((ps.take j).map (fun p => holdsP p x)).length))), (8, .t (.c (.d (.sl 9 (ps.map PropD.d))))), (9, vi .i64 (ps.length : Int)), (10, vi .i64 (j : Int))] [(0, .box [.d (.sl 1 (x.locs.map intD)), .d (.sl 2 (x.vals.map ziD))]), (1, .row 4 1 (((ps.take j).map (fun p => holdsP p x)).map boolD))]) a w at h
  have hfl : ((ps.take j).map (fun p => holdsP p x)).length ≤ j := by rw [List.length_map, List.length_take]; omega
  refine rSeq fam0ok 2 [] [(3, vp 0 0), (4, .t (.c (.d (.raw nilV)))), (5, .t (.c (.own 1 ((ps.take j).map (fun p => holdsP p x)).length))), (8, .t (.c (.d (.sl 9 (ps.map PropD.d))))), (9, vi .i64 (ps.length : Int)), (10, vi .i64 (j : Int)), (11, vb (decide ((j : Int) < (ps.length : Int))))] [(0, .box [.d (.sl 1 (x.locs.map intD)), .d (.sl 2 (x.vals.map ziD))]), (1, .row 4 1 (((ps.take j).map (fun p => holdsP p x)).map boolD))] (by kernel_rfl) h ?_; clear h; intro a w h
  refine wp_seq ?_
  refine condS (decide ((j : Int) < (ps.length : Int))) h rfl (fun hc => ?_) (fun hc => ?_)
  ·have hc1 := hc; clear hc
   have hc1' := of_decide_eq_true hc1
   refine wp_skip ?_
   refine then_n ?_
   refine wp_seq ?_
   refine wp_block ?_
   obtain ⟨x1, hx1⟩ : ∃ z_ : PropD, ps[j]? = some z_ := ⟨_, List.getElem?_eq_getElem (by first | omega | (simp at *; omega))⟩
   refine rSeq fam0ok 2 [(0, .gen _ _ _ fun _ _ _ _ => Op.idxD (d := 12) (t := 8) (k := .i64) kn_10 (map_at hx1 (f := PropD.d)) (OV.tmp 10 _))] [(3, vp 0 0), (4, .t (.c (.d (.raw nilV)))), (5, .t (.c (.own 1 ((ps.take j).map (fun p => holdsP p x)).length))), (7, vp 2 0), (8, .t (.c (.d (.sl 9 (ps.map PropD.d))))), (9, vi .i64 (ps.length : Int)), (10, vi .i64 (j : Int))] [(0, .box [.d (.sl 1 (x.locs.map intD)), .d (.sl 2 (x.vals.map ziD))]), (1, .row 4 1 (((ps.take j).map (fun p => holdsP p x)).map boolD)), (2, .box ([.d (.raw (.bool x1.at_)), .d (.raw (.int .i64 x1.proc)), .d (.raw (.int .i64 x1.loc)), .d (.raw (.int .i64 x1.f.kind)), .d (.sl 3 (x1.f.r.t.parts.map Part.d))] ++ zi x1.f.r.t.k ++ [.d (.raw (.bool x1.f.r.eq)), .d (.sl 6 (x1.f.kids.map FormD.d))]))] (by kernel_rfl) h ?_; clear h; intro a w h
   refine rS fam0ok 3 [(3, .call (SholdsP x1 x hL (hps x1 (List.mem_of_getElem? hx1)) hx) kn_11), (4, .gen _ _ _ fun _ _ _ _ => Op.buildD (d := 18) (len := 1) (rows := [holdsP x1 x].map boolD) (rs := [(17, vb (holdsP x1 x))]) kn_12 (.cons (i := 0) (OV.tmp 17 _) (.nil)) (by kernel_rfl) rfl (by simp [boolD]) (by decide) (by decide)), (5, .gen _ _ _ fun _ _ _ _ => Op.appOD (d := 19) (t := 14) (u := 18) (n := 1) (n' := 3) (len := ((ps.take j).map (fun p => holdsP p x)).length) (len' := (((ps.take j).map (fun p => holdsP p x)) ++ [holdsP x1 x]).length) (rows := ((ps.take j).map (fun p => holdsP p x)).map boolD) (rows2 := [holdsP x1 x].map boolD) (rows' := (((ps.take j).map (fun p => holdsP p x)) ++ [holdsP x1 x]).map boolD) kn_13 (by first | exact (List.length_map _).symm | simp) (by first | (rw [List.length_append, List.length_map]; done) | simp) (by simp) (by simp [boolD]) (by first | omega | (simp at *; done) | (simp at *; omega)))] [(3, vp 0 0), (4, .t (.c (.d (.raw nilV)))), (5, .t (.c (.own 3 (((ps.take j).map (fun p => holdsP p x)) ++ [holdsP x1 x]).length))), (8, .t (.c (.d (.sl 9 (ps.map PropD.d))))), (9, vi .i64 (ps.length : Int)), (10, vi .i64 (j : Int))] [(0, .box [.d (.sl 1 (x.locs.map intD)), .d (.sl 2 (x.vals.map ziD))]), (3, .row 4 1 ((((ps.take j).map (fun p => holdsP p x)) ++ [holdsP x1 x]).map boolD))] (by kernel_rfl) h ?_; clear h; intro a w h
   refine block_n ?_
   refine then_n ?_
   refine rS fam0ok 4 [(0, .add .i64 (m := (j : Int)) (n := 1) (i64_id (by omega) (by omega)))] [(3, vp 0 0), (4, .t (.c (.d (.raw nilV)))), (5, .t (.c (.own 3 (((ps.take j).map (fun p => holdsP p x)) ++ [holdsP x1 x]).length))), (8, .t (.c (.d (.sl 9 (ps.map PropD.d))))), (9, vi .i64 (ps.length : Int)), (10, vi .i64 ((j : Int) + 1))] [(0, .box [.d (.sl 1 (x.locs.map intD)), .d (.sl 2 (x.vals.map ziD))]), (3, .row 4 1 ((((ps.take j).map (fun p => holdsP p x)) ++ [holdsP x1 x]).map boolD))] (by kernel_rfl) h ?_; clear h; intro a w h
   refine then_n ?_
   replace h := h.conv (f' := F.of [(3, vp 0 0), (4, .t (.c (.d (.raw nilV)))), (5, .t (.c (.own 3 ((ps.take (j + 1)).map (fun p => holdsP p x)).length))), (8, .t (.c (.d (.sl 9 (ps.map PropD.d))))), (9, vi .i64 (ps.length : Int)), (10, vi .i64 ((j : Int) + 1))] [(0, .box [.d (.sl 1 (x.locs.map intD)), .d (.sl 2 (x.vals.map ziD))]), (3, .row 4 1 (((ps.take (j + 1)).map (fun p => holdsP p x)).map boolD))]) (congrArg (fun (z_ : List Bool) => F.of [(3, vp 0 0), (4, .t (.c (.d (.raw nilV)))), (5, .t (.c (.own 3 z_.length))), (8, .t (.c (.d (.sl 9 (ps.map PropD.d))))), (9, vi .i64 (ps.length : Int)), (10, vi .i64 ((j : Int) + 1))] [(0, .box [.d (.sl 1 (x.locs.map intD)), .d (.sl 2 (x.vals.map ziD))]), (3, .row 4 1 (z_.map boolD))]) (show ((((ps.take j).map (fun p => holdsP p x)) ++ [holdsP x1 x]) : List Bool) = ((ps.take (j + 1)).map (fun p => holdsP p x)) from (by rw [← map_snoc hx1])))
   replace h := renS 3 1 [(3, vp 0 0), (4, .t (.c (.d (.raw nilV)))), (5, .t (.c (.own 1 ((ps.take (j + 1)).map (fun p => holdsP p x)).length))), (8, .t (.c (.d (.sl 9 (ps.map PropD.d))))), (9, vi .i64 (ps.length : Int)), (10, vi .i64 ((j : Int) + 1))] [(0, .box [.d (.sl 1 (x.locs.map intD)), .d (.sl 2 (x.vals.map ziD))]), (1, .row 4 1 (((ps.take (j + 1)).map (fun p => holdsP p x)).map boolD))] h (by kernel_rfl) (by kernel_rfl) (by kernel_rfl)
   refine roundS (x := j) (y := j + 1) h ?_ ?_ (by kernel_rfl) (by kernel_rfl)
   ·have := at_lt hx1
    show j + 1 ≤ ps.length
    omega
   ·show ps.length - (j + 1) < ps.length - j
    have := at_lt hx1; omega
  ·have hc2 := hc; clear hc
   have hc2' := of_decide_eq_false hc2
   refine wp_exit ?_
   refine then_x ?_
   refine then_x ?_
   refine inBlock_exit ?_
   refine then_n ?_
   refine rSeq fam0ok 4 [] [(4, .t (.c (.own 1 ((ps.take j).map (fun p => holdsP p x)).length)))] [(1, .row 4 1 (((ps.take j).map (fun p => holdsP p x)).map boolD))] (by kernel_rfl) h ?_; clear h; intro a w h
   refine wp_ret ?_
   replace h := h.conv (f' := F.of [(4, .t (.c (.own 1 (ps.map (fun p => holdsP p x)).length)))] [(1, .row 4 1 ((ps.map (fun p => holdsP p x)).map boolD))]) (congrArg (fun (z_ : List Bool) => F.of [(4, .t (.c (.own 1 z_.length)))] [(1, .row 4 1 (z_.map boolD))]) (show (((ps.take j).map (fun p => holdsP p x)) : List Bool) = (ps.map (fun p => holdsP p x)) from (by rw [List.take_of_length_le (by omega)])))
   replace h := pubS 1 1 4 ((ps.map (fun p => holdsP p x)).map boolD) [(4, .t (.c (.d (.sl 1 ((ps.map (fun p => holdsP p x)).map boolD)))))] [] h rfl (show AllEq _ [(ps.map (fun p => holdsP p x)).length] from ⟨by first | exact (List.length_map _).symm | (simp; done) | (simp; omega), trivial⟩) trivial (by kernel_rfl) (by kernel_rfl)
   refine retS [.c (.d (.sl 1 ((ps.map (fun p => holdsP p x)).map boolD)))] h Exit.ret (.inl rfl)  rfl ⟨RV.tmp _ _ rfl, trivial⟩ ?_ (by kernel_rfl) (by kernel_rfl)
   rfl
set_option maxHeartbeats 4000000 in
theorem Sletters (ps : List PropD) (xs : List StD) {L M : Nat} (hL : L + M ≤ 4000) (hps : ∀ p ∈ ps, PropOk L p) (hpl : ps.length ≤ 1000) (hxs : ∀ x ∈ xs, StOk M x) (hl : xs.length ≤ 1000) : Fn Tryz.prog 57 [] [.t (.c (.d (.sl 9 (ps.map PropD.d)))), .t (.c (.d (.sl 2 (xs.map StD.d))))] (.t (.c (.d (.sl 1 ((xs.map (letter ps)).map (slD 1 boolD)))))) [] := by
 refine Fn.body Tryz.func57 rfl 22 rfl fun w H B a h => ?_
 refine rSeq fam0ok 0 [] [(0, .t (.c (.d (.sl 9 (ps.map PropD.d))))), (1, .t (.c (.d (.sl 2 (xs.map StD.d))))), (4, .t (.c (.d (.raw nilV))))] [] (by kernel_rfl) h ?_; clear h; intro a w h
 refine rSeq fam0ok 0 [] [(0, .t (.c (.d (.sl 9 (ps.map PropD.d))))), (1, .t (.c (.d (.sl 2 (xs.map StD.d))))), (4, .t (.c (.d (.raw nilV)))), (5, .t (.c (.d (.raw nilV))))] [] (by kernel_rfl) h ?_; clear h; intro a w h
 refine wp_seq ?_
 replace h := nilOSs 5 0 0 1 73 (.t (.c (.d (.raw nilV)))) [(0, .t (.c (.d (.sl 9 (ps.map PropD.d))))), (1, .t (.c (.d (.sl 2 (xs.map StD.d))))), (4, .t (.c (.d (.raw nilV)))), (5, .t (.c (.own 0 0)))] [(0, .row 73 1 ([].map (slD 1 boolD)))] h (by kernel_rfl) rfl rfl (by kernel_rfl) (by kernel_rfl)
 refine rSeq fam0ok 1 [(1, .len (c := (.d (.sl 2 (xs.map StD.d)))) (n := xs.length) (lenC_map _ _ _))] [(0, .t (.c (.d (.sl 9 (ps.map PropD.d))))), (4, .t (.c (.d (.raw nilV)))), (5, .t (.c (.own 0 0))), (8, .t (.c (.d (.sl 2 (xs.map StD.d))))), (9, vi .i64 (xs.length : Int)), (10, vi .i64 0)] [(0, .row 73 1 ([].map (slD 1 boolD)))] (by kernel_rfl) h ?_; clear h; intro a w h
 refine wp_block ?_
 refine loopS (ι := (Nat)) (fun (z_ : (Nat)) => match z_ with | j => j ≤ xs.length)
   (fun (z_ : (Nat)) => match z_ with | j => [(0, .t (.c (.d (.sl 9 (ps.map PropD.d))))), (4, .t (.c (.d (.raw nilV)))), (5, .t (.c (.own 0 ((xs.take j).map (letter ps)).length))), (8, .t (.c (.d (.sl 2 (xs.map StD.d))))), (9, vi .i64 (xs.length : Int)), (10, vi .i64 (j : Int))])
   (fun (z_ : (Nat)) => match z_ with | j => [(0, .row 73 1 (((xs.take j).map (letter ps)).map (slD 1 boolD)))])
   (fun (z_ : (Nat)) => match z_ with | j => xs.length - j) 0 ?_ h (by kernel_rfl) (by kernel_rfl) ?_
 ·exact Nat.zero_le _
 ·clear h; rintro j a w hI h
  change St _ (F.of [(0, .t (.c (.d (.sl 9 (ps.map PropD.d))))), (4, .t (.c (.d (.raw nilV)))), (5, .t (.c (.own 0 ((xs.take j).map (letter ps)).length))), (8, .t (.c (.d (.sl 2 (xs.map StD.d))))), (9, vi .i64 (xs.length : Int)), (10, vi .i64 (j : Int))] [(0, .row 73 1 (((xs.take j).map (letter ps)).map (slD 1 boolD)))]) a w at h
  have hfl : ((xs.take j).map (letter ps)).length ≤ j := by rw [List.length_map, List.length_take]; omega
  refine rSeq fam0ok 1 [] [(0, .t (.c (.d (.sl 9 (ps.map PropD.d))))), (4, .t (.c (.d (.raw nilV)))), (5, .t (.c (.own 0 ((xs.take j).map (letter ps)).length))), (8, .t (.c (.d (.sl 2 (xs.map StD.d))))), (9, vi .i64 (xs.length : Int)), (10, vi .i64 (j : Int)), (11, vb (decide ((j : Int) < (xs.length : Int))))] [(0, .row 73 1 (((xs.take j).map (letter ps)).map (slD 1 boolD)))] (by kernel_rfl) h ?_; clear h; intro a w h
  refine wp_seq ?_
  refine condS (decide ((j : Int) < (xs.length : Int))) h rfl (fun hc => ?_) (fun hc => ?_)
  ·have hc1 := hc; clear hc
   have hc1' := of_decide_eq_true hc1
   refine wp_skip ?_
   refine then_n ?_
   refine wp_seq ?_
   refine wp_block ?_
   obtain ⟨x1, hx1⟩ : ∃ z_ : StD, xs[j]? = some z_ := ⟨_, List.getElem?_eq_getElem (by first | omega | (simp at *; omega))⟩
   refine rSeq fam0ok 1 [(0, .gen _ _ _ fun _ _ _ _ => Op.idxD (d := 12) (t := 8) (k := .i64) kn_0 (map_at hx1 (f := StD.d)) (OV.tmp 10 _))] [(0, .t (.c (.d (.sl 9 (ps.map PropD.d))))), (4, .t (.c (.d (.raw nilV)))), (5, .t (.c (.own 0 ((xs.take j).map (letter ps)).length))), (7, vp 1 0), (8, .t (.c (.d (.sl 2 (xs.map StD.d))))), (9, vi .i64 (xs.length : Int)), (10, vi .i64 (j : Int))] [(0, .row 73 1 (((xs.take j).map (letter ps)).map (slD 1 boolD))), (1, .box [.d (.sl 1 (x1.locs.map intD)), .d (.sl 2 (x1.vals.map ziD))])] (by kernel_rfl) h ?_; clear h; intro a w h
   refine rS fam0ok 2 [(3, .call (SLetter ps x1 hL hps hpl (hxs x1 (List.mem_of_getElem? hx1))) kn_14), (4, .gen _ _ _ fun _ _ _ _ => Op.buildD (d := 18) (len := 1) (rows := [(letter ps x1)].map (slD 1 boolD)) (rs := [(17, .t (.c (.d (.sl 1 ((letter ps x1).map boolD)))))]) kn_15 (.cons (i := 0) (OV.tmp 17 _) (.nil)) (by kernel_rfl) rfl (by simp [slD]) (by decide) (by decide)), (5, .gen _ _ _ fun _ _ _ _ => Op.appOD (d := 19) (t := 14) (u := 18) (n := 0) (n' := 2) (len := ((xs.take j).map (letter ps)).length) (len' := (((xs.take j).map (letter ps)) ++ [(letter ps x1)]).length) (rows := ((xs.take j).map (letter ps)).map (slD 1 boolD)) (rows2 := [(letter ps x1)].map (slD 1 boolD)) (rows' := (((xs.take j).map (letter ps)) ++ [(letter ps x1)]).map (slD 1 boolD)) kn_16 (by first | exact (List.length_map _).symm | simp) (by first | (rw [List.length_append, List.length_map]; done) | simp) (by simp) (by simp [slD]) (by first | omega | (simp at *; done) | (simp at *; omega)))] [(0, .t (.c (.d (.sl 9 (ps.map PropD.d))))), (4, .t (.c (.d (.raw nilV)))), (5, .t (.c (.own 2 (((xs.take j).map (letter ps)) ++ [(letter ps x1)]).length))), (8, .t (.c (.d (.sl 2 (xs.map StD.d))))), (9, vi .i64 (xs.length : Int)), (10, vi .i64 (j : Int))] [(2, .row 73 1 ((((xs.take j).map (letter ps)) ++ [(letter ps x1)]).map (slD 1 boolD)))] (by kernel_rfl) h ?_; clear h; intro a w h
   refine block_n ?_
   refine then_n ?_
   refine rS fam0ok 3 [(0, .add .i64 (m := (j : Int)) (n := 1) (i64_id (by omega) (by omega)))] [(0, .t (.c (.d (.sl 9 (ps.map PropD.d))))), (4, .t (.c (.d (.raw nilV)))), (5, .t (.c (.own 2 (((xs.take j).map (letter ps)) ++ [(letter ps x1)]).length))), (8, .t (.c (.d (.sl 2 (xs.map StD.d))))), (9, vi .i64 (xs.length : Int)), (10, vi .i64 ((j : Int) + 1))] [(2, .row 73 1 ((((xs.take j).map (letter ps)) ++ [(letter ps x1)]).map (slD 1 boolD)))] (by kernel_rfl) h ?_; clear h; intro a w h
   refine then_n ?_
   replace h := h.conv (f' := F.of [(0, .t (.c (.d (.sl 9 (ps.map PropD.d))))), (4, .t (.c (.d (.raw nilV)))), (5, .t (.c (.own 2 ((xs.take (j + 1)).map (letter ps)).length))), (8, .t (.c (.d (.sl 2 (xs.map StD.d))))), (9, vi .i64 (xs.length : Int)), (10, vi .i64 ((j : Int) + 1))] [(2, .row 73 1 (((xs.take (j + 1)).map (letter ps)).map (slD 1 boolD)))]) (congrArg (fun (z_ : List (List Bool)) => F.of [(0, .t (.c (.d (.sl 9 (ps.map PropD.d))))), (4, .t (.c (.d (.raw nilV)))), (5, .t (.c (.own 2 z_.length))), (8, .t (.c (.d (.sl 2 (xs.map StD.d))))), (9, vi .i64 (xs.length : Int)), (10, vi .i64 ((j : Int) + 1))] [(2, .row 73 1 (z_.map (slD 1 boolD)))]) (show ((((xs.take j).map (letter ps)) ++ [(letter ps x1)]) : List (List Bool)) = ((xs.take (j + 1)).map (letter ps)) from (by rw [← map_snoc hx1])))
   replace h := renS 2 0 [(0, .t (.c (.d (.sl 9 (ps.map PropD.d))))), (4, .t (.c (.d (.raw nilV)))), (5, .t (.c (.own 0 ((xs.take (j + 1)).map (letter ps)).length))), (8, .t (.c (.d (.sl 2 (xs.map StD.d))))), (9, vi .i64 (xs.length : Int)), (10, vi .i64 ((j : Int) + 1))] [(0, .row 73 1 (((xs.take (j + 1)).map (letter ps)).map (slD 1 boolD)))] h (by kernel_rfl) (by kernel_rfl) (by kernel_rfl)
   refine roundS (x := j) (y := j + 1) h ?_ ?_ (by kernel_rfl) (by kernel_rfl)
   ·have := at_lt hx1
    show j + 1 ≤ xs.length
    omega
   ·show xs.length - (j + 1) < xs.length - j
    have := at_lt hx1; omega
  ·have hc2 := hc; clear hc
   have hc2' := of_decide_eq_false hc2
   refine wp_exit ?_
   refine then_x ?_
   refine then_x ?_
   refine inBlock_exit ?_
   refine then_n ?_
   refine rSeq fam0ok 3 [] [(4, .t (.c (.own 0 ((xs.take j).map (letter ps)).length)))] [(0, .row 73 1 (((xs.take j).map (letter ps)).map (slD 1 boolD)))] (by kernel_rfl) h ?_; clear h; intro a w h
   refine wp_ret ?_
   replace h := h.conv (f' := F.of [(4, .t (.c (.own 0 (xs.map (letter ps)).length)))] [(0, .row 73 1 ((xs.map (letter ps)).map (slD 1 boolD)))]) (congrArg (fun (z_ : List (List Bool)) => F.of [(4, .t (.c (.own 0 z_.length)))] [(0, .row 73 1 (z_.map (slD 1 boolD)))]) (show (((xs.take j).map (letter ps)) : List (List Bool)) = (xs.map (letter ps)) from (by rw [List.take_of_length_le (by omega)])))
   replace h := pubS 0 1 73 ((xs.map (letter ps)).map (slD 1 boolD)) [(4, .t (.c (.d (.sl 1 ((xs.map (letter ps)).map (slD 1 boolD))))))] [] h rfl (show AllEq _ [(xs.map (letter ps)).length] from ⟨by first | exact (List.length_map _).symm | (simp; done) | (simp; omega), trivial⟩) trivial (by kernel_rfl) (by kernel_rfl)
   refine retS [.c (.d (.sl 1 ((xs.map (letter ps)).map (slD 1 boolD))))] h Exit.ret (.inl rfl)  rfl ⟨RV.tmp _ _ rfl, trivial⟩ ?_ (by kernel_rfl) (by kernel_rfl)
   rfl
def spell (ps : List PropD) (r : RunD) : WordD := ⟨r.stem.map (letter ps), r.cycle.map (letter ps)⟩
set_option maxHeartbeats 4000000 in
theorem SSpell (ps : List PropD) (r : RunD) {L M : Nat} (hL : L + M ≤ 4000) (hps : ∀ p ∈ ps, PropOk L p) (hpl : ps.length ≤ 1000) (hr : RunOk M r) : Fn Tryz.prog 25 [] [.t (.c (.d (.sl 9 (ps.map PropD.d)))), .t (.agg [.d (.sl 2 (r.stem.map StD.d)), .d (.sl 2 (r.cycle.map StD.d)), .d (.sl 1 (r.acts.map intD))])] (.t (.agg [.d (.sl 1 ((spell ps r).stem.map (slD 1 boolD))), .d (.sl 1 ((spell ps r).cycle.map (slD 1 boolD)))])) [] := by
 have lr := hr.len
 refine Fn.body Tryz.func25 rfl 14 rfl fun w H B a h => ?_
 refine rSeq fam0ok 0 [] [(0, .t (.c (.d (.sl 9 (ps.map PropD.d))))), (3, vp 0 0), (4, vp 1 0)] [(0, .box [.d (.sl 2 (r.stem.map StD.d)), .d (.sl 2 (r.cycle.map StD.d)), .d (.sl 1 (r.acts.map intD))]), (1, .box [.d (.raw nilV), .d (.raw nilV)])] (by kernel_rfl) h ?_; clear h; intro a w h
 refine rSeq fam0ok 2 [(3, .call (Sletters ps r.stem hL hps hpl hr.stem (by omega)) kn_17), (7, .call (Sletters ps r.cycle hL hps hpl hr.cycle (by omega)) kn_17)] [(4, vp 1 0)] [(1, .box [.d (.sl 1 ((r.stem.map (letter ps)).map (slD 1 boolD))), .d (.sl 1 ((r.cycle.map (letter ps)).map (slD 1 boolD)))])] (by kernel_rfl) h ?_; clear h; intro a w h
 refine wp_ret ?_
 refine retS [.agg [.d (.sl 1 ((r.stem.map (letter ps)).map (slD 1 boolD))), .d (.sl 1 ((r.cycle.map (letter ps)).map (slD 1 boolD)))]] h Exit.ret (.inl rfl)  rfl ⟨RV.agg _ 1 0 _ _ _ _ kn_18 rfl rfl rfl rfl, trivial⟩ ?_ (by kernel_rfl) (by kernel_rfl)
 rfl
end Go.Proofs.YtmohlifepfjmdaaGreat.S
end
