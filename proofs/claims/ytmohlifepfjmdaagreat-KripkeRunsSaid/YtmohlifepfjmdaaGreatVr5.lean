/-
  Part 5 of the proof of the statement KripkeRuns: the walk through the program and the references lifted to the given row. It holds for every input.
-/
import Derived.Test.YtmohlifepfjmdaaGreatVr4
set_option maxRecDepth 100000
section
namespace Go.Proofs.YtmohlifepfjmdaaGreat.S
open Go.RowKit

set_option maxHeartbeats 4000000 in
theorem SRmove (c : ActD) (v : Nat) (hl : c.moves.length ≤ 20) : Fn Tryz.prog 40 [] [.t (.agg ([.d (.raw (.int .i64 c.proc)), .d (.raw (.int .i64 c.from_)), .d (.raw (.int .i64 c.to_)), .d (.raw (.int .i64 c.guard.kind)), .d (.sl 3 (c.guard.r.t.parts.map Part.d))] ++ zi c.guard.r.t.k ++ [.d (.raw (.bool c.guard.r.eq)), .d (.sl 6 (c.guard.kids.map FormD.d)), .d (.sl 5 (c.moves.map MoveD.d))])), vi .i64 (v : Int)] (vi .i64 (idxB (fun m => m.v == (v : Int)) c.moves 0)) [] := by
 refine Fn.body Tryz.func40 rfl 22 rfl fun w H B a h => ?_
 refine rSeq fam0ok 0 [] [(1, vi .i64 (v : Int)), (2, vp 0 0), (4, vi .i64 0)] [(0, .box ([.d (.raw (.int .i64 c.proc)), .d (.raw (.int .i64 c.from_)), .d (.raw (.int .i64 c.to_)), .d (.raw (.int .i64 c.guard.kind)), .d (.sl 3 (c.guard.r.t.parts.map Part.d))] ++ zi c.guard.r.t.k ++ [.d (.raw (.bool c.guard.r.eq)), .d (.sl 6 (c.guard.kids.map FormD.d)), .d (.sl 5 (c.moves.map MoveD.d))]))] (by kernel_rfl) h ?_; clear h; intro a w h
 refine wp_seq ?_
 refine rSeq fam0ok 1 [] [(1, vi .i64 (v : Int)), (2, vp 0 0), (4, vi .i64 0), (5, vi .i64 0)] [(0, .box ([.d (.raw (.int .i64 c.proc)), .d (.raw (.int .i64 c.from_)), .d (.raw (.int .i64 c.to_)), .d (.raw (.int .i64 c.guard.kind)), .d (.sl 3 (c.guard.r.t.parts.map Part.d))] ++ zi c.guard.r.t.k ++ [.d (.raw (.bool c.guard.r.eq)), .d (.sl 6 (c.guard.kids.map FormD.d)), .d (.sl 5 (c.moves.map MoveD.d))]))] (by kernel_rfl) h ?_; clear h; intro a w h
 refine wp_block ?_
 refine loopS (ι := (Nat)) (fun (z_ : (Nat)) => match z_ with | j => j ≤ c.moves.length ∧ idxB (fun m => m.v == (v : Int)) c.moves 0 = idxB (fun m => m.v == (v : Int)) (c.moves.drop j) j)
   (fun (z_ : (Nat)) => match z_ with | j => [(1, vi .i64 (v : Int)), (2, vp 0 0), (5, vi .i64 (j : Int))])
   (fun (z_ : (Nat)) => match z_ with | j => [(0, .box ([.d (.raw (.int .i64 c.proc)), .d (.raw (.int .i64 c.from_)), .d (.raw (.int .i64 c.to_)), .d (.raw (.int .i64 c.guard.kind)), .d (.sl 3 (c.guard.r.t.parts.map Part.d))] ++ zi c.guard.r.t.k ++ [.d (.raw (.bool c.guard.r.eq)), .d (.sl 6 (c.guard.kids.map FormD.d)), .d (.sl 5 (c.moves.map MoveD.d))]))])
   (fun (z_ : (Nat)) => match z_ with | j => c.moves.length - j) 0 ?_ h (by kernel_rfl) (by kernel_rfl) ?_
 ·exact ⟨Nat.zero_le _, rfl⟩
 ·clear h; rintro j a w hI h
  change St _ (F.of [(1, vi .i64 (v : Int)), (2, vp 0 0), (5, vi .i64 (j : Int))] [(0, .box ([.d (.raw (.int .i64 c.proc)), .d (.raw (.int .i64 c.from_)), .d (.raw (.int .i64 c.to_)), .d (.raw (.int .i64 c.guard.kind)), .d (.sl 3 (c.guard.r.t.parts.map Part.d))] ++ zi c.guard.r.t.k ++ [.d (.raw (.bool c.guard.r.eq)), .d (.sl 6 (c.guard.kids.map FormD.d)), .d (.sl 5 (c.moves.map MoveD.d))]))]) a w at h
  obtain ⟨hI1, hI2⟩ := hI
  refine wp_seq ?_
  refine rSeq fam0ok 1 [(3, .len (c := (.d (.sl 5 (c.moves.map MoveD.d)))) (n := c.moves.length) (lenC_map _ _ _))] [(1, vi .i64 (v : Int)), (2, vp 0 0), (5, vi .i64 (j : Int)), (10, vb (decide ((j : Int) < (c.moves.length : Int))))] [(0, .box ([.d (.raw (.int .i64 c.proc)), .d (.raw (.int .i64 c.from_)), .d (.raw (.int .i64 c.to_)), .d (.raw (.int .i64 c.guard.kind)), .d (.sl 3 (c.guard.r.t.parts.map Part.d))] ++ zi c.guard.r.t.k ++ [.d (.raw (.bool c.guard.r.eq)), .d (.sl 6 (c.guard.kids.map FormD.d)), .d (.sl 5 (c.moves.map MoveD.d))]))] (by kernel_rfl) h ?_; clear h; intro a w h
  refine condS (decide ((j : Int) < (c.moves.length : Int))) h rfl (fun hc => ?_) (fun hc => ?_)
  ·have hc1 := hc; clear hc
   have hc1' := of_decide_eq_true hc1
   refine wp_skip ?_
   refine then_n ?_
   refine wp_seq ?_
   refine wp_block ?_
   obtain ⟨x1, hx1⟩ : ∃ z_ : MoveD, c.moves[j]? = some z_ := ⟨_, List.getElem?_eq_getElem (by first | omega | (simp at *; omega))⟩
   refine rSeq fam0ok 1 [(3, .gen _ _ _ fun _ _ _ _ => Op.idxD (d := 16) (t := 14) (k := .i64) ki_2 (map_at hx1 (f := MoveD.d)) (OV.tmp 15 _))] [(1, vi .i64 (v : Int)), (2, vp 0 0), (5, vi .i64 (j : Int)), (20, vb (x1.v == (v : Int)))] [(0, .box ([.d (.raw (.int .i64 c.proc)), .d (.raw (.int .i64 c.from_)), .d (.raw (.int .i64 c.to_)), .d (.raw (.int .i64 c.guard.kind)), .d (.sl 3 (c.guard.r.t.parts.map Part.d))] ++ zi c.guard.r.t.k ++ [.d (.raw (.bool c.guard.r.eq)), .d (.sl 6 (c.guard.kids.map FormD.d)), .d (.sl 5 (c.moves.map MoveD.d))]))] (by kernel_rfl) h ?_; clear h; intro a w h
   refine condS (x1.v == (v : Int)) h rfl (fun hc => ?_) (fun hc => ?_)
   ·have hc2 := hc; clear hc
    have hc2' := hc2; (try simp at hc2')
    refine rSeq fam0ok 1 [] [(1, vi .i64 (v : Int)), (2, vp 0 0), (4, vi .i64 (j : Int)), (5, vi .i64 (j : Int))] [(0, .box ([.d (.raw (.int .i64 c.proc)), .d (.raw (.int .i64 c.from_)), .d (.raw (.int .i64 c.to_)), .d (.raw (.int .i64 c.guard.kind)), .d (.sl 3 (c.guard.r.t.parts.map Part.d))] ++ zi c.guard.r.t.k ++ [.d (.raw (.bool c.guard.r.eq)), .d (.sl 6 (c.guard.kids.map FormD.d)), .d (.sl 5 (c.moves.map MoveD.d))]))] (by kernel_rfl) h ?_; clear h; intro a w h
    refine wp_ret ?_
    refine block_r ?_
    refine then_r ?_
    refine then_r ?_
    refine block_r ?_
    refine then_r ?_
    refine retS [.c (.d (.raw (.int .i64 (j : Int))))] h Exit.ret (.inl rfl)  rfl ⟨RV.tmp _ _ rfl, trivial⟩ ?_ (by kernel_rfl) (by kernel_rfl)
    have hz : idxB (fun m => m.v == (v : Int)) c.moves 0 = (j : Int) := by rw [hI2, idxB_at hx1, if_pos hc2]
    rw [hz]; first | done | rfl
   ·have hc3 := hc; clear hc
    have hc3' := hc3; (try simp at hc3')
    refine wp_skip ?_
    refine block_n ?_
    refine then_n ?_
    refine rS fam0ok 1 [(1, .add .i64 (m := (j : Int)) (n := 1) (i64_id (by omega) (by omega)))] [(1, vi .i64 (v : Int)), (2, vp 0 0), (5, vi .i64 ((j : Int) + 1))] [(0, .box ([.d (.raw (.int .i64 c.proc)), .d (.raw (.int .i64 c.from_)), .d (.raw (.int .i64 c.to_)), .d (.raw (.int .i64 c.guard.kind)), .d (.sl 3 (c.guard.r.t.parts.map Part.d))] ++ zi c.guard.r.t.k ++ [.d (.raw (.bool c.guard.r.eq)), .d (.sl 6 (c.guard.kids.map FormD.d)), .d (.sl 5 (c.moves.map MoveD.d))]))] (by kernel_rfl) h ?_; clear h; intro a w h
    refine then_n ?_
    refine roundS (x := j) (y := j + 1) h ?_ ?_ (by kernel_rfl) (by kernel_rfl)
    ·exact ⟨by have := at_lt hx1; omega, by rw [hI2, idxB_at hx1, if_neg (by rw [hc3]; exact Bool.noConfusion)]⟩
    ·show c.moves.length - (j + 1) < c.moves.length - j
     have := at_lt hx1; omega
  ·have hc4 := hc; clear hc
   have hc4' := of_decide_eq_false hc4
   refine wp_exit ?_
   refine then_x ?_
   refine then_x ?_
   refine inBlock_exit ?_
   refine then_n ?_
   refine rSeq fam0ok 1 [] [(4, vi .i64 (-1))] [] (by kernel_rfl) h ?_; clear h; intro a w h
   refine wp_ret ?_
   refine retS [.c (.d (.raw (.int .i64 (-1))))] h Exit.ret (.inl rfl)  rfl ⟨RV.tmp _ _ rfl, trivial⟩ ?_ (by kernel_rfl) (by kernel_rfl)
   have hz : idxB (fun m => m.v == (v : Int)) c.moves 0 = -1 := by rw [hI2, List.drop_of_length_le (by omega)]; rfl
   rw [hz]; first | done | rfl
theorem there_no {s : SysD} {m : MoveD} (h1 : decide (m.v < 0) = false) (h2 : decide (m.v ≥ (s.vars.length : Int)) = false) : (!there s m) = false := by
 have := of_decide_eq_false h1; have := of_decide_eq_false h2
 unfold there; rw [decide_eq_true (by omega), decide_eq_true (by omega)]; rfl
theorem there_lo {s : SysD} {m : MoveD} (h1 : decide (m.v < 0) = true) : (!there s m) = true := by
 have := of_decide_eq_true h1; unfold there; rw [decide_eq_false (by omega)]; rfl
theorem there_hi {s : SysD} {m : MoveD} (h2 : decide (m.v ≥ (s.vars.length : Int)) = true) : (!there s m) = true := by
 have := of_decide_eq_true h2; unfold there; rw [decide_eq_false (p := m.v < (s.vars.length : Int)) (by omega), Bool.and_false]; rfl
set_option maxHeartbeats 4000000 in
theorem SRbeginsN (s : SysD) (x : StD) (i : Int) {L M : Nat} (_hL : L + M ≤ 4000) (_hs : SysOk L s) (_hx : StOk M x) (hi : actAt s i = none) : Fn Tryz.prog 39 [] [.t (.agg (sysC s)), .t (.agg [.d (.sl 1 (x.locs.map intD)), .d (.sl 2 (x.vals.map ziD))]), vi .i64 i] (vb false) [] := by
 refine Fn.body Tryz.func39 rfl 100 rfl fun w H B a h => ?_
 refine rSeq fam0ok 0 [] [(2, vi .i64 i), (3, vp 0 0), (4, vp 1 0), (6, vb false)] [(0, .box (sysC s)), (1, .box [.d (.sl 1 (x.locs.map intD)), .d (.sl 2 (x.vals.map ziD))])] (by kernel_rfl) h ?_; clear h; intro a w h
 refine wp_seq ?_
 rcases Bool.eq_false_or_eq_true (decide (i < 0)) with hc | hc
 ·have hc1 := hc; clear hc
  have hc1' := of_decide_eq_true hc1
  refine rSeq fam0ok 2 [(1, .cmp (op := .lss) (m := i) (n := 0) (b := true) .i64 hc1)] [(2, vi .i64 i), (3, vp 0 0), (4, vp 1 0), (6, vb false), (23, vb true)] [(0, .box (sysC s)), (1, .box [.d (.sl 1 (x.locs.map intD)), .d (.sl 2 (x.vals.map ziD))])] (by kernel_rfl) h ?_; clear h; intro a w h
  refine condS true h rfl (fun hc => ?_) (fun hc => ?_)
  ·clear hc
   refine rSeq fam0ok 2 [] [(2, vi .i64 i), (3, vp 0 0), (4, vp 1 0), (6, vb false)] [(0, .box (sysC s)), (1, .box [.d (.sl 1 (x.locs.map intD)), .d (.sl 2 (x.vals.map ziD))])] (by kernel_rfl) h ?_; clear h; intro a w h
   refine wp_ret ?_
   refine then_r ?_
   refine retS [.c (.d (.raw (.bool false)))] h Exit.ret (.inl rfl)  rfl ⟨RV.tmp _ _ rfl, trivial⟩ ?_ (by kernel_rfl) (by kernel_rfl)
   rfl
  ·cases hc
 ·have hc2 := hc; clear hc
  have hc2' := of_decide_eq_false hc2
  refine rSeq fam0ok 2 [(1, .cmp (op := .lss) (m := i) (n := 0) (b := false) .i64 hc2), (6, .len (c := (.d (.sl 10 (s.acts.map ActD.d)))) (n := s.acts.length) (lenC_map _ _ _)), (7, .cmp (op := .geq) (m := i) (n := (s.acts.length : Int)) (b := true) .i64 (decide_eq_true (by have := actAt_none hi; have := of_decide_eq_false hc2; omega)))] [(2, vi .i64 i), (3, vp 0 0), (4, vp 1 0), (6, vb false), (23, vb true)] [(0, .box (sysC s)), (1, .box [.d (.sl 1 (x.locs.map intD)), .d (.sl 2 (x.vals.map ziD))])] (by kernel_rfl) h ?_; clear h; intro a w h
  refine condS true h rfl (fun hc => ?_) (fun hc => ?_)
  ·clear hc
   refine rSeq fam0ok 2 [] [(2, vi .i64 i), (3, vp 0 0), (4, vp 1 0), (6, vb false)] [(0, .box (sysC s)), (1, .box [.d (.sl 1 (x.locs.map intD)), .d (.sl 2 (x.vals.map ziD))])] (by kernel_rfl) h ?_; clear h; intro a w h
   refine wp_ret ?_
   refine then_r ?_
   refine retS [.c (.d (.raw (.bool false)))] h Exit.ret (.inl rfl)  rfl ⟨RV.tmp _ _ rfl, trivial⟩ ?_ (by kernel_rfl) (by kernel_rfl)
   rfl
  ·cases hc
set_option maxHeartbeats 4000000 in
theorem SRbeginsS (s : SysD) (x : StD) (ki : Nat) (c : ActD) {L M : Nat} (hL : L + M ≤ 4000) (hs : SysOk L s) (hx : StOk M x) (hka : s.acts[ki]? = some c) : Fn Tryz.prog 39 [] [.t (.agg (sysC s)), .t (.agg [.d (.sl 1 (x.locs.map intD)), .d (.sl 2 (x.vals.map ziD))]), vi .i64 (ki : Int)] (vb (enabled s x c)) [] := by
 have lx1 := hx.locs
 have lx2 := hx.vals
 have ls1 := hs.vars
 have ls2 := hs.procs
 have lki := at_lt hka
 have hc : ActOk L c := hs.act c (List.mem_of_getElem? hka)
 have lmv := hc.len
 refine Fn.body Tryz.func39 rfl 100 rfl fun w H B a h => ?_
 refine rSeq fam0ok 0 [] [(2, vi .i64 (ki : Int)), (3, vp 0 0), (4, vp 1 0), (6, vb false)] [(0, .box (sysC s)), (1, .box [.d (.sl 1 (x.locs.map intD)), .d (.sl 2 (x.vals.map ziD))])] (by kernel_rfl) h ?_; clear h; intro a w h
 refine wp_seq ?_
 refine rSeq fam0ok 2 [(1, .cmp (op := .lss) (m := (ki : Int)) (n := 0) (b := false) .i64 (show (decide ((ki : Int) < 0)) = false from decide_eq_false (by omega))), (6, .len (c := (.d (.sl 10 (s.acts.map ActD.d)))) (n := s.acts.length) (lenC_map _ _ _)), (7, .cmp (op := .geq) (m := (ki : Int)) (n := (s.acts.length : Int)) (b := false) .i64 (show (decide ((ki : Int) ≥ (s.acts.length : Int))) = false from decide_eq_false (by omega))), (12, .call (SRFits s x (L := L) (M := M) (by omega) hs hx) kh_6)] [(2, vi .i64 (ki : Int)), (3, vp 0 0), (4, vp 1 0), (6, vb false), (23, vb (!(fits s x)))] [(0, .box (sysC s)), (1, .box [.d (.sl 1 (x.locs.map intD)), .d (.sl 2 (x.vals.map ziD))])] (by kernel_rfl) h ?_; clear h; intro a w h
 refine condS (!(fits s x)) h rfl (fun hc => ?_) (fun hc => ?_)
 ·have hc1 := hc; clear hc
  have hc1' := hc1; (try simp at hc1')
  refine rSeq fam0ok 2 [] [(2, vi .i64 (ki : Int)), (3, vp 0 0), (4, vp 1 0), (6, vb false)] [(0, .box (sysC s)), (1, .box [.d (.sl 1 (x.locs.map intD)), .d (.sl 2 (x.vals.map ziD))])] (by kernel_rfl) h ?_; clear h; intro a w h
  refine wp_ret ?_
  refine then_r ?_
  refine retS [.c (.d (.raw (.bool false)))] h Exit.ret (.inl rfl)  rfl ⟨RV.tmp _ _ rfl, trivial⟩ ?_ (by kernel_rfl) (by kernel_rfl)
  have hz : enabled s x c = false := by unfold enabled; rw [(show (fits s x) = false from by simpa using hc1)]; rfl
  rw [hz]; first | done | rfl
 ·have hc2 := hc; clear hc
  have hc2' := hc2; (try simp at hc2')
  refine wp_skip ?_
  refine then_n ?_
  refine rSeq fam0ok 2 [(3, .gen _ _ _ fun _ _ _ _ => Op.idxD (d := 27) (t := 25) (k := .i64) ki_1 (map_at hka (f := ActD.d)) (OV.tmp 26 _))] [(3, vp 0 0), (4, vp 1 0), (6, vb false), (7, vp 2 0)] [(0, .box (sysC s)), (1, .box [.d (.sl 1 (x.locs.map intD)), .d (.sl 2 (x.vals.map ziD))]), (2, .box ([.d (.raw (.int .i64 c.proc)), .d (.raw (.int .i64 c.from_)), .d (.raw (.int .i64 c.to_)), .d (.raw (.int .i64 c.guard.kind)), .d (.sl 3 (c.guard.r.t.parts.map Part.d))] ++ zi c.guard.r.t.k ++ [.d (.raw (.bool c.guard.r.eq)), .d (.sl 6 (c.guard.kids.map FormD.d)), .d (.sl 5 (c.moves.map MoveD.d))]))] (by kernel_rfl) h ?_; clear h; intro a w h
  refine wp_seq ?_
  rcases Bool.eq_false_or_eq_true (decide (c.proc < 0)) with hc | hc
  ·have hc3 := hc; clear hc
   have hc3' := of_decide_eq_true hc3
   refine rSeq fam0ok 3 [(2, .cmp (op := .lss) (m := c.proc) (n := 0) (b := true) .i64 hc3)] [(3, vp 0 0), (4, vp 1 0), (6, vb false), (7, vp 2 0), (68, vb true)] [(0, .box (sysC s)), (1, .box [.d (.sl 1 (x.locs.map intD)), .d (.sl 2 (x.vals.map ziD))]), (2, .box ([.d (.raw (.int .i64 c.proc)), .d (.raw (.int .i64 c.from_)), .d (.raw (.int .i64 c.to_)), .d (.raw (.int .i64 c.guard.kind)), .d (.sl 3 (c.guard.r.t.parts.map Part.d))] ++ zi c.guard.r.t.k ++ [.d (.raw (.bool c.guard.r.eq)), .d (.sl 6 (c.guard.kids.map FormD.d)), .d (.sl 5 (c.moves.map MoveD.d))]))] (by kernel_rfl) h ?_; clear h; intro a w h
   refine condS true h rfl (fun hc => ?_) (fun hc => ?_)
   ·clear hc
    refine rSeq fam0ok 3 [] [(3, vp 0 0), (4, vp 1 0), (6, vb false), (7, vp 2 0)] [(0, .box (sysC s)), (1, .box [.d (.sl 1 (x.locs.map intD)), .d (.sl 2 (x.vals.map ziD))]), (2, .box ([.d (.raw (.int .i64 c.proc)), .d (.raw (.int .i64 c.from_)), .d (.raw (.int .i64 c.to_)), .d (.raw (.int .i64 c.guard.kind)), .d (.sl 3 (c.guard.r.t.parts.map Part.d))] ++ zi c.guard.r.t.k ++ [.d (.raw (.bool c.guard.r.eq)), .d (.sl 6 (c.guard.kids.map FormD.d)), .d (.sl 5 (c.moves.map MoveD.d))]))] (by kernel_rfl) h ?_; clear h; intro a w h
    refine wp_ret ?_
    refine then_r ?_
    refine retS [.c (.d (.raw (.bool false)))] h Exit.ret (.inl rfl)  rfl ⟨RV.tmp _ _ rfl, trivial⟩ ?_ (by kernel_rfl) (by kernel_rfl)
    have hz : enabled s x c = (false) := by unfold enabled; rw [(show (fits s x) = true from by simpa using hc2), Bool.true_and]; rw [decide_eq_false (p := 0 ≤ c.proc ∧ c.proc < (s.procs.length : Int)) (by have := of_decide_eq_true hc3; omega)]; rfl
    rw [hz]; first | done | rfl
   ·cases hc
  ·have hc4 := hc; clear hc
   have hc4' := of_decide_eq_false hc4
   rcases Bool.eq_false_or_eq_true (decide (c.proc ≥ (s.procs.length : Int))) with hc | hc
   ·have hc5 := hc; clear hc
    have hc5' := of_decide_eq_true hc5
    refine rSeq fam0ok 3 [(2, .cmp (op := .lss) (m := c.proc) (n := 0) (b := false) .i64 hc4), (8, .len (c := (.d (.sl 3 (s.procs.map ProcD.d)))) (n := s.procs.length) (lenC_map _ _ _)), (9, .cmp (op := .geq) (m := c.proc) (n := (s.procs.length : Int)) (b := true) .i64 hc5)] [(3, vp 0 0), (4, vp 1 0), (6, vb false), (7, vp 2 0), (68, vb true)] [(0, .box (sysC s)), (1, .box [.d (.sl 1 (x.locs.map intD)), .d (.sl 2 (x.vals.map ziD))]), (2, .box ([.d (.raw (.int .i64 c.proc)), .d (.raw (.int .i64 c.from_)), .d (.raw (.int .i64 c.to_)), .d (.raw (.int .i64 c.guard.kind)), .d (.sl 3 (c.guard.r.t.parts.map Part.d))] ++ zi c.guard.r.t.k ++ [.d (.raw (.bool c.guard.r.eq)), .d (.sl 6 (c.guard.kids.map FormD.d)), .d (.sl 5 (c.moves.map MoveD.d))]))] (by kernel_rfl) h ?_; clear h; intro a w h
    refine condS true h rfl (fun hc => ?_) (fun hc => ?_)
    ·clear hc
     refine rSeq fam0ok 3 [] [(3, vp 0 0), (4, vp 1 0), (6, vb false), (7, vp 2 0)] [(0, .box (sysC s)), (1, .box [.d (.sl 1 (x.locs.map intD)), .d (.sl 2 (x.vals.map ziD))]), (2, .box ([.d (.raw (.int .i64 c.proc)), .d (.raw (.int .i64 c.from_)), .d (.raw (.int .i64 c.to_)), .d (.raw (.int .i64 c.guard.kind)), .d (.sl 3 (c.guard.r.t.parts.map Part.d))] ++ zi c.guard.r.t.k ++ [.d (.raw (.bool c.guard.r.eq)), .d (.sl 6 (c.guard.kids.map FormD.d)), .d (.sl 5 (c.moves.map MoveD.d))]))] (by kernel_rfl) h ?_; clear h; intro a w h
     refine wp_ret ?_
     refine then_r ?_
     refine retS [.c (.d (.raw (.bool false)))] h Exit.ret (.inl rfl)  rfl ⟨RV.tmp _ _ rfl, trivial⟩ ?_ (by kernel_rfl) (by kernel_rfl)
     have hz : enabled s x c = (false) := by unfold enabled; rw [(show (fits s x) = true from by simpa using hc2), Bool.true_and]; rw [decide_eq_false (p := 0 ≤ c.proc ∧ c.proc < (s.procs.length : Int)) (by have := of_decide_eq_true hc5; omega)]; rfl
     rw [hz]; first | done | rfl
    ·cases hc
   ·have hc6 := hc; clear hc
    have hc6' := of_decide_eq_false hc6
    have hfl := fits_len (show (fits s x) = true from by simpa using hc2)
    obtain ⟨k, hkk⟩ : ∃ k_ : Nat, c.proc = (k_ : Int) := ⟨_, (Int.toNat_of_nonneg (by have := of_decide_eq_false hc4; omega)).symm⟩
    replace h := h.conv (f' := F.of [(3, vp 0 0), (4, vp 1 0), (6, vb false), (7, vp 2 0)] [(0, .box (sysC s)), (1, .box [.d (.sl 1 (x.locs.map intD)), .d (.sl 2 (x.vals.map ziD))]), (2, .box ([.d (.raw (.int .i64 (k : Int))), .d (.raw (.int .i64 c.from_)), .d (.raw (.int .i64 c.to_)), .d (.raw (.int .i64 c.guard.kind)), .d (.sl 3 (c.guard.r.t.parts.map Part.d))] ++ zi c.guard.r.t.k ++ [.d (.raw (.bool c.guard.r.eq)), .d (.sl 6 (c.guard.kids.map FormD.d)), .d (.sl 5 (c.moves.map MoveD.d))]))]) (by rw [hkk])
    obtain ⟨x2, hx2⟩ : ∃ z_ : Int, x.locs[k]? = some z_ := ⟨_, List.getElem?_eq_getElem (by first | omega | (simp at *; omega))⟩
    rcases Bool.eq_false_or_eq_true (x2 != c.from_) with hc | hc
    ·have hc7 := hc; clear hc
     have hc7' := hc7; (try simp at hc7')
     refine rSeq fam0ok 3 [(2, .cmp (op := .lss) (m := (k : Int)) (n := 0) (b := false) .i64 (show (decide ((k : Int) < 0)) = false from by rw [← hkk]; exact hc4)), (8, .len (c := (.d (.sl 3 (s.procs.map ProcD.d)))) (n := s.procs.length) (lenC_map _ _ _)), (9, .cmp (op := .geq) (m := (k : Int)) (n := (s.procs.length : Int)) (b := false) .i64 (show (decide ((k : Int) ≥ (s.procs.length : Int))) = false from by rw [← hkk]; exact hc6)), (16, .gen _ _ _ fun _ _ _ _ => Op.idxD (d := 45) (t := 42) (k := .i64) tb_1 (map_at hx2 (f := intD)) (OV.tmp 44 _)), (20, .cmp (op := .neq) (m := x2) (n := c.from_) (b := true) .i64 hc7)] [(3, vp 0 0), (4, vp 1 0), (6, vb false), (7, vp 2 0), (68, vb true)] [(0, .box (sysC s)), (1, .box [.d (.sl 1 (x.locs.map intD)), .d (.sl 2 (x.vals.map ziD))]), (2, .box ([.d (.raw (.int .i64 (k : Int))), .d (.raw (.int .i64 c.from_)), .d (.raw (.int .i64 c.to_)), .d (.raw (.int .i64 c.guard.kind)), .d (.sl 3 (c.guard.r.t.parts.map Part.d))] ++ zi c.guard.r.t.k ++ [.d (.raw (.bool c.guard.r.eq)), .d (.sl 6 (c.guard.kids.map FormD.d)), .d (.sl 5 (c.moves.map MoveD.d))]))] (by kernel_rfl) h ?_; clear h; intro a w h
     refine condS true h rfl (fun hc => ?_) (fun hc => ?_)
     ·clear hc
      refine rSeq fam0ok 3 [] [(3, vp 0 0), (4, vp 1 0), (6, vb false), (7, vp 2 0)] [(0, .box (sysC s)), (1, .box [.d (.sl 1 (x.locs.map intD)), .d (.sl 2 (x.vals.map ziD))]), (2, .box ([.d (.raw (.int .i64 (k : Int))), .d (.raw (.int .i64 c.from_)), .d (.raw (.int .i64 c.to_)), .d (.raw (.int .i64 c.guard.kind)), .d (.sl 3 (c.guard.r.t.parts.map Part.d))] ++ zi c.guard.r.t.k ++ [.d (.raw (.bool c.guard.r.eq)), .d (.sl 6 (c.guard.kids.map FormD.d)), .d (.sl 5 (c.moves.map MoveD.d))]))] (by kernel_rfl) h ?_; clear h; intro a w h
      refine wp_ret ?_
      refine then_r ?_
      refine retS [.c (.d (.raw (.bool false)))] h Exit.ret (.inl rfl)  rfl ⟨RV.tmp _ _ rfl, trivial⟩ ?_ (by kernel_rfl) (by kernel_rfl)
      have hz : enabled s x c = (false) := by unfold enabled; rw [(show (fits s x) = true from by simpa using hc2), Bool.true_and]; rw [decide_eq_true (p := 0 ≤ c.proc ∧ c.proc < (s.procs.length : Int)) (by have := of_decide_eq_false hc4; have := of_decide_eq_false hc6; omega), show c.proc.toNat = k by omega, hx2, Option.getD_some, Bool.true_and]; rw [show (x2 == c.from_) = false by have := hc7; simpa using this]; rfl
      rw [hz]; first | done | rfl
     ·cases hc
    ·have hc8 := hc; clear hc
     have hc8' := hc8; (try simp at hc8')
     rcases Bool.eq_false_or_eq_true (decide (c.to_ < 0)) with hc | hc
     ·have hc9 := hc; clear hc
      have hc9' := of_decide_eq_true hc9
      refine rSeq fam0ok 3 [(2, .cmp (op := .lss) (m := (k : Int)) (n := 0) (b := false) .i64 (show (decide ((k : Int) < 0)) = false from by rw [← hkk]; exact hc4)), (8, .len (c := (.d (.sl 3 (s.procs.map ProcD.d)))) (n := s.procs.length) (lenC_map _ _ _)), (9, .cmp (op := .geq) (m := (k : Int)) (n := (s.procs.length : Int)) (b := false) .i64 (show (decide ((k : Int) ≥ (s.procs.length : Int))) = false from by rw [← hkk]; exact hc6)), (16, .gen _ _ _ fun _ _ _ _ => Op.idxD (d := 45) (t := 42) (k := .i64) tb_1 (map_at hx2 (f := intD)) (OV.tmp 44 _)), (20, .cmp (op := .neq) (m := x2) (n := c.from_) (b := false) .i64 hc8), (25, .cmp (op := .lss) (m := c.to_) (n := 0) (b := true) .i64 hc9)] [(3, vp 0 0), (4, vp 1 0), (6, vb false), (7, vp 2 0), (68, vb true)] [(0, .box (sysC s)), (1, .box [.d (.sl 1 (x.locs.map intD)), .d (.sl 2 (x.vals.map ziD))]), (2, .box ([.d (.raw (.int .i64 (k : Int))), .d (.raw (.int .i64 c.from_)), .d (.raw (.int .i64 c.to_)), .d (.raw (.int .i64 c.guard.kind)), .d (.sl 3 (c.guard.r.t.parts.map Part.d))] ++ zi c.guard.r.t.k ++ [.d (.raw (.bool c.guard.r.eq)), .d (.sl 6 (c.guard.kids.map FormD.d)), .d (.sl 5 (c.moves.map MoveD.d))]))] (by kernel_rfl) h ?_; clear h; intro a w h
      refine condS true h rfl (fun hc => ?_) (fun hc => ?_)
      ·clear hc
       refine rSeq fam0ok 3 [] [(3, vp 0 0), (4, vp 1 0), (6, vb false), (7, vp 2 0)] [(0, .box (sysC s)), (1, .box [.d (.sl 1 (x.locs.map intD)), .d (.sl 2 (x.vals.map ziD))]), (2, .box ([.d (.raw (.int .i64 (k : Int))), .d (.raw (.int .i64 c.from_)), .d (.raw (.int .i64 c.to_)), .d (.raw (.int .i64 c.guard.kind)), .d (.sl 3 (c.guard.r.t.parts.map Part.d))] ++ zi c.guard.r.t.k ++ [.d (.raw (.bool c.guard.r.eq)), .d (.sl 6 (c.guard.kids.map FormD.d)), .d (.sl 5 (c.moves.map MoveD.d))]))] (by kernel_rfl) h ?_; clear h; intro a w h
       refine wp_ret ?_
       refine then_r ?_
       refine retS [.c (.d (.raw (.bool false)))] h Exit.ret (.inl rfl)  rfl ⟨RV.tmp _ _ rfl, trivial⟩ ?_ (by kernel_rfl) (by kernel_rfl)
       have hz : enabled s x c = (false) := by unfold enabled; rw [(show (fits s x) = true from by simpa using hc2), Bool.true_and]; rw [decide_eq_true (p := 0 ≤ c.proc ∧ c.proc < (s.procs.length : Int)) (by have := of_decide_eq_false hc4; have := of_decide_eq_false hc6; omega), show c.proc.toNat = k by omega, hx2, Option.getD_some, Bool.true_and]; rw [show (x2 == c.from_) = true by have := hc8; simpa using this, Bool.true_and]; rw [decide_eq_false (by have := of_decide_eq_true hc9; omega)]; rfl
       rw [hz]; first | done | rfl
      ·cases hc
     ·have hc10 := hc; clear hc
      have hc10' := of_decide_eq_false hc10
      obtain ⟨x3, hx3⟩ : ∃ z_ : ProcD, s.procs[k]? = some z_ := ⟨_, List.getElem?_eq_getElem (by first | omega | (simp at *; omega))⟩
      refine rSeq fam0ok 3 [(2, .cmp (op := .lss) (m := (k : Int)) (n := 0) (b := false) .i64 (show (decide ((k : Int) < 0)) = false from by rw [← hkk]; exact hc4)), (8, .len (c := (.d (.sl 3 (s.procs.map ProcD.d)))) (n := s.procs.length) (lenC_map _ _ _)), (9, .cmp (op := .geq) (m := (k : Int)) (n := (s.procs.length : Int)) (b := false) .i64 (show (decide ((k : Int) ≥ (s.procs.length : Int))) = false from by rw [← hkk]; exact hc6)), (16, .gen _ _ _ fun _ _ _ _ => Op.idxD (d := 45) (t := 42) (k := .i64) tb_1 (map_at hx2 (f := intD)) (OV.tmp 44 _)), (20, .cmp (op := .neq) (m := x2) (n := c.from_) (b := false) .i64 hc8), (25, .cmp (op := .lss) (m := c.to_) (n := 0) (b := false) .i64 hc10), (34, .gen _ _ _ fun _ _ _ _ => Op.idxD (d := 63) (t := 60) (k := .i64) kf_5 (map_at hx3 (f := ProcD.d)) (OV.tmp 62 _)), (37, .len (c := (.d (.sl 1 (x3.locs.map strD)))) (n := x3.locs.length) (lenC_map _ _ _))] [(3, vp 0 0), (4, vp 1 0), (6, vb false), (7, vp 2 0), (68, vb (decide (c.to_ ≥ (x3.locs.length : Int))))] [(0, .box (sysC s)), (1, .box [.d (.sl 1 (x.locs.map intD)), .d (.sl 2 (x.vals.map ziD))]), (2, .box ([.d (.raw (.int .i64 (k : Int))), .d (.raw (.int .i64 c.from_)), .d (.raw (.int .i64 c.to_)), .d (.raw (.int .i64 c.guard.kind)), .d (.sl 3 (c.guard.r.t.parts.map Part.d))] ++ zi c.guard.r.t.k ++ [.d (.raw (.bool c.guard.r.eq)), .d (.sl 6 (c.guard.kids.map FormD.d)), .d (.sl 5 (c.moves.map MoveD.d))]))] (by kernel_rfl) h ?_; clear h; intro a w h
      refine condS (decide (c.to_ ≥ (x3.locs.length : Int))) h rfl (fun hc => ?_) (fun hc => ?_)
      ·have hc11 := hc; clear hc
       have hc11' := of_decide_eq_true hc11
       refine rSeq fam0ok 3 [] [(3, vp 0 0), (4, vp 1 0), (6, vb false), (7, vp 2 0)] [(0, .box (sysC s)), (1, .box [.d (.sl 1 (x.locs.map intD)), .d (.sl 2 (x.vals.map ziD))]), (2, .box ([.d (.raw (.int .i64 (k : Int))), .d (.raw (.int .i64 c.from_)), .d (.raw (.int .i64 c.to_)), .d (.raw (.int .i64 c.guard.kind)), .d (.sl 3 (c.guard.r.t.parts.map Part.d))] ++ zi c.guard.r.t.k ++ [.d (.raw (.bool c.guard.r.eq)), .d (.sl 6 (c.guard.kids.map FormD.d)), .d (.sl 5 (c.moves.map MoveD.d))]))] (by kernel_rfl) h ?_; clear h; intro a w h
       refine wp_ret ?_
       refine then_r ?_
       refine retS [.c (.d (.raw (.bool false)))] h Exit.ret (.inl rfl)  rfl ⟨RV.tmp _ _ rfl, trivial⟩ ?_ (by kernel_rfl) (by kernel_rfl)
       have hz : enabled s x c = (false) := by unfold enabled; rw [(show (fits s x) = true from by simpa using hc2), Bool.true_and]; rw [decide_eq_true (p := 0 ≤ c.proc ∧ c.proc < (s.procs.length : Int)) (by have := of_decide_eq_false hc4; have := of_decide_eq_false hc6; omega), show c.proc.toNat = k by omega, hx2, Option.getD_some, Bool.true_and]; rw [show (x2 == c.from_) = true by have := hc8; simpa using this, Bool.true_and]; rw [show nlocs s k = x3.locs.length by unfold nlocs; rw [hx3]; rfl]; rw [decide_eq_false (by have := of_decide_eq_true hc11; omega)]; rfl
       rw [hz]; first | done | rfl
      ·have hc12 := hc; clear hc
       have hc12' := of_decide_eq_false hc12
       refine wp_skip ?_
       refine then_n ?_
       refine wp_seq ?_
       refine rSeq fam0ok 3 [] [(3, vp 0 0), (4, vp 1 0), (6, vb false), (7, vp 2 0), (8, vi .i64 0)] [(0, .box (sysC s)), (1, .box [.d (.sl 1 (x.locs.map intD)), .d (.sl 2 (x.vals.map ziD))]), (2, .box ([.d (.raw (.int .i64 (k : Int))), .d (.raw (.int .i64 c.from_)), .d (.raw (.int .i64 c.to_)), .d (.raw (.int .i64 c.guard.kind)), .d (.sl 3 (c.guard.r.t.parts.map Part.d))] ++ zi c.guard.r.t.k ++ [.d (.raw (.bool c.guard.r.eq)), .d (.sl 6 (c.guard.kids.map FormD.d)), .d (.sl 5 (c.moves.map MoveD.d))]))] (by kernel_rfl) h ?_; clear h; intro a w h
       refine wp_block ?_
       refine loopS (ι := (Nat)) (fun (z_ : (Nat)) => match z_ with | j => j ≤ c.moves.length ∧ (c.moves.take j).any (fun m => !there s m) = false)
         (fun (z_ : (Nat)) => match z_ with | j => [(3, vp 0 0), (4, vp 1 0), (7, vp 2 0), (8, vi .i64 (j : Int))])
         (fun (z_ : (Nat)) => match z_ with | j => [(0, .box (sysC s)), (1, .box [.d (.sl 1 (x.locs.map intD)), .d (.sl 2 (x.vals.map ziD))]), (2, .box ([.d (.raw (.int .i64 (k : Int))), .d (.raw (.int .i64 c.from_)), .d (.raw (.int .i64 c.to_)), .d (.raw (.int .i64 c.guard.kind)), .d (.sl 3 (c.guard.r.t.parts.map Part.d))] ++ zi c.guard.r.t.k ++ [.d (.raw (.bool c.guard.r.eq)), .d (.sl 6 (c.guard.kids.map FormD.d)), .d (.sl 5 (c.moves.map MoveD.d))]))])
         (fun (z_ : (Nat)) => match z_ with | j => c.moves.length - j) 0 ?_ h (by kernel_rfl) (by kernel_rfl) ?_
       ·exact ⟨Nat.zero_le _, rfl⟩
       ·clear h; rintro j a w hI h
        change St _ (F.of [(3, vp 0 0), (4, vp 1 0), (7, vp 2 0), (8, vi .i64 (j : Int))] [(0, .box (sysC s)), (1, .box [.d (.sl 1 (x.locs.map intD)), .d (.sl 2 (x.vals.map ziD))]), (2, .box ([.d (.raw (.int .i64 (k : Int))), .d (.raw (.int .i64 c.from_)), .d (.raw (.int .i64 c.to_)), .d (.raw (.int .i64 c.guard.kind)), .d (.sl 3 (c.guard.r.t.parts.map Part.d))] ++ zi c.guard.r.t.k ++ [.d (.raw (.bool c.guard.r.eq)), .d (.sl 6 (c.guard.kids.map FormD.d)), .d (.sl 5 (c.moves.map MoveD.d))]))]) a w at h
        obtain ⟨hI1, hI2⟩ := hI
        refine wp_seq ?_
        refine rSeq fam0ok 3 [(3, .len (c := (.d (.sl 5 (c.moves.map MoveD.d)))) (n := c.moves.length) (lenC_map _ _ _))] [(3, vp 0 0), (4, vp 1 0), (7, vp 2 0), (8, vi .i64 (j : Int)), (73, vb (decide ((j : Int) < (c.moves.length : Int))))] [(0, .box (sysC s)), (1, .box [.d (.sl 1 (x.locs.map intD)), .d (.sl 2 (x.vals.map ziD))]), (2, .box ([.d (.raw (.int .i64 (k : Int))), .d (.raw (.int .i64 c.from_)), .d (.raw (.int .i64 c.to_)), .d (.raw (.int .i64 c.guard.kind)), .d (.sl 3 (c.guard.r.t.parts.map Part.d))] ++ zi c.guard.r.t.k ++ [.d (.raw (.bool c.guard.r.eq)), .d (.sl 6 (c.guard.kids.map FormD.d)), .d (.sl 5 (c.moves.map MoveD.d))]))] (by kernel_rfl) h ?_; clear h; intro a w h
        refine condS (decide ((j : Int) < (c.moves.length : Int))) h rfl (fun hc => ?_) (fun hc => ?_)
        ·have hc13 := hc; clear hc
         have hc13' := of_decide_eq_true hc13
         refine wp_skip ?_
         refine then_n ?_
         refine wp_seq ?_
         refine wp_block ?_
         obtain ⟨x4, hx4⟩ : ∃ z_ : MoveD, c.moves[j]? = some z_ := ⟨_, List.getElem?_eq_getElem (by first | omega | (simp at *; omega))⟩
         rcases Bool.eq_false_or_eq_true (decide (x4.v < 0)) with hc | hc
         ·have hc14 := hc; clear hc
          have hc14' := of_decide_eq_true hc14
          refine rSeq fam0ok 3 [(3, .gen _ _ _ fun _ _ _ _ => Op.idxD (d := 79) (t := 77) (k := .i64) ki_2 (map_at hx4 (f := MoveD.d)) (OV.tmp 78 _)), (6, .cmp (op := .lss) (m := x4.v) (n := 0) (b := true) .i64 hc14)] [(3, vp 0 0), (4, vp 1 0), (7, vp 2 0), (8, vi .i64 (j : Int)), (94, vb true)] [(0, .box (sysC s)), (1, .box [.d (.sl 1 (x.locs.map intD)), .d (.sl 2 (x.vals.map ziD))]), (2, .box ([.d (.raw (.int .i64 (k : Int))), .d (.raw (.int .i64 c.from_)), .d (.raw (.int .i64 c.to_)), .d (.raw (.int .i64 c.guard.kind)), .d (.sl 3 (c.guard.r.t.parts.map Part.d))] ++ zi c.guard.r.t.k ++ [.d (.raw (.bool c.guard.r.eq)), .d (.sl 6 (c.guard.kids.map FormD.d)), .d (.sl 5 (c.moves.map MoveD.d))]))] (by kernel_rfl) h ?_; clear h; intro a w h
          refine condS true h rfl (fun hc => ?_) (fun hc => ?_)
          ·clear hc
           refine rSeq fam0ok 3 [] [(3, vp 0 0), (4, vp 1 0), (6, vb false), (7, vp 2 0), (8, vi .i64 (j : Int))] [(0, .box (sysC s)), (1, .box [.d (.sl 1 (x.locs.map intD)), .d (.sl 2 (x.vals.map ziD))]), (2, .box ([.d (.raw (.int .i64 (k : Int))), .d (.raw (.int .i64 c.from_)), .d (.raw (.int .i64 c.to_)), .d (.raw (.int .i64 c.guard.kind)), .d (.sl 3 (c.guard.r.t.parts.map Part.d))] ++ zi c.guard.r.t.k ++ [.d (.raw (.bool c.guard.r.eq)), .d (.sl 6 (c.guard.kids.map FormD.d)), .d (.sl 5 (c.moves.map MoveD.d))]))] (by kernel_rfl) h ?_; clear h; intro a w h
           refine wp_ret ?_
           refine block_r ?_
           refine then_r ?_
           refine then_r ?_
           refine block_r ?_
           refine then_r ?_
           refine retS [.c (.d (.raw (.bool false)))] h Exit.ret (.inl rfl)  rfl ⟨RV.tmp _ _ rfl, trivial⟩ ?_ (by kernel_rfl) (by kernel_rfl)
           have hz : enabled s x c = (false) := by unfold enabled; rw [(show (fits s x) = true from by simpa using hc2), Bool.true_and]; rw [decide_eq_true (p := 0 ≤ c.proc ∧ c.proc < (s.procs.length : Int)) (by have := of_decide_eq_false hc4; have := of_decide_eq_false hc6; omega), show c.proc.toNat = k by omega, hx2, Option.getD_some, Bool.true_and]; rw [show (x2 == c.from_) = true by have := hc8; simpa using this, Bool.true_and]; rw [show nlocs s k = x3.locs.length by unfold nlocs; rw [hx3]; rfl]; rw [decide_eq_true (p := 0 ≤ c.to_ ∧ c.to_ < (x3.locs.length : Int)) (by have := of_decide_eq_false hc10; have := of_decide_eq_false hc12; omega), Bool.true_and, (any_stop (q := (fun m => !there s m)) hx4 (there_lo hc14))]; rfl
           rw [hz]; first | done | rfl
          ·cases hc
         ·have hc15 := hc; clear hc
          have hc15' := of_decide_eq_false hc15
          refine rSeq fam0ok 3 [(3, .gen _ _ _ fun _ _ _ _ => Op.idxD (d := 79) (t := 77) (k := .i64) ki_2 (map_at hx4 (f := MoveD.d)) (OV.tmp 78 _)), (6, .cmp (op := .lss) (m := x4.v) (n := 0) (b := false) .i64 hc15), (11, .gen _ _ _ fun _ _ _ _ => Op.idxD (d := 87) (t := 85) (k := .i64) ki_2 (map_at hx4 (f := MoveD.d)) (OV.tmp 86 _)), (16, .len (c := (.d (.sl 1 (s.vars.map strD)))) (n := s.vars.length) (lenC_map _ _ _))] [(3, vp 0 0), (4, vp 1 0), (7, vp 2 0), (8, vi .i64 (j : Int)), (94, vb (decide (x4.v ≥ (s.vars.length : Int))))] [(0, .box (sysC s)), (1, .box [.d (.sl 1 (x.locs.map intD)), .d (.sl 2 (x.vals.map ziD))]), (2, .box ([.d (.raw (.int .i64 (k : Int))), .d (.raw (.int .i64 c.from_)), .d (.raw (.int .i64 c.to_)), .d (.raw (.int .i64 c.guard.kind)), .d (.sl 3 (c.guard.r.t.parts.map Part.d))] ++ zi c.guard.r.t.k ++ [.d (.raw (.bool c.guard.r.eq)), .d (.sl 6 (c.guard.kids.map FormD.d)), .d (.sl 5 (c.moves.map MoveD.d))]))] (by kernel_rfl) h ?_; clear h; intro a w h
          refine condS (decide (x4.v ≥ (s.vars.length : Int))) h rfl (fun hc => ?_) (fun hc => ?_)
          ·have hc16 := hc; clear hc
           have hc16' := of_decide_eq_true hc16
           refine rSeq fam0ok 3 [] [(3, vp 0 0), (4, vp 1 0), (6, vb false), (7, vp 2 0), (8, vi .i64 (j : Int))] [(0, .box (sysC s)), (1, .box [.d (.sl 1 (x.locs.map intD)), .d (.sl 2 (x.vals.map ziD))]), (2, .box ([.d (.raw (.int .i64 (k : Int))), .d (.raw (.int .i64 c.from_)), .d (.raw (.int .i64 c.to_)), .d (.raw (.int .i64 c.guard.kind)), .d (.sl 3 (c.guard.r.t.parts.map Part.d))] ++ zi c.guard.r.t.k ++ [.d (.raw (.bool c.guard.r.eq)), .d (.sl 6 (c.guard.kids.map FormD.d)), .d (.sl 5 (c.moves.map MoveD.d))]))] (by kernel_rfl) h ?_; clear h; intro a w h
           refine wp_ret ?_
           refine block_r ?_
           refine then_r ?_
           refine then_r ?_
           refine block_r ?_
           refine then_r ?_
           refine retS [.c (.d (.raw (.bool false)))] h Exit.ret (.inl rfl)  rfl ⟨RV.tmp _ _ rfl, trivial⟩ ?_ (by kernel_rfl) (by kernel_rfl)
           have hz : enabled s x c = (false) := by unfold enabled; rw [(show (fits s x) = true from by simpa using hc2), Bool.true_and]; rw [decide_eq_true (p := 0 ≤ c.proc ∧ c.proc < (s.procs.length : Int)) (by have := of_decide_eq_false hc4; have := of_decide_eq_false hc6; omega), show c.proc.toNat = k by omega, hx2, Option.getD_some, Bool.true_and]; rw [show (x2 == c.from_) = true by have := hc8; simpa using this, Bool.true_and]; rw [show nlocs s k = x3.locs.length by unfold nlocs; rw [hx3]; rfl]; rw [decide_eq_true (p := 0 ≤ c.to_ ∧ c.to_ < (x3.locs.length : Int)) (by have := of_decide_eq_false hc10; have := of_decide_eq_false hc12; omega), Bool.true_and, (any_stop (q := (fun m => !there s m)) hx4 (there_hi hc16))]; rfl
           rw [hz]; first | done | rfl
          ·have hc17 := hc; clear hc
           have hc17' := of_decide_eq_false hc17
           refine wp_skip ?_
           refine block_n ?_
           refine then_n ?_
           refine rS fam0ok 3 [(1, .add .i64 (m := (j : Int)) (n := 1) (i64_id (by omega) (by omega)))] [(3, vp 0 0), (4, vp 1 0), (7, vp 2 0), (8, vi .i64 ((j : Int) + 1))] [(0, .box (sysC s)), (1, .box [.d (.sl 1 (x.locs.map intD)), .d (.sl 2 (x.vals.map ziD))]), (2, .box ([.d (.raw (.int .i64 (k : Int))), .d (.raw (.int .i64 c.from_)), .d (.raw (.int .i64 c.to_)), .d (.raw (.int .i64 c.guard.kind)), .d (.sl 3 (c.guard.r.t.parts.map Part.d))] ++ zi c.guard.r.t.k ++ [.d (.raw (.bool c.guard.r.eq)), .d (.sl 6 (c.guard.kids.map FormD.d)), .d (.sl 5 (c.moves.map MoveD.d))]))] (by kernel_rfl) h ?_; clear h; intro a w h
           refine then_n ?_
           refine roundS (x := j) (y := j + 1) h ?_ ?_ (by kernel_rfl) (by kernel_rfl)
           ·exact ⟨by have := at_lt hx4; omega, any_step hx4 hI2 (there_no hc15 hc17)⟩
           ·show c.moves.length - (j + 1) < c.moves.length - j
            have := at_lt hx4; omega
        ·have hc18 := hc; clear hc
         have hc18' := of_decide_eq_false hc18
         refine wp_exit ?_
         refine then_x ?_
         refine then_x ?_
         refine inBlock_exit ?_
         refine then_n ?_
         refine rSeq fam0ok 3 [(4, .call (SRHolds x.vals (L := L) (M := M) (by omega) hx.vok c.guard hc.guard.1 hc.guard.2) ke_10)] [(6, vb (FormD.holds x.vals c.guard))] [] (by kernel_rfl) h ?_; clear h; intro a w h
         refine wp_ret ?_
         refine retS [.c (.d (.raw (.bool (FormD.holds x.vals c.guard))))] h Exit.ret (.inl rfl)  rfl ⟨RV.tmp _ _ rfl, trivial⟩ ?_ (by kernel_rfl) (by kernel_rfl)
         have hz : enabled s x c = (FormD.holds x.vals c.guard) := by unfold enabled; rw [(show (fits s x) = true from by simpa using hc2), Bool.true_and]; rw [decide_eq_true (p := 0 ≤ c.proc ∧ c.proc < (s.procs.length : Int)) (by have := of_decide_eq_false hc4; have := of_decide_eq_false hc6; omega), show c.proc.toNat = k by omega, hx2, Option.getD_some, Bool.true_and]; rw [show (x2 == c.from_) = true by have := hc8; simpa using this, Bool.true_and]; rw [show nlocs s k = x3.locs.length by unfold nlocs; rw [hx3]; rfl]; rw [decide_eq_true (p := 0 ≤ c.to_ ∧ c.to_ < (x3.locs.length : Int)) (by have := of_decide_eq_false hc10; have := of_decide_eq_false hc12; omega), Bool.true_and, (any_end (q := (fun m => !there s m)) (of_decide_eq_false hc18) hI2)]; rfl
         rw [hz]; first | done | rfl
end Go.Proofs.YtmohlifepfjmdaaGreat.S
end
section
namespace Go.Proofs.YtmohlifepfjmdaaGreat.S
open Go.RowKit

theorem kp_7 : Bodied Tryz.prog 39 := Bodied.mk' (by kernel_rfl)
theorem kp_11 : Bodied Tryz.prog 40 := Bodied.mk' (by kernel_rfl)
theorem range_keep {α : Type} {f : Nat → α} {cl : List α} {j : Nat} {y : α} (hj : cl[j]? = some y) (hy : y = f j) : (List.range j).map f ++ cl.drop j = (List.range (j + 1)).map f ++ cl.drop (j + 1) := by
 obtain ⟨hlt, rfl⟩ := List.getElem?_eq_some_iff.1 hj
 rw [List.drop_eq_getElem_cons hlt, hy, List.range_succ, List.map_append, List.append_assoc]; rfl
theorem newV_at {x : StD} {c : ActD} {picks : List ZI} {v : Nat} {p : ZI} (h : freeAt c v = true) (hp : picks[cntFree c v]? = some p) : newV x c picks v = ZI.of p.val := by unfold newV; rw [if_pos h, hp]
theorem newV_no {x : StD} {c : ActD} {picks : List ZI} {v : Nat} (h : freeAt c v = true) (hp : ¬ ((cntFree c v : Nat) : Int) < (picks.length : Int)) : newV x c picks v = zero0 := by unfold newV; rw [if_pos h, List.getElem?_eq_none (by omega)]
theorem free_some {c : ActD} {v : Nat} {m : MoveD} {b : Bool} (hm : mvAt c v = some m) (h : m.any = b) : freeAt c v = b := by unfold freeAt; rw [hm]; exact h
theorem free_none {c : ActD} {v : Nat} (hm : mvAt c v = none) : freeAt c v = false := by unfold freeAt; rw [hm]
theorem new_some {x : StD} {c : ActD} {v : Nat} {m : MoveD} (hm : mvAt c v = some m) (h : m.any = false) : newAt x c v = ZI.of (valT m.t x.vals) := by unfold newAt; rw [hm]; simp only; rw [if_neg (by rw [h]; exact Bool.noConfusion)]
theorem new_none {x : StD} {c : ActD} {v : Nat} {z : ZI} (hm : mvAt c v = none) (hz : x.vals[v]? = some z) : newAt x c v = clZ z := by unfold newAt; rw [hm, hz]; rfl
theorem cnt_le (c : ActD) : ∀ v, cntFree c v ≤ v
 | 0 => Nat.le_refl _
 | v + 1 => by rw [cntFree]; have := cnt_le c v; split <;> omega
set_option maxHeartbeats 4000000 in
theorem SRGo3 (s : SysD) (x : StD) (ki : Nat) (picks : List ZI) (c : ActD) {L M : Nat} (hL : L + M ≤ 4000) (hs : SysOk L s) (hx : StOk M x) (hp : ∀ z ∈ picks, ZOk M z) (hka : s.acts[ki]? = some c) (hpl : picks.length ≤ 9223372036854775807) : Fn Tryz.prog 9 [] [.t (.agg (sysC s)), .t (.agg [.d (.sl 1 (x.locs.map intD)), .d (.sl 2 (x.vals.map ziD))]), vi .i64 (ki : Int), .t (.c (.d (.sl 2 (picks.map ziD))))] (.tup [.agg [.d (.sl 1 ((goC s x c picks).1.locs.map intD)), .d (.sl 2 ((goC s x c picks).1.vals.map ziD))], .c (.d (.raw (.bool (goC s x c picks).2)))]) [] := by
 have lx1 := hx.locs
 have lx2 := hx.vals
 have ls1 := hs.vars
 have ls2 := hs.procs
 have lki := at_lt hka
 have hc : ActOk L c := hs.act c (List.mem_of_getElem? hka)
 have lmv := hc.len
 have lvv := hx.vals
 refine Fn.body Tryz.func9 rfl 139 rfl fun w H B a h => ?_
 refine rSeq fam0ok 5 [] [(2, vi .i64 (ki : Int)), (3, .t (.c (.d (.sl 2 (picks.map ziD))))), (4, vp 5 0), (5, vp 6 0), (8, vp 7 0), (9, vb false)] [(5, .box (sysC s)), (6, .box [.d (.sl 1 (x.locs.map intD)), .d (.sl 2 (x.vals.map ziD))]), (7, .box [.d (.raw nilV), .d (.raw nilV)])] (by kernel_rfl) h ?_; clear h; intro a w h
 refine rSeq fam0ok 8 [] [(2, vi .i64 (ki : Int)), (3, .t (.c (.d (.sl 2 (picks.map ziD))))), (4, vp 5 0), (5, vp 6 0), (8, vp 7 0), (9, vb false), (10, vp 8 0)] [(5, .box (sysC s)), (6, .box [.d (.sl 1 (x.locs.map intD)), .d (.sl 2 (x.vals.map ziD))]), (7, .box [.d (.raw nilV), .d (.raw nilV)]), (8, .box [.d (.raw nilV), .d (.raw nilV)])] (by kernel_rfl) h ?_; clear h; intro a w h
 refine wp_seq ?_
 replace h := nilOLs 8 0 9 1 3 [.d (.raw nilV), .d (.raw nilV)] [(2, vi .i64 (ki : Int)), (3, .t (.c (.d (.sl 2 (picks.map ziD))))), (4, vp 5 0), (5, vp 6 0), (8, vp 7 0), (9, vb false), (10, vp 8 0)] [(5, .box (sysC s)), (6, .box [.d (.sl 1 (x.locs.map intD)), .d (.sl 2 (x.vals.map ziD))]), (7, .box [.d (.raw nilV), .d (.raw nilV)]), (8, .box [.own 9 0, .d (.raw nilV)]), (9, .row 3 1 ([].map intD))] h (by kernel_rfl) rfl rfl (by kernel_rfl) (by kernel_rfl)
 replace h := nilOLs 8 1 10 2 28 [.own 9 0, .d (.raw nilV)] [(2, vi .i64 (ki : Int)), (3, .t (.c (.d (.sl 2 (picks.map ziD))))), (4, vp 5 0), (5, vp 6 0), (8, vp 7 0), (9, vb false), (10, vp 8 0)] [(5, .box (sysC s)), (6, .box [.d (.sl 1 (x.locs.map intD)), .d (.sl 2 (x.vals.map ziD))]), (7, .box [.d (.raw nilV), .d (.raw nilV)]), (8, .box [.own 9 0, .own 10 0]), (9, .row 3 1 ([].map intD)), (10, .row 28 2 ([].map ziD))] h (by kernel_rfl) rfl rfl (by kernel_rfl) (by kernel_rfl)
 refine rSeq fam0ok 11 [] [(2, vi .i64 (ki : Int)), (3, .t (.c (.d (.sl 2 (picks.map ziD))))), (4, vp 5 0), (5, vp 6 0), (8, vp 7 0), (9, vb false), (10, vp 8 0), (11, vi .i64 0)] [(5, .box (sysC s)), (6, .box [.d (.sl 1 (x.locs.map intD)), .d (.sl 2 (x.vals.map ziD))]), (7, .box [.d (.raw nilV), .d (.raw nilV)]), (8, .box [.own 9 0, .own 10 0]), (9, .row 3 1 ([].map intD)), (10, .row 28 2 ([].map ziD))] (by kernel_rfl) h ?_; clear h; intro a w h
 refine wp_block ?_
 refine loopS (ι := (Nat)) (fun (z_ : (Nat)) => match z_ with | j => j ≤ x.locs.length)
   (fun (z_ : (Nat)) => match z_ with | j => [(2, vi .i64 (ki : Int)), (3, .t (.c (.d (.sl 2 (picks.map ziD))))), (4, vp 5 0), (5, vp 6 0), (8, vp 7 0), (9, vb false), (10, vp 8 0), (11, vi .i64 (j : Int))])
   (fun (z_ : (Nat)) => match z_ with | j => [(5, .box (sysC s)), (6, .box [.d (.sl 1 (x.locs.map intD)), .d (.sl 2 (x.vals.map ziD))]), (7, .box [.d (.raw nilV), .d (.raw nilV)]), (8, .box [.own 9 (x.locs.take j).length, .own 10 0]), (9, .row 3 1 ((x.locs.take j).map intD)), (10, .row 28 2 ([].map ziD))])
   (fun (z_ : (Nat)) => match z_ with | j => x.locs.length - j) 0 ?_ h (by kernel_rfl) (by kernel_rfl) ?_
 ·exact Nat.zero_le _
 ·clear h; rintro j a w hI h
  change St _ (F.of [(2, vi .i64 (ki : Int)), (3, .t (.c (.d (.sl 2 (picks.map ziD))))), (4, vp 5 0), (5, vp 6 0), (8, vp 7 0), (9, vb false), (10, vp 8 0), (11, vi .i64 (j : Int))] [(5, .box (sysC s)), (6, .box [.d (.sl 1 (x.locs.map intD)), .d (.sl 2 (x.vals.map ziD))]), (7, .box [.d (.raw nilV), .d (.raw nilV)]), (8, .box [.own 9 (x.locs.take j).length, .own 10 0]), (9, .row 3 1 ((x.locs.take j).map intD)), (10, .row 28 2 ([].map ziD))]) a w at h
  refine wp_seq ?_
  refine rSeq fam0ok 11 [(3, .len (c := (.d (.sl 1 (x.locs.map intD)))) (n := x.locs.length) (lenC_map _ _ _))] [(2, vi .i64 (ki : Int)), (3, .t (.c (.d (.sl 2 (picks.map ziD))))), (4, vp 5 0), (5, vp 6 0), (8, vp 7 0), (9, vb false), (10, vp 8 0), (11, vi .i64 (j : Int)), (22, vb (decide ((j : Int) < (x.locs.length : Int))))] [(5, .box (sysC s)), (6, .box [.d (.sl 1 (x.locs.map intD)), .d (.sl 2 (x.vals.map ziD))]), (7, .box [.d (.raw nilV), .d (.raw nilV)]), (8, .box [.own 9 (x.locs.take j).length, .own 10 0]), (9, .row 3 1 ((x.locs.take j).map intD)), (10, .row 28 2 ([].map ziD))] (by kernel_rfl) h ?_; clear h; intro a w h
  refine condS (decide ((j : Int) < (x.locs.length : Int))) h rfl (fun hc => ?_) (fun hc => ?_)
  ·have hc1 := hc; clear hc
   have hc1' := of_decide_eq_true hc1
   refine wp_skip ?_
   refine then_n ?_
   refine wp_seq ?_
   refine wp_block ?_
   obtain ⟨x1, hx1⟩ : ∃ z_ : Int, x.locs[j]? = some z_ := ⟨_, List.getElem?_eq_getElem (by first | omega | (simp at *; omega))⟩
   refine rS fam0ok 11 [(5, .gen _ _ _ fun _ _ _ _ => Op.idxD (d := 30) (t := 28) (k := .i64) tb_1 (map_at hx1 (f := intD)) (OV.tmp 29 _)), (7, .gen _ _ _ fun _ _ _ _ => Op.buildD (d := 32) (len := 1) (rows := [x1].map intD) (rs := [(31, vi .i64 x1)]) tb_0 (.cons (i := 0) (OV.tmp 31 _) (.nil)) (by kernel_rfl) rfl (by simp [intD]) (by decide) (by decide)), (8, .gen _ _ _ fun _ _ _ _ => Op.appOD (d := 33) (t := 26) (u := 32) (n := 9) (n' := 11) (len := (x.locs.take j).length) (len' := ((x.locs.take j) ++ [x1]).length) (rows := (x.locs.take j).map intD) (rows2 := [x1].map intD) (rows' := ((x.locs.take j) ++ [x1]).map intD) tb_2 (by first | exact (List.length_map _).symm | simp) (by first | (rw [List.length_append, List.length_map]; done) | simp) (by simp) (by simp [intD]) (by first | omega | (simp at *; done) | (simp at *; omega)))] [(2, vi .i64 (ki : Int)), (3, .t (.c (.d (.sl 2 (picks.map ziD))))), (4, vp 5 0), (5, vp 6 0), (8, vp 7 0), (9, vb false), (10, vp 8 0), (11, vi .i64 (j : Int))] [(5, .box (sysC s)), (6, .box [.d (.sl 1 (x.locs.map intD)), .d (.sl 2 (x.vals.map ziD))]), (7, .box [.d (.raw nilV), .d (.raw nilV)]), (8, .box ([.own 11 ((x.locs.take j) ++ [x1]).length, .own 10 0])), (10, .row 28 2 ([].map ziD)), (11, .row 3 1 (((x.locs.take j) ++ [x1]).map intD))] (by kernel_rfl) h ?_; clear h; intro a w h
   refine block_n ?_
   refine then_n ?_
   refine rS fam0ok 12 [(1, .add .i64 (m := (j : Int)) (n := 1) (i64_id (by omega) (by omega)))] [(2, vi .i64 (ki : Int)), (3, .t (.c (.d (.sl 2 (picks.map ziD))))), (4, vp 5 0), (5, vp 6 0), (8, vp 7 0), (9, vb false), (10, vp 8 0), (11, vi .i64 ((j : Int) + 1))] [(5, .box (sysC s)), (6, .box [.d (.sl 1 (x.locs.map intD)), .d (.sl 2 (x.vals.map ziD))]), (7, .box [.d (.raw nilV), .d (.raw nilV)]), (8, .box ([.own 11 ((x.locs.take j) ++ [x1]).length, .own 10 0])), (10, .row 28 2 ([].map ziD)), (11, .row 3 1 (((x.locs.take j) ++ [x1]).map intD))] (by kernel_rfl) h ?_; clear h; intro a w h
   refine then_n ?_
   replace h := h.conv (f' := F.of [(2, vi .i64 (ki : Int)), (3, .t (.c (.d (.sl 2 (picks.map ziD))))), (4, vp 5 0), (5, vp 6 0), (8, vp 7 0), (9, vb false), (10, vp 8 0), (11, vi .i64 ((j : Int) + 1))] [(5, .box (sysC s)), (6, .box [.d (.sl 1 (x.locs.map intD)), .d (.sl 2 (x.vals.map ziD))]), (7, .box [.d (.raw nilV), .d (.raw nilV)]), (8, .box [.own 11 (x.locs.take (j + 1)).length, .own 10 0]), (10, .row 28 2 ([].map ziD)), (11, .row 3 1 ((x.locs.take (j + 1)).map intD))]) (congrArg (fun (z_ : List Int) => F.of [(2, vi .i64 (ki : Int)), (3, .t (.c (.d (.sl 2 (picks.map ziD))))), (4, vp 5 0), (5, vp 6 0), (8, vp 7 0), (9, vb false), (10, vp 8 0), (11, vi .i64 ((j : Int) + 1))] [(5, .box (sysC s)), (6, .box [.d (.sl 1 (x.locs.map intD)), .d (.sl 2 (x.vals.map ziD))]), (7, .box [.d (.raw nilV), .d (.raw nilV)]), (8, .box [.own 11 z_.length, .own 10 0]), (10, .row 28 2 ([].map ziD)), (11, .row 3 1 (z_.map intD))]) (show (((x.locs.take j) ++ [x1]) : List Int) = (x.locs.take (j + 1)) from (by rw [List.take_add_one, hx1]; rfl)))
   replace h := renS 11 9 [(2, vi .i64 (ki : Int)), (3, .t (.c (.d (.sl 2 (picks.map ziD))))), (4, vp 5 0), (5, vp 6 0), (8, vp 7 0), (9, vb false), (10, vp 8 0), (11, vi .i64 ((j : Int) + 1))] [(5, .box (sysC s)), (6, .box [.d (.sl 1 (x.locs.map intD)), .d (.sl 2 (x.vals.map ziD))]), (7, .box [.d (.raw nilV), .d (.raw nilV)]), (8, .box [.own 9 (x.locs.take (j + 1)).length, .own 10 0]), (10, .row 28 2 ([].map ziD)), (9, .row 3 1 ((x.locs.take (j + 1)).map intD))] h (by kernel_rfl) (by kernel_rfl) (by kernel_rfl)
   refine roundS (x := j) (y := j + 1) h ?_ ?_ (by kernel_rfl) (by kernel_rfl)
   ·show j + 1 ≤ x.locs.length
    omega
   ·show x.locs.length - (j + 1) < x.locs.length - j
    omega
  ·have hc2 := hc; clear hc
   have hc2' := of_decide_eq_false hc2
   refine wp_exit ?_
   refine then_x ?_
   refine then_x ?_
   refine inBlock_exit ?_
   refine then_n ?_
   refine wp_seq ?_
   replace h := h.conv (f' := F.of [(2, vi .i64 (ki : Int)), (3, .t (.c (.d (.sl 2 (picks.map ziD))))), (4, vp 5 0), (5, vp 6 0), (8, vp 7 0), (9, vb false), (10, vp 8 0), (11, vi .i64 (j : Int)), (22, vb (decide ((j : Int) < (x.locs.length : Int))))] [(5, .box (sysC s)), (6, .box [.d (.sl 1 (x.locs.map intD)), .d (.sl 2 (x.vals.map ziD))]), (7, .box [.d (.raw nilV), .d (.raw nilV)]), (8, .box [.own 9 x.locs.length, .own 10 0]), (9, .row 3 1 (x.locs.map intD)), (10, .row 28 2 ([].map ziD))]) (congrArg (fun (z_ : List Int) => F.of [(2, vi .i64 (ki : Int)), (3, .t (.c (.d (.sl 2 (picks.map ziD))))), (4, vp 5 0), (5, vp 6 0), (8, vp 7 0), (9, vb false), (10, vp 8 0), (11, vi .i64 (j : Int)), (22, vb (decide ((j : Int) < (x.locs.length : Int))))] [(5, .box (sysC s)), (6, .box [.d (.sl 1 (x.locs.map intD)), .d (.sl 2 (x.vals.map ziD))]), (7, .box [.d (.raw nilV), .d (.raw nilV)]), (8, .box [.own 9 z_.length, .own 10 0]), (9, .row 3 1 (z_.map intD)), (10, .row 28 2 ([].map ziD))]) (show ((x.locs.take j) : List Int) = x.locs from (by rw [List.take_of_length_le (by omega)])))
   refine rSeq fam0ok 12 [] [(2, vi .i64 (ki : Int)), (3, .t (.c (.d (.sl 2 (picks.map ziD))))), (4, vp 5 0), (5, vp 6 0), (8, vp 7 0), (9, vb false), (10, vp 8 0), (12, vi .i64 0)] [(5, .box (sysC s)), (6, .box [.d (.sl 1 (x.locs.map intD)), .d (.sl 2 (x.vals.map ziD))]), (7, .box [.d (.raw nilV), .d (.raw nilV)]), (8, .box [.own 9 x.locs.length, .own 10 0]), (9, .row 3 1 (x.locs.map intD)), (10, .row 28 2 ([].map ziD))] (by kernel_rfl) h ?_; clear h; intro a w h
   refine wp_block ?_
   refine loopS (ι := (Nat)) (fun (z_ : (Nat)) => match z_ with | i => i ≤ x.vals.length)
     (fun (z_ : (Nat)) => match z_ with | i => [(2, vi .i64 (ki : Int)), (3, .t (.c (.d (.sl 2 (picks.map ziD))))), (4, vp 5 0), (5, vp 6 0), (8, vp 7 0), (9, vb false), (10, vp 8 0), (12, vi .i64 (i : Int))])
     (fun (z_ : (Nat)) => match z_ with | i => [(5, .box (sysC s)), (6, .box [.d (.sl 1 (x.locs.map intD)), .d (.sl 2 (x.vals.map ziD))]), (7, .box [.d (.raw nilV), .d (.raw nilV)]), (8, .box [.own 9 x.locs.length, .own 10 ((x.vals.take i).map clZ).length]), (9, .row 3 1 (x.locs.map intD)), (10, .row 28 2 (((x.vals.take i).map clZ).map ziD))])
     (fun (z_ : (Nat)) => match z_ with | i => x.vals.length - i) 0 ?_ h (by kernel_rfl) (by kernel_rfl) ?_
   ·exact Nat.zero_le _
   ·clear h; rintro i a w hI h
    change St _ (F.of [(2, vi .i64 (ki : Int)), (3, .t (.c (.d (.sl 2 (picks.map ziD))))), (4, vp 5 0), (5, vp 6 0), (8, vp 7 0), (9, vb false), (10, vp 8 0), (12, vi .i64 (i : Int))] [(5, .box (sysC s)), (6, .box [.d (.sl 1 (x.locs.map intD)), .d (.sl 2 (x.vals.map ziD))]), (7, .box [.d (.raw nilV), .d (.raw nilV)]), (8, .box [.own 9 x.locs.length, .own 10 ((x.vals.take i).map clZ).length]), (9, .row 3 1 (x.locs.map intD)), (10, .row 28 2 (((x.vals.take i).map clZ).map ziD))]) a w at h
    refine wp_seq ?_
    refine rSeq fam0ok 12 [(3, .len (c := (.d (.sl 2 (x.vals.map ziD)))) (n := x.vals.length) (lenC_map _ _ _))] [(2, vi .i64 (ki : Int)), (3, .t (.c (.d (.sl 2 (picks.map ziD))))), (4, vp 5 0), (5, vp 6 0), (8, vp 7 0), (9, vb false), (10, vp 8 0), (12, vi .i64 (i : Int)), (39, vb (decide ((i : Int) < (x.vals.length : Int))))] [(5, .box (sysC s)), (6, .box [.d (.sl 1 (x.locs.map intD)), .d (.sl 2 (x.vals.map ziD))]), (7, .box [.d (.raw nilV), .d (.raw nilV)]), (8, .box [.own 9 x.locs.length, .own 10 ((x.vals.take i).map clZ).length]), (9, .row 3 1 (x.locs.map intD)), (10, .row 28 2 (((x.vals.take i).map clZ).map ziD))] (by kernel_rfl) h ?_; clear h; intro a w h
    refine condS (decide ((i : Int) < (x.vals.length : Int))) h rfl (fun hc => ?_) (fun hc => ?_)
    ·have hc3 := hc; clear hc
     have hc3' := of_decide_eq_true hc3
     refine wp_skip ?_
     refine then_n ?_
     refine wp_seq ?_
     refine wp_block ?_
     obtain ⟨x2, hx2⟩ : ∃ z_ : ZI, x.vals[i]? = some z_ := ⟨_, List.getElem?_eq_getElem (by first | omega | (simp at *; omega))⟩
     have gx2 := hx.val x2 (List.mem_of_getElem? hx2)
     have lgx2 := gx2.2
     obtain ⟨r3, er3, vr3, or3, lr3⟩ := mkZ (v := x2.val) (m := M) (Nat.le_trans (len_id gx2.1) gx2.2)
     refine rS fam0ok 12 [(5, .gen _ _ _ fun _ _ _ _ => Op.idxD (d := 47) (t := 45) (k := .i64) tt_6 (map_at hx2 (f := ziD)) (OV.tmp 46 _)), (7, .call (Fn.cast ((show Fn _ _ _ _ (vz (ZI.of x2.val)) _ from SRClean x2 gx2.1 (by omega))) (congrArg vz er3.symm)) tb_7), (8, .gen _ _ _ fun _ _ _ _ => Op.buildD (d := 50) (len := 1) (rows := [r3].map ziD) (rs := [(49, vz r3)]) kk_3 (.cons (i := 0) (OV.tmp 49 _) (.nil)) (by kernel_rfl) rfl (by simp [ziD]) (by decide) (by decide)), (9, .gen _ _ _ fun _ _ _ _ => Op.appOD (d := 51) (t := 43) (u := 50) (n := 10) (n' := 12) (len := ((x.vals.take i).map clZ).length) (len' := (((x.vals.take i).map clZ) ++ [r3]).length) (rows := ((x.vals.take i).map clZ).map ziD) (rows2 := [r3].map ziD) (rows' := (((x.vals.take i).map clZ) ++ [r3]).map ziD) kk_4 (by first | exact (List.length_map _).symm | simp) (by first | (rw [List.length_append, List.length_map]; done) | simp) (by simp) (by simp [ziD]) (by first | omega | (simp at *; done) | (simp at *; omega)))] [(2, vi .i64 (ki : Int)), (3, .t (.c (.d (.sl 2 (picks.map ziD))))), (4, vp 5 0), (5, vp 6 0), (8, vp 7 0), (9, vb false), (10, vp 8 0), (12, vi .i64 (i : Int))] [(5, .box (sysC s)), (6, .box [.d (.sl 1 (x.locs.map intD)), .d (.sl 2 (x.vals.map ziD))]), (7, .box [.d (.raw nilV), .d (.raw nilV)]), (8, .box ([.own 9 x.locs.length, .own 12 (((x.vals.take i).map clZ) ++ [r3]).length])), (9, .row 3 1 (x.locs.map intD)), (12, .row 28 2 ((((x.vals.take i).map clZ) ++ [r3]).map ziD))] (by kernel_rfl) h ?_; clear h; intro a w h
     refine block_n ?_
     refine then_n ?_
     refine rS fam0ok 13 [(1, .add .i64 (m := (i : Int)) (n := 1) (i64_id (by omega) (by omega)))] [(2, vi .i64 (ki : Int)), (3, .t (.c (.d (.sl 2 (picks.map ziD))))), (4, vp 5 0), (5, vp 6 0), (8, vp 7 0), (9, vb false), (10, vp 8 0), (12, vi .i64 ((i : Int) + 1))] [(5, .box (sysC s)), (6, .box [.d (.sl 1 (x.locs.map intD)), .d (.sl 2 (x.vals.map ziD))]), (7, .box [.d (.raw nilV), .d (.raw nilV)]), (8, .box ([.own 9 x.locs.length, .own 12 (((x.vals.take i).map clZ) ++ [r3]).length])), (9, .row 3 1 (x.locs.map intD)), (12, .row 28 2 ((((x.vals.take i).map clZ) ++ [r3]).map ziD))] (by kernel_rfl) h ?_; clear h; intro a w h
     refine then_n ?_
     replace h := h.conv (f' := F.of [(2, vi .i64 (ki : Int)), (3, .t (.c (.d (.sl 2 (picks.map ziD))))), (4, vp 5 0), (5, vp 6 0), (8, vp 7 0), (9, vb false), (10, vp 8 0), (12, vi .i64 ((i : Int) + 1))] [(5, .box (sysC s)), (6, .box [.d (.sl 1 (x.locs.map intD)), .d (.sl 2 (x.vals.map ziD))]), (7, .box [.d (.raw nilV), .d (.raw nilV)]), (8, .box [.own 9 x.locs.length, .own 12 ((x.vals.take (i + 1)).map clZ).length]), (9, .row 3 1 (x.locs.map intD)), (12, .row 28 2 (((x.vals.take (i + 1)).map clZ).map ziD))]) (congrArg (fun (z_ : List ZI) => F.of [(2, vi .i64 (ki : Int)), (3, .t (.c (.d (.sl 2 (picks.map ziD))))), (4, vp 5 0), (5, vp 6 0), (8, vp 7 0), (9, vb false), (10, vp 8 0), (12, vi .i64 ((i : Int) + 1))] [(5, .box (sysC s)), (6, .box [.d (.sl 1 (x.locs.map intD)), .d (.sl 2 (x.vals.map ziD))]), (7, .box [.d (.raw nilV), .d (.raw nilV)]), (8, .box [.own 9 x.locs.length, .own 12 z_.length]), (9, .row 3 1 (x.locs.map intD)), (12, .row 28 2 (z_.map ziD))]) (show ((((x.vals.take i).map clZ) ++ [r3]) : List ZI) = ((x.vals.take (i + 1)).map clZ) from (by rw [← map_snoc hx2]; congr 1; simp [clZ, *])))
     replace h := renS 12 10 [(2, vi .i64 (ki : Int)), (3, .t (.c (.d (.sl 2 (picks.map ziD))))), (4, vp 5 0), (5, vp 6 0), (8, vp 7 0), (9, vb false), (10, vp 8 0), (12, vi .i64 ((i : Int) + 1))] [(5, .box (sysC s)), (6, .box [.d (.sl 1 (x.locs.map intD)), .d (.sl 2 (x.vals.map ziD))]), (7, .box [.d (.raw nilV), .d (.raw nilV)]), (8, .box [.own 9 x.locs.length, .own 10 ((x.vals.take (i + 1)).map clZ).length]), (9, .row 3 1 (x.locs.map intD)), (10, .row 28 2 (((x.vals.take (i + 1)).map clZ).map ziD))] h (by kernel_rfl) (by kernel_rfl) (by kernel_rfl)
     refine roundS (x := i) (y := i + 1) h ?_ ?_ (by kernel_rfl) (by kernel_rfl)
     ·show i + 1 ≤ x.vals.length
      omega
     ·show x.vals.length - (i + 1) < x.vals.length - i
      omega
    ·have hc4 := hc; clear hc
     have hc4' := of_decide_eq_false hc4
     refine wp_exit ?_
     refine then_x ?_
     refine then_x ?_
     refine inBlock_exit ?_
     refine then_n ?_
     refine wp_seq ?_
     replace h := h.conv (f' := F.of [(2, vi .i64 (ki : Int)), (3, .t (.c (.d (.sl 2 (picks.map ziD))))), (4, vp 5 0), (5, vp 6 0), (8, vp 7 0), (9, vb false), (10, vp 8 0), (12, vi .i64 (i : Int)), (39, vb (decide ((i : Int) < (x.vals.length : Int))))] [(5, .box (sysC s)), (6, .box [.d (.sl 1 (x.locs.map intD)), .d (.sl 2 (x.vals.map ziD))]), (7, .box [.d (.raw nilV), .d (.raw nilV)]), (8, .box [.own 9 x.locs.length, .own 10 (x.vals.map clZ).length]), (9, .row 3 1 (x.locs.map intD)), (10, .row 28 2 ((x.vals.map clZ).map ziD))]) (congrArg (fun (z_ : List ZI) => F.of [(2, vi .i64 (ki : Int)), (3, .t (.c (.d (.sl 2 (picks.map ziD))))), (4, vp 5 0), (5, vp 6 0), (8, vp 7 0), (9, vb false), (10, vp 8 0), (12, vi .i64 (i : Int)), (39, vb (decide ((i : Int) < (x.vals.length : Int))))] [(5, .box (sysC s)), (6, .box [.d (.sl 1 (x.locs.map intD)), .d (.sl 2 (x.vals.map ziD))]), (7, .box [.d (.raw nilV), .d (.raw nilV)]), (8, .box [.own 9 x.locs.length, .own 10 z_.length]), (9, .row 3 1 (x.locs.map intD)), (10, .row 28 2 (z_.map ziD))]) (show (((x.vals.take i).map clZ) : List ZI) = (x.vals.map clZ) from (by rw [List.take_of_length_le (by omega)])))
     refine rSeq fam0ok 13 [(1, .cmp (op := .eql) (m := (ki : Int)) (n := (-1)) (b := false) .i64 (beq_eq_false_iff_ne.2 (by omega)))] [(2, vi .i64 (ki : Int)), (3, .t (.c (.d (.sl 2 (picks.map ziD))))), (4, vp 5 0), (5, vp 6 0), (8, vp 7 0), (9, vb false), (10, vp 8 0), (54, vb false)] [(5, .box (sysC s)), (6, .box [.d (.sl 1 (x.locs.map intD)), .d (.sl 2 (x.vals.map ziD))]), (7, .box [.d (.raw nilV), .d (.raw nilV)]), (8, .box [.own 9 x.locs.length, .own 10 (x.vals.map clZ).length]), (9, .row 3 1 (x.locs.map intD)), (10, .row 28 2 ((x.vals.map clZ).map ziD))] (by kernel_rfl) h ?_; clear h; intro a w h
     refine condS false h rfl (fun hc => ?_) (fun hc => ?_)
     ·cases hc
     ·clear hc
      refine wp_skip ?_
      refine then_n ?_
      refine wp_seq ?_
      refine rSeq fam0ok 13 [(3, .call (SRbeginsS s x ki c hL hs hx hka) kp_7)] [(2, vi .i64 (ki : Int)), (3, .t (.c (.d (.sl 2 (picks.map ziD))))), (4, vp 5 0), (5, vp 6 0), (8, vp 7 0), (9, vb false), (10, vp 8 0), (64, vb (!(enabled s x c)))] [(5, .box (sysC s)), (6, .box [.d (.sl 1 (x.locs.map intD)), .d (.sl 2 (x.vals.map ziD))]), (7, .box [.d (.raw nilV), .d (.raw nilV)]), (8, .box [.own 9 x.locs.length, .own 10 (x.vals.map clZ).length]), (9, .row 3 1 (x.locs.map intD)), (10, .row 28 2 ((x.vals.map clZ).map ziD))] (by kernel_rfl) h ?_; clear h; intro a w h
      refine condS (!(enabled s x c)) h rfl (fun hc => ?_) (fun hc => ?_)
      ·have hc5 := hc; clear hc
       have hc5' := hc5; (try simp at hc5')
       refine rSeq fam0ok 13 [] [(2, vi .i64 (ki : Int)), (3, .t (.c (.d (.sl 2 (picks.map ziD))))), (4, vp 5 0), (5, vp 6 0), (8, vp 7 0), (9, vb false), (10, vp 8 0)] [(5, .box (sysC s)), (6, .box [.d (.sl 1 (x.locs.map intD)), .d (.sl 2 (x.vals.map ziD))]), (7, .box [.d (.raw nilV), .d (.raw nilV)]), (8, .box [.own 9 x.locs.length, .own 10 (x.vals.map clZ).length]), (9, .row 3 1 (x.locs.map intD)), (10, .row 28 2 ((x.vals.map clZ).map ziD))] (by kernel_rfl) h ?_; clear h; intro a w h
       refine wp_ret ?_
       refine then_r ?_
       replace h := nilDLs 7 0 1 [.d (.raw nilV), .d (.raw nilV)] [(2, vi .i64 (ki : Int)), (3, .t (.c (.d (.sl 2 (picks.map ziD))))), (4, vp 5 0), (5, vp 6 0), (8, vp 7 0), (9, vb false), (10, vp 8 0)] [(5, .box (sysC s)), (6, .box [.d (.sl 1 (x.locs.map intD)), .d (.sl 2 (x.vals.map ziD))]), (7, .box [.d (.sl 1 ([].map intD)), .d (.raw nilV)]), (8, .box [.own 9 x.locs.length, .own 10 (x.vals.map clZ).length]), (9, .row 3 1 (x.locs.map intD)), (10, .row 28 2 ((x.vals.map clZ).map ziD))] h rfl rfl (by kernel_rfl) (by kernel_rfl)
       replace h := nilDLs 7 1 2 [.d (.sl 1 ([].map intD)), .d (.raw nilV)] [(2, vi .i64 (ki : Int)), (3, .t (.c (.d (.sl 2 (picks.map ziD))))), (4, vp 5 0), (5, vp 6 0), (8, vp 7 0), (9, vb false), (10, vp 8 0)] [(5, .box (sysC s)), (6, .box [.d (.sl 1 (x.locs.map intD)), .d (.sl 2 (x.vals.map ziD))]), (7, .box [.d (.sl 1 ([].map intD)), .d (.sl 2 ([].map ziD))]), (8, .box [.own 9 x.locs.length, .own 10 (x.vals.map clZ).length]), (9, .row 3 1 (x.locs.map intD)), (10, .row 28 2 ((x.vals.map clZ).map ziD))] h rfl rfl (by kernel_rfl) (by kernel_rfl)
       refine retS [.agg [.d (.sl 1 ([].map intD)), .d (.sl 2 ([].map ziD))], .c (.d (.raw (.bool false)))] h Exit.ret (.inl rfl)  rfl ⟨RV.agg _ 7 0 _ _ _ _ kk_5 rfl rfl rfl rfl, RV.tmp _ _ rfl, trivial⟩ ?_ (by kernel_rfl) (by kernel_rfl)
       have hz : goC s x c picks = (st0, false) := by unfold goC; rw [if_neg (fun h => by have := h.1; rw [(show (enabled s x c) = false from by simpa using hc5)] at this; cases this)]
       rw [hz]; first | done | rfl
      ·have hc6 := hc; clear hc
       have hc6' := hc6; (try simp at hc6')
       refine wp_skip ?_
       refine then_n ?_
       refine rSeq fam0ok 13 [(3, .gen _ _ _ fun _ _ _ _ => Op.idxD (d := 69) (t := 67) (k := .i64) ki_1 (map_at hka (f := ActD.d)) (OV.tmp 68 _))] [(3, .t (.c (.d (.sl 2 (picks.map ziD))))), (4, vp 5 0), (5, vp 6 0), (8, vp 7 0), (9, vb false), (10, vp 8 0), (13, vp 13 0)] [(5, .box (sysC s)), (6, .box [.d (.sl 1 (x.locs.map intD)), .d (.sl 2 (x.vals.map ziD))]), (7, .box [.d (.raw nilV), .d (.raw nilV)]), (8, .box [.own 9 x.locs.length, .own 10 (x.vals.map clZ).length]), (9, .row 3 1 (x.locs.map intD)), (10, .row 28 2 ((x.vals.map clZ).map ziD)), (13, .box ([.d (.raw (.int .i64 c.proc)), .d (.raw (.int .i64 c.from_)), .d (.raw (.int .i64 c.to_)), .d (.raw (.int .i64 c.guard.kind)), .d (.sl 3 (c.guard.r.t.parts.map Part.d))] ++ zi c.guard.r.t.k ++ [.d (.raw (.bool c.guard.r.eq)), .d (.sl 6 (c.guard.kids.map FormD.d)), .d (.sl 5 (c.moves.map MoveD.d))]))] (by kernel_rfl) h ?_; clear h; intro a w h
       have hen := (show (enabled s x c) = true from by simpa using hc6)
       have hfl := fits_len (enabled_fits hen)
       have hpr := enabled_proc hen
       obtain ⟨k0, hkk0⟩ : ∃ k_ : Nat, c.proc = (k_ : Int) := ⟨_, (Int.toNat_of_nonneg (by omega)).symm⟩
       replace h := h.conv (f' := F.of [(3, .t (.c (.d (.sl 2 (picks.map ziD))))), (4, vp 5 0), (5, vp 6 0), (8, vp 7 0), (9, vb false), (10, vp 8 0), (13, vp 13 0)] [(5, .box (sysC s)), (6, .box [.d (.sl 1 (x.locs.map intD)), .d (.sl 2 (x.vals.map ziD))]), (7, .box [.d (.raw nilV), .d (.raw nilV)]), (8, .box [.own 9 x.locs.length, .own 10 (x.vals.map clZ).length]), (9, .row 3 1 (x.locs.map intD)), (10, .row 28 2 ((x.vals.map clZ).map ziD)), (13, .box ([.d (.raw (.int .i64 (k0 : Int))), .d (.raw (.int .i64 c.from_)), .d (.raw (.int .i64 c.to_)), .d (.raw (.int .i64 c.guard.kind)), .d (.sl 3 (c.guard.r.t.parts.map Part.d))] ++ zi c.guard.r.t.k ++ [.d (.raw (.bool c.guard.r.eq)), .d (.sl 6 (c.guard.kids.map FormD.d)), .d (.sl 5 (c.moves.map MoveD.d))]))]) (by rw [hkk0])
       obtain ⟨x5, hx5⟩ : ∃ z_ : Int, x.locs[k0]? = some z_ := ⟨_, List.getElem?_eq_getElem (by first | omega | (simp at *; omega))⟩
       refine rSeq fam0ok 14 [(6, .gen _ _ _ fun _ _ _ _ => Op.idxO (d := 77) (t := 72) (k := .i64) (n := 9) (len := x.locs.length) (i := k0) tb_1 (by first | omega | (simp at *; omega)) (OV.tmp 74 _)), (7, .gen _ _ _ fun _ _ _ _ => Op.storeR (t := 77) (n := 9) (i := k0) (fo := 0) (rty := 3) (es := 1) (r := intD x5) (ds := [.raw (.int .i64 c.to_)]) (rs := [(76, vi .i64 c.to_)]) (rows := x.locs.map intD) (rows' := (x.locs.set k0 c.to_).map intD) tl_7 (OV.tmp 76 _) rfl rfl rfl (map_at hx5 (f := intD)) (by simp [intD]) (set_map (xs := x.locs) (F := intD) k0 _ _ rfl))] [(3, .t (.c (.d (.sl 2 (picks.map ziD))))), (4, vp 5 0), (5, vp 6 0), (8, vp 7 0), (9, vb false), (10, vp 8 0), (13, vp 13 0)] [(5, .box (sysC s)), (6, .box [.d (.sl 1 (x.locs.map intD)), .d (.sl 2 (x.vals.map ziD))]), (7, .box [.d (.raw nilV), .d (.raw nilV)]), (8, .box [.own 9 x.locs.length, .own 10 (x.vals.map clZ).length]), (9, .row 3 1 ((x.locs.set k0 c.to_).map intD)), (10, .row 28 2 ((x.vals.map clZ).map ziD)), (13, .box ([.d (.raw (.int .i64 (k0 : Int))), .d (.raw (.int .i64 c.from_)), .d (.raw (.int .i64 c.to_)), .d (.raw (.int .i64 c.guard.kind)), .d (.sl 3 (c.guard.r.t.parts.map Part.d))] ++ zi c.guard.r.t.k ++ [.d (.raw (.bool c.guard.r.eq)), .d (.sl 6 (c.guard.kids.map FormD.d)), .d (.sl 5 (c.moves.map MoveD.d))]))] (by kernel_rfl) h ?_; clear h; intro a w h
       replace h := h.conv (f' := F.of [(3, .t (.c (.d (.sl 2 (picks.map ziD))))), (4, vp 5 0), (5, vp 6 0), (8, vp 7 0), (9, vb false), (10, vp 8 0), (13, vp 13 0)] [(5, .box (sysC s)), (6, .box [.d (.sl 1 (x.locs.map intD)), .d (.sl 2 (x.vals.map ziD))]), (7, .box [.d (.raw nilV), .d (.raw nilV)]), (8, .box [.own 9 x.locs.length, .own 10 (x.vals.map clZ).length]), (9, .row 3 1 ((x.locs.set k0 c.to_).map intD)), (10, .row 28 2 ((x.vals.map clZ).map ziD)), (13, .box ([.d (.raw (.int .i64 c.proc)), .d (.raw (.int .i64 c.from_)), .d (.raw (.int .i64 c.to_)), .d (.raw (.int .i64 c.guard.kind)), .d (.sl 3 (c.guard.r.t.parts.map Part.d))] ++ zi c.guard.r.t.k ++ [.d (.raw (.bool c.guard.r.eq)), .d (.sl 6 (c.guard.kids.map FormD.d)), .d (.sl 5 (c.moves.map MoveD.d))]))]) (by rw [hkk0])
       refine rSeq fam0ok 14 [] [(3, .t (.c (.d (.sl 2 (picks.map ziD))))), (4, vp 5 0), (5, vp 6 0), (8, vp 7 0), (9, vb false), (10, vp 8 0), (13, vp 13 0), (14, vi .i64 0)] [(5, .box (sysC s)), (6, .box [.d (.sl 1 (x.locs.map intD)), .d (.sl 2 (x.vals.map ziD))]), (7, .box [.d (.raw nilV), .d (.raw nilV)]), (8, .box [.own 9 x.locs.length, .own 10 (x.vals.map clZ).length]), (9, .row 3 1 ((x.locs.set k0 c.to_).map intD)), (10, .row 28 2 ((x.vals.map clZ).map ziD)), (13, .box ([.d (.raw (.int .i64 c.proc)), .d (.raw (.int .i64 c.from_)), .d (.raw (.int .i64 c.to_)), .d (.raw (.int .i64 c.guard.kind)), .d (.sl 3 (c.guard.r.t.parts.map Part.d))] ++ zi c.guard.r.t.k ++ [.d (.raw (.bool c.guard.r.eq)), .d (.sl 6 (c.guard.kids.map FormD.d)), .d (.sl 5 (c.moves.map MoveD.d))]))] (by kernel_rfl) h ?_; clear h; intro a w h
       refine wp_seq ?_
       refine rSeq fam0ok 14 [] [(3, .t (.c (.d (.sl 2 (picks.map ziD))))), (4, vp 5 0), (5, vp 6 0), (8, vp 7 0), (9, vb false), (10, vp 8 0), (13, vp 13 0), (14, vi .i64 0), (15, vi .i64 0)] [(5, .box (sysC s)), (6, .box [.d (.sl 1 (x.locs.map intD)), .d (.sl 2 (x.vals.map ziD))]), (7, .box [.d (.raw nilV), .d (.raw nilV)]), (8, .box [.own 9 x.locs.length, .own 10 (x.vals.map clZ).length]), (9, .row 3 1 ((x.locs.set k0 c.to_).map intD)), (10, .row 28 2 ((x.vals.map clZ).map ziD)), (13, .box ([.d (.raw (.int .i64 c.proc)), .d (.raw (.int .i64 c.from_)), .d (.raw (.int .i64 c.to_)), .d (.raw (.int .i64 c.guard.kind)), .d (.sl 3 (c.guard.r.t.parts.map Part.d))] ++ zi c.guard.r.t.k ++ [.d (.raw (.bool c.guard.r.eq)), .d (.sl 6 (c.guard.kids.map FormD.d)), .d (.sl 5 (c.moves.map MoveD.d))]))] (by kernel_rfl) h ?_; clear h; intro a w h
       refine wp_block ?_
       refine loopS (ι := (Nat)) (fun (z_ : (Nat)) => match z_ with | j => j ≤ x.vals.length)
         (fun (z_ : (Nat)) => match z_ with | j => [(3, .t (.c (.d (.sl 2 (picks.map ziD))))), (4, vp 5 0), (5, vp 6 0), (8, vp 7 0), (9, vb false), (10, vp 8 0), (13, vp 13 0), (14, vi .i64 ((cntFree c j : Nat) : Int)), (15, vi .i64 (j : Int))])
         (fun (z_ : (Nat)) => match z_ with | j => [(5, .box (sysC s)), (6, .box [.d (.sl 1 (x.locs.map intD)), .d (.sl 2 (x.vals.map ziD))]), (7, .box [.d (.raw nilV), .d (.raw nilV)]), (8, .box [.own 9 x.locs.length, .own 10 (x.vals.map clZ).length]), (9, .row 3 1 ((x.locs.set k0 c.to_).map intD)), (10, .row 28 2 (((List.range j).map (newV x c picks) ++ (x.vals.map clZ).drop j).map ziD)), (13, .box ([.d (.raw (.int .i64 c.proc)), .d (.raw (.int .i64 c.from_)), .d (.raw (.int .i64 c.to_)), .d (.raw (.int .i64 c.guard.kind)), .d (.sl 3 (c.guard.r.t.parts.map Part.d))] ++ zi c.guard.r.t.k ++ [.d (.raw (.bool c.guard.r.eq)), .d (.sl 6 (c.guard.kids.map FormD.d)), .d (.sl 5 (c.moves.map MoveD.d))]))])
         (fun (z_ : (Nat)) => match z_ with | j => x.vals.length - j) 0 ?_ h (by kernel_rfl) (by kernel_rfl) ?_
       ·exact Nat.zero_le _
       ·clear h; rintro j a w hI h
        change St _ (F.of [(3, .t (.c (.d (.sl 2 (picks.map ziD))))), (4, vp 5 0), (5, vp 6 0), (8, vp 7 0), (9, vb false), (10, vp 8 0), (13, vp 13 0), (14, vi .i64 ((cntFree c j : Nat) : Int)), (15, vi .i64 (j : Int))] [(5, .box (sysC s)), (6, .box [.d (.sl 1 (x.locs.map intD)), .d (.sl 2 (x.vals.map ziD))]), (7, .box [.d (.raw nilV), .d (.raw nilV)]), (8, .box [.own 9 x.locs.length, .own 10 (x.vals.map clZ).length]), (9, .row 3 1 ((x.locs.set k0 c.to_).map intD)), (10, .row 28 2 (((List.range j).map (newV x c picks) ++ (x.vals.map clZ).drop j).map ziD)), (13, .box ([.d (.raw (.int .i64 c.proc)), .d (.raw (.int .i64 c.from_)), .d (.raw (.int .i64 c.to_)), .d (.raw (.int .i64 c.guard.kind)), .d (.sl 3 (c.guard.r.t.parts.map Part.d))] ++ zi c.guard.r.t.k ++ [.d (.raw (.bool c.guard.r.eq)), .d (.sl 6 (c.guard.kids.map FormD.d)), .d (.sl 5 (c.moves.map MoveD.d))]))]) a w at h
        have hrl := range_len (f := (newV x c picks)) (cl := (x.vals.map clZ)) (j := j) (by rw [List.length_map]; omega)
        rw [List.length_map] at hrl
        have hcf := cnt_le c j
        refine wp_seq ?_
        refine rSeq fam0ok 14 [(3, .len (c := (.d (.sl 2 (x.vals.map ziD)))) (n := x.vals.length) (lenC_map _ _ _))] [(3, .t (.c (.d (.sl 2 (picks.map ziD))))), (4, vp 5 0), (5, vp 6 0), (8, vp 7 0), (9, vb false), (10, vp 8 0), (13, vp 13 0), (14, vi .i64 ((cntFree c j : Nat) : Int)), (15, vi .i64 (j : Int)), (82, vb (decide ((j : Int) < (x.vals.length : Int))))] [(5, .box (sysC s)), (6, .box [.d (.sl 1 (x.locs.map intD)), .d (.sl 2 (x.vals.map ziD))]), (7, .box [.d (.raw nilV), .d (.raw nilV)]), (8, .box [.own 9 x.locs.length, .own 10 (x.vals.map clZ).length]), (9, .row 3 1 ((x.locs.set k0 c.to_).map intD)), (10, .row 28 2 (((List.range j).map (newV x c picks) ++ (x.vals.map clZ).drop j).map ziD)), (13, .box ([.d (.raw (.int .i64 c.proc)), .d (.raw (.int .i64 c.from_)), .d (.raw (.int .i64 c.to_)), .d (.raw (.int .i64 c.guard.kind)), .d (.sl 3 (c.guard.r.t.parts.map Part.d))] ++ zi c.guard.r.t.k ++ [.d (.raw (.bool c.guard.r.eq)), .d (.sl 6 (c.guard.kids.map FormD.d)), .d (.sl 5 (c.moves.map MoveD.d))]))] (by kernel_rfl) h ?_; clear h; intro a w h
        refine condS (decide ((j : Int) < (x.vals.length : Int))) h rfl (fun hc => ?_) (fun hc => ?_)
        ·have hc7 := hc; clear hc
         have hc7' := of_decide_eq_true hc7
         refine wp_skip ?_
         refine then_n ?_
         refine wp_seq ?_
         refine wp_block ?_
         rcases idxB_find (fun m => m.v == (j : Int)) c.moves with ⟨hix, hm⟩ | ⟨k, m, hix, hmk, hm⟩
         ·replace hm : mvAt c j = none := hm
          refine rSeq fam0ok 14 [(2, .call (Fn.cast (SRmove c j lmv) (congrArg (vi .i64) hix)) kp_11)] [(3, .t (.c (.d (.sl 2 (picks.map ziD))))), (4, vp 5 0), (5, vp 6 0), (8, vp 7 0), (9, vb false), (10, vp 8 0), (13, vp 13 0), (14, vi .i64 ((cntFree c j : Nat) : Int)), (15, vi .i64 (j : Int)), (16, vi .i64 (-1))] [(5, .box (sysC s)), (6, .box [.d (.sl 1 (x.locs.map intD)), .d (.sl 2 (x.vals.map ziD))]), (7, .box [.d (.raw nilV), .d (.raw nilV)]), (8, .box [.own 9 x.locs.length, .own 10 (x.vals.map clZ).length]), (9, .row 3 1 ((x.locs.set k0 c.to_).map intD)), (10, .row 28 2 (((List.range j).map (newV x c picks) ++ (x.vals.map clZ).drop j).map ziD)), (13, .box ([.d (.raw (.int .i64 c.proc)), .d (.raw (.int .i64 c.from_)), .d (.raw (.int .i64 c.to_)), .d (.raw (.int .i64 c.guard.kind)), .d (.sl 3 (c.guard.r.t.parts.map Part.d))] ++ zi c.guard.r.t.k ++ [.d (.raw (.bool c.guard.r.eq)), .d (.sl 6 (c.guard.kids.map FormD.d)), .d (.sl 5 (c.moves.map MoveD.d))]))] (by kernel_rfl) h ?_; clear h; intro a w h
          refine rSeq fam0ok 14 [(1, .cmp (op := .geq) (m := (-1)) (n := 0) (b := false) .i64 rfl)] [(3, .t (.c (.d (.sl 2 (picks.map ziD))))), (4, vp 5 0), (5, vp 6 0), (8, vp 7 0), (9, vb false), (10, vp 8 0), (13, vp 13 0), (14, vi .i64 ((cntFree c j : Nat) : Int)), (15, vi .i64 (j : Int)), (16, vi .i64 (-1)), (97, vb false)] [(5, .box (sysC s)), (6, .box [.d (.sl 1 (x.locs.map intD)), .d (.sl 2 (x.vals.map ziD))]), (7, .box [.d (.raw nilV), .d (.raw nilV)]), (8, .box [.own 9 x.locs.length, .own 10 (x.vals.map clZ).length]), (9, .row 3 1 ((x.locs.set k0 c.to_).map intD)), (10, .row 28 2 (((List.range j).map (newV x c picks) ++ (x.vals.map clZ).drop j).map ziD)), (13, .box ([.d (.raw (.int .i64 c.proc)), .d (.raw (.int .i64 c.from_)), .d (.raw (.int .i64 c.to_)), .d (.raw (.int .i64 c.guard.kind)), .d (.sl 3 (c.guard.r.t.parts.map Part.d))] ++ zi c.guard.r.t.k ++ [.d (.raw (.bool c.guard.r.eq)), .d (.sl 6 (c.guard.kids.map FormD.d)), .d (.sl 5 (c.moves.map MoveD.d))]))] (by kernel_rfl) h ?_; clear h; intro a w h
          refine condS false h rfl (fun hc => ?_) (fun hc => ?_)
          ·cases hc
          ·clear hc
           refine rSeq fam0ok 14 [(1, .cmp (op := .geq) (m := (-1)) (n := 0) (b := false) .i64 rfl)] [(3, .t (.c (.d (.sl 2 (picks.map ziD))))), (4, vp 5 0), (5, vp 6 0), (8, vp 7 0), (9, vb false), (10, vp 8 0), (13, vp 13 0), (14, vi .i64 ((cntFree c j : Nat) : Int)), (15, vi .i64 (j : Int)), (16, vi .i64 (-1)), (119, vb false)] [(5, .box (sysC s)), (6, .box [.d (.sl 1 (x.locs.map intD)), .d (.sl 2 (x.vals.map ziD))]), (7, .box [.d (.raw nilV), .d (.raw nilV)]), (8, .box [.own 9 x.locs.length, .own 10 (x.vals.map clZ).length]), (9, .row 3 1 ((x.locs.set k0 c.to_).map intD)), (10, .row 28 2 (((List.range j).map (newV x c picks) ++ (x.vals.map clZ).drop j).map ziD)), (13, .box ([.d (.raw (.int .i64 c.proc)), .d (.raw (.int .i64 c.from_)), .d (.raw (.int .i64 c.to_)), .d (.raw (.int .i64 c.guard.kind)), .d (.sl 3 (c.guard.r.t.parts.map Part.d))] ++ zi c.guard.r.t.k ++ [.d (.raw (.bool c.guard.r.eq)), .d (.sl 6 (c.guard.kids.map FormD.d)), .d (.sl 5 (c.moves.map MoveD.d))]))] (by kernel_rfl) h ?_; clear h; intro a w h
           refine condS false h rfl (fun hc => ?_) (fun hc => ?_)
           ·cases hc
           ·clear hc
            refine wp_skip ?_
            refine block_n ?_
            refine then_n ?_
            refine rS fam0ok 14 [(1, .add .i64 (m := (j : Int)) (n := 1) (i64_id (by omega) (by omega)))] [(3, .t (.c (.d (.sl 2 (picks.map ziD))))), (4, vp 5 0), (5, vp 6 0), (8, vp 7 0), (9, vb false), (10, vp 8 0), (13, vp 13 0), (14, vi .i64 ((cntFree c j : Nat) : Int)), (15, vi .i64 ((j : Int) + 1))] [(5, .box (sysC s)), (6, .box [.d (.sl 1 (x.locs.map intD)), .d (.sl 2 (x.vals.map ziD))]), (7, .box [.d (.raw nilV), .d (.raw nilV)]), (8, .box [.own 9 x.locs.length, .own 10 (x.vals.map clZ).length]), (9, .row 3 1 ((x.locs.set k0 c.to_).map intD)), (10, .row 28 2 (((List.range j).map (newV x c picks) ++ (x.vals.map clZ).drop j).map ziD)), (13, .box ([.d (.raw (.int .i64 c.proc)), .d (.raw (.int .i64 c.from_)), .d (.raw (.int .i64 c.to_)), .d (.raw (.int .i64 c.guard.kind)), .d (.sl 3 (c.guard.r.t.parts.map Part.d))] ++ zi c.guard.r.t.k ++ [.d (.raw (.bool c.guard.r.eq)), .d (.sl 6 (c.guard.kids.map FormD.d)), .d (.sl 5 (c.moves.map MoveD.d))]))] (by kernel_rfl) h ?_; clear h; intro a w h
            refine then_n ?_
            obtain ⟨zq, hzq⟩ : ∃ z_ : ZI, x.vals[j]? = some z_ := ⟨_, List.getElem?_eq_getElem (by omega)⟩
            replace h := h.conv (f' := F.of [(3, .t (.c (.d (.sl 2 (picks.map ziD))))), (4, vp 5 0), (5, vp 6 0), (8, vp 7 0), (9, vb false), (10, vp 8 0), (13, vp 13 0), (14, vi .i64 ((cntFree c j : Nat) : Int)), (15, vi .i64 ((j : Int) + 1))] [(5, .box (sysC s)), (6, .box [.d (.sl 1 (x.locs.map intD)), .d (.sl 2 (x.vals.map ziD))]), (7, .box [.d (.raw nilV), .d (.raw nilV)]), (8, .box [.own 9 x.locs.length, .own 10 (x.vals.map clZ).length]), (9, .row 3 1 ((x.locs.set k0 c.to_).map intD)), (10, .row 28 2 (((List.range (j + 1)).map (newV x c picks) ++ (x.vals.map clZ).drop (j + 1)).map ziD)), (13, .box ([.d (.raw (.int .i64 c.proc)), .d (.raw (.int .i64 c.from_)), .d (.raw (.int .i64 c.to_)), .d (.raw (.int .i64 c.guard.kind)), .d (.sl 3 (c.guard.r.t.parts.map Part.d))] ++ zi c.guard.r.t.k ++ [.d (.raw (.bool c.guard.r.eq)), .d (.sl 6 (c.guard.kids.map FormD.d)), .d (.sl 5 (c.moves.map MoveD.d))]))]) (congrArg (fun (z_ : List ZI) => F.of [(3, .t (.c (.d (.sl 2 (picks.map ziD))))), (4, vp 5 0), (5, vp 6 0), (8, vp 7 0), (9, vb false), (10, vp 8 0), (13, vp 13 0), (14, vi .i64 ((cntFree c j : Nat) : Int)), (15, vi .i64 ((j : Int) + 1))] [(5, .box (sysC s)), (6, .box [.d (.sl 1 (x.locs.map intD)), .d (.sl 2 (x.vals.map ziD))]), (7, .box [.d (.raw nilV), .d (.raw nilV)]), (8, .box [.own 9 x.locs.length, .own 10 (x.vals.map clZ).length]), (9, .row 3 1 ((x.locs.set k0 c.to_).map intD)), (10, .row 28 2 (z_.map ziD)), (13, .box ([.d (.raw (.int .i64 c.proc)), .d (.raw (.int .i64 c.from_)), .d (.raw (.int .i64 c.to_)), .d (.raw (.int .i64 c.guard.kind)), .d (.sl 3 (c.guard.r.t.parts.map Part.d))] ++ zi c.guard.r.t.k ++ [.d (.raw (.bool c.guard.r.eq)), .d (.sl 6 (c.guard.kids.map FormD.d)), .d (.sl 5 (c.moves.map MoveD.d))]))]) (show (((List.range j).map (newV x c picks) ++ (x.vals.map clZ).drop j) : List ZI) = ((List.range (j + 1)).map (newV x c picks) ++ (x.vals.map clZ).drop (j + 1)) from (range_keep (map_at hzq (f := clZ)) (by rw [newV_new (free_none hm), new_none hm hzq]))))
            replace h := h.conv (f' := F.of [(3, .t (.c (.d (.sl 2 (picks.map ziD))))), (4, vp 5 0), (5, vp 6 0), (8, vp 7 0), (9, vb false), (10, vp 8 0), (13, vp 13 0), (14, vi .i64 ((cntFree c (j + 1) : Nat) : Int)), (15, vi .i64 ((j : Int) + 1))] [(5, .box (sysC s)), (6, .box [.d (.sl 1 (x.locs.map intD)), .d (.sl 2 (x.vals.map ziD))]), (7, .box [.d (.raw nilV), .d (.raw nilV)]), (8, .box [.own 9 x.locs.length, .own 10 (x.vals.map clZ).length]), (9, .row 3 1 ((x.locs.set k0 c.to_).map intD)), (10, .row 28 2 (((List.range (j + 1)).map (newV x c picks) ++ (x.vals.map clZ).drop (j + 1)).map ziD)), (13, .box ([.d (.raw (.int .i64 c.proc)), .d (.raw (.int .i64 c.from_)), .d (.raw (.int .i64 c.to_)), .d (.raw (.int .i64 c.guard.kind)), .d (.sl 3 (c.guard.r.t.parts.map Part.d))] ++ zi c.guard.r.t.k ++ [.d (.raw (.bool c.guard.r.eq)), .d (.sl 6 (c.guard.kids.map FormD.d)), .d (.sl 5 (c.moves.map MoveD.d))]))]) (congrArg (fun (z_ : Int) => F.of [(3, .t (.c (.d (.sl 2 (picks.map ziD))))), (4, vp 5 0), (5, vp 6 0), (8, vp 7 0), (9, vb false), (10, vp 8 0), (13, vp 13 0), (14, vi .i64 z_), (15, vi .i64 ((j : Int) + 1))] [(5, .box (sysC s)), (6, .box [.d (.sl 1 (x.locs.map intD)), .d (.sl 2 (x.vals.map ziD))]), (7, .box [.d (.raw nilV), .d (.raw nilV)]), (8, .box [.own 9 x.locs.length, .own 10 (x.vals.map clZ).length]), (9, .row 3 1 ((x.locs.set k0 c.to_).map intD)), (10, .row 28 2 (((List.range (j + 1)).map (newV x c picks) ++ (x.vals.map clZ).drop (j + 1)).map ziD)), (13, .box ([.d (.raw (.int .i64 c.proc)), .d (.raw (.int .i64 c.from_)), .d (.raw (.int .i64 c.to_)), .d (.raw (.int .i64 c.guard.kind)), .d (.sl 3 (c.guard.r.t.parts.map Part.d))] ++ zi c.guard.r.t.k ++ [.d (.raw (.bool c.guard.r.eq)), .d (.sl 6 (c.guard.kids.map FormD.d)), .d (.sl 5 (c.moves.map MoveD.d))]))]) (show (((cntFree c j : Nat) : Int) : Int) = ((cntFree c (j + 1) : Nat) : Int) from (by rw [cnt_kept (free_none hm)])))
            refine roundS (x := j) (y := j + 1) h ?_ ?_ (by kernel_rfl) (by kernel_rfl)
            ·show j + 1 ≤ x.vals.length
             omega
            ·show x.vals.length - (j + 1) < x.vals.length - j
             omega
         ·replace hm : mvAt c j = some m := hm
          have lmk := at_lt hmk
          refine rSeq fam0ok 14 [(2, .call (Fn.cast (SRmove c j lmv) (congrArg (vi .i64) hix)) kp_11)] [(3, .t (.c (.d (.sl 2 (picks.map ziD))))), (4, vp 5 0), (5, vp 6 0), (8, vp 7 0), (9, vb false), (10, vp 8 0), (13, vp 13 0), (14, vi .i64 ((cntFree c j : Nat) : Int)), (15, vi .i64 (j : Int)), (16, vi .i64 (k : Int))] [(5, .box (sysC s)), (6, .box [.d (.sl 1 (x.locs.map intD)), .d (.sl 2 (x.vals.map ziD))]), (7, .box [.d (.raw nilV), .d (.raw nilV)]), (8, .box [.own 9 x.locs.length, .own 10 (x.vals.map clZ).length]), (9, .row 3 1 ((x.locs.set k0 c.to_).map intD)), (10, .row 28 2 (((List.range j).map (newV x c picks) ++ (x.vals.map clZ).drop j).map ziD)), (13, .box ([.d (.raw (.int .i64 c.proc)), .d (.raw (.int .i64 c.from_)), .d (.raw (.int .i64 c.to_)), .d (.raw (.int .i64 c.guard.kind)), .d (.sl 3 (c.guard.r.t.parts.map Part.d))] ++ zi c.guard.r.t.k ++ [.d (.raw (.bool c.guard.r.eq)), .d (.sl 6 (c.guard.kids.map FormD.d)), .d (.sl 5 (c.moves.map MoveD.d))]))] (by kernel_rfl) h ?_; clear h; intro a w h
          refine rSeq fam0ok 14 [(1, .cmp (op := .geq) (m := (k : Int)) (n := 0) (b := true) .i64 (show (decide ((k : Int) ≥ 0)) = true from decide_eq_true (by omega))), (6, .gen _ _ _ fun _ _ _ _ => Op.idxD (d := 94) (t := 92) (k := .i64) ki_2 (map_at hmk (f := MoveD.d)) (OV.tmp 93 _))] [(3, .t (.c (.d (.sl 2 (picks.map ziD))))), (4, vp 5 0), (5, vp 6 0), (8, vp 7 0), (9, vb false), (10, vp 8 0), (13, vp 13 0), (14, vi .i64 ((cntFree c j : Nat) : Int)), (15, vi .i64 (j : Int)), (16, vi .i64 (k : Int)), (97, vb m.any)] [(5, .box (sysC s)), (6, .box [.d (.sl 1 (x.locs.map intD)), .d (.sl 2 (x.vals.map ziD))]), (7, .box [.d (.raw nilV), .d (.raw nilV)]), (8, .box [.own 9 x.locs.length, .own 10 (x.vals.map clZ).length]), (9, .row 3 1 ((x.locs.set k0 c.to_).map intD)), (10, .row 28 2 (((List.range j).map (newV x c picks) ++ (x.vals.map clZ).drop j).map ziD)), (13, .box ([.d (.raw (.int .i64 c.proc)), .d (.raw (.int .i64 c.from_)), .d (.raw (.int .i64 c.to_)), .d (.raw (.int .i64 c.guard.kind)), .d (.sl 3 (c.guard.r.t.parts.map Part.d))] ++ zi c.guard.r.t.k ++ [.d (.raw (.bool c.guard.r.eq)), .d (.sl 6 (c.guard.kids.map FormD.d)), .d (.sl 5 (c.moves.map MoveD.d))]))] (by kernel_rfl) h ?_; clear h; intro a w h
          refine condS m.any h rfl (fun hc => ?_) (fun hc => ?_)
          ·have hc8 := hc; clear hc
           obtain ⟨x8, hx8⟩ : ∃ z_ : ZI, ((List.range j).map (newV x c picks) ++ (x.vals.map clZ).drop j)[j]? = some z_ := ⟨_, List.getElem?_eq_getElem (by first | omega | (simp at *; omega))⟩
           refine rSeq fam0ok 14 [(4, .gen _ _ _ fun _ _ _ _ => Op.idxO (d := 102) (t := 99) (k := .i64) (n := 10) (len := (x.vals.map clZ).length) (i := j) tt_6 (by first | omega | (simp at *; omega)) (OV.tmp 100 _)), (5, .gen _ _ _ fun _ _ _ _ => Op.storeR (t := 102) (n := 10) (i := j) (fo := 0) (rty := 28) (es := 2) (r := ziD x8) (ds := [.raw (.bool false), nsl []]) (rs := [(101, .t (.agg [.d (.raw (.bool false)), .d (nsl [])]))]) (rows := ((List.range j).map (newV x c picks) ++ (x.vals.map clZ).drop j).map ziD) (rows' := (((List.range j).map (newV x c picks) ++ (x.vals.map clZ).drop j).set j (ZI.mk false [])).map ziD) ia_1 (OV.tmp 101 _) rfl rfl rfl (map_at hx8 (f := ziD)) (by simp [ziD]) (set_map (xs := ((List.range j).map (newV x c picks) ++ (x.vals.map clZ).drop j)) (F := ziD) j _ _ rfl))] [(3, .t (.c (.d (.sl 2 (picks.map ziD))))), (4, vp 5 0), (5, vp 6 0), (8, vp 7 0), (9, vb false), (10, vp 8 0), (13, vp 13 0), (14, vi .i64 ((cntFree c j : Nat) : Int)), (15, vi .i64 (j : Int))] [(5, .box (sysC s)), (6, .box [.d (.sl 1 (x.locs.map intD)), .d (.sl 2 (x.vals.map ziD))]), (7, .box [.d (.raw nilV), .d (.raw nilV)]), (8, .box [.own 9 x.locs.length, .own 10 (x.vals.map clZ).length]), (9, .row 3 1 ((x.locs.set k0 c.to_).map intD)), (10, .row 28 2 ((((List.range j).map (newV x c picks) ++ (x.vals.map clZ).drop j).set j (ZI.mk false [])).map ziD)), (13, .box ([.d (.raw (.int .i64 c.proc)), .d (.raw (.int .i64 c.from_)), .d (.raw (.int .i64 c.to_)), .d (.raw (.int .i64 c.guard.kind)), .d (.sl 3 (c.guard.r.t.parts.map Part.d))] ++ zi c.guard.r.t.k ++ [.d (.raw (.bool c.guard.r.eq)), .d (.sl 6 (c.guard.kids.map FormD.d)), .d (.sl 5 (c.moves.map MoveD.d))]))] (by kernel_rfl) h ?_; clear h; intro a w h
           refine wp_seq ?_
           refine rSeq fam0ok 14 [(2, .len (c := (.d (.sl 2 (picks.map ziD)))) (n := picks.length) (lenC_map _ _ _))] [(3, .t (.c (.d (.sl 2 (picks.map ziD))))), (4, vp 5 0), (5, vp 6 0), (8, vp 7 0), (9, vb false), (10, vp 8 0), (13, vp 13 0), (14, vi .i64 ((cntFree c j : Nat) : Int)), (15, vi .i64 (j : Int)), (106, vb (decide (((cntFree c j : Nat) : Int) < (picks.length : Int))))] [(5, .box (sysC s)), (6, .box [.d (.sl 1 (x.locs.map intD)), .d (.sl 2 (x.vals.map ziD))]), (7, .box [.d (.raw nilV), .d (.raw nilV)]), (8, .box [.own 9 x.locs.length, .own 10 (x.vals.map clZ).length]), (9, .row 3 1 ((x.locs.set k0 c.to_).map intD)), (10, .row 28 2 ((((List.range j).map (newV x c picks) ++ (x.vals.map clZ).drop j).set j (ZI.mk false [])).map ziD)), (13, .box ([.d (.raw (.int .i64 c.proc)), .d (.raw (.int .i64 c.from_)), .d (.raw (.int .i64 c.to_)), .d (.raw (.int .i64 c.guard.kind)), .d (.sl 3 (c.guard.r.t.parts.map Part.d))] ++ zi c.guard.r.t.k ++ [.d (.raw (.bool c.guard.r.eq)), .d (.sl 6 (c.guard.kids.map FormD.d)), .d (.sl 5 (c.moves.map MoveD.d))]))] (by kernel_rfl) h ?_; clear h; intro a w h
           refine condS (decide (((cntFree c j : Nat) : Int) < (picks.length : Int))) h rfl (fun hc => ?_) (fun hc => ?_)
           ·have hc9 := hc; clear hc
            have hc9' := of_decide_eq_true hc9
            obtain ⟨x9, hx9⟩ : ∃ z_ : ZI, picks[cntFree c j]? = some z_ := ⟨_, List.getElem?_eq_getElem (by first | omega | (simp at *; omega))⟩
            have gx9 := hp x9 (List.mem_of_getElem? hx9)
            have lgx9 := gx9.2
            obtain ⟨r10, er10, vr10, or10, lr10⟩ := mkZ (v := x9.val) (m := M) (Nat.le_trans (len_id gx9.1) gx9.2)
            refine rS fam0ok 14 [(5, .gen _ _ _ fun _ _ _ _ => Op.idxD (d := 112) (t := 110) (k := .i64) tt_6 (map_at hx9 (f := ziD)) (OV.tmp 111 _)), (7, .call (Fn.cast ((show Fn _ _ _ _ (vz (ZI.of x9.val)) _ from SRClean x9 gx9.1 (by omega))) (congrArg vz er10.symm)) tb_7), (8, .gen _ _ _ fun _ _ _ _ => Op.idxO (d := 115) (t := 108) (k := .i64) (n := 10) (len := (x.vals.map clZ).length) (i := j) tt_6 (by first | omega | (simp at *; omega)) (OV.tmp 109 _)), (9, .gen _ _ _ fun _ _ _ _ => Op.storeR (t := 115) (n := 10) (i := j) (fo := 0) (rty := 28) (es := 2) (r := ziD (ZI.mk false [])) (ds := [.raw (.bool r10.neg), nsl r10.abs]) (rs := [(114, vz r10)]) (rows := (((List.range j).map (newV x c picks) ++ (x.vals.map clZ).drop j).set j (ZI.mk false [])).map ziD) (rows' := ((((List.range j).map (newV x c picks) ++ (x.vals.map clZ).drop j).set j (ZI.mk false [])).set j r10).map ziD) ia_1 (OV.tmp 114 _) rfl rfl rfl (map_at (List.getElem?_set_self (List.getElem?_eq_some_iff.1 hx8).1) (f := ziD)) (by simp [ziD]) (set_map (xs := (((List.range j).map (newV x c picks) ++ (x.vals.map clZ).drop j).set j (ZI.mk false []))) (F := ziD) j _ _ rfl))] [(3, .t (.c (.d (.sl 2 (picks.map ziD))))), (4, vp 5 0), (5, vp 6 0), (8, vp 7 0), (9, vb false), (10, vp 8 0), (13, vp 13 0), (14, vi .i64 ((cntFree c j : Nat) : Int)), (15, vi .i64 (j : Int))] [(5, .box (sysC s)), (6, .box [.d (.sl 1 (x.locs.map intD)), .d (.sl 2 (x.vals.map ziD))]), (7, .box [.d (.raw nilV), .d (.raw nilV)]), (8, .box [.own 9 x.locs.length, .own 10 (x.vals.map clZ).length]), (9, .row 3 1 ((x.locs.set k0 c.to_).map intD)), (10, .row 28 2 (((((List.range j).map (newV x c picks) ++ (x.vals.map clZ).drop j).set j (ZI.mk false [])).set j r10).map ziD)), (13, .box ([.d (.raw (.int .i64 c.proc)), .d (.raw (.int .i64 c.from_)), .d (.raw (.int .i64 c.to_)), .d (.raw (.int .i64 c.guard.kind)), .d (.sl 3 (c.guard.r.t.parts.map Part.d))] ++ zi c.guard.r.t.k ++ [.d (.raw (.bool c.guard.r.eq)), .d (.sl 6 (c.guard.kids.map FormD.d)), .d (.sl 5 (c.moves.map MoveD.d))]))] (by kernel_rfl) h ?_; clear h; intro a w h
            refine then_n ?_
            refine rS fam0ok 14 [(1, .add .i64 (m := ((cntFree c j : Nat) : Int)) (n := 1) (i64_id (by omega) (by omega)))] [(3, .t (.c (.d (.sl 2 (picks.map ziD))))), (4, vp 5 0), (5, vp 6 0), (8, vp 7 0), (9, vb false), (10, vp 8 0), (13, vp 13 0), (14, vi .i64 (((cntFree c j : Nat) : Int) + 1)), (15, vi .i64 (j : Int))] [(5, .box (sysC s)), (6, .box [.d (.sl 1 (x.locs.map intD)), .d (.sl 2 (x.vals.map ziD))]), (7, .box [.d (.raw nilV), .d (.raw nilV)]), (8, .box [.own 9 x.locs.length, .own 10 (x.vals.map clZ).length]), (9, .row 3 1 ((x.locs.set k0 c.to_).map intD)), (10, .row 28 2 (((((List.range j).map (newV x c picks) ++ (x.vals.map clZ).drop j).set j (ZI.mk false [])).set j r10).map ziD)), (13, .box ([.d (.raw (.int .i64 c.proc)), .d (.raw (.int .i64 c.from_)), .d (.raw (.int .i64 c.to_)), .d (.raw (.int .i64 c.guard.kind)), .d (.sl 3 (c.guard.r.t.parts.map Part.d))] ++ zi c.guard.r.t.k ++ [.d (.raw (.bool c.guard.r.eq)), .d (.sl 6 (c.guard.kids.map FormD.d)), .d (.sl 5 (c.moves.map MoveD.d))]))] (by kernel_rfl) h ?_; clear h; intro a w h
            refine block_n ?_
            refine then_n ?_
            refine rS fam0ok 14 [(1, .add .i64 (m := (j : Int)) (n := 1) (i64_id (by omega) (by omega)))] [(3, .t (.c (.d (.sl 2 (picks.map ziD))))), (4, vp 5 0), (5, vp 6 0), (8, vp 7 0), (9, vb false), (10, vp 8 0), (13, vp 13 0), (14, vi .i64 (((cntFree c j : Nat) : Int) + 1)), (15, vi .i64 ((j : Int) + 1))] [(5, .box (sysC s)), (6, .box [.d (.sl 1 (x.locs.map intD)), .d (.sl 2 (x.vals.map ziD))]), (7, .box [.d (.raw nilV), .d (.raw nilV)]), (8, .box [.own 9 x.locs.length, .own 10 (x.vals.map clZ).length]), (9, .row 3 1 ((x.locs.set k0 c.to_).map intD)), (10, .row 28 2 (((((List.range j).map (newV x c picks) ++ (x.vals.map clZ).drop j).set j (ZI.mk false [])).set j r10).map ziD)), (13, .box ([.d (.raw (.int .i64 c.proc)), .d (.raw (.int .i64 c.from_)), .d (.raw (.int .i64 c.to_)), .d (.raw (.int .i64 c.guard.kind)), .d (.sl 3 (c.guard.r.t.parts.map Part.d))] ++ zi c.guard.r.t.k ++ [.d (.raw (.bool c.guard.r.eq)), .d (.sl 6 (c.guard.kids.map FormD.d)), .d (.sl 5 (c.moves.map MoveD.d))]))] (by kernel_rfl) h ?_; clear h; intro a w h
            refine then_n ?_
            replace h := h.conv (f' := F.of [(3, .t (.c (.d (.sl 2 (picks.map ziD))))), (4, vp 5 0), (5, vp 6 0), (8, vp 7 0), (9, vb false), (10, vp 8 0), (13, vp 13 0), (14, vi .i64 (((cntFree c j : Nat) : Int) + 1)), (15, vi .i64 ((j : Int) + 1))] [(5, .box (sysC s)), (6, .box [.d (.sl 1 (x.locs.map intD)), .d (.sl 2 (x.vals.map ziD))]), (7, .box [.d (.raw nilV), .d (.raw nilV)]), (8, .box [.own 9 x.locs.length, .own 10 (x.vals.map clZ).length]), (9, .row 3 1 ((x.locs.set k0 c.to_).map intD)), (10, .row 28 2 (((List.range (j + 1)).map (newV x c picks) ++ (x.vals.map clZ).drop (j + 1)).map ziD)), (13, .box ([.d (.raw (.int .i64 c.proc)), .d (.raw (.int .i64 c.from_)), .d (.raw (.int .i64 c.to_)), .d (.raw (.int .i64 c.guard.kind)), .d (.sl 3 (c.guard.r.t.parts.map Part.d))] ++ zi c.guard.r.t.k ++ [.d (.raw (.bool c.guard.r.eq)), .d (.sl 6 (c.guard.kids.map FormD.d)), .d (.sl 5 (c.moves.map MoveD.d))]))]) (congrArg (fun (z_ : List ZI) => F.of [(3, .t (.c (.d (.sl 2 (picks.map ziD))))), (4, vp 5 0), (5, vp 6 0), (8, vp 7 0), (9, vb false), (10, vp 8 0), (13, vp 13 0), (14, vi .i64 (((cntFree c j : Nat) : Int) + 1)), (15, vi .i64 ((j : Int) + 1))] [(5, .box (sysC s)), (6, .box [.d (.sl 1 (x.locs.map intD)), .d (.sl 2 (x.vals.map ziD))]), (7, .box [.d (.raw nilV), .d (.raw nilV)]), (8, .box [.own 9 x.locs.length, .own 10 (x.vals.map clZ).length]), (9, .row 3 1 ((x.locs.set k0 c.to_).map intD)), (10, .row 28 2 (z_.map ziD)), (13, .box ([.d (.raw (.int .i64 c.proc)), .d (.raw (.int .i64 c.from_)), .d (.raw (.int .i64 c.to_)), .d (.raw (.int .i64 c.guard.kind)), .d (.sl 3 (c.guard.r.t.parts.map Part.d))] ++ zi c.guard.r.t.k ++ [.d (.raw (.bool c.guard.r.eq)), .d (.sl 6 (c.guard.kids.map FormD.d)), .d (.sl 5 (c.moves.map MoveD.d))]))]) (show (((((List.range j).map (newV x c picks) ++ (x.vals.map clZ).drop j).set j (ZI.mk false [])).set j r10) : List ZI) = ((List.range (j + 1)).map (newV x c picks) ++ (x.vals.map clZ).drop (j + 1)) from (by rw [List.set_set]; exact range_set (by rw [List.length_map]; omega) (by rw [newV_at (free_some hm hc8) hx9]; simp [*]))))
            replace h := h.conv (f' := F.of [(3, .t (.c (.d (.sl 2 (picks.map ziD))))), (4, vp 5 0), (5, vp 6 0), (8, vp 7 0), (9, vb false), (10, vp 8 0), (13, vp 13 0), (14, vi .i64 ((cntFree c (j + 1) : Nat) : Int)), (15, vi .i64 ((j : Int) + 1))] [(5, .box (sysC s)), (6, .box [.d (.sl 1 (x.locs.map intD)), .d (.sl 2 (x.vals.map ziD))]), (7, .box [.d (.raw nilV), .d (.raw nilV)]), (8, .box [.own 9 x.locs.length, .own 10 (x.vals.map clZ).length]), (9, .row 3 1 ((x.locs.set k0 c.to_).map intD)), (10, .row 28 2 (((List.range (j + 1)).map (newV x c picks) ++ (x.vals.map clZ).drop (j + 1)).map ziD)), (13, .box ([.d (.raw (.int .i64 c.proc)), .d (.raw (.int .i64 c.from_)), .d (.raw (.int .i64 c.to_)), .d (.raw (.int .i64 c.guard.kind)), .d (.sl 3 (c.guard.r.t.parts.map Part.d))] ++ zi c.guard.r.t.k ++ [.d (.raw (.bool c.guard.r.eq)), .d (.sl 6 (c.guard.kids.map FormD.d)), .d (.sl 5 (c.moves.map MoveD.d))]))]) (congrArg (fun (z_ : Int) => F.of [(3, .t (.c (.d (.sl 2 (picks.map ziD))))), (4, vp 5 0), (5, vp 6 0), (8, vp 7 0), (9, vb false), (10, vp 8 0), (13, vp 13 0), (14, vi .i64 z_), (15, vi .i64 ((j : Int) + 1))] [(5, .box (sysC s)), (6, .box [.d (.sl 1 (x.locs.map intD)), .d (.sl 2 (x.vals.map ziD))]), (7, .box [.d (.raw nilV), .d (.raw nilV)]), (8, .box [.own 9 x.locs.length, .own 10 (x.vals.map clZ).length]), (9, .row 3 1 ((x.locs.set k0 c.to_).map intD)), (10, .row 28 2 (((List.range (j + 1)).map (newV x c picks) ++ (x.vals.map clZ).drop (j + 1)).map ziD)), (13, .box ([.d (.raw (.int .i64 c.proc)), .d (.raw (.int .i64 c.from_)), .d (.raw (.int .i64 c.to_)), .d (.raw (.int .i64 c.guard.kind)), .d (.sl 3 (c.guard.r.t.parts.map Part.d))] ++ zi c.guard.r.t.k ++ [.d (.raw (.bool c.guard.r.eq)), .d (.sl 6 (c.guard.kids.map FormD.d)), .d (.sl 5 (c.moves.map MoveD.d))]))]) (show (((cntFree c j : Nat) : Int) + 1 : Int) = ((cntFree c (j + 1) : Nat) : Int) from (by rw [cnt_free (free_some hm hc8)]; omega)))
            refine roundS (x := j) (y := j + 1) h ?_ ?_ (by kernel_rfl) (by kernel_rfl)
            ·show j + 1 ≤ x.vals.length
             omega
            ·show x.vals.length - (j + 1) < x.vals.length - j
             omega
           ·have hc10 := hc; clear hc
            have hc10' := of_decide_eq_false hc10
            refine wp_skip ?_
            refine then_n ?_
            refine rS fam0ok 14 [(1, .add .i64 (m := ((cntFree c j : Nat) : Int)) (n := 1) (i64_id (by omega) (by omega)))] [(3, .t (.c (.d (.sl 2 (picks.map ziD))))), (4, vp 5 0), (5, vp 6 0), (8, vp 7 0), (9, vb false), (10, vp 8 0), (13, vp 13 0), (14, vi .i64 (((cntFree c j : Nat) : Int) + 1)), (15, vi .i64 (j : Int))] [(5, .box (sysC s)), (6, .box [.d (.sl 1 (x.locs.map intD)), .d (.sl 2 (x.vals.map ziD))]), (7, .box [.d (.raw nilV), .d (.raw nilV)]), (8, .box [.own 9 x.locs.length, .own 10 (x.vals.map clZ).length]), (9, .row 3 1 ((x.locs.set k0 c.to_).map intD)), (10, .row 28 2 ((((List.range j).map (newV x c picks) ++ (x.vals.map clZ).drop j).set j (ZI.mk false [])).map ziD)), (13, .box ([.d (.raw (.int .i64 c.proc)), .d (.raw (.int .i64 c.from_)), .d (.raw (.int .i64 c.to_)), .d (.raw (.int .i64 c.guard.kind)), .d (.sl 3 (c.guard.r.t.parts.map Part.d))] ++ zi c.guard.r.t.k ++ [.d (.raw (.bool c.guard.r.eq)), .d (.sl 6 (c.guard.kids.map FormD.d)), .d (.sl 5 (c.moves.map MoveD.d))]))] (by kernel_rfl) h ?_; clear h; intro a w h
            refine block_n ?_
            refine then_n ?_
            refine rS fam0ok 14 [(1, .add .i64 (m := (j : Int)) (n := 1) (i64_id (by omega) (by omega)))] [(3, .t (.c (.d (.sl 2 (picks.map ziD))))), (4, vp 5 0), (5, vp 6 0), (8, vp 7 0), (9, vb false), (10, vp 8 0), (13, vp 13 0), (14, vi .i64 (((cntFree c j : Nat) : Int) + 1)), (15, vi .i64 ((j : Int) + 1))] [(5, .box (sysC s)), (6, .box [.d (.sl 1 (x.locs.map intD)), .d (.sl 2 (x.vals.map ziD))]), (7, .box [.d (.raw nilV), .d (.raw nilV)]), (8, .box [.own 9 x.locs.length, .own 10 (x.vals.map clZ).length]), (9, .row 3 1 ((x.locs.set k0 c.to_).map intD)), (10, .row 28 2 ((((List.range j).map (newV x c picks) ++ (x.vals.map clZ).drop j).set j (ZI.mk false [])).map ziD)), (13, .box ([.d (.raw (.int .i64 c.proc)), .d (.raw (.int .i64 c.from_)), .d (.raw (.int .i64 c.to_)), .d (.raw (.int .i64 c.guard.kind)), .d (.sl 3 (c.guard.r.t.parts.map Part.d))] ++ zi c.guard.r.t.k ++ [.d (.raw (.bool c.guard.r.eq)), .d (.sl 6 (c.guard.kids.map FormD.d)), .d (.sl 5 (c.moves.map MoveD.d))]))] (by kernel_rfl) h ?_; clear h; intro a w h
            refine then_n ?_
            replace h := h.conv (f' := F.of [(3, .t (.c (.d (.sl 2 (picks.map ziD))))), (4, vp 5 0), (5, vp 6 0), (8, vp 7 0), (9, vb false), (10, vp 8 0), (13, vp 13 0), (14, vi .i64 (((cntFree c j : Nat) : Int) + 1)), (15, vi .i64 ((j : Int) + 1))] [(5, .box (sysC s)), (6, .box [.d (.sl 1 (x.locs.map intD)), .d (.sl 2 (x.vals.map ziD))]), (7, .box [.d (.raw nilV), .d (.raw nilV)]), (8, .box [.own 9 x.locs.length, .own 10 (x.vals.map clZ).length]), (9, .row 3 1 ((x.locs.set k0 c.to_).map intD)), (10, .row 28 2 (((List.range (j + 1)).map (newV x c picks) ++ (x.vals.map clZ).drop (j + 1)).map ziD)), (13, .box ([.d (.raw (.int .i64 c.proc)), .d (.raw (.int .i64 c.from_)), .d (.raw (.int .i64 c.to_)), .d (.raw (.int .i64 c.guard.kind)), .d (.sl 3 (c.guard.r.t.parts.map Part.d))] ++ zi c.guard.r.t.k ++ [.d (.raw (.bool c.guard.r.eq)), .d (.sl 6 (c.guard.kids.map FormD.d)), .d (.sl 5 (c.moves.map MoveD.d))]))]) (congrArg (fun (z_ : List ZI) => F.of [(3, .t (.c (.d (.sl 2 (picks.map ziD))))), (4, vp 5 0), (5, vp 6 0), (8, vp 7 0), (9, vb false), (10, vp 8 0), (13, vp 13 0), (14, vi .i64 (((cntFree c j : Nat) : Int) + 1)), (15, vi .i64 ((j : Int) + 1))] [(5, .box (sysC s)), (6, .box [.d (.sl 1 (x.locs.map intD)), .d (.sl 2 (x.vals.map ziD))]), (7, .box [.d (.raw nilV), .d (.raw nilV)]), (8, .box [.own 9 x.locs.length, .own 10 (x.vals.map clZ).length]), (9, .row 3 1 ((x.locs.set k0 c.to_).map intD)), (10, .row 28 2 (z_.map ziD)), (13, .box ([.d (.raw (.int .i64 c.proc)), .d (.raw (.int .i64 c.from_)), .d (.raw (.int .i64 c.to_)), .d (.raw (.int .i64 c.guard.kind)), .d (.sl 3 (c.guard.r.t.parts.map Part.d))] ++ zi c.guard.r.t.k ++ [.d (.raw (.bool c.guard.r.eq)), .d (.sl 6 (c.guard.kids.map FormD.d)), .d (.sl 5 (c.moves.map MoveD.d))]))]) (show ((((List.range j).map (newV x c picks) ++ (x.vals.map clZ).drop j).set j (ZI.mk false [])) : List ZI) = ((List.range (j + 1)).map (newV x c picks) ++ (x.vals.map clZ).drop (j + 1)) from (range_set (by rw [List.length_map]; omega) (by rw [newV_no (free_some hm hc8) (of_decide_eq_false hc10)]; rfl))))
            replace h := h.conv (f' := F.of [(3, .t (.c (.d (.sl 2 (picks.map ziD))))), (4, vp 5 0), (5, vp 6 0), (8, vp 7 0), (9, vb false), (10, vp 8 0), (13, vp 13 0), (14, vi .i64 ((cntFree c (j + 1) : Nat) : Int)), (15, vi .i64 ((j : Int) + 1))] [(5, .box (sysC s)), (6, .box [.d (.sl 1 (x.locs.map intD)), .d (.sl 2 (x.vals.map ziD))]), (7, .box [.d (.raw nilV), .d (.raw nilV)]), (8, .box [.own 9 x.locs.length, .own 10 (x.vals.map clZ).length]), (9, .row 3 1 ((x.locs.set k0 c.to_).map intD)), (10, .row 28 2 (((List.range (j + 1)).map (newV x c picks) ++ (x.vals.map clZ).drop (j + 1)).map ziD)), (13, .box ([.d (.raw (.int .i64 c.proc)), .d (.raw (.int .i64 c.from_)), .d (.raw (.int .i64 c.to_)), .d (.raw (.int .i64 c.guard.kind)), .d (.sl 3 (c.guard.r.t.parts.map Part.d))] ++ zi c.guard.r.t.k ++ [.d (.raw (.bool c.guard.r.eq)), .d (.sl 6 (c.guard.kids.map FormD.d)), .d (.sl 5 (c.moves.map MoveD.d))]))]) (congrArg (fun (z_ : Int) => F.of [(3, .t (.c (.d (.sl 2 (picks.map ziD))))), (4, vp 5 0), (5, vp 6 0), (8, vp 7 0), (9, vb false), (10, vp 8 0), (13, vp 13 0), (14, vi .i64 z_), (15, vi .i64 ((j : Int) + 1))] [(5, .box (sysC s)), (6, .box [.d (.sl 1 (x.locs.map intD)), .d (.sl 2 (x.vals.map ziD))]), (7, .box [.d (.raw nilV), .d (.raw nilV)]), (8, .box [.own 9 x.locs.length, .own 10 (x.vals.map clZ).length]), (9, .row 3 1 ((x.locs.set k0 c.to_).map intD)), (10, .row 28 2 (((List.range (j + 1)).map (newV x c picks) ++ (x.vals.map clZ).drop (j + 1)).map ziD)), (13, .box ([.d (.raw (.int .i64 c.proc)), .d (.raw (.int .i64 c.from_)), .d (.raw (.int .i64 c.to_)), .d (.raw (.int .i64 c.guard.kind)), .d (.sl 3 (c.guard.r.t.parts.map Part.d))] ++ zi c.guard.r.t.k ++ [.d (.raw (.bool c.guard.r.eq)), .d (.sl 6 (c.guard.kids.map FormD.d)), .d (.sl 5 (c.moves.map MoveD.d))]))]) (show (((cntFree c j : Nat) : Int) + 1 : Int) = ((cntFree c (j + 1) : Nat) : Int) from (by rw [cnt_free (free_some hm hc8)]; omega)))
            refine roundS (x := j) (y := j + 1) h ?_ ?_ (by kernel_rfl) (by kernel_rfl)
            ·show j + 1 ≤ x.vals.length
             omega
            ·show x.vals.length - (j + 1) < x.vals.length - j
             omega
          ·have hc11 := hc; clear hc
           refine rSeq fam0ok 14 [(1, .cmp (op := .geq) (m := (k : Int)) (n := 0) (b := true) .i64 (show (decide ((k : Int) ≥ 0)) = true from decide_eq_true (by omega)))] [(3, .t (.c (.d (.sl 2 (picks.map ziD))))), (4, vp 5 0), (5, vp 6 0), (8, vp 7 0), (9, vb false), (10, vp 8 0), (13, vp 13 0), (14, vi .i64 ((cntFree c j : Nat) : Int)), (15, vi .i64 (j : Int)), (16, vi .i64 (k : Int)), (119, vb true)] [(5, .box (sysC s)), (6, .box [.d (.sl 1 (x.locs.map intD)), .d (.sl 2 (x.vals.map ziD))]), (7, .box [.d (.raw nilV), .d (.raw nilV)]), (8, .box [.own 9 x.locs.length, .own 10 (x.vals.map clZ).length]), (9, .row 3 1 ((x.locs.set k0 c.to_).map intD)), (10, .row 28 2 (((List.range j).map (newV x c picks) ++ (x.vals.map clZ).drop j).map ziD)), (13, .box ([.d (.raw (.int .i64 c.proc)), .d (.raw (.int .i64 c.from_)), .d (.raw (.int .i64 c.to_)), .d (.raw (.int .i64 c.guard.kind)), .d (.sl 3 (c.guard.r.t.parts.map Part.d))] ++ zi c.guard.r.t.k ++ [.d (.raw (.bool c.guard.r.eq)), .d (.sl 6 (c.guard.kids.map FormD.d)), .d (.sl 5 (c.moves.map MoveD.d))]))] (by kernel_rfl) h ?_; clear h; intro a w h
           refine condS true h rfl (fun hc => ?_) (fun hc => ?_)
           ·clear hc
            obtain ⟨r11, er11, vr11, or11, lr11⟩ := mkZ (v := valT m.t x.vals) (m := L + M + 2) (Nat.le_trans (val_len (hc.mv m (List.mem_of_getElem? hmk)) (by decide) hx.vok (fun p hp => hp) (Nat.le_refl _)) (by omega))
            obtain ⟨x12, hx12⟩ : ∃ z_ : ZI, ((List.range j).map (newV x c picks) ++ (x.vals.map clZ).drop j)[j]? = some z_ := ⟨_, List.getElem?_eq_getElem (by first | omega | (simp at *; omega))⟩
            refine rS fam0ok 14 [(6, .gen _ _ _ fun _ _ _ _ => Op.idxD (d := 126) (t := 124) (k := .i64) ki_2 (map_at hmk (f := MoveD.d)) (OV.tmp 125 _)), (11, .call (Fn.cast (SRValue m.t x.vals (hc.mv m (List.mem_of_getElem? hmk)) (by decide) (by omega) hx.vok) (congrArg vz er11.symm)) ke_2), (12, .gen _ _ _ fun _ _ _ _ => Op.idxO (d := 132) (t := 121) (k := .i64) (n := 10) (len := (x.vals.map clZ).length) (i := j) tt_6 (by first | omega | (simp at *; omega)) (OV.tmp 122 _)), (13, .gen _ _ _ fun _ _ _ _ => Op.storeR (t := 132) (n := 10) (i := j) (fo := 0) (rty := 28) (es := 2) (r := ziD x12) (ds := [.raw (.bool r11.neg), nsl r11.abs]) (rs := [(131, vz r11)]) (rows := ((List.range j).map (newV x c picks) ++ (x.vals.map clZ).drop j).map ziD) (rows' := (((List.range j).map (newV x c picks) ++ (x.vals.map clZ).drop j).set j r11).map ziD) ia_1 (OV.tmp 131 _) rfl rfl rfl (map_at hx12 (f := ziD)) (by simp [ziD]) (set_map (xs := ((List.range j).map (newV x c picks) ++ (x.vals.map clZ).drop j)) (F := ziD) j _ _ rfl))] [(3, .t (.c (.d (.sl 2 (picks.map ziD))))), (4, vp 5 0), (5, vp 6 0), (8, vp 7 0), (9, vb false), (10, vp 8 0), (13, vp 13 0), (14, vi .i64 ((cntFree c j : Nat) : Int)), (15, vi .i64 (j : Int))] [(5, .box (sysC s)), (6, .box [.d (.sl 1 (x.locs.map intD)), .d (.sl 2 (x.vals.map ziD))]), (7, .box [.d (.raw nilV), .d (.raw nilV)]), (8, .box [.own 9 x.locs.length, .own 10 (x.vals.map clZ).length]), (9, .row 3 1 ((x.locs.set k0 c.to_).map intD)), (10, .row 28 2 ((((List.range j).map (newV x c picks) ++ (x.vals.map clZ).drop j).set j r11).map ziD)), (13, .box ([.d (.raw (.int .i64 c.proc)), .d (.raw (.int .i64 c.from_)), .d (.raw (.int .i64 c.to_)), .d (.raw (.int .i64 c.guard.kind)), .d (.sl 3 (c.guard.r.t.parts.map Part.d))] ++ zi c.guard.r.t.k ++ [.d (.raw (.bool c.guard.r.eq)), .d (.sl 6 (c.guard.kids.map FormD.d)), .d (.sl 5 (c.moves.map MoveD.d))]))] (by kernel_rfl) h ?_; clear h; intro a w h
            refine block_n ?_
            refine then_n ?_
            refine rS fam0ok 14 [(1, .add .i64 (m := (j : Int)) (n := 1) (i64_id (by omega) (by omega)))] [(3, .t (.c (.d (.sl 2 (picks.map ziD))))), (4, vp 5 0), (5, vp 6 0), (8, vp 7 0), (9, vb false), (10, vp 8 0), (13, vp 13 0), (14, vi .i64 ((cntFree c j : Nat) : Int)), (15, vi .i64 ((j : Int) + 1))] [(5, .box (sysC s)), (6, .box [.d (.sl 1 (x.locs.map intD)), .d (.sl 2 (x.vals.map ziD))]), (7, .box [.d (.raw nilV), .d (.raw nilV)]), (8, .box [.own 9 x.locs.length, .own 10 (x.vals.map clZ).length]), (9, .row 3 1 ((x.locs.set k0 c.to_).map intD)), (10, .row 28 2 ((((List.range j).map (newV x c picks) ++ (x.vals.map clZ).drop j).set j r11).map ziD)), (13, .box ([.d (.raw (.int .i64 c.proc)), .d (.raw (.int .i64 c.from_)), .d (.raw (.int .i64 c.to_)), .d (.raw (.int .i64 c.guard.kind)), .d (.sl 3 (c.guard.r.t.parts.map Part.d))] ++ zi c.guard.r.t.k ++ [.d (.raw (.bool c.guard.r.eq)), .d (.sl 6 (c.guard.kids.map FormD.d)), .d (.sl 5 (c.moves.map MoveD.d))]))] (by kernel_rfl) h ?_; clear h; intro a w h
            refine then_n ?_
            replace h := h.conv (f' := F.of [(3, .t (.c (.d (.sl 2 (picks.map ziD))))), (4, vp 5 0), (5, vp 6 0), (8, vp 7 0), (9, vb false), (10, vp 8 0), (13, vp 13 0), (14, vi .i64 ((cntFree c j : Nat) : Int)), (15, vi .i64 ((j : Int) + 1))] [(5, .box (sysC s)), (6, .box [.d (.sl 1 (x.locs.map intD)), .d (.sl 2 (x.vals.map ziD))]), (7, .box [.d (.raw nilV), .d (.raw nilV)]), (8, .box [.own 9 x.locs.length, .own 10 (x.vals.map clZ).length]), (9, .row 3 1 ((x.locs.set k0 c.to_).map intD)), (10, .row 28 2 (((List.range (j + 1)).map (newV x c picks) ++ (x.vals.map clZ).drop (j + 1)).map ziD)), (13, .box ([.d (.raw (.int .i64 c.proc)), .d (.raw (.int .i64 c.from_)), .d (.raw (.int .i64 c.to_)), .d (.raw (.int .i64 c.guard.kind)), .d (.sl 3 (c.guard.r.t.parts.map Part.d))] ++ zi c.guard.r.t.k ++ [.d (.raw (.bool c.guard.r.eq)), .d (.sl 6 (c.guard.kids.map FormD.d)), .d (.sl 5 (c.moves.map MoveD.d))]))]) (congrArg (fun (z_ : List ZI) => F.of [(3, .t (.c (.d (.sl 2 (picks.map ziD))))), (4, vp 5 0), (5, vp 6 0), (8, vp 7 0), (9, vb false), (10, vp 8 0), (13, vp 13 0), (14, vi .i64 ((cntFree c j : Nat) : Int)), (15, vi .i64 ((j : Int) + 1))] [(5, .box (sysC s)), (6, .box [.d (.sl 1 (x.locs.map intD)), .d (.sl 2 (x.vals.map ziD))]), (7, .box [.d (.raw nilV), .d (.raw nilV)]), (8, .box [.own 9 x.locs.length, .own 10 (x.vals.map clZ).length]), (9, .row 3 1 ((x.locs.set k0 c.to_).map intD)), (10, .row 28 2 (z_.map ziD)), (13, .box ([.d (.raw (.int .i64 c.proc)), .d (.raw (.int .i64 c.from_)), .d (.raw (.int .i64 c.to_)), .d (.raw (.int .i64 c.guard.kind)), .d (.sl 3 (c.guard.r.t.parts.map Part.d))] ++ zi c.guard.r.t.k ++ [.d (.raw (.bool c.guard.r.eq)), .d (.sl 6 (c.guard.kids.map FormD.d)), .d (.sl 5 (c.moves.map MoveD.d))]))]) (show ((((List.range j).map (newV x c picks) ++ (x.vals.map clZ).drop j).set j r11) : List ZI) = ((List.range (j + 1)).map (newV x c picks) ++ (x.vals.map clZ).drop (j + 1)) from (range_set (by rw [List.length_map]; omega) (by rw [newV_new (free_some hm hc11), new_some hm hc11]; simp [*]))))
            replace h := h.conv (f' := F.of [(3, .t (.c (.d (.sl 2 (picks.map ziD))))), (4, vp 5 0), (5, vp 6 0), (8, vp 7 0), (9, vb false), (10, vp 8 0), (13, vp 13 0), (14, vi .i64 ((cntFree c (j + 1) : Nat) : Int)), (15, vi .i64 ((j : Int) + 1))] [(5, .box (sysC s)), (6, .box [.d (.sl 1 (x.locs.map intD)), .d (.sl 2 (x.vals.map ziD))]), (7, .box [.d (.raw nilV), .d (.raw nilV)]), (8, .box [.own 9 x.locs.length, .own 10 (x.vals.map clZ).length]), (9, .row 3 1 ((x.locs.set k0 c.to_).map intD)), (10, .row 28 2 (((List.range (j + 1)).map (newV x c picks) ++ (x.vals.map clZ).drop (j + 1)).map ziD)), (13, .box ([.d (.raw (.int .i64 c.proc)), .d (.raw (.int .i64 c.from_)), .d (.raw (.int .i64 c.to_)), .d (.raw (.int .i64 c.guard.kind)), .d (.sl 3 (c.guard.r.t.parts.map Part.d))] ++ zi c.guard.r.t.k ++ [.d (.raw (.bool c.guard.r.eq)), .d (.sl 6 (c.guard.kids.map FormD.d)), .d (.sl 5 (c.moves.map MoveD.d))]))]) (congrArg (fun (z_ : Int) => F.of [(3, .t (.c (.d (.sl 2 (picks.map ziD))))), (4, vp 5 0), (5, vp 6 0), (8, vp 7 0), (9, vb false), (10, vp 8 0), (13, vp 13 0), (14, vi .i64 z_), (15, vi .i64 ((j : Int) + 1))] [(5, .box (sysC s)), (6, .box [.d (.sl 1 (x.locs.map intD)), .d (.sl 2 (x.vals.map ziD))]), (7, .box [.d (.raw nilV), .d (.raw nilV)]), (8, .box [.own 9 x.locs.length, .own 10 (x.vals.map clZ).length]), (9, .row 3 1 ((x.locs.set k0 c.to_).map intD)), (10, .row 28 2 (((List.range (j + 1)).map (newV x c picks) ++ (x.vals.map clZ).drop (j + 1)).map ziD)), (13, .box ([.d (.raw (.int .i64 c.proc)), .d (.raw (.int .i64 c.from_)), .d (.raw (.int .i64 c.to_)), .d (.raw (.int .i64 c.guard.kind)), .d (.sl 3 (c.guard.r.t.parts.map Part.d))] ++ zi c.guard.r.t.k ++ [.d (.raw (.bool c.guard.r.eq)), .d (.sl 6 (c.guard.kids.map FormD.d)), .d (.sl 5 (c.moves.map MoveD.d))]))]) (show (((cntFree c j : Nat) : Int) : Int) = ((cntFree c (j + 1) : Nat) : Int) from (by rw [cnt_kept (free_some hm hc11)])))
            refine roundS (x := j) (y := j + 1) h ?_ ?_ (by kernel_rfl) (by kernel_rfl)
            ·show j + 1 ≤ x.vals.length
             omega
            ·show x.vals.length - (j + 1) < x.vals.length - j
             omega
           ·cases hc
        ·have hc12 := hc; clear hc
         have hc12' := of_decide_eq_false hc12
         refine wp_exit ?_
         refine then_x ?_
         refine then_x ?_
         refine inBlock_exit ?_
         refine then_n ?_
         refine wp_seq ?_
         replace h := pubS 9 1 3 ((x.locs.set k0 c.to_).map intD) [(3, .t (.c (.d (.sl 2 (picks.map ziD))))), (4, vp 5 0), (5, vp 6 0), (8, vp 7 0), (9, vb false), (10, vp 8 0), (13, vp 13 0), (14, vi .i64 ((cntFree c j : Nat) : Int)), (15, vi .i64 (j : Int)), (82, vb (decide ((j : Int) < (x.vals.length : Int))))] [(5, .box (sysC s)), (6, .box [.d (.sl 1 (x.locs.map intD)), .d (.sl 2 (x.vals.map ziD))]), (7, .box [.d (.raw nilV), .d (.raw nilV)]), (8, .box [.d (.sl 1 ((x.locs.set k0 c.to_).map intD)), .own 10 (x.vals.map clZ).length]), (10, .row 28 2 (((List.range j).map (newV x c picks) ++ (x.vals.map clZ).drop j).map ziD)), (13, .box ([.d (.raw (.int .i64 c.proc)), .d (.raw (.int .i64 c.from_)), .d (.raw (.int .i64 c.to_)), .d (.raw (.int .i64 c.guard.kind)), .d (.sl 3 (c.guard.r.t.parts.map Part.d))] ++ zi c.guard.r.t.k ++ [.d (.raw (.bool c.guard.r.eq)), .d (.sl 6 (c.guard.kids.map FormD.d)), .d (.sl 5 (c.moves.map MoveD.d))]))] h rfl trivial (show AllEq _ [x.locs.length] from ⟨by first | exact (List.length_map _).symm | (simp; done) | (simp; omega), trivial⟩) (by kernel_rfl) (by kernel_rfl)
         replace h := pubS 10 2 28 (((List.range j).map (newV x c picks) ++ (x.vals.map clZ).drop j).map ziD) [(3, .t (.c (.d (.sl 2 (picks.map ziD))))), (4, vp 5 0), (5, vp 6 0), (8, vp 7 0), (9, vb false), (10, vp 8 0), (13, vp 13 0), (14, vi .i64 ((cntFree c j : Nat) : Int)), (15, vi .i64 (j : Int)), (82, vb (decide ((j : Int) < (x.vals.length : Int))))] [(5, .box (sysC s)), (6, .box [.d (.sl 1 (x.locs.map intD)), .d (.sl 2 (x.vals.map ziD))]), (7, .box [.d (.raw nilV), .d (.raw nilV)]), (8, .box ([.d (.sl 1 ((x.locs.set k0 c.to_).map intD)), .d (.sl 2 (((List.range j).map (newV x c picks) ++ (x.vals.map clZ).drop j).map ziD))])), (13, .box ([.d (.raw (.int .i64 c.proc)), .d (.raw (.int .i64 c.from_)), .d (.raw (.int .i64 c.to_)), .d (.raw (.int .i64 c.guard.kind)), .d (.sl 3 (c.guard.r.t.parts.map Part.d))] ++ zi c.guard.r.t.k ++ [.d (.raw (.bool c.guard.r.eq)), .d (.sl 6 (c.guard.kids.map FormD.d)), .d (.sl 5 (c.moves.map MoveD.d))]))] h rfl trivial (show AllEq _ [(x.vals.map clZ).length] from ⟨by first | exact (List.length_map _).symm | (simp; done) | (simp; omega), trivial⟩) (by kernel_rfl) (by kernel_rfl)
         replace h := h.conv (f' := F.of [(3, .t (.c (.d (.sl 2 (picks.map ziD))))), (4, vp 5 0), (5, vp 6 0), (8, vp 7 0), (9, vb false), (10, vp 8 0), (13, vp 13 0), (14, vi .i64 ((cntFree c j : Nat) : Int)), (15, vi .i64 (j : Int)), (82, vb (decide ((j : Int) < (x.vals.length : Int))))] [(5, .box (sysC s)), (6, .box [.d (.sl 1 (x.locs.map intD)), .d (.sl 2 (x.vals.map ziD))]), (7, .box [.d (.raw nilV), .d (.raw nilV)]), (8, .box ([.d (.sl 1 ((outS s x c picks).locs.map intD)), .d (.sl 2 (((List.range j).map (newV x c picks) ++ (x.vals.map clZ).drop j).map ziD))])), (13, .box ([.d (.raw (.int .i64 c.proc)), .d (.raw (.int .i64 c.from_)), .d (.raw (.int .i64 c.to_)), .d (.raw (.int .i64 c.guard.kind)), .d (.sl 3 (c.guard.r.t.parts.map Part.d))] ++ zi c.guard.r.t.k ++ [.d (.raw (.bool c.guard.r.eq)), .d (.sl 6 (c.guard.kids.map FormD.d)), .d (.sl 5 (c.moves.map MoveD.d))]))]) (congrArg (fun (z_ : List Int) => F.of [(3, .t (.c (.d (.sl 2 (picks.map ziD))))), (4, vp 5 0), (5, vp 6 0), (8, vp 7 0), (9, vb false), (10, vp 8 0), (13, vp 13 0), (14, vi .i64 ((cntFree c j : Nat) : Int)), (15, vi .i64 (j : Int)), (82, vb (decide ((j : Int) < (x.vals.length : Int))))] [(5, .box (sysC s)), (6, .box [.d (.sl 1 (x.locs.map intD)), .d (.sl 2 (x.vals.map ziD))]), (7, .box [.d (.raw nilV), .d (.raw nilV)]), (8, .box ([.d (.sl 1 (z_.map intD)), .d (.sl 2 (((List.range j).map (newV x c picks) ++ (x.vals.map clZ).drop j).map ziD))])), (13, .box ([.d (.raw (.int .i64 c.proc)), .d (.raw (.int .i64 c.from_)), .d (.raw (.int .i64 c.to_)), .d (.raw (.int .i64 c.guard.kind)), .d (.sl 3 (c.guard.r.t.parts.map Part.d))] ++ zi c.guard.r.t.k ++ [.d (.raw (.bool c.guard.r.eq)), .d (.sl 6 (c.guard.kids.map FormD.d)), .d (.sl 5 (c.moves.map MoveD.d))]))]) (show ((x.locs.set k0 c.to_) : List Int) = (outS s x c picks).locs from (by show _ = x.locs.set c.proc.toNat c.to_; rw [show c.proc.toNat = k0 by omega])))
         replace h := h.conv (f' := F.of [(3, .t (.c (.d (.sl 2 (picks.map ziD))))), (4, vp 5 0), (5, vp 6 0), (8, vp 7 0), (9, vb false), (10, vp 8 0), (13, vp 13 0), (14, vi .i64 ((cntFree c j : Nat) : Int)), (15, vi .i64 (j : Int)), (82, vb (decide ((j : Int) < (x.vals.length : Int))))] [(5, .box (sysC s)), (6, .box [.d (.sl 1 (x.locs.map intD)), .d (.sl 2 (x.vals.map ziD))]), (7, .box [.d (.raw nilV), .d (.raw nilV)]), (8, .box [.d (.sl 1 ((outS s x c picks).locs.map intD)), .d (.sl 2 ((outS s x c picks).vals.map ziD))]), (13, .box ([.d (.raw (.int .i64 c.proc)), .d (.raw (.int .i64 c.from_)), .d (.raw (.int .i64 c.to_)), .d (.raw (.int .i64 c.guard.kind)), .d (.sl 3 (c.guard.r.t.parts.map Part.d))] ++ zi c.guard.r.t.k ++ [.d (.raw (.bool c.guard.r.eq)), .d (.sl 6 (c.guard.kids.map FormD.d)), .d (.sl 5 (c.moves.map MoveD.d))]))]) (congrArg (fun (z_ : List ZI) => F.of [(3, .t (.c (.d (.sl 2 (picks.map ziD))))), (4, vp 5 0), (5, vp 6 0), (8, vp 7 0), (9, vb false), (10, vp 8 0), (13, vp 13 0), (14, vi .i64 ((cntFree c j : Nat) : Int)), (15, vi .i64 (j : Int)), (82, vb (decide ((j : Int) < (x.vals.length : Int))))] [(5, .box (sysC s)), (6, .box [.d (.sl 1 (x.locs.map intD)), .d (.sl 2 (x.vals.map ziD))]), (7, .box [.d (.raw nilV), .d (.raw nilV)]), (8, .box [.d (.sl 1 ((outS s x c picks).locs.map intD)), .d (.sl 2 (z_.map ziD))]), (13, .box ([.d (.raw (.int .i64 c.proc)), .d (.raw (.int .i64 c.from_)), .d (.raw (.int .i64 c.to_)), .d (.raw (.int .i64 c.guard.kind)), .d (.sl 3 (c.guard.r.t.parts.map Part.d))] ++ zi c.guard.r.t.k ++ [.d (.raw (.bool c.guard.r.eq)), .d (.sl 6 (c.guard.kids.map FormD.d)), .d (.sl 5 (c.moves.map MoveD.d))]))]) (show (((List.range j).map (newV x c picks) ++ (x.vals.map clZ).drop j) : List ZI) = (outS s x c picks).vals from (by rw [show j = s.vars.length by omega, range_end (by rw [List.length_map]; omega)]; rfl)))
         refine rSeq fam0ok 14 [(2, .call (SRFits s (outS s x c picks) (L := L) (M := L + M + 2) (by omega) hs (outS_ok hs hx hc hp)) kh_6)] [(8, vp 7 0), (9, vb false), (10, vp 8 0), (136, vb (!(fits s (outS s x c picks))))] [(7, .box [.d (.raw nilV), .d (.raw nilV)]), (8, .box [.d (.sl 1 ((outS s x c picks).locs.map intD)), .d (.sl 2 ((outS s x c picks).vals.map ziD))])] (by kernel_rfl) h ?_; clear h; intro a w h
         refine condS (!(fits s (outS s x c picks))) h rfl (fun hc => ?_) (fun hc => ?_)
         ·have hc13 := hc; clear hc
          have hc13' := hc13; (try simp at hc13')
          refine rSeq fam0ok 14 [] [(8, vp 7 0), (9, vb false), (10, vp 8 0)] [(7, .box [.d (.raw nilV), .d (.raw nilV)]), (8, .box [.d (.sl 1 ((outS s x c picks).locs.map intD)), .d (.sl 2 ((outS s x c picks).vals.map ziD))])] (by kernel_rfl) h ?_; clear h; intro a w h
          refine wp_ret ?_
          refine then_r ?_
          replace h := nilDLs 7 0 1 [.d (.raw nilV), .d (.raw nilV)] [(8, vp 7 0), (9, vb false), (10, vp 8 0)] [(7, .box [.d (.sl 1 ([].map intD)), .d (.raw nilV)]), (8, .box [.d (.sl 1 ((outS s x c picks).locs.map intD)), .d (.sl 2 ((outS s x c picks).vals.map ziD))])] h rfl rfl (by kernel_rfl) (by kernel_rfl)
          replace h := nilDLs 7 1 2 [.d (.sl 1 ([].map intD)), .d (.raw nilV)] [(8, vp 7 0), (9, vb false), (10, vp 8 0)] [(7, .box [.d (.sl 1 ([].map intD)), .d (.sl 2 ([].map ziD))]), (8, .box [.d (.sl 1 ((outS s x c picks).locs.map intD)), .d (.sl 2 ((outS s x c picks).vals.map ziD))])] h rfl rfl (by kernel_rfl) (by kernel_rfl)
          refine retS [.agg [.d (.sl 1 ([].map intD)), .d (.sl 2 ([].map ziD))], .c (.d (.raw (.bool false)))] h Exit.ret (.inl rfl)  rfl ⟨RV.agg _ 7 0 _ _ _ _ kk_5 rfl rfl rfl rfl, RV.tmp _ _ rfl, trivial⟩ ?_ (by kernel_rfl) (by kernel_rfl)
          have hz : goC s x c picks = (st0, false) := by unfold goC; rw [if_neg (fun h => by have := h.2; rw [(show (fits s (outS s x c picks)) = false from by simpa using hc13)] at this; cases this)]
          rw [hz]; first | done | rfl
         ·have hc14 := hc; clear hc
          have hc14' := hc14; (try simp at hc14')
          refine wp_skip ?_
          refine then_n ?_
          refine rSeq fam0ok 14 [] [(8, vp 7 0), (9, vb true)] [(7, .box [.d (.sl 1 ((outS s x c picks).locs.map intD)), .d (.sl 2 ((outS s x c picks).vals.map ziD))])] (by kernel_rfl) h ?_; clear h; intro a w h
          refine wp_ret ?_
          refine retS [.agg [.d (.sl 1 ((outS s x c picks).locs.map intD)), .d (.sl 2 ((outS s x c picks).vals.map ziD))], .c (.d (.raw (.bool true)))] h Exit.ret (.inl rfl)  rfl ⟨RV.agg _ 7 0 _ _ _ _ kk_5 rfl rfl rfl rfl, RV.tmp _ _ rfl, trivial⟩ ?_ (by kernel_rfl) (by kernel_rfl)
          have hz : goC s x c picks = (outS s x c picks, true) := by unfold goC; rw [if_pos ⟨(show (enabled s x c) = true from by simpa using hc6), (show (fits s (outS s x c picks)) = true from by simpa using hc14)⟩]
          rw [hz]; first | done | rfl
end Go.Proofs.YtmohlifepfjmdaaGreat.S
end
section
namespace Go.Proofs.YtmohlifepfjmdaaGreat.S
open Go.RowKit

theorem kq_13 : Bodied Tryz.prog 9 := Bodied.mk' (by kernel_rfl)
theorem kq_14 : Bodied Tryz.prog 18 := Bodied.mk' (by kernel_rfl)
theorem cnt_step_le (c : ActD) (v : Nat) : cntFree c v ≤ cntFree c (v + 1) := by rw [cntFree]; omega
theorem cnt_mono (c : ActD) {u v : Nat} (h : u ≤ v) : cntFree c u ≤ cntFree c v := by
 induction v with
 | zero => rw [Nat.le_zero.1 h]; exact Nat.le_refl _
 | succ v ih =>
  rcases Nat.lt_or_ge u (v + 1) with h1 | h1
  ·exact Nat.le_trans (ih (by omega)) (cnt_step_le c v)
  ·rw [show u = v + 1 by omega]; exact Nat.le_refl _
def freeL (f : Nat → ZI) (c : ActD) : Nat → List ZI
  | 0 => []
  | v + 1 => if freeAt c v = true then freeL f c v ++ [f v] else freeL f c v
theorem freeL_len (f : Nat → ZI) (c : ActD) : ∀ n, (freeL f c n).length = cntFree c n
 | 0 => rfl
 | n + 1 => by
  rw [freeL, cntFree]
  split
  ·rw [List.length_append, freeL_len f c n]; rfl
  ·rw [freeL_len f c n]; rfl
theorem freeL_at (f : Nat → ZI) (c : ActD) {v : Nat} (hv : freeAt c v = true) : ∀ n, v < n → (freeL f c n)[cntFree c v]? = some (f v)
 | n + 1, h => by
  rw [freeL]
  rcases Nat.lt_or_ge v n with h1 | h1
  ·have ih := freeL_at f c hv n h1
   split
   ·rw [List.getElem?_append_left (by rw [freeL_len]; exact Nat.lt_of_lt_of_le (by rw [cnt_free hv]; omega) (cnt_mono c h1))]; exact ih
   ·exact ih
  ·obtain rfl : v = n := by omega
   rw [if_pos hv, List.getElem?_append_right (by rw [freeL_len]; exact Nat.le_refl _), freeL_len, Nat.sub_self]; rfl
theorem picks_freeL (y : StD) (c : ActD) : ∀ n, picksOf y c n = freeL (fun v => (y.vals[v]?).getD zero0) c n
 | 0 => rfl
 | n + 1 => by rw [picksOf, freeL, picks_freeL y c n]
theorem freeL_ok {M : Nat} {f : Nat → ZI} (h : ∀ v, ZOk M (f v)) (c : ActD) : ∀ n, ∀ z ∈ freeL f c n, ZOk M z
 | 0, z, hz => by cases hz
 | n + 1, z, hz => by
  rw [freeL] at hz
  split at hz
  ·rcases List.mem_append.1 hz with h1 | h1
   ·exact freeL_ok h c n z h1
   ·rw [List.mem_singleton.1 h1]; exact h n
  ·exact freeL_ok h c n z hz
def lowAt (s : SysD) (v : Nat) : ZI := if (bndAt s v).is_ = true then (bndAt s v).lo else zero0
theorem low_ok {L : Nat} {s : SysD} (hs : SysOk L s) (v : Nat) : ZOk L (lowAt s v) := by
 unfold lowAt; split
 ·exact (bnd_ok hs v).1
 ·exact ZOk.zero
theorem cmp_self (x : Int) : decide (cmpZ x x ≤ 0) = true := by unfold cmpZ; simp
theorem within_of (b : BoundD) (z : ZI) : withinB b (ZI.of z.val) = withinB b z := by unfold withinB; rw [ZI.val_of]
theorem within_val {b : BoundD} {p q : ZI} (h : p.val = q.val) : withinB b p = withinB b q := by unfold withinB; rw [h]
theorem nlocs_in {s : SysD} {x : StD} (h : fits s x = true) {i : Nat} (hi : i < x.locs.length) : locOk s x i = true := by
 unfold fits at h; simp only [Bool.and_eq_true] at h; exact allN_iff.1 h.2.1 i hi
theorem vals_in {s : SysD} {x : StD} (h : fits s x = true) {i : Nat} (hi : i < x.vals.length) : valOk s x i = true := by
 unfold fits at h; simp only [Bool.and_eq_true] at h; exact allN_iff.1 h.2.2 i hi
theorem enabled_to {s : SysD} {x : StD} {c : ActD} (h : enabled s x c = true) : 0 ≤ c.to_ ∧ c.to_ < (nlocs s c.proc.toNat : Int) := by unfold enabled at h; simp only [Bool.and_eq_true, decide_eq_true_eq] at h; exact h.1.2.2
theorem fits_out {s : SysD} {x : StD} {c : ActD} (picks : List ZI) (h : enabled s x c = true) : fits s (outS s x c picks) = allN s.vars.length (fun v => withinB (bndAt s v) (newV x c picks v)) := by
 have hf := enabled_fits h; have hl := fits_len hf; have hp := enabled_proc h; have ht := enabled_to h
 have e1 : (outS s x c picks).locs.length = s.procs.length := by simp only [outS, List.length_set]; exact hl.1
 have e2 : (outS s x c picks).vals.length = s.vars.length := by simp [outS]
 unfold fits
 rw [decide_eq_true ⟨e1, e2⟩, Bool.true_and]
 have a1 : allN (outS s x c picks).locs.length (locOk s (outS s x c picks)) = true := allN_iff.2 fun i hi => by
  rw [e1] at hi
  have h1 := nlocs_in hf (i := i) (by omega)
  unfold locOk at h1 ⊢
  by_cases hi2 : i = c.proc.toNat
  ·subst hi2
   have : (outS s x c picks).locs[c.proc.toNat]? = some c.to_ := by simp only [outS]; exact List.getElem?_set_self (by omega)
   rw [this]; exact decide_eq_true ht
  ·have : (outS s x c picks).locs[i]? = x.locs[i]? := by simp only [outS]; exact List.getElem?_set_ne (Ne.symm hi2)
   rw [this]; exact h1
 rw [a1, Bool.true_and, e2]
 refine allN_congr fun v hv => ?_
 unfold valOk
 have : (outS s x c picks).vals[v]? = some (newV x c picks v) := by simp [outS, List.getElem?_map, List.getElem?_range hv]
 rw [this]; rfl
theorem fits_lows {s : SysD} {x : StD} {c : ActD} (h : enabled s x c = true) : fits s (outS s x c (freeL (lowAt s) c s.vars.length)) = allN s.vars.length (canAt s x c) := by
 rw [fits_out _ h]
 refine allN_congr fun v hv => ?_
 unfold canAt
 by_cases hf : freeAt c v = true
 ·rw [if_pos hf, newV_at hf (freeL_at (lowAt s) c hf _ hv), within_of]
  unfold withinB lowAt
  cases hb : (bndAt s v).is_ with
  | false => simp
  | true =>
   simp only [if_true, Bool.not_true, Bool.false_or, Bool.true_and, cmp_self]
   by_cases hc : cmpZ (bndAt s v).lo.val (bndAt s v).hi.val ≤ 0
   ·rw [decide_eq_true hc, decide_eq_false (by omega)]; rfl
   ·rw [decide_eq_false hc, decide_eq_true (by omega)]; rfl
 ·rw [if_neg hf, newV_new (by simpa using hf)]
theorem can_goC {s : SysD} {x : StD} {c : ActD} : (goC s x c (freeL (lowAt s) c s.vars.length)).2 = canC s x c := by
 unfold goC canC
 cases he : enabled s x c with
 | false => rfl
 | true =>
  rw [fits_lows he]
  cases ha : allN s.vars.length (canAt s x c) with
  | false => rfl
  | true => rfl
theorem freeL_free {f : Nat → ZI} {c : ActD} {v : Nat} {q : ZI} (h : freeAt c v = true) (hq : q = f v) : freeL f c v ++ [q] = freeL f c (v + 1) := by rw [freeL, if_pos h, hq]
theorem freeL_kept {f : Nat → ZI} {c : ActD} {v : Nat} (h : freeAt c v = false) : freeL f c v = freeL f c (v + 1) := by rw [freeL, if_neg (by rw [h]; exact Bool.noConfusion)]
set_option maxHeartbeats 4000000 in
theorem SRGo2 (s : SysD) (x : StD) (ia : Int) (picks : List ZI) {L M : Nat} (hL : L + M ≤ 4000) (hs : SysOk L s) (hx : StOk M x) (_hp : ∀ z ∈ picks, ZOk M z) (hi : actAt s ia = none) (hn : ia ≠ -1) : Fn Tryz.prog 9 [] [.t (.agg (sysC s)), .t (.agg [.d (.sl 1 (x.locs.map intD)), .d (.sl 2 (x.vals.map ziD))]), vi .i64 ia, .t (.c (.d (.sl 2 (picks.map ziD))))] (.tup [.agg [.d (.sl 1 (st0.locs.map intD)), .d (.sl 2 (st0.vals.map ziD))], .c (.d (.raw (.bool false)))]) [] := by
 have lx1 := hx.locs
 have lx2 := hx.vals
 have ls1 := hs.vars
 have ls2 := hs.procs
 have lvv := hx.vals
 refine Fn.body Tryz.func9 rfl 139 rfl fun w H B a h => ?_
 refine rSeq fam0ok 5 [] [(2, vi .i64 ia), (3, .t (.c (.d (.sl 2 (picks.map ziD))))), (4, vp 5 0), (5, vp 6 0), (8, vp 7 0), (9, vb false)] [(5, .box (sysC s)), (6, .box [.d (.sl 1 (x.locs.map intD)), .d (.sl 2 (x.vals.map ziD))]), (7, .box [.d (.raw nilV), .d (.raw nilV)])] (by kernel_rfl) h ?_; clear h; intro a w h
 refine rSeq fam0ok 8 [] [(2, vi .i64 ia), (3, .t (.c (.d (.sl 2 (picks.map ziD))))), (4, vp 5 0), (5, vp 6 0), (8, vp 7 0), (9, vb false), (10, vp 8 0)] [(5, .box (sysC s)), (6, .box [.d (.sl 1 (x.locs.map intD)), .d (.sl 2 (x.vals.map ziD))]), (7, .box [.d (.raw nilV), .d (.raw nilV)]), (8, .box [.d (.raw nilV), .d (.raw nilV)])] (by kernel_rfl) h ?_; clear h; intro a w h
 refine wp_seq ?_
 replace h := nilOLs 8 0 9 1 3 [.d (.raw nilV), .d (.raw nilV)] [(2, vi .i64 ia), (3, .t (.c (.d (.sl 2 (picks.map ziD))))), (4, vp 5 0), (5, vp 6 0), (8, vp 7 0), (9, vb false), (10, vp 8 0)] [(5, .box (sysC s)), (6, .box [.d (.sl 1 (x.locs.map intD)), .d (.sl 2 (x.vals.map ziD))]), (7, .box [.d (.raw nilV), .d (.raw nilV)]), (8, .box [.own 9 0, .d (.raw nilV)]), (9, .row 3 1 ([].map intD))] h (by kernel_rfl) rfl rfl (by kernel_rfl) (by kernel_rfl)
 replace h := nilOLs 8 1 10 2 28 [.own 9 0, .d (.raw nilV)] [(2, vi .i64 ia), (3, .t (.c (.d (.sl 2 (picks.map ziD))))), (4, vp 5 0), (5, vp 6 0), (8, vp 7 0), (9, vb false), (10, vp 8 0)] [(5, .box (sysC s)), (6, .box [.d (.sl 1 (x.locs.map intD)), .d (.sl 2 (x.vals.map ziD))]), (7, .box [.d (.raw nilV), .d (.raw nilV)]), (8, .box [.own 9 0, .own 10 0]), (9, .row 3 1 ([].map intD)), (10, .row 28 2 ([].map ziD))] h (by kernel_rfl) rfl rfl (by kernel_rfl) (by kernel_rfl)
 refine rSeq fam0ok 11 [] [(2, vi .i64 ia), (3, .t (.c (.d (.sl 2 (picks.map ziD))))), (4, vp 5 0), (5, vp 6 0), (8, vp 7 0), (9, vb false), (10, vp 8 0), (11, vi .i64 0)] [(5, .box (sysC s)), (6, .box [.d (.sl 1 (x.locs.map intD)), .d (.sl 2 (x.vals.map ziD))]), (7, .box [.d (.raw nilV), .d (.raw nilV)]), (8, .box [.own 9 0, .own 10 0]), (9, .row 3 1 ([].map intD)), (10, .row 28 2 ([].map ziD))] (by kernel_rfl) h ?_; clear h; intro a w h
 refine wp_block ?_
 refine loopS (ι := (Nat)) (fun (z_ : (Nat)) => match z_ with | j => j ≤ x.locs.length)
   (fun (z_ : (Nat)) => match z_ with | j => [(2, vi .i64 ia), (3, .t (.c (.d (.sl 2 (picks.map ziD))))), (4, vp 5 0), (5, vp 6 0), (8, vp 7 0), (9, vb false), (10, vp 8 0), (11, vi .i64 (j : Int))])
   (fun (z_ : (Nat)) => match z_ with | j => [(5, .box (sysC s)), (6, .box [.d (.sl 1 (x.locs.map intD)), .d (.sl 2 (x.vals.map ziD))]), (7, .box [.d (.raw nilV), .d (.raw nilV)]), (8, .box [.own 9 (x.locs.take j).length, .own 10 0]), (9, .row 3 1 ((x.locs.take j).map intD)), (10, .row 28 2 ([].map ziD))])
   (fun (z_ : (Nat)) => match z_ with | j => x.locs.length - j) 0 ?_ h (by kernel_rfl) (by kernel_rfl) ?_
 ·exact Nat.zero_le _
 ·clear h; rintro j a w hI h
  change St _ (F.of [(2, vi .i64 ia), (3, .t (.c (.d (.sl 2 (picks.map ziD))))), (4, vp 5 0), (5, vp 6 0), (8, vp 7 0), (9, vb false), (10, vp 8 0), (11, vi .i64 (j : Int))] [(5, .box (sysC s)), (6, .box [.d (.sl 1 (x.locs.map intD)), .d (.sl 2 (x.vals.map ziD))]), (7, .box [.d (.raw nilV), .d (.raw nilV)]), (8, .box [.own 9 (x.locs.take j).length, .own 10 0]), (9, .row 3 1 ((x.locs.take j).map intD)), (10, .row 28 2 ([].map ziD))]) a w at h
  refine wp_seq ?_
  refine rSeq fam0ok 11 [(3, .len (c := (.d (.sl 1 (x.locs.map intD)))) (n := x.locs.length) (lenC_map _ _ _))] [(2, vi .i64 ia), (3, .t (.c (.d (.sl 2 (picks.map ziD))))), (4, vp 5 0), (5, vp 6 0), (8, vp 7 0), (9, vb false), (10, vp 8 0), (11, vi .i64 (j : Int)), (22, vb (decide ((j : Int) < (x.locs.length : Int))))] [(5, .box (sysC s)), (6, .box [.d (.sl 1 (x.locs.map intD)), .d (.sl 2 (x.vals.map ziD))]), (7, .box [.d (.raw nilV), .d (.raw nilV)]), (8, .box [.own 9 (x.locs.take j).length, .own 10 0]), (9, .row 3 1 ((x.locs.take j).map intD)), (10, .row 28 2 ([].map ziD))] (by kernel_rfl) h ?_; clear h; intro a w h
  refine condS (decide ((j : Int) < (x.locs.length : Int))) h rfl (fun hc => ?_) (fun hc => ?_)
  ·have hc1 := hc; clear hc
   have hc1' := of_decide_eq_true hc1
   refine wp_skip ?_
   refine then_n ?_
   refine wp_seq ?_
   refine wp_block ?_
   obtain ⟨x1, hx1⟩ : ∃ z_ : Int, x.locs[j]? = some z_ := ⟨_, List.getElem?_eq_getElem (by first | omega | (simp at *; omega))⟩
   refine rS fam0ok 11 [(5, .gen _ _ _ fun _ _ _ _ => Op.idxD (d := 30) (t := 28) (k := .i64) tb_1 (map_at hx1 (f := intD)) (OV.tmp 29 _)), (7, .gen _ _ _ fun _ _ _ _ => Op.buildD (d := 32) (len := 1) (rows := [x1].map intD) (rs := [(31, vi .i64 x1)]) tb_0 (.cons (i := 0) (OV.tmp 31 _) (.nil)) (by kernel_rfl) rfl (by simp [intD]) (by decide) (by decide)), (8, .gen _ _ _ fun _ _ _ _ => Op.appOD (d := 33) (t := 26) (u := 32) (n := 9) (n' := 11) (len := (x.locs.take j).length) (len' := ((x.locs.take j) ++ [x1]).length) (rows := (x.locs.take j).map intD) (rows2 := [x1].map intD) (rows' := ((x.locs.take j) ++ [x1]).map intD) tb_2 (by first | exact (List.length_map _).symm | simp) (by first | (rw [List.length_append, List.length_map]; done) | simp) (by simp) (by simp [intD]) (by first | omega | (simp at *; done) | (simp at *; omega)))] [(2, vi .i64 ia), (3, .t (.c (.d (.sl 2 (picks.map ziD))))), (4, vp 5 0), (5, vp 6 0), (8, vp 7 0), (9, vb false), (10, vp 8 0), (11, vi .i64 (j : Int))] [(5, .box (sysC s)), (6, .box [.d (.sl 1 (x.locs.map intD)), .d (.sl 2 (x.vals.map ziD))]), (7, .box [.d (.raw nilV), .d (.raw nilV)]), (8, .box ([.own 11 ((x.locs.take j) ++ [x1]).length, .own 10 0])), (10, .row 28 2 ([].map ziD)), (11, .row 3 1 (((x.locs.take j) ++ [x1]).map intD))] (by kernel_rfl) h ?_; clear h; intro a w h
   refine block_n ?_
   refine then_n ?_
   refine rS fam0ok 12 [(1, .add .i64 (m := (j : Int)) (n := 1) (i64_id (by omega) (by omega)))] [(2, vi .i64 ia), (3, .t (.c (.d (.sl 2 (picks.map ziD))))), (4, vp 5 0), (5, vp 6 0), (8, vp 7 0), (9, vb false), (10, vp 8 0), (11, vi .i64 ((j : Int) + 1))] [(5, .box (sysC s)), (6, .box [.d (.sl 1 (x.locs.map intD)), .d (.sl 2 (x.vals.map ziD))]), (7, .box [.d (.raw nilV), .d (.raw nilV)]), (8, .box ([.own 11 ((x.locs.take j) ++ [x1]).length, .own 10 0])), (10, .row 28 2 ([].map ziD)), (11, .row 3 1 (((x.locs.take j) ++ [x1]).map intD))] (by kernel_rfl) h ?_; clear h; intro a w h
   refine then_n ?_
   replace h := h.conv (f' := F.of [(2, vi .i64 ia), (3, .t (.c (.d (.sl 2 (picks.map ziD))))), (4, vp 5 0), (5, vp 6 0), (8, vp 7 0), (9, vb false), (10, vp 8 0), (11, vi .i64 ((j : Int) + 1))] [(5, .box (sysC s)), (6, .box [.d (.sl 1 (x.locs.map intD)), .d (.sl 2 (x.vals.map ziD))]), (7, .box [.d (.raw nilV), .d (.raw nilV)]), (8, .box [.own 11 (x.locs.take (j + 1)).length, .own 10 0]), (10, .row 28 2 ([].map ziD)), (11, .row 3 1 ((x.locs.take (j + 1)).map intD))]) (congrArg (fun (z_ : List Int) => F.of [(2, vi .i64 ia), (3, .t (.c (.d (.sl 2 (picks.map ziD))))), (4, vp 5 0), (5, vp 6 0), (8, vp 7 0), (9, vb false), (10, vp 8 0), (11, vi .i64 ((j : Int) + 1))] [(5, .box (sysC s)), (6, .box [.d (.sl 1 (x.locs.map intD)), .d (.sl 2 (x.vals.map ziD))]), (7, .box [.d (.raw nilV), .d (.raw nilV)]), (8, .box [.own 11 z_.length, .own 10 0]), (10, .row 28 2 ([].map ziD)), (11, .row 3 1 (z_.map intD))]) (show (((x.locs.take j) ++ [x1]) : List Int) = (x.locs.take (j + 1)) from (by rw [List.take_add_one, hx1]; rfl)))
   replace h := renS 11 9 [(2, vi .i64 ia), (3, .t (.c (.d (.sl 2 (picks.map ziD))))), (4, vp 5 0), (5, vp 6 0), (8, vp 7 0), (9, vb false), (10, vp 8 0), (11, vi .i64 ((j : Int) + 1))] [(5, .box (sysC s)), (6, .box [.d (.sl 1 (x.locs.map intD)), .d (.sl 2 (x.vals.map ziD))]), (7, .box [.d (.raw nilV), .d (.raw nilV)]), (8, .box [.own 9 (x.locs.take (j + 1)).length, .own 10 0]), (10, .row 28 2 ([].map ziD)), (9, .row 3 1 ((x.locs.take (j + 1)).map intD))] h (by kernel_rfl) (by kernel_rfl) (by kernel_rfl)
   refine roundS (x := j) (y := j + 1) h ?_ ?_ (by kernel_rfl) (by kernel_rfl)
   ·show j + 1 ≤ x.locs.length
    omega
   ·show x.locs.length - (j + 1) < x.locs.length - j
    omega
  ·have hc2 := hc; clear hc
   have hc2' := of_decide_eq_false hc2
   refine wp_exit ?_
   refine then_x ?_
   refine then_x ?_
   refine inBlock_exit ?_
   refine then_n ?_
   refine wp_seq ?_
   replace h := h.conv (f' := F.of [(2, vi .i64 ia), (3, .t (.c (.d (.sl 2 (picks.map ziD))))), (4, vp 5 0), (5, vp 6 0), (8, vp 7 0), (9, vb false), (10, vp 8 0), (11, vi .i64 (j : Int)), (22, vb (decide ((j : Int) < (x.locs.length : Int))))] [(5, .box (sysC s)), (6, .box [.d (.sl 1 (x.locs.map intD)), .d (.sl 2 (x.vals.map ziD))]), (7, .box [.d (.raw nilV), .d (.raw nilV)]), (8, .box [.own 9 x.locs.length, .own 10 0]), (9, .row 3 1 (x.locs.map intD)), (10, .row 28 2 ([].map ziD))]) (congrArg (fun (z_ : List Int) => F.of [(2, vi .i64 ia), (3, .t (.c (.d (.sl 2 (picks.map ziD))))), (4, vp 5 0), (5, vp 6 0), (8, vp 7 0), (9, vb false), (10, vp 8 0), (11, vi .i64 (j : Int)), (22, vb (decide ((j : Int) < (x.locs.length : Int))))] [(5, .box (sysC s)), (6, .box [.d (.sl 1 (x.locs.map intD)), .d (.sl 2 (x.vals.map ziD))]), (7, .box [.d (.raw nilV), .d (.raw nilV)]), (8, .box [.own 9 z_.length, .own 10 0]), (9, .row 3 1 (z_.map intD)), (10, .row 28 2 ([].map ziD))]) (show ((x.locs.take j) : List Int) = x.locs from (by rw [List.take_of_length_le (by omega)])))
   refine rSeq fam0ok 12 [] [(2, vi .i64 ia), (3, .t (.c (.d (.sl 2 (picks.map ziD))))), (4, vp 5 0), (5, vp 6 0), (8, vp 7 0), (9, vb false), (10, vp 8 0), (12, vi .i64 0)] [(5, .box (sysC s)), (6, .box [.d (.sl 1 (x.locs.map intD)), .d (.sl 2 (x.vals.map ziD))]), (7, .box [.d (.raw nilV), .d (.raw nilV)]), (8, .box [.own 9 x.locs.length, .own 10 0]), (9, .row 3 1 (x.locs.map intD)), (10, .row 28 2 ([].map ziD))] (by kernel_rfl) h ?_; clear h; intro a w h
   refine wp_block ?_
   refine loopS (ι := (Nat)) (fun (z_ : (Nat)) => match z_ with | i => i ≤ x.vals.length)
     (fun (z_ : (Nat)) => match z_ with | i => [(2, vi .i64 ia), (3, .t (.c (.d (.sl 2 (picks.map ziD))))), (4, vp 5 0), (5, vp 6 0), (8, vp 7 0), (9, vb false), (10, vp 8 0), (12, vi .i64 (i : Int))])
     (fun (z_ : (Nat)) => match z_ with | i => [(5, .box (sysC s)), (6, .box [.d (.sl 1 (x.locs.map intD)), .d (.sl 2 (x.vals.map ziD))]), (7, .box [.d (.raw nilV), .d (.raw nilV)]), (8, .box [.own 9 x.locs.length, .own 10 ((x.vals.take i).map clZ).length]), (9, .row 3 1 (x.locs.map intD)), (10, .row 28 2 (((x.vals.take i).map clZ).map ziD))])
     (fun (z_ : (Nat)) => match z_ with | i => x.vals.length - i) 0 ?_ h (by kernel_rfl) (by kernel_rfl) ?_
   ·exact Nat.zero_le _
   ·clear h; rintro i a w hI h
    change St _ (F.of [(2, vi .i64 ia), (3, .t (.c (.d (.sl 2 (picks.map ziD))))), (4, vp 5 0), (5, vp 6 0), (8, vp 7 0), (9, vb false), (10, vp 8 0), (12, vi .i64 (i : Int))] [(5, .box (sysC s)), (6, .box [.d (.sl 1 (x.locs.map intD)), .d (.sl 2 (x.vals.map ziD))]), (7, .box [.d (.raw nilV), .d (.raw nilV)]), (8, .box [.own 9 x.locs.length, .own 10 ((x.vals.take i).map clZ).length]), (9, .row 3 1 (x.locs.map intD)), (10, .row 28 2 (((x.vals.take i).map clZ).map ziD))]) a w at h
    refine wp_seq ?_
    refine rSeq fam0ok 12 [(3, .len (c := (.d (.sl 2 (x.vals.map ziD)))) (n := x.vals.length) (lenC_map _ _ _))] [(2, vi .i64 ia), (3, .t (.c (.d (.sl 2 (picks.map ziD))))), (4, vp 5 0), (5, vp 6 0), (8, vp 7 0), (9, vb false), (10, vp 8 0), (12, vi .i64 (i : Int)), (39, vb (decide ((i : Int) < (x.vals.length : Int))))] [(5, .box (sysC s)), (6, .box [.d (.sl 1 (x.locs.map intD)), .d (.sl 2 (x.vals.map ziD))]), (7, .box [.d (.raw nilV), .d (.raw nilV)]), (8, .box [.own 9 x.locs.length, .own 10 ((x.vals.take i).map clZ).length]), (9, .row 3 1 (x.locs.map intD)), (10, .row 28 2 (((x.vals.take i).map clZ).map ziD))] (by kernel_rfl) h ?_; clear h; intro a w h
    refine condS (decide ((i : Int) < (x.vals.length : Int))) h rfl (fun hc => ?_) (fun hc => ?_)
    ·have hc3 := hc; clear hc
     have hc3' := of_decide_eq_true hc3
     refine wp_skip ?_
     refine then_n ?_
     refine wp_seq ?_
     refine wp_block ?_
     obtain ⟨x2, hx2⟩ : ∃ z_ : ZI, x.vals[i]? = some z_ := ⟨_, List.getElem?_eq_getElem (by first | omega | (simp at *; omega))⟩
     have gx2 := hx.val x2 (List.mem_of_getElem? hx2)
     have lgx2 := gx2.2
     obtain ⟨r3, er3, vr3, or3, lr3⟩ := mkZ (v := x2.val) (m := M) (Nat.le_trans (len_id gx2.1) gx2.2)
     refine rS fam0ok 12 [(5, .gen _ _ _ fun _ _ _ _ => Op.idxD (d := 47) (t := 45) (k := .i64) tt_6 (map_at hx2 (f := ziD)) (OV.tmp 46 _)), (7, .call (Fn.cast ((show Fn _ _ _ _ (vz (ZI.of x2.val)) _ from SRClean x2 gx2.1 (by omega))) (congrArg vz er3.symm)) tb_7), (8, .gen _ _ _ fun _ _ _ _ => Op.buildD (d := 50) (len := 1) (rows := [r3].map ziD) (rs := [(49, vz r3)]) kk_3 (.cons (i := 0) (OV.tmp 49 _) (.nil)) (by kernel_rfl) rfl (by simp [ziD]) (by decide) (by decide)), (9, .gen _ _ _ fun _ _ _ _ => Op.appOD (d := 51) (t := 43) (u := 50) (n := 10) (n' := 12) (len := ((x.vals.take i).map clZ).length) (len' := (((x.vals.take i).map clZ) ++ [r3]).length) (rows := ((x.vals.take i).map clZ).map ziD) (rows2 := [r3].map ziD) (rows' := (((x.vals.take i).map clZ) ++ [r3]).map ziD) kk_4 (by first | exact (List.length_map _).symm | simp) (by first | (rw [List.length_append, List.length_map]; done) | simp) (by simp) (by simp [ziD]) (by first | omega | (simp at *; done) | (simp at *; omega)))] [(2, vi .i64 ia), (3, .t (.c (.d (.sl 2 (picks.map ziD))))), (4, vp 5 0), (5, vp 6 0), (8, vp 7 0), (9, vb false), (10, vp 8 0), (12, vi .i64 (i : Int))] [(5, .box (sysC s)), (6, .box [.d (.sl 1 (x.locs.map intD)), .d (.sl 2 (x.vals.map ziD))]), (7, .box [.d (.raw nilV), .d (.raw nilV)]), (8, .box ([.own 9 x.locs.length, .own 12 (((x.vals.take i).map clZ) ++ [r3]).length])), (9, .row 3 1 (x.locs.map intD)), (12, .row 28 2 ((((x.vals.take i).map clZ) ++ [r3]).map ziD))] (by kernel_rfl) h ?_; clear h; intro a w h
     refine block_n ?_
     refine then_n ?_
     refine rS fam0ok 13 [(1, .add .i64 (m := (i : Int)) (n := 1) (i64_id (by omega) (by omega)))] [(2, vi .i64 ia), (3, .t (.c (.d (.sl 2 (picks.map ziD))))), (4, vp 5 0), (5, vp 6 0), (8, vp 7 0), (9, vb false), (10, vp 8 0), (12, vi .i64 ((i : Int) + 1))] [(5, .box (sysC s)), (6, .box [.d (.sl 1 (x.locs.map intD)), .d (.sl 2 (x.vals.map ziD))]), (7, .box [.d (.raw nilV), .d (.raw nilV)]), (8, .box ([.own 9 x.locs.length, .own 12 (((x.vals.take i).map clZ) ++ [r3]).length])), (9, .row 3 1 (x.locs.map intD)), (12, .row 28 2 ((((x.vals.take i).map clZ) ++ [r3]).map ziD))] (by kernel_rfl) h ?_; clear h; intro a w h
     refine then_n ?_
     replace h := h.conv (f' := F.of [(2, vi .i64 ia), (3, .t (.c (.d (.sl 2 (picks.map ziD))))), (4, vp 5 0), (5, vp 6 0), (8, vp 7 0), (9, vb false), (10, vp 8 0), (12, vi .i64 ((i : Int) + 1))] [(5, .box (sysC s)), (6, .box [.d (.sl 1 (x.locs.map intD)), .d (.sl 2 (x.vals.map ziD))]), (7, .box [.d (.raw nilV), .d (.raw nilV)]), (8, .box [.own 9 x.locs.length, .own 12 ((x.vals.take (i + 1)).map clZ).length]), (9, .row 3 1 (x.locs.map intD)), (12, .row 28 2 (((x.vals.take (i + 1)).map clZ).map ziD))]) (congrArg (fun (z_ : List ZI) => F.of [(2, vi .i64 ia), (3, .t (.c (.d (.sl 2 (picks.map ziD))))), (4, vp 5 0), (5, vp 6 0), (8, vp 7 0), (9, vb false), (10, vp 8 0), (12, vi .i64 ((i : Int) + 1))] [(5, .box (sysC s)), (6, .box [.d (.sl 1 (x.locs.map intD)), .d (.sl 2 (x.vals.map ziD))]), (7, .box [.d (.raw nilV), .d (.raw nilV)]), (8, .box [.own 9 x.locs.length, .own 12 z_.length]), (9, .row 3 1 (x.locs.map intD)), (12, .row 28 2 (z_.map ziD))]) (show ((((x.vals.take i).map clZ) ++ [r3]) : List ZI) = ((x.vals.take (i + 1)).map clZ) from (by rw [← map_snoc hx2]; congr 1; simp [clZ, *])))
     replace h := renS 12 10 [(2, vi .i64 ia), (3, .t (.c (.d (.sl 2 (picks.map ziD))))), (4, vp 5 0), (5, vp 6 0), (8, vp 7 0), (9, vb false), (10, vp 8 0), (12, vi .i64 ((i : Int) + 1))] [(5, .box (sysC s)), (6, .box [.d (.sl 1 (x.locs.map intD)), .d (.sl 2 (x.vals.map ziD))]), (7, .box [.d (.raw nilV), .d (.raw nilV)]), (8, .box [.own 9 x.locs.length, .own 10 ((x.vals.take (i + 1)).map clZ).length]), (9, .row 3 1 (x.locs.map intD)), (10, .row 28 2 (((x.vals.take (i + 1)).map clZ).map ziD))] h (by kernel_rfl) (by kernel_rfl) (by kernel_rfl)
     refine roundS (x := i) (y := i + 1) h ?_ ?_ (by kernel_rfl) (by kernel_rfl)
     ·show i + 1 ≤ x.vals.length
      omega
     ·show x.vals.length - (i + 1) < x.vals.length - i
      omega
    ·have hc4 := hc; clear hc
     have hc4' := of_decide_eq_false hc4
     refine wp_exit ?_
     refine then_x ?_
     refine then_x ?_
     refine inBlock_exit ?_
     refine then_n ?_
     refine wp_seq ?_
     replace h := h.conv (f' := F.of [(2, vi .i64 ia), (3, .t (.c (.d (.sl 2 (picks.map ziD))))), (4, vp 5 0), (5, vp 6 0), (8, vp 7 0), (9, vb false), (10, vp 8 0), (12, vi .i64 (i : Int)), (39, vb (decide ((i : Int) < (x.vals.length : Int))))] [(5, .box (sysC s)), (6, .box [.d (.sl 1 (x.locs.map intD)), .d (.sl 2 (x.vals.map ziD))]), (7, .box [.d (.raw nilV), .d (.raw nilV)]), (8, .box [.own 9 x.locs.length, .own 10 (x.vals.map clZ).length]), (9, .row 3 1 (x.locs.map intD)), (10, .row 28 2 ((x.vals.map clZ).map ziD))]) (congrArg (fun (z_ : List ZI) => F.of [(2, vi .i64 ia), (3, .t (.c (.d (.sl 2 (picks.map ziD))))), (4, vp 5 0), (5, vp 6 0), (8, vp 7 0), (9, vb false), (10, vp 8 0), (12, vi .i64 (i : Int)), (39, vb (decide ((i : Int) < (x.vals.length : Int))))] [(5, .box (sysC s)), (6, .box [.d (.sl 1 (x.locs.map intD)), .d (.sl 2 (x.vals.map ziD))]), (7, .box [.d (.raw nilV), .d (.raw nilV)]), (8, .box [.own 9 x.locs.length, .own 10 z_.length]), (9, .row 3 1 (x.locs.map intD)), (10, .row 28 2 (z_.map ziD))]) (show (((x.vals.take i).map clZ) : List ZI) = (x.vals.map clZ) from (by rw [List.take_of_length_le (by omega)])))
     refine rSeq fam0ok 13 [(1, .cmp (op := .eql) (m := ia) (n := (-1)) (b := false) .i64 (beq_eq_false_iff_ne.2 hn))] [(2, vi .i64 ia), (3, .t (.c (.d (.sl 2 (picks.map ziD))))), (4, vp 5 0), (5, vp 6 0), (8, vp 7 0), (9, vb false), (10, vp 8 0), (54, vb false)] [(5, .box (sysC s)), (6, .box [.d (.sl 1 (x.locs.map intD)), .d (.sl 2 (x.vals.map ziD))]), (7, .box [.d (.raw nilV), .d (.raw nilV)]), (8, .box [.own 9 x.locs.length, .own 10 (x.vals.map clZ).length]), (9, .row 3 1 (x.locs.map intD)), (10, .row 28 2 ((x.vals.map clZ).map ziD))] (by kernel_rfl) h ?_; clear h; intro a w h
     refine condS false h rfl (fun hc => ?_) (fun hc => ?_)
     ·cases hc
     ·clear hc
      refine wp_skip ?_
      refine then_n ?_
      refine wp_seq ?_
      refine rSeq fam0ok 13 [(3, .call (SRbeginsN s x ia hL hs hx hi) kp_7)] [(2, vi .i64 ia), (3, .t (.c (.d (.sl 2 (picks.map ziD))))), (4, vp 5 0), (5, vp 6 0), (8, vp 7 0), (9, vb false), (10, vp 8 0), (64, vb true)] [(5, .box (sysC s)), (6, .box [.d (.sl 1 (x.locs.map intD)), .d (.sl 2 (x.vals.map ziD))]), (7, .box [.d (.raw nilV), .d (.raw nilV)]), (8, .box [.own 9 x.locs.length, .own 10 (x.vals.map clZ).length]), (9, .row 3 1 (x.locs.map intD)), (10, .row 28 2 ((x.vals.map clZ).map ziD))] (by kernel_rfl) h ?_; clear h; intro a w h
      refine condS true h rfl (fun hc => ?_) (fun hc => ?_)
      ·clear hc
       refine rSeq fam0ok 13 [] [(2, vi .i64 ia), (3, .t (.c (.d (.sl 2 (picks.map ziD))))), (4, vp 5 0), (5, vp 6 0), (8, vp 7 0), (9, vb false), (10, vp 8 0)] [(5, .box (sysC s)), (6, .box [.d (.sl 1 (x.locs.map intD)), .d (.sl 2 (x.vals.map ziD))]), (7, .box [.d (.raw nilV), .d (.raw nilV)]), (8, .box [.own 9 x.locs.length, .own 10 (x.vals.map clZ).length]), (9, .row 3 1 (x.locs.map intD)), (10, .row 28 2 ((x.vals.map clZ).map ziD))] (by kernel_rfl) h ?_; clear h; intro a w h
       refine wp_ret ?_
       refine then_r ?_
       replace h := nilDLs 7 0 1 [.d (.raw nilV), .d (.raw nilV)] [(2, vi .i64 ia), (3, .t (.c (.d (.sl 2 (picks.map ziD))))), (4, vp 5 0), (5, vp 6 0), (8, vp 7 0), (9, vb false), (10, vp 8 0)] [(5, .box (sysC s)), (6, .box [.d (.sl 1 (x.locs.map intD)), .d (.sl 2 (x.vals.map ziD))]), (7, .box [.d (.sl 1 ([].map intD)), .d (.raw nilV)]), (8, .box [.own 9 x.locs.length, .own 10 (x.vals.map clZ).length]), (9, .row 3 1 (x.locs.map intD)), (10, .row 28 2 ((x.vals.map clZ).map ziD))] h rfl rfl (by kernel_rfl) (by kernel_rfl)
       replace h := nilDLs 7 1 2 [.d (.sl 1 ([].map intD)), .d (.raw nilV)] [(2, vi .i64 ia), (3, .t (.c (.d (.sl 2 (picks.map ziD))))), (4, vp 5 0), (5, vp 6 0), (8, vp 7 0), (9, vb false), (10, vp 8 0)] [(5, .box (sysC s)), (6, .box [.d (.sl 1 (x.locs.map intD)), .d (.sl 2 (x.vals.map ziD))]), (7, .box [.d (.sl 1 ([].map intD)), .d (.sl 2 ([].map ziD))]), (8, .box [.own 9 x.locs.length, .own 10 (x.vals.map clZ).length]), (9, .row 3 1 (x.locs.map intD)), (10, .row 28 2 ((x.vals.map clZ).map ziD))] h rfl rfl (by kernel_rfl) (by kernel_rfl)
       refine retS [.agg [.d (.sl 1 ([].map intD)), .d (.sl 2 ([].map ziD))], .c (.d (.raw (.bool false)))] h Exit.ret (.inl rfl)  rfl ⟨RV.agg _ 7 0 _ _ _ _ kk_5 rfl rfl rfl rfl, RV.tmp _ _ rfl, trivial⟩ ?_ (by kernel_rfl) (by kernel_rfl)
       rfl
      ·cases hc
set_option maxHeartbeats 4000000 in
theorem SRCanN (s : SysD) (x : StD) (i : Int) {L M : Nat} (hL : L + M ≤ 1900) (hs : SysOk L s) (hx : StOk M x) (hi : actAt s i = none) : Fn Tryz.prog 18 [] [.t (.agg (sysC s)), .t (.agg [.d (.sl 1 (x.locs.map intD)), .d (.sl 2 (x.vals.map ziD))]), vi .i64 i] (vb false) [] := by
 refine Fn.body Tryz.func18 rfl 80 rfl fun w H B a h => ?_
 refine rSeq fam0ok 0 [] [(2, vi .i64 i), (3, vp 0 0), (4, vp 1 0), (6, vb false)] [(0, .box (sysC s)), (1, .box [.d (.sl 1 (x.locs.map intD)), .d (.sl 2 (x.vals.map ziD))])] (by kernel_rfl) h ?_; clear h; intro a w h
 refine wp_seq ?_
 refine rSeq fam0ok 2 [(3, .call (SRbeginsN s x i (by omega) hs hx hi) kp_7)] [(2, vi .i64 i), (3, vp 0 0), (4, vp 1 0), (6, vb false), (17, vb true)] [(0, .box (sysC s)), (1, .box [.d (.sl 1 (x.locs.map intD)), .d (.sl 2 (x.vals.map ziD))])] (by kernel_rfl) h ?_; clear h; intro a w h
 refine condS true h rfl (fun hc => ?_) (fun hc => ?_)
 ·clear hc
  refine rSeq fam0ok 2 [] [(2, vi .i64 i), (3, vp 0 0), (4, vp 1 0), (6, vb false)] [(0, .box (sysC s)), (1, .box [.d (.sl 1 (x.locs.map intD)), .d (.sl 2 (x.vals.map ziD))])] (by kernel_rfl) h ?_; clear h; intro a w h
  refine wp_ret ?_
  refine then_r ?_
  refine retS [.c (.d (.raw (.bool false)))] h Exit.ret (.inl rfl)  rfl ⟨RV.tmp _ _ rfl, trivial⟩ ?_ (by kernel_rfl) (by kernel_rfl)
  rfl
 ·cases hc
set_option maxHeartbeats 4000000 in
theorem SRCanS (s : SysD) (x : StD) (ki : Nat) (c : ActD) {L M : Nat} (hL : L + M ≤ 1900) (hs : SysOk L s) (hx : StOk M x) (hka : s.acts[ki]? = some c) : Fn Tryz.prog 18 [] [.t (.agg (sysC s)), .t (.agg [.d (.sl 1 (x.locs.map intD)), .d (.sl 2 (x.vals.map ziD))]), vi .i64 (ki : Int)] (vb (canC s x c)) [] := by
 have lx1 := hx.locs
 have lx2 := hx.vals
 have ls1 := hs.vars
 have ls2 := hs.procs
 have lki := at_lt hka
 have hc : ActOk L c := hs.act c (List.mem_of_getElem? hka)
 have lmv := hc.len
 have lvv := hx.vals
 have lbn := hs.bnds
 refine Fn.body Tryz.func18 rfl 80 rfl fun w H B a h => ?_
 refine rSeq fam0ok 5 [] [(2, vi .i64 (ki : Int)), (3, vp 5 0), (4, vp 6 0), (6, vb false)] [(5, .box (sysC s)), (6, .box [.d (.sl 1 (x.locs.map intD)), .d (.sl 2 (x.vals.map ziD))])] (by kernel_rfl) h ?_; clear h; intro a w h
 refine wp_seq ?_
 refine rSeq fam0ok 7 [(3, .call (SRbeginsS s x ki c (L := L) (M := M) (by omega) hs hx hka) kp_7)] [(2, vi .i64 (ki : Int)), (3, vp 5 0), (4, vp 6 0), (6, vb false), (17, vb (!(enabled s x c)))] [(5, .box (sysC s)), (6, .box [.d (.sl 1 (x.locs.map intD)), .d (.sl 2 (x.vals.map ziD))])] (by kernel_rfl) h ?_; clear h; intro a w h
 refine condS (!(enabled s x c)) h rfl (fun hc => ?_) (fun hc => ?_)
 ·have hc1 := hc; clear hc
  have hc1' := hc1; (try simp at hc1')
  refine rSeq fam0ok 7 [] [(2, vi .i64 (ki : Int)), (3, vp 5 0), (4, vp 6 0), (6, vb false)] [(5, .box (sysC s)), (6, .box [.d (.sl 1 (x.locs.map intD)), .d (.sl 2 (x.vals.map ziD))])] (by kernel_rfl) h ?_; clear h; intro a w h
  refine wp_ret ?_
  refine then_r ?_
  refine retS [.c (.d (.raw (.bool false)))] h Exit.ret (.inl rfl)  rfl ⟨RV.tmp _ _ rfl, trivial⟩ ?_ (by kernel_rfl) (by kernel_rfl)
  have hz : canC s x c = false := by unfold canC; rw [(show (enabled s x c) = false from by simpa using hc1)]; rfl
  rw [hz]; first | done | rfl
 ·have hc2 := hc; clear hc
  have hc2' := hc2; (try simp at hc2')
  refine wp_skip ?_
  refine then_n ?_
  have hen := (show (enabled s x c) = true from by simpa using hc2)
  have hfl := fits_len (enabled_fits hen)
  refine rSeq fam0ok 7 [(0, .gen _ _ _ fun _ _ _ _ => Op.buildE (d := 18) (n := 7) kk_3)] [(2, vi .i64 (ki : Int)), (3, vp 5 0), (4, vp 6 0), (6, vb false), (7, .t (.c (.own 7 0)))] [(5, .box (sysC s)), (6, .box [.d (.sl 1 (x.locs.map intD)), .d (.sl 2 (x.vals.map ziD))]), (7, .row 28 2 ([].map ziD))] (by kernel_rfl) h ?_; clear h; intro a w h
  refine wp_seq ?_
  refine rSeq fam0ok 8 [] [(2, vi .i64 (ki : Int)), (3, vp 5 0), (4, vp 6 0), (6, vb false), (7, .t (.c (.own 7 0))), (8, vi .i64 0)] [(5, .box (sysC s)), (6, .box [.d (.sl 1 (x.locs.map intD)), .d (.sl 2 (x.vals.map ziD))]), (7, .row 28 2 ([].map ziD))] (by kernel_rfl) h ?_; clear h; intro a w h
  refine wp_block ?_
  refine loopS (ι := (Nat)) (fun (z_ : (Nat)) => match z_ with | j => j ≤ x.vals.length)
    (fun (z_ : (Nat)) => match z_ with | j => [(2, vi .i64 (ki : Int)), (3, vp 5 0), (4, vp 6 0), (6, vb false), (7, .t (.c (.own 7 (freeL (lowAt s) c j).length))), (8, vi .i64 (j : Int))])
    (fun (z_ : (Nat)) => match z_ with | j => [(5, .box (sysC s)), (6, .box [.d (.sl 1 (x.locs.map intD)), .d (.sl 2 (x.vals.map ziD))]), (7, .row 28 2 ((freeL (lowAt s) c j).map ziD))])
    (fun (z_ : (Nat)) => match z_ with | j => x.vals.length - j) 0 ?_ h (by kernel_rfl) (by kernel_rfl) ?_
  ·exact Nat.zero_le _
  ·clear h; rintro j a w hI h
   change St _ (F.of [(2, vi .i64 (ki : Int)), (3, vp 5 0), (4, vp 6 0), (6, vb false), (7, .t (.c (.own 7 (freeL (lowAt s) c j).length))), (8, vi .i64 (j : Int))] [(5, .box (sysC s)), (6, .box [.d (.sl 1 (x.locs.map intD)), .d (.sl 2 (x.vals.map ziD))]), (7, .row 28 2 ((freeL (lowAt s) c j).map ziD))]) a w at h
   have hcf := cnt_le c j
   have hfll := freeL_len (lowAt s) c j
   refine wp_seq ?_
   refine rSeq fam0ok 8 [(3, .len (c := (.d (.sl 2 (x.vals.map ziD)))) (n := x.vals.length) (lenC_map _ _ _))] [(2, vi .i64 (ki : Int)), (3, vp 5 0), (4, vp 6 0), (6, vb false), (7, .t (.c (.own 7 (freeL (lowAt s) c j).length))), (8, vi .i64 (j : Int)), (23, vb (decide ((j : Int) < (x.vals.length : Int))))] [(5, .box (sysC s)), (6, .box [.d (.sl 1 (x.locs.map intD)), .d (.sl 2 (x.vals.map ziD))]), (7, .row 28 2 ((freeL (lowAt s) c j).map ziD))] (by kernel_rfl) h ?_; clear h; intro a w h
   refine condS (decide ((j : Int) < (x.vals.length : Int))) h rfl (fun hc => ?_) (fun hc => ?_)
   ·have hc3 := hc; clear hc
    have hc3' := of_decide_eq_true hc3
    refine wp_skip ?_
    refine then_n ?_
    refine wp_seq ?_
    refine wp_block ?_
    rcases idxB_find (fun m => m.v == (j : Int)) c.moves with ⟨hix, hm⟩ | ⟨k, m, hix, hmk, hm⟩
    ·replace hm : mvAt c j = none := hm
     refine rSeq fam0ok 8 [(3, .gen _ _ _ fun _ _ _ _ => Op.idxD (d := 29) (t := 27) (k := .i64) ki_1 (map_at hka (f := ActD.d)) (OV.tmp 28 _)), (6, .call (Fn.cast (SRmove c j lmv) (congrArg (vi .i64) hix)) kp_11)] [(2, vi .i64 (ki : Int)), (3, vp 5 0), (4, vp 6 0), (6, vb false), (7, .t (.c (.own 7 (freeL (lowAt s) c j).length))), (8, vi .i64 (j : Int)), (9, vi .i64 (-1))] [(5, .box (sysC s)), (6, .box [.d (.sl 1 (x.locs.map intD)), .d (.sl 2 (x.vals.map ziD))]), (7, .row 28 2 ((freeL (lowAt s) c j).map ziD))] (by kernel_rfl) h ?_; clear h; intro a w h
     refine rSeq fam0ok 8 [(1, .cmp (op := .geq) (m := (-1)) (n := 0) (b := false) .i64 rfl)] [(2, vi .i64 (ki : Int)), (3, vp 5 0), (4, vp 6 0), (6, vb false), (7, .t (.c (.own 7 (freeL (lowAt s) c j).length))), (8, vi .i64 (j : Int)), (46, vb false)] [(5, .box (sysC s)), (6, .box [.d (.sl 1 (x.locs.map intD)), .d (.sl 2 (x.vals.map ziD))]), (7, .row 28 2 ((freeL (lowAt s) c j).map ziD))] (by kernel_rfl) h ?_; clear h; intro a w h
     refine condS false h rfl (fun hc => ?_) (fun hc => ?_)
     ·cases hc
     ·clear hc
      refine wp_skip ?_
      refine block_n ?_
      refine then_n ?_
      refine rS fam0ok 8 [(1, .add .i64 (m := (j : Int)) (n := 1) (i64_id (by omega) (by omega)))] [(2, vi .i64 (ki : Int)), (3, vp 5 0), (4, vp 6 0), (6, vb false), (7, .t (.c (.own 7 (freeL (lowAt s) c j).length))), (8, vi .i64 ((j : Int) + 1))] [(5, .box (sysC s)), (6, .box [.d (.sl 1 (x.locs.map intD)), .d (.sl 2 (x.vals.map ziD))]), (7, .row 28 2 ((freeL (lowAt s) c j).map ziD))] (by kernel_rfl) h ?_; clear h; intro a w h
      refine then_n ?_
      replace h := h.conv (f' := F.of [(2, vi .i64 (ki : Int)), (3, vp 5 0), (4, vp 6 0), (6, vb false), (7, .t (.c (.own 7 (freeL (lowAt s) c (j + 1)).length))), (8, vi .i64 ((j : Int) + 1))] [(5, .box (sysC s)), (6, .box [.d (.sl 1 (x.locs.map intD)), .d (.sl 2 (x.vals.map ziD))]), (7, .row 28 2 ((freeL (lowAt s) c (j + 1)).map ziD))]) (congrArg (fun (z_ : List ZI) => F.of [(2, vi .i64 (ki : Int)), (3, vp 5 0), (4, vp 6 0), (6, vb false), (7, .t (.c (.own 7 z_.length))), (8, vi .i64 ((j : Int) + 1))] [(5, .box (sysC s)), (6, .box [.d (.sl 1 (x.locs.map intD)), .d (.sl 2 (x.vals.map ziD))]), (7, .row 28 2 (z_.map ziD))]) (show ((freeL (lowAt s) c j) : List ZI) = (freeL (lowAt s) c (j + 1)) from (freeL_kept (free_none hm))))
      refine roundS (x := j) (y := j + 1) h ?_ ?_ (by kernel_rfl) (by kernel_rfl)
      ·show j + 1 ≤ x.vals.length
       omega
      ·show x.vals.length - (j + 1) < x.vals.length - j
       omega
    ·replace hm : mvAt c j = some m := hm
     have lmk := at_lt hmk
     refine rSeq fam0ok 8 [(3, .gen _ _ _ fun _ _ _ _ => Op.idxD (d := 29) (t := 27) (k := .i64) ki_1 (map_at hka (f := ActD.d)) (OV.tmp 28 _)), (6, .call (Fn.cast (SRmove c j lmv) (congrArg (vi .i64) hix)) kp_11)] [(2, vi .i64 (ki : Int)), (3, vp 5 0), (4, vp 6 0), (6, vb false), (7, .t (.c (.own 7 (freeL (lowAt s) c j).length))), (8, vi .i64 (j : Int)), (9, vi .i64 (k : Int))] [(5, .box (sysC s)), (6, .box [.d (.sl 1 (x.locs.map intD)), .d (.sl 2 (x.vals.map ziD))]), (7, .row 28 2 ((freeL (lowAt s) c j).map ziD))] (by kernel_rfl) h ?_; clear h; intro a w h
     refine rSeq fam0ok 8 [(1, .cmp (op := .geq) (m := (k : Int)) (n := 0) (b := true) .i64 (show (decide ((k : Int) ≥ 0)) = true from decide_eq_true (by omega))), (6, .gen _ _ _ fun _ _ _ _ => Op.idxD (d := 39) (t := 37) (k := .i64) ki_1 (map_at hka (f := ActD.d)) (OV.tmp 38 _)), (10, .gen _ _ _ fun _ _ _ _ => Op.idxD (d := 43) (t := 41) (k := .i64) ki_2 (map_at hmk (f := MoveD.d)) (OV.tmp 42 _))] [(2, vi .i64 (ki : Int)), (3, vp 5 0), (4, vp 6 0), (6, vb false), (7, .t (.c (.own 7 (freeL (lowAt s) c j).length))), (8, vi .i64 (j : Int)), (46, vb m.any)] [(5, .box (sysC s)), (6, .box [.d (.sl 1 (x.locs.map intD)), .d (.sl 2 (x.vals.map ziD))]), (7, .row 28 2 ((freeL (lowAt s) c j).map ziD))] (by kernel_rfl) h ?_; clear h; intro a w h
     refine condS m.any h rfl (fun hc => ?_) (fun hc => ?_)
     ·have hc4 := hc; clear hc
      refine rSeq fam0ok 8 [] [(2, vi .i64 (ki : Int)), (3, vp 5 0), (4, vp 6 0), (6, vb false), (7, .t (.c (.own 7 (freeL (lowAt s) c j).length))), (8, vi .i64 (j : Int)), (10, vp 8 0)] [(5, .box (sysC s)), (6, .box [.d (.sl 1 (x.locs.map intD)), .d (.sl 2 (x.vals.map ziD))]), (7, .row 28 2 ((freeL (lowAt s) c j).map ziD)), (8, .box [.d (.raw (.bool false)), .d (nsl [])])] (by kernel_rfl) h ?_; clear h; intro a w h
      refine wp_seq ?_
      rcases Bool.eq_false_or_eq_true (decide ((j : Int) < (s.bounds.length : Int))) with hc | hc
      ·have hc5 := hc; clear hc
       have hc5' := of_decide_eq_true hc5
       obtain ⟨x4, hx4⟩ : ∃ z_ : BoundD, s.bounds[j]? = some z_ := ⟨_, List.getElem?_eq_getElem (by first | omega | (simp at *; omega))⟩
       refine rSeq fam0ok 9 [(3, .len (c := (.d (.sl 5 (s.bounds.map BoundD.d)))) (n := s.bounds.length) (lenC_map _ _ _)), (4, .cmp (op := .lss) (m := (j : Int)) (n := (s.bounds.length : Int)) (b := true) .i64 hc5), (9, .gen _ _ _ fun _ _ _ _ => Op.idxD (d := 57) (t := 55) (k := .i64) kf_0 (map_at hx4 (f := BoundD.d)) (OV.tmp 56 _))] [(2, vi .i64 (ki : Int)), (3, vp 5 0), (4, vp 6 0), (6, vb false), (7, .t (.c (.own 7 (freeL (lowAt s) c j).length))), (8, vi .i64 (j : Int)), (10, vp 8 0), (60, vb x4.is_)] [(5, .box (sysC s)), (6, .box [.d (.sl 1 (x.locs.map intD)), .d (.sl 2 (x.vals.map ziD))]), (7, .row 28 2 ((freeL (lowAt s) c j).map ziD)), (8, .box [.d (.raw (.bool false)), .d (nsl [])])] (by kernel_rfl) h ?_; clear h; intro a w h
       refine condS x4.is_ h rfl (fun hc => ?_) (fun hc => ?_)
       ·have hc6 := hc; clear hc
        refine rS fam0ok 9 [(3, .gen _ _ _ fun _ _ _ _ => Op.idxD (d := 64) (t := 62) (k := .i64) kf_0 (map_at hx4 (f := BoundD.d)) (OV.tmp 63 _))] [(2, vi .i64 (ki : Int)), (3, vp 5 0), (4, vp 6 0), (6, vb false), (7, .t (.c (.own 7 (freeL (lowAt s) c j).length))), (8, vi .i64 (j : Int)), (10, vp 8 0)] [(5, .box (sysC s)), (6, .box [.d (.sl 1 (x.locs.map intD)), .d (.sl 2 (x.vals.map ziD))]), (7, .row 28 2 ((freeL (lowAt s) c j).map ziD)), (8, .box (zi x4.lo))] (by kernel_rfl) h ?_; clear h; intro a w h
        refine then_n ?_
        refine rS fam0ok 9 [(2, .gen _ _ _ fun _ _ _ _ => Op.buildD (d := 69) (len := 1) (rows := [x4.lo].map ziD) (rs := [(68, vz x4.lo)]) kk_3 (.cons (i := 0) (OV.tmp 68 _) (.nil)) (by kernel_rfl) rfl (by simp [ziD]) (by decide) (by decide)), (3, .gen _ _ _ fun _ _ _ _ => Op.appOD (d := 70) (t := 67) (u := 69) (n := 7) (n' := 9) (len := (freeL (lowAt s) c j).length) (len' := ((freeL (lowAt s) c j) ++ [x4.lo]).length) (rows := (freeL (lowAt s) c j).map ziD) (rows2 := [x4.lo].map ziD) (rows' := ((freeL (lowAt s) c j) ++ [x4.lo]).map ziD) kk_4 (by first | exact (List.length_map _).symm | simp) (by first | (rw [List.length_append, List.length_map]; done) | simp) (by simp) (by simp [ziD]) (by first | omega | (simp at *; done) | (simp at *; omega)))] [(2, vi .i64 (ki : Int)), (3, vp 5 0), (4, vp 6 0), (6, vb false), (7, .t (.c (.own 9 ((freeL (lowAt s) c j) ++ [x4.lo]).length))), (8, vi .i64 (j : Int))] [(5, .box (sysC s)), (6, .box [.d (.sl 1 (x.locs.map intD)), .d (.sl 2 (x.vals.map ziD))]), (9, .row 28 2 (((freeL (lowAt s) c j) ++ [x4.lo]).map ziD))] (by kernel_rfl) h ?_; clear h; intro a w h
        refine block_n ?_
        refine then_n ?_
        refine rS fam0ok 10 [(1, .add .i64 (m := (j : Int)) (n := 1) (i64_id (by omega) (by omega)))] [(2, vi .i64 (ki : Int)), (3, vp 5 0), (4, vp 6 0), (6, vb false), (7, .t (.c (.own 9 ((freeL (lowAt s) c j) ++ [x4.lo]).length))), (8, vi .i64 ((j : Int) + 1))] [(5, .box (sysC s)), (6, .box [.d (.sl 1 (x.locs.map intD)), .d (.sl 2 (x.vals.map ziD))]), (9, .row 28 2 (((freeL (lowAt s) c j) ++ [x4.lo]).map ziD))] (by kernel_rfl) h ?_; clear h; intro a w h
        refine then_n ?_
        replace h := h.conv (f' := F.of [(2, vi .i64 (ki : Int)), (3, vp 5 0), (4, vp 6 0), (6, vb false), (7, .t (.c (.own 9 (freeL (lowAt s) c (j + 1)).length))), (8, vi .i64 ((j : Int) + 1))] [(5, .box (sysC s)), (6, .box [.d (.sl 1 (x.locs.map intD)), .d (.sl 2 (x.vals.map ziD))]), (9, .row 28 2 ((freeL (lowAt s) c (j + 1)).map ziD))]) (congrArg (fun (z_ : List ZI) => F.of [(2, vi .i64 (ki : Int)), (3, vp 5 0), (4, vp 6 0), (6, vb false), (7, .t (.c (.own 9 z_.length))), (8, vi .i64 ((j : Int) + 1))] [(5, .box (sysC s)), (6, .box [.d (.sl 1 (x.locs.map intD)), .d (.sl 2 (x.vals.map ziD))]), (9, .row 28 2 (z_.map ziD))]) (show (((freeL (lowAt s) c j) ++ [x4.lo]) : List ZI) = (freeL (lowAt s) c (j + 1)) from (freeL_free (free_some hm hc4) (by unfold lowAt bndAt; rw [hx4, Option.getD_some, if_pos hc6]))))
        replace h := renS 9 7 [(2, vi .i64 (ki : Int)), (3, vp 5 0), (4, vp 6 0), (6, vb false), (7, .t (.c (.own 7 (freeL (lowAt s) c (j + 1)).length))), (8, vi .i64 ((j : Int) + 1))] [(5, .box (sysC s)), (6, .box [.d (.sl 1 (x.locs.map intD)), .d (.sl 2 (x.vals.map ziD))]), (7, .row 28 2 ((freeL (lowAt s) c (j + 1)).map ziD))] h (by kernel_rfl) (by kernel_rfl) (by kernel_rfl)
        refine roundS (x := j) (y := j + 1) h ?_ ?_ (by kernel_rfl) (by kernel_rfl)
        ·show j + 1 ≤ x.vals.length
         omega
        ·show x.vals.length - (j + 1) < x.vals.length - j
         omega
       ·have hc7 := hc; clear hc
        refine wp_skip ?_
        refine then_n ?_
        refine rS fam0ok 10 [(2, .gen _ _ _ fun _ _ _ _ => Op.buildD (d := 69) (len := 1) (rows := [(ZI.mk false [])].map ziD) (rs := [(68, .t (.agg [.d (.raw (.bool false)), .d (nsl [])]))]) kk_3 (.cons (i := 0) (OV.tmp 68 _) (.nil)) (by kernel_rfl) rfl (by simp [ziD]) (by decide) (by decide)), (3, .gen _ _ _ fun _ _ _ _ => Op.appOD (d := 70) (t := 67) (u := 69) (n := 7) (n' := 10) (len := (freeL (lowAt s) c j).length) (len' := ((freeL (lowAt s) c j) ++ [(ZI.mk false [])]).length) (rows := (freeL (lowAt s) c j).map ziD) (rows2 := [(ZI.mk false [])].map ziD) (rows' := ((freeL (lowAt s) c j) ++ [(ZI.mk false [])]).map ziD) kk_4 (by first | exact (List.length_map _).symm | simp) (by first | (rw [List.length_append, List.length_map]; done) | simp) (by simp) (by simp [ziD]) (by first | omega | (simp at *; done) | (simp at *; omega)))] [(2, vi .i64 (ki : Int)), (3, vp 5 0), (4, vp 6 0), (6, vb false), (7, .t (.c (.own 10 ((freeL (lowAt s) c j) ++ [(ZI.mk false [])]).length))), (8, vi .i64 (j : Int))] [(5, .box (sysC s)), (6, .box [.d (.sl 1 (x.locs.map intD)), .d (.sl 2 (x.vals.map ziD))]), (10, .row 28 2 (((freeL (lowAt s) c j) ++ [(ZI.mk false [])]).map ziD))] (by kernel_rfl) h ?_; clear h; intro a w h
        refine block_n ?_
        refine then_n ?_
        refine rS fam0ok 11 [(1, .add .i64 (m := (j : Int)) (n := 1) (i64_id (by omega) (by omega)))] [(2, vi .i64 (ki : Int)), (3, vp 5 0), (4, vp 6 0), (6, vb false), (7, .t (.c (.own 10 ((freeL (lowAt s) c j) ++ [(ZI.mk false [])]).length))), (8, vi .i64 ((j : Int) + 1))] [(5, .box (sysC s)), (6, .box [.d (.sl 1 (x.locs.map intD)), .d (.sl 2 (x.vals.map ziD))]), (10, .row 28 2 (((freeL (lowAt s) c j) ++ [(ZI.mk false [])]).map ziD))] (by kernel_rfl) h ?_; clear h; intro a w h
        refine then_n ?_
        replace h := h.conv (f' := F.of [(2, vi .i64 (ki : Int)), (3, vp 5 0), (4, vp 6 0), (6, vb false), (7, .t (.c (.own 10 (freeL (lowAt s) c (j + 1)).length))), (8, vi .i64 ((j : Int) + 1))] [(5, .box (sysC s)), (6, .box [.d (.sl 1 (x.locs.map intD)), .d (.sl 2 (x.vals.map ziD))]), (10, .row 28 2 ((freeL (lowAt s) c (j + 1)).map ziD))]) (congrArg (fun (z_ : List ZI) => F.of [(2, vi .i64 (ki : Int)), (3, vp 5 0), (4, vp 6 0), (6, vb false), (7, .t (.c (.own 10 z_.length))), (8, vi .i64 ((j : Int) + 1))] [(5, .box (sysC s)), (6, .box [.d (.sl 1 (x.locs.map intD)), .d (.sl 2 (x.vals.map ziD))]), (10, .row 28 2 (z_.map ziD))]) (show (((freeL (lowAt s) c j) ++ [(ZI.mk false [])]) : List ZI) = (freeL (lowAt s) c (j + 1)) from (freeL_free (free_some hm hc4) (by unfold lowAt bndAt; rw [hx4, Option.getD_some, if_neg (by rw [hc7]; exact Bool.noConfusion)]; first | done | rfl))))
        replace h := renS 10 7 [(2, vi .i64 (ki : Int)), (3, vp 5 0), (4, vp 6 0), (6, vb false), (7, .t (.c (.own 7 (freeL (lowAt s) c (j + 1)).length))), (8, vi .i64 ((j : Int) + 1))] [(5, .box (sysC s)), (6, .box [.d (.sl 1 (x.locs.map intD)), .d (.sl 2 (x.vals.map ziD))]), (7, .row 28 2 ((freeL (lowAt s) c (j + 1)).map ziD))] h (by kernel_rfl) (by kernel_rfl) (by kernel_rfl)
        refine roundS (x := j) (y := j + 1) h ?_ ?_ (by kernel_rfl) (by kernel_rfl)
        ·show j + 1 ≤ x.vals.length
         omega
        ·show x.vals.length - (j + 1) < x.vals.length - j
         omega
      ·have hc8 := hc; clear hc
       have hc8' := of_decide_eq_false hc8
       refine rSeq fam0ok 11 [(3, .len (c := (.d (.sl 5 (s.bounds.map BoundD.d)))) (n := s.bounds.length) (lenC_map _ _ _)), (4, .cmp (op := .lss) (m := (j : Int)) (n := (s.bounds.length : Int)) (b := false) .i64 hc8)] [(2, vi .i64 (ki : Int)), (3, vp 5 0), (4, vp 6 0), (6, vb false), (7, .t (.c (.own 7 (freeL (lowAt s) c j).length))), (8, vi .i64 (j : Int)), (10, vp 8 0), (60, vb false)] [(5, .box (sysC s)), (6, .box [.d (.sl 1 (x.locs.map intD)), .d (.sl 2 (x.vals.map ziD))]), (7, .row 28 2 ((freeL (lowAt s) c j).map ziD)), (8, .box [.d (.raw (.bool false)), .d (nsl [])])] (by kernel_rfl) h ?_; clear h; intro a w h
       refine condS false h rfl (fun hc => ?_) (fun hc => ?_)
       ·cases hc
       ·clear hc
        refine wp_skip ?_
        refine then_n ?_
        refine rS fam0ok 11 [(2, .gen _ _ _ fun _ _ _ _ => Op.buildD (d := 69) (len := 1) (rows := [(ZI.mk false [])].map ziD) (rs := [(68, .t (.agg [.d (.raw (.bool false)), .d (nsl [])]))]) kk_3 (.cons (i := 0) (OV.tmp 68 _) (.nil)) (by kernel_rfl) rfl (by simp [ziD]) (by decide) (by decide)), (3, .gen _ _ _ fun _ _ _ _ => Op.appOD (d := 70) (t := 67) (u := 69) (n := 7) (n' := 11) (len := (freeL (lowAt s) c j).length) (len' := ((freeL (lowAt s) c j) ++ [(ZI.mk false [])]).length) (rows := (freeL (lowAt s) c j).map ziD) (rows2 := [(ZI.mk false [])].map ziD) (rows' := ((freeL (lowAt s) c j) ++ [(ZI.mk false [])]).map ziD) kk_4 (by first | exact (List.length_map _).symm | simp) (by first | (rw [List.length_append, List.length_map]; done) | simp) (by simp) (by simp [ziD]) (by first | omega | (simp at *; done) | (simp at *; omega)))] [(2, vi .i64 (ki : Int)), (3, vp 5 0), (4, vp 6 0), (6, vb false), (7, .t (.c (.own 11 ((freeL (lowAt s) c j) ++ [(ZI.mk false [])]).length))), (8, vi .i64 (j : Int))] [(5, .box (sysC s)), (6, .box [.d (.sl 1 (x.locs.map intD)), .d (.sl 2 (x.vals.map ziD))]), (11, .row 28 2 (((freeL (lowAt s) c j) ++ [(ZI.mk false [])]).map ziD))] (by kernel_rfl) h ?_; clear h; intro a w h
        refine block_n ?_
        refine then_n ?_
        refine rS fam0ok 12 [(1, .add .i64 (m := (j : Int)) (n := 1) (i64_id (by omega) (by omega)))] [(2, vi .i64 (ki : Int)), (3, vp 5 0), (4, vp 6 0), (6, vb false), (7, .t (.c (.own 11 ((freeL (lowAt s) c j) ++ [(ZI.mk false [])]).length))), (8, vi .i64 ((j : Int) + 1))] [(5, .box (sysC s)), (6, .box [.d (.sl 1 (x.locs.map intD)), .d (.sl 2 (x.vals.map ziD))]), (11, .row 28 2 (((freeL (lowAt s) c j) ++ [(ZI.mk false [])]).map ziD))] (by kernel_rfl) h ?_; clear h; intro a w h
        refine then_n ?_
        replace h := h.conv (f' := F.of [(2, vi .i64 (ki : Int)), (3, vp 5 0), (4, vp 6 0), (6, vb false), (7, .t (.c (.own 11 (freeL (lowAt s) c (j + 1)).length))), (8, vi .i64 ((j : Int) + 1))] [(5, .box (sysC s)), (6, .box [.d (.sl 1 (x.locs.map intD)), .d (.sl 2 (x.vals.map ziD))]), (11, .row 28 2 ((freeL (lowAt s) c (j + 1)).map ziD))]) (congrArg (fun (z_ : List ZI) => F.of [(2, vi .i64 (ki : Int)), (3, vp 5 0), (4, vp 6 0), (6, vb false), (7, .t (.c (.own 11 z_.length))), (8, vi .i64 ((j : Int) + 1))] [(5, .box (sysC s)), (6, .box [.d (.sl 1 (x.locs.map intD)), .d (.sl 2 (x.vals.map ziD))]), (11, .row 28 2 (z_.map ziD))]) (show (((freeL (lowAt s) c j) ++ [(ZI.mk false [])]) : List ZI) = (freeL (lowAt s) c (j + 1)) from (freeL_free (free_some hm hc4) (by unfold lowAt bndAt; rw [List.getElem?_eq_none (by have := of_decide_eq_false hc8; omega)]; rfl))))
        replace h := renS 11 7 [(2, vi .i64 (ki : Int)), (3, vp 5 0), (4, vp 6 0), (6, vb false), (7, .t (.c (.own 7 (freeL (lowAt s) c (j + 1)).length))), (8, vi .i64 ((j : Int) + 1))] [(5, .box (sysC s)), (6, .box [.d (.sl 1 (x.locs.map intD)), .d (.sl 2 (x.vals.map ziD))]), (7, .row 28 2 ((freeL (lowAt s) c (j + 1)).map ziD))] h (by kernel_rfl) (by kernel_rfl) (by kernel_rfl)
        refine roundS (x := j) (y := j + 1) h ?_ ?_ (by kernel_rfl) (by kernel_rfl)
        ·show j + 1 ≤ x.vals.length
         omega
        ·show x.vals.length - (j + 1) < x.vals.length - j
         omega
     ·have hc9 := hc; clear hc
      refine wp_skip ?_
      refine block_n ?_
      refine then_n ?_
      refine rS fam0ok 12 [(1, .add .i64 (m := (j : Int)) (n := 1) (i64_id (by omega) (by omega)))] [(2, vi .i64 (ki : Int)), (3, vp 5 0), (4, vp 6 0), (6, vb false), (7, .t (.c (.own 7 (freeL (lowAt s) c j).length))), (8, vi .i64 ((j : Int) + 1))] [(5, .box (sysC s)), (6, .box [.d (.sl 1 (x.locs.map intD)), .d (.sl 2 (x.vals.map ziD))]), (7, .row 28 2 ((freeL (lowAt s) c j).map ziD))] (by kernel_rfl) h ?_; clear h; intro a w h
      refine then_n ?_
      replace h := h.conv (f' := F.of [(2, vi .i64 (ki : Int)), (3, vp 5 0), (4, vp 6 0), (6, vb false), (7, .t (.c (.own 7 (freeL (lowAt s) c (j + 1)).length))), (8, vi .i64 ((j : Int) + 1))] [(5, .box (sysC s)), (6, .box [.d (.sl 1 (x.locs.map intD)), .d (.sl 2 (x.vals.map ziD))]), (7, .row 28 2 ((freeL (lowAt s) c (j + 1)).map ziD))]) (congrArg (fun (z_ : List ZI) => F.of [(2, vi .i64 (ki : Int)), (3, vp 5 0), (4, vp 6 0), (6, vb false), (7, .t (.c (.own 7 z_.length))), (8, vi .i64 ((j : Int) + 1))] [(5, .box (sysC s)), (6, .box [.d (.sl 1 (x.locs.map intD)), .d (.sl 2 (x.vals.map ziD))]), (7, .row 28 2 (z_.map ziD))]) (show ((freeL (lowAt s) c j) : List ZI) = (freeL (lowAt s) c (j + 1)) from (freeL_kept (free_some hm hc9))))
      refine roundS (x := j) (y := j + 1) h ?_ ?_ (by kernel_rfl) (by kernel_rfl)
      ·show j + 1 ≤ x.vals.length
       omega
      ·show x.vals.length - (j + 1) < x.vals.length - j
       omega
   ·have hc10 := hc; clear hc
    have hc10' := of_decide_eq_false hc10
    refine wp_exit ?_
    refine then_x ?_
    refine then_x ?_
    refine inBlock_exit ?_
    refine then_n ?_
    replace h := h.conv (f' := F.of [(2, vi .i64 (ki : Int)), (3, vp 5 0), (4, vp 6 0), (6, vb false), (7, .t (.c (.own 7 (freeL (lowAt s) c s.vars.length).length))), (8, vi .i64 (j : Int)), (23, vb (decide ((j : Int) < (x.vals.length : Int))))] [(5, .box (sysC s)), (6, .box [.d (.sl 1 (x.locs.map intD)), .d (.sl 2 (x.vals.map ziD))]), (7, .row 28 2 ((freeL (lowAt s) c s.vars.length).map ziD))]) (congrArg (fun (z_ : List ZI) => F.of [(2, vi .i64 (ki : Int)), (3, vp 5 0), (4, vp 6 0), (6, vb false), (7, .t (.c (.own 7 z_.length))), (8, vi .i64 (j : Int)), (23, vb (decide ((j : Int) < (x.vals.length : Int))))] [(5, .box (sysC s)), (6, .box [.d (.sl 1 (x.locs.map intD)), .d (.sl 2 (x.vals.map ziD))]), (7, .row 28 2 (z_.map ziD))]) (show ((freeL (lowAt s) c j) : List ZI) = (freeL (lowAt s) c s.vars.length) from (by rw [show j = s.vars.length by omega])))
    replace h := pubS 7 2 28 ((freeL (lowAt s) c s.vars.length).map ziD) [(2, vi .i64 (ki : Int)), (3, vp 5 0), (4, vp 6 0), (6, vb false), (7, .t (.c (.d (.sl 2 ((freeL (lowAt s) c s.vars.length).map ziD))))), (8, vi .i64 (j : Int)), (23, vb (decide ((j : Int) < (x.vals.length : Int))))] [(5, .box (sysC s)), (6, .box [.d (.sl 1 (x.locs.map intD)), .d (.sl 2 (x.vals.map ziD))])] h rfl (show AllEq _ [(freeL (lowAt s) c s.vars.length).length] from ⟨by first | exact (List.length_map _).symm | (simp; done) | (simp; omega), trivial⟩) trivial (by kernel_rfl) (by kernel_rfl)
    refine rSeq fam0ok 12 [(4, .call (SRGo3 s x ki (freeL (lowAt s) c s.vars.length) c (L := L) (M := L + M) (by omega) hs (hx.mono (by omega)) (fun z hz => ⟨(freeL_ok (low_ok hs) c _ z hz).1, Nat.le_trans (freeL_ok (low_ok hs) c _ z hz).2 (by omega)⟩) hka (by rw [freeL_len]; have := cnt_le c s.vars.length; omega)) kq_13)] [(6, vb false), (12, vb (goC s x c (freeL (lowAt s) c s.vars.length)).2)] [] (by kernel_rfl) h ?_; clear h; intro a w h
    refine rSeq fam0ok 13 [] [(6, vb (goC s x c (freeL (lowAt s) c s.vars.length)).2)] [] (by kernel_rfl) h ?_; clear h; intro a w h
    refine wp_ret ?_
    refine retS [.c (.d (.raw (.bool (goC s x c (freeL (lowAt s) c s.vars.length)).2)))] h Exit.ret (.inl rfl)  rfl ⟨RV.tmp _ _ rfl, trivial⟩ ?_ (by kernel_rfl) (by kernel_rfl)
    rw [← can_goC]; first | done | rfl
theorem SRCan (s : SysD) (x : StD) (i : Int) {L M : Nat} (hL : L + M ≤ 1900) (hs : SysOk L s) (hx : StOk M x) : Fn Tryz.prog 18 [] [.t (.agg (sysC s)), .t (.agg [.d (.sl 1 (x.locs.map intD)), .d (.sl 2 (x.vals.map ziD))]), vi .i64 i] (vb (can s x i)) [] := by
 unfold can
 cases hi : actAt s i with
 | none => exact SRCanN s x i hL hs hx hi
 | some c => obtain ⟨ki, rfl, hka⟩ := actAt_some hi; exact SRCanS s x ki c hL hs hx hka
set_option maxHeartbeats 4000000 in
theorem SRStuck (s : SysD) (x : StD) {L M : Nat} (hL : L + M ≤ 1900) (hs : SysOk L s) (hx : StOk M x) : Fn Tryz.prog 20 [] [.t (.agg (sysC s)), .t (.agg [.d (.sl 1 (x.locs.map intD)), .d (.sl 2 (x.vals.map ziD))])] (vb (stuck s x)) [] := by
 have lx1 := hx.locs
 have lx2 := hx.vals
 have ls1 := hs.vars
 have ls2 := hs.procs
 have las := hs.acts
 refine Fn.body Tryz.func20 rfl 20 rfl fun w H B a h => ?_
 refine rSeq fam0ok 0 [] [(2, vp 0 0), (3, vp 1 0), (4, vb false)] [(0, .box (sysC s)), (1, .box [.d (.sl 1 (x.locs.map intD)), .d (.sl 2 (x.vals.map ziD))])] (by kernel_rfl) h ?_; clear h; intro a w h
 refine wp_seq ?_
 refine rSeq fam0ok 2 [] [(2, vp 0 0), (3, vp 1 0), (4, vb false), (5, vi .i64 0)] [(0, .box (sysC s)), (1, .box [.d (.sl 1 (x.locs.map intD)), .d (.sl 2 (x.vals.map ziD))])] (by kernel_rfl) h ?_; clear h; intro a w h
 refine wp_block ?_
 refine loopS (ι := (Nat)) (fun (z_ : (Nat)) => match z_ with | j => j ≤ s.acts.length ∧ allN j (fun i => !can s x (i : Int)) = true)
   (fun (z_ : (Nat)) => match z_ with | j => [(2, vp 0 0), (3, vp 1 0), (5, vi .i64 (j : Int))])
   (fun (z_ : (Nat)) => match z_ with | j => [(0, .box (sysC s)), (1, .box [.d (.sl 1 (x.locs.map intD)), .d (.sl 2 (x.vals.map ziD))])])
   (fun (z_ : (Nat)) => match z_ with | j => s.acts.length - j) 0 ?_ h (by kernel_rfl) (by kernel_rfl) ?_
 ·exact ⟨Nat.zero_le _, rfl⟩
 ·clear h; rintro j a w hI h
  change St _ (F.of [(2, vp 0 0), (3, vp 1 0), (5, vi .i64 (j : Int))] [(0, .box (sysC s)), (1, .box [.d (.sl 1 (x.locs.map intD)), .d (.sl 2 (x.vals.map ziD))])]) a w at h
  obtain ⟨hI1, hI2⟩ := hI
  refine wp_seq ?_
  refine rSeq fam0ok 2 [(3, .len (c := (.d (.sl 10 (s.acts.map ActD.d)))) (n := s.acts.length) (lenC_map _ _ _))] [(2, vp 0 0), (3, vp 1 0), (5, vi .i64 (j : Int)), (10, vb (decide ((j : Int) < (s.acts.length : Int))))] [(0, .box (sysC s)), (1, .box [.d (.sl 1 (x.locs.map intD)), .d (.sl 2 (x.vals.map ziD))])] (by kernel_rfl) h ?_; clear h; intro a w h
  refine condS (decide ((j : Int) < (s.acts.length : Int))) h rfl (fun hc => ?_) (fun hc => ?_)
  ·have hc1 := hc; clear hc
   have hc1' := of_decide_eq_true hc1
   refine wp_skip ?_
   refine then_n ?_
   refine wp_seq ?_
   refine wp_block ?_
   refine rSeq fam0ok 2 [(3, .call (SRCan s x (j : Int) hL hs hx) kq_14)] [(2, vp 0 0), (3, vp 1 0), (5, vi .i64 (j : Int)), (16, vb (can s x (j : Int)))] [(0, .box (sysC s)), (1, .box [.d (.sl 1 (x.locs.map intD)), .d (.sl 2 (x.vals.map ziD))])] (by kernel_rfl) h ?_; clear h; intro a w h
   refine condS (can s x (j : Int)) h rfl (fun hc => ?_) (fun hc => ?_)
   ·have hc2 := hc; clear hc
    refine rSeq fam0ok 2 [] [(2, vp 0 0), (3, vp 1 0), (4, vb false), (5, vi .i64 (j : Int))] [(0, .box (sysC s)), (1, .box [.d (.sl 1 (x.locs.map intD)), .d (.sl 2 (x.vals.map ziD))])] (by kernel_rfl) h ?_; clear h; intro a w h
    refine wp_ret ?_
    refine block_r ?_
    refine then_r ?_
    refine then_r ?_
    refine block_r ?_
    refine then_r ?_
    refine retS [.c (.d (.raw (.bool false)))] h Exit.ret (.inl rfl)  rfl ⟨RV.tmp _ _ rfl, trivial⟩ ?_ (by kernel_rfl) (by kernel_rfl)
    have hz : stuck s x = false := by unfold stuck; rw [allN_fail (j := j) (by have := of_decide_eq_true hc1; omega) (show (!can s x (j : Int)) = false by rw [hc2]; rfl)]; rfl
    rw [hz]; first | done | rfl
   ·have hc3 := hc; clear hc
    refine wp_skip ?_
    refine block_n ?_
    refine then_n ?_
    refine rS fam0ok 2 [(1, .add .i64 (m := (j : Int)) (n := 1) (i64_id (by omega) (by omega)))] [(2, vp 0 0), (3, vp 1 0), (5, vi .i64 ((j : Int) + 1))] [(0, .box (sysC s)), (1, .box [.d (.sl 1 (x.locs.map intD)), .d (.sl 2 (x.vals.map ziD))])] (by kernel_rfl) h ?_; clear h; intro a w h
    refine then_n ?_
    refine roundS (x := j) (y := j + 1) h ?_ ?_ (by kernel_rfl) (by kernel_rfl)
    ·exact ⟨by omega, allN_step hI2 (by rw [hc3]; rfl)⟩
    ·show s.acts.length - (j + 1) < s.acts.length - j
     omega
  ·have hc4 := hc; clear hc
   have hc4' := of_decide_eq_false hc4
   refine wp_exit ?_
   refine then_x ?_
   refine then_x ?_
   refine inBlock_exit ?_
   refine then_n ?_
   refine rSeq fam0ok 2 [(2, .call (SRFits s x (L := L) (M := M) (by omega) hs hx) kh_6)] [(4, vb (fits s x))] [] (by kernel_rfl) h ?_; clear h; intro a w h
   refine wp_ret ?_
   refine retS [.c (.d (.raw (.bool (fits s x))))] h Exit.ret (.inl rfl)  rfl ⟨RV.tmp _ _ rfl, trivial⟩ ?_ (by kernel_rfl) (by kernel_rfl)
   have hz : stuck s x = (fits s x) := by unfold stuck; rw [show s.acts.length = j by have := of_decide_eq_false hc4; omega, hI2]; rfl
   rw [hz]; first | done | rfl
end Go.Proofs.YtmohlifepfjmdaaGreat.S
end
section
namespace Go.Proofs.YtmohlifepfjmdaaGreat.S
open Go.RowKit

theorem kr_7 : Bodied Tryz.prog 20 := Bodied.mk' (by kernel_rfl)
theorem kr_9 : Bodied Tryz.prog 22 := Bodied.mk' (by kernel_rfl)
def lstep (x : StD) (c : ActD) (y : StD) (p : Nat) : Bool := (y.locs[p]?).getD 0 == (if (p : Int) = c.proc then c.to_ else (x.locs[p]?).getD 0)
def vstep (x : StD) (c : ActD) (y : StD) (v : Nat) : Bool := freeAt c v || decide ((newAt x c v).val = ((y.vals[v]?).getD zero0).val)
def leadsRC (s : SysD) (x : StD) (c : ActD) (y : StD) : Bool := (enabled s x c && fits s y) && (allN x.locs.length (lstep x c y) && allN x.vals.length (vstep x c y))
theorem out_loc {s : SysD} {x : StD} {c : ActD} {picks : List ZI} (h : enabled s x c = true) {p : Nat} (hp : p < x.locs.length) : (outS s x c picks).locs[p]? = some (if (p : Int) = c.proc then c.to_ else (x.locs[p]?).getD 0) := by
 have hpr := enabled_proc h
 by_cases e : (p : Int) = c.proc
 ·rw [if_pos e, show p = c.proc.toNat by omega]; simp only [outS]; exact List.getElem?_set_self (by omega)
 ·rw [if_neg e]; simp only [outS]; rw [List.getElem?_set_ne (by omega), List.getElem?_eq_getElem hp]; rfl
theorem out_val {s : SysD} {x : StD} {c : ActD} {picks : List ZI} {v : Nat} (hv : v < s.vars.length) : (outS s x c picks).vals[v]? = some (newV x c picks v) := by simp [outS, List.getElem?_map, List.getElem?_range hv]
theorem leads_eq (s : SysD) (x : StD) (c : ActD) (y : StD) : leadsRC s x c y = leadsC s x c y := by
 unfold leadsRC leadsC
 cases he : enabled s x c with
 | false => rfl
 | true =>
  cases hy : fits s y with
  | false => rfl
  | true =>
   rw [Bool.true_and, Bool.true_and, Bool.true_and]
   have lx := fits_len (enabled_fits he); have ly := fits_len hy
   have hn : ∀ v, v < s.vars.length → (newV x c (picksOf y c s.vars.length) v).val = if freeAt c v = true then ((y.vals[v]?).getD zero0).val else (newAt x c v).val := fun v hv => by
    by_cases hf : freeAt c v = true
    ·rw [if_pos hf, newV_at hf (by rw [picks_freeL]; exact freeL_at _ c hf _ hv), ZI.val_of]
    ·rw [if_neg hf, newV_new (by simpa using hf)]
   have key : (fits s (outS s x c (picksOf y c s.vars.length)) = true ∧ sameS y (outS s x c (picksOf y c s.vars.length)) = true) ↔ (allN x.locs.length (lstep x c y) = true ∧ allN x.vals.length (vstep x c y) = true) := by
    unfold sameS
    simp only [Bool.and_eq_true, decide_eq_true_eq, allN_iff]
    constructor
    ·rintro ⟨_, h1, h2⟩
     refine ⟨fun p hp => ?_, fun v hv => ?_⟩
     ·unfold lstep; rw [h1, out_loc he hp]; simp
     ·unfold vstep
      have hv' : v < s.vars.length := by omega
      have h3 := congrArg (fun l => l[v]?) h2
      simp only [List.getElem?_map, out_val hv', Option.map_some] at h3
      cases hz : y.vals[v]? with
      | none => rw [hz] at h3; cases h3
      | some z =>
       rw [hz] at h3
       simp only [Option.map_some, Option.some.injEq] at h3
       rw [hn v hv', hz] at h3
       by_cases hf : freeAt c v = true
       ·rw [hf]; rfl
       ·rw [if_neg hf] at h3; rw [Option.getD_some, decide_eq_true h3.symm, Bool.or_true]
    ·rintro ⟨h1, h2⟩
     have e1 : y.locs = (outS s x c (picksOf y c s.vars.length)).locs := by
      refine List.ext_getElem? fun p => ?_
      by_cases hp : p < x.locs.length
      ·have := h1 p hp; unfold lstep at this; rw [out_loc he hp]
       rw [List.getElem?_eq_getElem (by omega)] at this ⊢
       simp at this; rw [this]
      ·rw [List.getElem?_eq_none (by omega), List.getElem?_eq_none (by simp only [outS, List.length_set]; omega)]
     have e2 : y.vals.map ZI.val = (outS s x c (picksOf y c s.vars.length)).vals.map ZI.val := by
      refine List.ext_getElem? fun v => ?_
      simp only [List.getElem?_map]
      by_cases hv : v < s.vars.length
      ·rw [out_val hv]
       have := h2 v (by omega); unfold vstep at this
       rw [List.getElem?_eq_getElem (by omega)] at this ⊢
       simp only [Option.map_some, Option.some.injEq, Option.getD_some] at this ⊢
       rw [hn v hv]
       by_cases hf : freeAt c v = true
       ·rw [if_pos hf, List.getElem?_eq_getElem (by omega)]; rfl
       ·rw [if_neg hf]; rw [show freeAt c v = false by simpa using hf, Bool.false_or] at this; exact (of_decide_eq_true this).symm
      ·rw [List.getElem?_eq_none (by omega), List.getElem?_eq_none (by simp [outS]; omega)]
     refine ⟨?_, e1, e2⟩
     rw [fits_out _ he, allN_iff]
     intro v hv
     have h3 := vals_in hy (i := v) (by omega)
     unfold valOk at h3
     rw [← h3]
     refine within_val ?_
     have h4 := congrArg (fun l => l[v]?) e2
     simp only [List.getElem?_map, out_val hv] at h4
     rw [List.getElem?_eq_getElem (by omega)] at h4 ⊢
     simp only [Option.map_some, Option.some.injEq, Option.getD_some] at h4 ⊢
     exact h4.symm
   unfold goC
   by_cases hfo : fits s (outS s x c (picksOf y c s.vars.length)) = true
   ·rw [if_pos ⟨he, hfo⟩, Bool.true_and]
    rw [Bool.eq_iff_iff, Bool.and_eq_true]
    exact ⟨fun h => (key.2 h).2, fun h => key.1 ⟨hfo, h⟩⟩
   ·rw [if_neg (fun h => hfo h.2)]
    have : ¬ (allN x.locs.length (lstep x c y) = true ∧ allN x.vals.length (vstep x c y) = true) := fun h => hfo (key.2 h).1
    rw [← Bool.and_eq_true] at this
    simpa using this
set_option maxHeartbeats 4000000 in
theorem SRLeads1 (s : SysD) (x y : StD) {L M : Nat} (hL : L + M ≤ 1900) (hs : SysOk L s) (hx : StOk M x) (hy : StOk M y) : Fn Tryz.prog 12 [] [.t (.agg (sysC s)), .t (.agg [.d (.sl 1 (x.locs.map intD)), .d (.sl 2 (x.vals.map ziD))]), vi .i64 (-1), .t (.agg [.d (.sl 1 (y.locs.map intD)), .d (.sl 2 (y.vals.map ziD))])] (vb (stuck s x && sameS x y)) [] := by
 refine Fn.body Tryz.func12 rfl 110 rfl fun w H B a h => ?_
 refine rSeq fam0ok 0 [] [(2, vi .i64 (-1)), (4, vp 0 0), (5, vp 1 0), (7, vp 2 0), (8, vb false)] [(0, .box (sysC s)), (1, .box [.d (.sl 1 (x.locs.map intD)), .d (.sl 2 (x.vals.map ziD))]), (2, .box [.d (.sl 1 (y.locs.map intD)), .d (.sl 2 (y.vals.map ziD))])] (by kernel_rfl) h ?_; clear h; intro a w h
 refine wp_seq ?_
 refine rSeq fam0ok 3 [(1, .cmp (op := .eql) (m := (-1)) (n := (-1)) (b := true) .i64 rfl)] [(2, vi .i64 (-1)), (4, vp 0 0), (5, vp 1 0), (7, vp 2 0), (8, vb false), (16, vb true)] [(0, .box (sysC s)), (1, .box [.d (.sl 1 (x.locs.map intD)), .d (.sl 2 (x.vals.map ziD))]), (2, .box [.d (.sl 1 (y.locs.map intD)), .d (.sl 2 (y.vals.map ziD))])] (by kernel_rfl) h ?_; clear h; intro a w h
 refine condS true h rfl (fun hc => ?_) (fun hc => ?_)
 ·clear hc
  rcases Bool.eq_false_or_eq_true (stuck s x) with hc | hc
  ·have hc1 := hc; clear hc
   refine rSeq fam0ok 3 [(2, .call (Fn.cast (SRStuck s x hL hs hx) (congrArg vb hc1)) kr_7), (6, .call (SRSame18 x y (M := M) (by omega) hx hy) kr_9)] [(2, vi .i64 (-1)), (4, vp 0 0), (5, vp 1 0), (7, vp 2 0), (8, vb (sameS x y))] [(0, .box (sysC s)), (1, .box [.d (.sl 1 (x.locs.map intD)), .d (.sl 2 (x.vals.map ziD))]), (2, .box [.d (.sl 1 (y.locs.map intD)), .d (.sl 2 (y.vals.map ziD))])] (by kernel_rfl) h ?_; clear h; intro a w h
   refine wp_ret ?_
   refine then_r ?_
   refine retS [.c (.d (.raw (.bool (sameS x y))))] h Exit.ret (.inl rfl)  rfl ⟨RV.tmp _ _ rfl, trivial⟩ ?_ (by kernel_rfl) (by kernel_rfl)
   rw [hc1]; first | done | rfl
  ·have hc2 := hc; clear hc
   refine rSeq fam0ok 3 [(2, .call (Fn.cast (SRStuck s x hL hs hx) (congrArg vb hc2)) kr_7)] [(2, vi .i64 (-1)), (4, vp 0 0), (5, vp 1 0), (7, vp 2 0), (8, vb false)] [(0, .box (sysC s)), (1, .box [.d (.sl 1 (x.locs.map intD)), .d (.sl 2 (x.vals.map ziD))]), (2, .box [.d (.sl 1 (y.locs.map intD)), .d (.sl 2 (y.vals.map ziD))])] (by kernel_rfl) h ?_; clear h; intro a w h
   refine wp_ret ?_
   refine then_r ?_
   refine retS [.c (.d (.raw (.bool false)))] h Exit.ret (.inl rfl)  rfl ⟨RV.tmp _ _ rfl, trivial⟩ ?_ (by kernel_rfl) (by kernel_rfl)
   rw [hc2]; first | done | rfl
 ·cases hc
set_option maxHeartbeats 4000000 in
theorem SRLeads2 (s : SysD) (x : StD) (i : Int) (y : StD) {L M : Nat} (hL : L + M ≤ 1900) (hs : SysOk L s) (hx : StOk M x) (_hy : StOk M y) (hi : actAt s i = none) (hn : i ≠ -1) : Fn Tryz.prog 12 [] [.t (.agg (sysC s)), .t (.agg [.d (.sl 1 (x.locs.map intD)), .d (.sl 2 (x.vals.map ziD))]), vi .i64 i, .t (.agg [.d (.sl 1 (y.locs.map intD)), .d (.sl 2 (y.vals.map ziD))])] (vb false) [] := by
 refine Fn.body Tryz.func12 rfl 110 rfl fun w H B a h => ?_
 refine rSeq fam0ok 0 [] [(2, vi .i64 i), (4, vp 0 0), (5, vp 1 0), (7, vp 2 0), (8, vb false)] [(0, .box (sysC s)), (1, .box [.d (.sl 1 (x.locs.map intD)), .d (.sl 2 (x.vals.map ziD))]), (2, .box [.d (.sl 1 (y.locs.map intD)), .d (.sl 2 (y.vals.map ziD))])] (by kernel_rfl) h ?_; clear h; intro a w h
 refine wp_seq ?_
 refine rSeq fam0ok 3 [(1, .cmp (op := .eql) (m := i) (n := (-1)) (b := false) .i64 (beq_eq_false_iff_ne.2 hn))] [(2, vi .i64 i), (4, vp 0 0), (5, vp 1 0), (7, vp 2 0), (8, vb false), (16, vb false)] [(0, .box (sysC s)), (1, .box [.d (.sl 1 (x.locs.map intD)), .d (.sl 2 (x.vals.map ziD))]), (2, .box [.d (.sl 1 (y.locs.map intD)), .d (.sl 2 (y.vals.map ziD))])] (by kernel_rfl) h ?_; clear h; intro a w h
 refine condS false h rfl (fun hc => ?_) (fun hc => ?_)
 ·cases hc
 ·clear hc
  refine wp_skip ?_
  refine then_n ?_
  refine wp_seq ?_
  refine rSeq fam0ok 3 [(3, .call (SRbeginsN s x i (by omega) hs hx hi) kp_7)] [(2, vi .i64 i), (4, vp 0 0), (5, vp 1 0), (7, vp 2 0), (8, vb false), (35, vb true)] [(0, .box (sysC s)), (1, .box [.d (.sl 1 (x.locs.map intD)), .d (.sl 2 (x.vals.map ziD))]), (2, .box [.d (.sl 1 (y.locs.map intD)), .d (.sl 2 (y.vals.map ziD))])] (by kernel_rfl) h ?_; clear h; intro a w h
  refine condS true h rfl (fun hc => ?_) (fun hc => ?_)
  ·clear hc
   refine rSeq fam0ok 3 [] [(2, vi .i64 i), (4, vp 0 0), (5, vp 1 0), (7, vp 2 0), (8, vb false)] [(0, .box (sysC s)), (1, .box [.d (.sl 1 (x.locs.map intD)), .d (.sl 2 (x.vals.map ziD))]), (2, .box [.d (.sl 1 (y.locs.map intD)), .d (.sl 2 (y.vals.map ziD))])] (by kernel_rfl) h ?_; clear h; intro a w h
   refine wp_ret ?_
   refine then_r ?_
   refine retS [.c (.d (.raw (.bool false)))] h Exit.ret (.inl rfl)  rfl ⟨RV.tmp _ _ rfl, trivial⟩ ?_ (by kernel_rfl) (by kernel_rfl)
   rfl
  ·cases hc
set_option maxHeartbeats 4000000 in
theorem SRLeads3 (s : SysD) (x : StD) (ki : Nat) (y : StD) (c : ActD) {L M : Nat} (hL : L + M ≤ 1900) (hs : SysOk L s) (hx : StOk M x) (hy : StOk M y) (hka : s.acts[ki]? = some c) : Fn Tryz.prog 12 [] [.t (.agg (sysC s)), .t (.agg [.d (.sl 1 (x.locs.map intD)), .d (.sl 2 (x.vals.map ziD))]), vi .i64 (ki : Int), .t (.agg [.d (.sl 1 (y.locs.map intD)), .d (.sl 2 (y.vals.map ziD))])] (vb (leadsC s x c y)) [] := by
 have lx1 := hx.locs
 have lx2 := hx.vals
 have ls1 := hs.vars
 have ls2 := hs.procs
 have lki := at_lt hka
 have hc : ActOk L c := hs.act c (List.mem_of_getElem? hka)
 have lmv := hc.len
 have lvv := hx.vals
 refine Fn.body Tryz.func12 rfl 110 rfl fun w H B a h => ?_
 refine rSeq fam0ok 5 [] [(2, vi .i64 (ki : Int)), (4, vp 5 0), (5, vp 6 0), (7, vp 7 0), (8, vb false)] [(5, .box (sysC s)), (6, .box [.d (.sl 1 (x.locs.map intD)), .d (.sl 2 (x.vals.map ziD))]), (7, .box [.d (.sl 1 (y.locs.map intD)), .d (.sl 2 (y.vals.map ziD))])] (by kernel_rfl) h ?_; clear h; intro a w h
 refine wp_seq ?_
 refine rSeq fam0ok 8 [(1, .cmp (op := .eql) (m := (ki : Int)) (n := (-1)) (b := false) .i64 (beq_eq_false_iff_ne.2 (by omega)))] [(2, vi .i64 (ki : Int)), (4, vp 5 0), (5, vp 6 0), (7, vp 7 0), (8, vb false), (16, vb false)] [(5, .box (sysC s)), (6, .box [.d (.sl 1 (x.locs.map intD)), .d (.sl 2 (x.vals.map ziD))]), (7, .box [.d (.sl 1 (y.locs.map intD)), .d (.sl 2 (y.vals.map ziD))])] (by kernel_rfl) h ?_; clear h; intro a w h
 refine condS false h rfl (fun hc => ?_) (fun hc => ?_)
 ·cases hc
 ·clear hc
  refine wp_skip ?_
  refine then_n ?_
  refine wp_seq ?_
  rcases Bool.eq_false_or_eq_true (enabled s x c) with hc | hc
  ·have hc1 := hc; clear hc
   refine rSeq fam0ok 8 [(3, .call (Fn.cast (SRbeginsS s x ki c (L := L) (M := M) (by omega) hs hx hka) (congrArg vb hc1)) kp_7), (8, .call (SRFits s y (L := L) (M := M) (by omega) hs hy) kh_6)] [(2, vi .i64 (ki : Int)), (4, vp 5 0), (5, vp 6 0), (7, vp 7 0), (8, vb false), (35, vb (!(fits s y)))] [(5, .box (sysC s)), (6, .box [.d (.sl 1 (x.locs.map intD)), .d (.sl 2 (x.vals.map ziD))]), (7, .box [.d (.sl 1 (y.locs.map intD)), .d (.sl 2 (y.vals.map ziD))])] (by kernel_rfl) h ?_; clear h; intro a w h
   refine condS (!(fits s y)) h rfl (fun hc => ?_) (fun hc => ?_)
   ·have hc2 := hc; clear hc
    have hc2' := hc2; (try simp at hc2')
    refine rSeq fam0ok 8 [] [(2, vi .i64 (ki : Int)), (4, vp 5 0), (5, vp 6 0), (7, vp 7 0), (8, vb false)] [(5, .box (sysC s)), (6, .box [.d (.sl 1 (x.locs.map intD)), .d (.sl 2 (x.vals.map ziD))]), (7, .box [.d (.sl 1 (y.locs.map intD)), .d (.sl 2 (y.vals.map ziD))])] (by kernel_rfl) h ?_; clear h; intro a w h
    refine wp_ret ?_
    refine then_r ?_
    refine retS [.c (.d (.raw (.bool false)))] h Exit.ret (.inl rfl)  rfl ⟨RV.tmp _ _ rfl, trivial⟩ ?_ (by kernel_rfl) (by kernel_rfl)
    have hz : leadsRC s x c y = false := by unfold leadsRC; rw [hc1, (show (fits s y) = false from by simpa using hc2)]; rfl
    rw [← leads_eq, hz]; first | done | rfl
   ·have hc3 := hc; clear hc
    have hc3' := hc3; (try simp at hc3')
    refine wp_skip ?_
    refine then_n ?_
    refine rSeq fam0ok 8 [(3, .gen _ _ _ fun _ _ _ _ => Op.idxD (d := 39) (t := 37) (k := .i64) ki_1 (map_at hka (f := ActD.d)) (OV.tmp 38 _))] [(5, vp 6 0), (7, vp 7 0), (8, vb false), (9, vp 8 0)] [(6, .box [.d (.sl 1 (x.locs.map intD)), .d (.sl 2 (x.vals.map ziD))]), (7, .box [.d (.sl 1 (y.locs.map intD)), .d (.sl 2 (y.vals.map ziD))]), (8, .box ([.d (.raw (.int .i64 c.proc)), .d (.raw (.int .i64 c.from_)), .d (.raw (.int .i64 c.to_)), .d (.raw (.int .i64 c.guard.kind)), .d (.sl 3 (c.guard.r.t.parts.map Part.d))] ++ zi c.guard.r.t.k ++ [.d (.raw (.bool c.guard.r.eq)), .d (.sl 6 (c.guard.kids.map FormD.d)), .d (.sl 5 (c.moves.map MoveD.d))]))] (by kernel_rfl) h ?_; clear h; intro a w h
    refine wp_seq ?_
    have hen := hc1
    have hfl := fits_len (enabled_fits hen)
    have hpr := enabled_proc hen
    have hfy := fits_len (show (fits s y) = true from by simpa using hc3)
    refine rSeq fam0ok 9 [] [(5, vp 6 0), (7, vp 7 0), (8, vb false), (9, vp 8 0), (10, vi .i64 0)] [(6, .box [.d (.sl 1 (x.locs.map intD)), .d (.sl 2 (x.vals.map ziD))]), (7, .box [.d (.sl 1 (y.locs.map intD)), .d (.sl 2 (y.vals.map ziD))]), (8, .box ([.d (.raw (.int .i64 c.proc)), .d (.raw (.int .i64 c.from_)), .d (.raw (.int .i64 c.to_)), .d (.raw (.int .i64 c.guard.kind)), .d (.sl 3 (c.guard.r.t.parts.map Part.d))] ++ zi c.guard.r.t.k ++ [.d (.raw (.bool c.guard.r.eq)), .d (.sl 6 (c.guard.kids.map FormD.d)), .d (.sl 5 (c.moves.map MoveD.d))]))] (by kernel_rfl) h ?_; clear h; intro a w h
    refine wp_block ?_
    refine loopS (ι := (Nat)) (fun (z_ : (Nat)) => match z_ with | j => j ≤ x.locs.length ∧ allN j (lstep x c y) = true)
      (fun (z_ : (Nat)) => match z_ with | j => [(5, vp 6 0), (7, vp 7 0), (9, vp 8 0), (10, vi .i64 (j : Int))])
      (fun (z_ : (Nat)) => match z_ with | j => [(6, .box [.d (.sl 1 (x.locs.map intD)), .d (.sl 2 (x.vals.map ziD))]), (7, .box [.d (.sl 1 (y.locs.map intD)), .d (.sl 2 (y.vals.map ziD))]), (8, .box ([.d (.raw (.int .i64 c.proc)), .d (.raw (.int .i64 c.from_)), .d (.raw (.int .i64 c.to_)), .d (.raw (.int .i64 c.guard.kind)), .d (.sl 3 (c.guard.r.t.parts.map Part.d))] ++ zi c.guard.r.t.k ++ [.d (.raw (.bool c.guard.r.eq)), .d (.sl 6 (c.guard.kids.map FormD.d)), .d (.sl 5 (c.moves.map MoveD.d))]))])
      (fun (z_ : (Nat)) => match z_ with | j => x.locs.length - j) 0 ?_ h (by kernel_rfl) (by kernel_rfl) ?_
    ·exact ⟨Nat.zero_le _, rfl⟩
    ·clear h; rintro j a w hI h
     change St _ (F.of [(5, vp 6 0), (7, vp 7 0), (9, vp 8 0), (10, vi .i64 (j : Int))] [(6, .box [.d (.sl 1 (x.locs.map intD)), .d (.sl 2 (x.vals.map ziD))]), (7, .box [.d (.sl 1 (y.locs.map intD)), .d (.sl 2 (y.vals.map ziD))]), (8, .box ([.d (.raw (.int .i64 c.proc)), .d (.raw (.int .i64 c.from_)), .d (.raw (.int .i64 c.to_)), .d (.raw (.int .i64 c.guard.kind)), .d (.sl 3 (c.guard.r.t.parts.map Part.d))] ++ zi c.guard.r.t.k ++ [.d (.raw (.bool c.guard.r.eq)), .d (.sl 6 (c.guard.kids.map FormD.d)), .d (.sl 5 (c.moves.map MoveD.d))]))]) a w at h
     obtain ⟨hj1, hj2⟩ := hI
     refine wp_seq ?_
     refine rSeq fam0ok 9 [(3, .len (c := (.d (.sl 1 (x.locs.map intD)))) (n := x.locs.length) (lenC_map _ _ _))] [(5, vp 6 0), (7, vp 7 0), (9, vp 8 0), (10, vi .i64 (j : Int)), (45, vb (decide ((j : Int) < (x.locs.length : Int))))] [(6, .box [.d (.sl 1 (x.locs.map intD)), .d (.sl 2 (x.vals.map ziD))]), (7, .box [.d (.sl 1 (y.locs.map intD)), .d (.sl 2 (y.vals.map ziD))]), (8, .box ([.d (.raw (.int .i64 c.proc)), .d (.raw (.int .i64 c.from_)), .d (.raw (.int .i64 c.to_)), .d (.raw (.int .i64 c.guard.kind)), .d (.sl 3 (c.guard.r.t.parts.map Part.d))] ++ zi c.guard.r.t.k ++ [.d (.raw (.bool c.guard.r.eq)), .d (.sl 6 (c.guard.kids.map FormD.d)), .d (.sl 5 (c.moves.map MoveD.d))]))] (by kernel_rfl) h ?_; clear h; intro a w h
     refine condS (decide ((j : Int) < (x.locs.length : Int))) h rfl (fun hc => ?_) (fun hc => ?_)
     ·have hc4 := hc; clear hc
      have hc4' := of_decide_eq_true hc4
      refine wp_skip ?_
      refine then_n ?_
      refine wp_seq ?_
      refine wp_block ?_
      obtain ⟨x4, hx4⟩ : ∃ z_ : Int, x.locs[j]? = some z_ := ⟨_, List.getElem?_eq_getElem (by first | omega | (simp at *; omega))⟩
      refine rSeq fam0ok 9 [(3, .gen _ _ _ fun _ _ _ _ => Op.idxD (d := 51) (t := 49) (k := .i64) tb_1 (map_at hx4 (f := intD)) (OV.tmp 50 _))] [(5, vp 6 0), (7, vp 7 0), (9, vp 8 0), (10, vi .i64 (j : Int)), (11, vi .i64 x4)] [(6, .box [.d (.sl 1 (x.locs.map intD)), .d (.sl 2 (x.vals.map ziD))]), (7, .box [.d (.sl 1 (y.locs.map intD)), .d (.sl 2 (y.vals.map ziD))]), (8, .box ([.d (.raw (.int .i64 c.proc)), .d (.raw (.int .i64 c.from_)), .d (.raw (.int .i64 c.to_)), .d (.raw (.int .i64 c.guard.kind)), .d (.sl 3 (c.guard.r.t.parts.map Part.d))] ++ zi c.guard.r.t.k ++ [.d (.raw (.bool c.guard.r.eq)), .d (.sl 6 (c.guard.kids.map FormD.d)), .d (.sl 5 (c.moves.map MoveD.d))]))] (by kernel_rfl) h ?_; clear h; intro a w h
      refine wp_seq ?_
      refine rSeq fam0ok 9 [] [(5, vp 6 0), (7, vp 7 0), (9, vp 8 0), (10, vi .i64 (j : Int)), (11, vi .i64 x4), (56, vb ((j : Int) == c.proc))] [(6, .box [.d (.sl 1 (x.locs.map intD)), .d (.sl 2 (x.vals.map ziD))]), (7, .box [.d (.sl 1 (y.locs.map intD)), .d (.sl 2 (y.vals.map ziD))]), (8, .box ([.d (.raw (.int .i64 c.proc)), .d (.raw (.int .i64 c.from_)), .d (.raw (.int .i64 c.to_)), .d (.raw (.int .i64 c.guard.kind)), .d (.sl 3 (c.guard.r.t.parts.map Part.d))] ++ zi c.guard.r.t.k ++ [.d (.raw (.bool c.guard.r.eq)), .d (.sl 6 (c.guard.kids.map FormD.d)), .d (.sl 5 (c.moves.map MoveD.d))]))] (by kernel_rfl) h ?_; clear h; intro a w h
      refine condS ((j : Int) == c.proc) h rfl (fun hc => ?_) (fun hc => ?_)
      ·have hc5 := hc; clear hc
       have hc5' := hc5; (try simp at hc5')
       refine rS fam0ok 9 [] [(5, vp 6 0), (7, vp 7 0), (9, vp 8 0), (10, vi .i64 (j : Int)), (11, vi .i64 c.to_)] [(6, .box [.d (.sl 1 (x.locs.map intD)), .d (.sl 2 (x.vals.map ziD))]), (7, .box [.d (.sl 1 (y.locs.map intD)), .d (.sl 2 (y.vals.map ziD))]), (8, .box ([.d (.raw (.int .i64 c.proc)), .d (.raw (.int .i64 c.from_)), .d (.raw (.int .i64 c.to_)), .d (.raw (.int .i64 c.guard.kind)), .d (.sl 3 (c.guard.r.t.parts.map Part.d))] ++ zi c.guard.r.t.k ++ [.d (.raw (.bool c.guard.r.eq)), .d (.sl 6 (c.guard.kids.map FormD.d)), .d (.sl 5 (c.moves.map MoveD.d))]))] (by kernel_rfl) h ?_; clear h; intro a w h
       refine then_n ?_
       obtain ⟨x5, hx5⟩ : ∃ z_ : Int, y.locs[j]? = some z_ := ⟨_, List.getElem?_eq_getElem (by first | omega | (simp at *; omega))⟩
       refine rSeq fam0ok 9 [(3, .gen _ _ _ fun _ _ _ _ => Op.idxD (d := 62) (t := 60) (k := .i64) tb_1 (map_at hx5 (f := intD)) (OV.tmp 61 _))] [(5, vp 6 0), (7, vp 7 0), (9, vp 8 0), (10, vi .i64 (j : Int)), (65, vb (x5 != c.to_))] [(6, .box [.d (.sl 1 (x.locs.map intD)), .d (.sl 2 (x.vals.map ziD))]), (7, .box [.d (.sl 1 (y.locs.map intD)), .d (.sl 2 (y.vals.map ziD))]), (8, .box ([.d (.raw (.int .i64 c.proc)), .d (.raw (.int .i64 c.from_)), .d (.raw (.int .i64 c.to_)), .d (.raw (.int .i64 c.guard.kind)), .d (.sl 3 (c.guard.r.t.parts.map Part.d))] ++ zi c.guard.r.t.k ++ [.d (.raw (.bool c.guard.r.eq)), .d (.sl 6 (c.guard.kids.map FormD.d)), .d (.sl 5 (c.moves.map MoveD.d))]))] (by kernel_rfl) h ?_; clear h; intro a w h
       refine condS (x5 != c.to_) h rfl (fun hc => ?_) (fun hc => ?_)
       ·have hc6 := hc; clear hc
        have hc6' := hc6; (try simp at hc6')
        refine rSeq fam0ok 9 [] [(5, vp 6 0), (7, vp 7 0), (8, vb false), (9, vp 8 0), (10, vi .i64 (j : Int))] [(6, .box [.d (.sl 1 (x.locs.map intD)), .d (.sl 2 (x.vals.map ziD))]), (7, .box [.d (.sl 1 (y.locs.map intD)), .d (.sl 2 (y.vals.map ziD))]), (8, .box ([.d (.raw (.int .i64 c.proc)), .d (.raw (.int .i64 c.from_)), .d (.raw (.int .i64 c.to_)), .d (.raw (.int .i64 c.guard.kind)), .d (.sl 3 (c.guard.r.t.parts.map Part.d))] ++ zi c.guard.r.t.k ++ [.d (.raw (.bool c.guard.r.eq)), .d (.sl 6 (c.guard.kids.map FormD.d)), .d (.sl 5 (c.moves.map MoveD.d))]))] (by kernel_rfl) h ?_; clear h; intro a w h
        refine wp_ret ?_
        refine block_r ?_
        refine then_r ?_
        refine then_r ?_
        refine block_r ?_
        refine then_r ?_
        refine retS [.c (.d (.raw (.bool false)))] h Exit.ret (.inl rfl)  rfl ⟨RV.tmp _ _ rfl, trivial⟩ ?_ (by kernel_rfl) (by kernel_rfl)
        have hz : leadsRC s x c y = false := by unfold leadsRC; rw [hc1, (show (fits s y) = true from by simpa using hc3), Bool.true_and, Bool.true_and]; rw [allN_fail (j := j) (by have := of_decide_eq_true hc4; omega) (show lstep x c y j = false from (by unfold lstep; rw [if_pos (by have := hc5; simpa using this), hx5]; have := hc6; simpa using this))]; rfl
        rw [← leads_eq, hz]; first | done | rfl
       ·have hc7 := hc; clear hc
        have hc7' := hc7; (try simp at hc7')
        refine wp_skip ?_
        refine block_n ?_
        refine then_n ?_
        refine rS fam0ok 9 [(1, .add .i64 (m := (j : Int)) (n := 1) (i64_id (by omega) (by omega)))] [(5, vp 6 0), (7, vp 7 0), (9, vp 8 0), (10, vi .i64 ((j : Int) + 1))] [(6, .box [.d (.sl 1 (x.locs.map intD)), .d (.sl 2 (x.vals.map ziD))]), (7, .box [.d (.sl 1 (y.locs.map intD)), .d (.sl 2 (y.vals.map ziD))]), (8, .box ([.d (.raw (.int .i64 c.proc)), .d (.raw (.int .i64 c.from_)), .d (.raw (.int .i64 c.to_)), .d (.raw (.int .i64 c.guard.kind)), .d (.sl 3 (c.guard.r.t.parts.map Part.d))] ++ zi c.guard.r.t.k ++ [.d (.raw (.bool c.guard.r.eq)), .d (.sl 6 (c.guard.kids.map FormD.d)), .d (.sl 5 (c.moves.map MoveD.d))]))] (by kernel_rfl) h ?_; clear h; intro a w h
        refine then_n ?_
        refine roundS (x := j) (y := j + 1) h ?_ ?_ (by kernel_rfl) (by kernel_rfl)
        ·exact ⟨by omega, allN_step hj2 (by unfold lstep; rw [if_pos (by have := hc5; simpa using this), hx5]; have := hc7; simpa using this)⟩
        ·show x.locs.length - (j + 1) < x.locs.length - j
         omega
      ·have hc8 := hc; clear hc
       have hc8' := hc8; (try simp at hc8')
       refine wp_skip ?_
       refine then_n ?_
       obtain ⟨x6, hx6⟩ : ∃ z_ : Int, y.locs[j]? = some z_ := ⟨_, List.getElem?_eq_getElem (by first | omega | (simp at *; omega))⟩
       refine rSeq fam0ok 9 [(3, .gen _ _ _ fun _ _ _ _ => Op.idxD (d := 62) (t := 60) (k := .i64) tb_1 (map_at hx6 (f := intD)) (OV.tmp 61 _))] [(5, vp 6 0), (7, vp 7 0), (9, vp 8 0), (10, vi .i64 (j : Int)), (65, vb (x6 != x4))] [(6, .box [.d (.sl 1 (x.locs.map intD)), .d (.sl 2 (x.vals.map ziD))]), (7, .box [.d (.sl 1 (y.locs.map intD)), .d (.sl 2 (y.vals.map ziD))]), (8, .box ([.d (.raw (.int .i64 c.proc)), .d (.raw (.int .i64 c.from_)), .d (.raw (.int .i64 c.to_)), .d (.raw (.int .i64 c.guard.kind)), .d (.sl 3 (c.guard.r.t.parts.map Part.d))] ++ zi c.guard.r.t.k ++ [.d (.raw (.bool c.guard.r.eq)), .d (.sl 6 (c.guard.kids.map FormD.d)), .d (.sl 5 (c.moves.map MoveD.d))]))] (by kernel_rfl) h ?_; clear h; intro a w h
       refine condS (x6 != x4) h rfl (fun hc => ?_) (fun hc => ?_)
       ·have hc9 := hc; clear hc
        have hc9' := hc9; (try simp at hc9')
        refine rSeq fam0ok 9 [] [(5, vp 6 0), (7, vp 7 0), (8, vb false), (9, vp 8 0), (10, vi .i64 (j : Int))] [(6, .box [.d (.sl 1 (x.locs.map intD)), .d (.sl 2 (x.vals.map ziD))]), (7, .box [.d (.sl 1 (y.locs.map intD)), .d (.sl 2 (y.vals.map ziD))]), (8, .box ([.d (.raw (.int .i64 c.proc)), .d (.raw (.int .i64 c.from_)), .d (.raw (.int .i64 c.to_)), .d (.raw (.int .i64 c.guard.kind)), .d (.sl 3 (c.guard.r.t.parts.map Part.d))] ++ zi c.guard.r.t.k ++ [.d (.raw (.bool c.guard.r.eq)), .d (.sl 6 (c.guard.kids.map FormD.d)), .d (.sl 5 (c.moves.map MoveD.d))]))] (by kernel_rfl) h ?_; clear h; intro a w h
        refine wp_ret ?_
        refine block_r ?_
        refine then_r ?_
        refine then_r ?_
        refine block_r ?_
        refine then_r ?_
        refine retS [.c (.d (.raw (.bool false)))] h Exit.ret (.inl rfl)  rfl ⟨RV.tmp _ _ rfl, trivial⟩ ?_ (by kernel_rfl) (by kernel_rfl)
        have hz : leadsRC s x c y = false := by unfold leadsRC; rw [hc1, (show (fits s y) = true from by simpa using hc3), Bool.true_and, Bool.true_and]; rw [allN_fail (j := j) (by have := of_decide_eq_true hc4; omega) (show lstep x c y j = false from (by unfold lstep; rw [if_neg (by have := hc8; simpa using this), hx4, hx6]; have := hc9; simpa using this))]; rfl
        rw [← leads_eq, hz]; first | done | rfl
       ·have hc10 := hc; clear hc
        have hc10' := hc10; (try simp at hc10')
        refine wp_skip ?_
        refine block_n ?_
        refine then_n ?_
        refine rS fam0ok 9 [(1, .add .i64 (m := (j : Int)) (n := 1) (i64_id (by omega) (by omega)))] [(5, vp 6 0), (7, vp 7 0), (9, vp 8 0), (10, vi .i64 ((j : Int) + 1))] [(6, .box [.d (.sl 1 (x.locs.map intD)), .d (.sl 2 (x.vals.map ziD))]), (7, .box [.d (.sl 1 (y.locs.map intD)), .d (.sl 2 (y.vals.map ziD))]), (8, .box ([.d (.raw (.int .i64 c.proc)), .d (.raw (.int .i64 c.from_)), .d (.raw (.int .i64 c.to_)), .d (.raw (.int .i64 c.guard.kind)), .d (.sl 3 (c.guard.r.t.parts.map Part.d))] ++ zi c.guard.r.t.k ++ [.d (.raw (.bool c.guard.r.eq)), .d (.sl 6 (c.guard.kids.map FormD.d)), .d (.sl 5 (c.moves.map MoveD.d))]))] (by kernel_rfl) h ?_; clear h; intro a w h
        refine then_n ?_
        refine roundS (x := j) (y := j + 1) h ?_ ?_ (by kernel_rfl) (by kernel_rfl)
        ·exact ⟨by omega, allN_step hj2 (by unfold lstep; rw [if_neg (by have := hc8; simpa using this), hx4, hx6]; have := hc10; simpa using this)⟩
        ·show x.locs.length - (j + 1) < x.locs.length - j
         omega
     ·have hc11 := hc; clear hc
      have hc11' := of_decide_eq_false hc11
      refine wp_exit ?_
      refine then_x ?_
      refine then_x ?_
      refine inBlock_exit ?_
      refine then_n ?_
      refine wp_seq ?_
      refine rSeq fam0ok 9 [] [(5, vp 6 0), (7, vp 7 0), (9, vp 8 0), (12, vi .i64 0)] [(6, .box [.d (.sl 1 (x.locs.map intD)), .d (.sl 2 (x.vals.map ziD))]), (7, .box [.d (.sl 1 (y.locs.map intD)), .d (.sl 2 (y.vals.map ziD))]), (8, .box ([.d (.raw (.int .i64 c.proc)), .d (.raw (.int .i64 c.from_)), .d (.raw (.int .i64 c.to_)), .d (.raw (.int .i64 c.guard.kind)), .d (.sl 3 (c.guard.r.t.parts.map Part.d))] ++ zi c.guard.r.t.k ++ [.d (.raw (.bool c.guard.r.eq)), .d (.sl 6 (c.guard.kids.map FormD.d)), .d (.sl 5 (c.moves.map MoveD.d))]))] (by kernel_rfl) h ?_; clear h; intro a w h
      refine wp_block ?_
      refine loopS (ι := (Nat)) (fun (z_ : (Nat)) => match z_ with | i => i ≤ x.vals.length ∧ allN i (vstep x c y) = true)
        (fun (z_ : (Nat)) => match z_ with | i => [(5, vp 6 0), (7, vp 7 0), (9, vp 8 0), (12, vi .i64 (i : Int))])
        (fun (z_ : (Nat)) => match z_ with | i => [(6, .box [.d (.sl 1 (x.locs.map intD)), .d (.sl 2 (x.vals.map ziD))]), (7, .box [.d (.sl 1 (y.locs.map intD)), .d (.sl 2 (y.vals.map ziD))]), (8, .box ([.d (.raw (.int .i64 c.proc)), .d (.raw (.int .i64 c.from_)), .d (.raw (.int .i64 c.to_)), .d (.raw (.int .i64 c.guard.kind)), .d (.sl 3 (c.guard.r.t.parts.map Part.d))] ++ zi c.guard.r.t.k ++ [.d (.raw (.bool c.guard.r.eq)), .d (.sl 6 (c.guard.kids.map FormD.d)), .d (.sl 5 (c.moves.map MoveD.d))]))])
        (fun (z_ : (Nat)) => match z_ with | i => x.vals.length - i) 0 ?_ h (by kernel_rfl) (by kernel_rfl) ?_
      ·exact ⟨Nat.zero_le _, rfl⟩
      ·clear h; rintro i a w hI h
       change St _ (F.of [(5, vp 6 0), (7, vp 7 0), (9, vp 8 0), (12, vi .i64 (i : Int))] [(6, .box [.d (.sl 1 (x.locs.map intD)), .d (.sl 2 (x.vals.map ziD))]), (7, .box [.d (.sl 1 (y.locs.map intD)), .d (.sl 2 (y.vals.map ziD))]), (8, .box ([.d (.raw (.int .i64 c.proc)), .d (.raw (.int .i64 c.from_)), .d (.raw (.int .i64 c.to_)), .d (.raw (.int .i64 c.guard.kind)), .d (.sl 3 (c.guard.r.t.parts.map Part.d))] ++ zi c.guard.r.t.k ++ [.d (.raw (.bool c.guard.r.eq)), .d (.sl 6 (c.guard.kids.map FormD.d)), .d (.sl 5 (c.moves.map MoveD.d))]))]) a w at h
       obtain ⟨hi1, hi2⟩ := hI
       refine wp_seq ?_
       refine rSeq fam0ok 9 [(3, .len (c := (.d (.sl 2 (x.vals.map ziD)))) (n := x.vals.length) (lenC_map _ _ _))] [(5, vp 6 0), (7, vp 7 0), (9, vp 8 0), (12, vi .i64 (i : Int)), (70, vb (decide ((i : Int) < (x.vals.length : Int))))] [(6, .box [.d (.sl 1 (x.locs.map intD)), .d (.sl 2 (x.vals.map ziD))]), (7, .box [.d (.sl 1 (y.locs.map intD)), .d (.sl 2 (y.vals.map ziD))]), (8, .box ([.d (.raw (.int .i64 c.proc)), .d (.raw (.int .i64 c.from_)), .d (.raw (.int .i64 c.to_)), .d (.raw (.int .i64 c.guard.kind)), .d (.sl 3 (c.guard.r.t.parts.map Part.d))] ++ zi c.guard.r.t.k ++ [.d (.raw (.bool c.guard.r.eq)), .d (.sl 6 (c.guard.kids.map FormD.d)), .d (.sl 5 (c.moves.map MoveD.d))]))] (by kernel_rfl) h ?_; clear h; intro a w h
       refine condS (decide ((i : Int) < (x.vals.length : Int))) h rfl (fun hc => ?_) (fun hc => ?_)
       ·have hc12 := hc; clear hc
        have hc12' := of_decide_eq_true hc12
        refine wp_skip ?_
        refine then_n ?_
        refine wp_seq ?_
        refine wp_block ?_
        rcases idxB_find (fun m => m.v == (i : Int)) c.moves with ⟨hix, hm⟩ | ⟨k, m, hix, hmk, hm⟩
        ·replace hm : mvAt c i = none := hm
         refine rSeq fam0ok 9 [(2, .call (Fn.cast (SRmove c i lmv) (congrArg (vi .i64) hix)) kp_11)] [(5, vp 6 0), (7, vp 7 0), (9, vp 8 0), (12, vi .i64 (i : Int)), (13, vi .i64 (-1))] [(6, .box [.d (.sl 1 (x.locs.map intD)), .d (.sl 2 (x.vals.map ziD))]), (7, .box [.d (.sl 1 (y.locs.map intD)), .d (.sl 2 (y.vals.map ziD))]), (8, .box ([.d (.raw (.int .i64 c.proc)), .d (.raw (.int .i64 c.from_)), .d (.raw (.int .i64 c.to_)), .d (.raw (.int .i64 c.guard.kind)), .d (.sl 3 (c.guard.r.t.parts.map Part.d))] ++ zi c.guard.r.t.k ++ [.d (.raw (.bool c.guard.r.eq)), .d (.sl 6 (c.guard.kids.map FormD.d)), .d (.sl 5 (c.moves.map MoveD.d))]))] (by kernel_rfl) h ?_; clear h; intro a w h
         obtain ⟨x8, hx8⟩ : ∃ z_ : ZI, x.vals[i]? = some z_ := ⟨_, List.getElem?_eq_getElem (by first | omega | (simp at *; omega))⟩
         have gx8 := hx.val x8 (List.mem_of_getElem? hx8)
         have lgx8 := gx8.2
         refine rSeq fam0ok 9 [(3, .gen _ _ _ fun _ _ _ _ => Op.idxD (d := 79) (t := 77) (k := .i64) tt_6 (map_at hx8 (f := ziD)) (OV.tmp 78 _))] [(5, vp 6 0), (7, vp 7 0), (9, vp 8 0), (12, vi .i64 (i : Int)), (13, vi .i64 (-1)), (14, vp 9 0)] [(6, .box [.d (.sl 1 (x.locs.map intD)), .d (.sl 2 (x.vals.map ziD))]), (7, .box [.d (.sl 1 (y.locs.map intD)), .d (.sl 2 (y.vals.map ziD))]), (8, .box ([.d (.raw (.int .i64 c.proc)), .d (.raw (.int .i64 c.from_)), .d (.raw (.int .i64 c.to_)), .d (.raw (.int .i64 c.guard.kind)), .d (.sl 3 (c.guard.r.t.parts.map Part.d))] ++ zi c.guard.r.t.k ++ [.d (.raw (.bool c.guard.r.eq)), .d (.sl 6 (c.guard.kids.map FormD.d)), .d (.sl 5 (c.moves.map MoveD.d))])), (9, .box (zi x8))] (by kernel_rfl) h ?_; clear h; intro a w h
         refine wp_seq ?_
         refine rSeq fam0ok 10 [(1, .cmp (op := .geq) (m := (-1)) (n := 0) (b := false) .i64 rfl)] [(5, vp 6 0), (7, vp 7 0), (9, vp 8 0), (12, vi .i64 (i : Int)), (13, vi .i64 (-1)), (14, vp 9 0), (90, vb false)] [(6, .box [.d (.sl 1 (x.locs.map intD)), .d (.sl 2 (x.vals.map ziD))]), (7, .box [.d (.sl 1 (y.locs.map intD)), .d (.sl 2 (y.vals.map ziD))]), (8, .box ([.d (.raw (.int .i64 c.proc)), .d (.raw (.int .i64 c.from_)), .d (.raw (.int .i64 c.to_)), .d (.raw (.int .i64 c.guard.kind)), .d (.sl 3 (c.guard.r.t.parts.map Part.d))] ++ zi c.guard.r.t.k ++ [.d (.raw (.bool c.guard.r.eq)), .d (.sl 6 (c.guard.kids.map FormD.d)), .d (.sl 5 (c.moves.map MoveD.d))])), (9, .box (zi x8))] (by kernel_rfl) h ?_; clear h; intro a w h
         refine condS false h rfl (fun hc => ?_) (fun hc => ?_)
         ·cases hc
         ·clear hc
          refine wp_skip ?_
          refine then_n ?_
          refine wp_seq ?_
          refine rSeq fam0ok 10 [(1, .cmp (op := .geq) (m := (-1)) (n := 0) (b := false) .i64 rfl)] [(5, vp 6 0), (7, vp 7 0), (9, vp 8 0), (12, vi .i64 (i : Int)), (13, vi .i64 (-1)), (14, vp 9 0), (92, vb false)] [(6, .box [.d (.sl 1 (x.locs.map intD)), .d (.sl 2 (x.vals.map ziD))]), (7, .box [.d (.sl 1 (y.locs.map intD)), .d (.sl 2 (y.vals.map ziD))]), (8, .box ([.d (.raw (.int .i64 c.proc)), .d (.raw (.int .i64 c.from_)), .d (.raw (.int .i64 c.to_)), .d (.raw (.int .i64 c.guard.kind)), .d (.sl 3 (c.guard.r.t.parts.map Part.d))] ++ zi c.guard.r.t.k ++ [.d (.raw (.bool c.guard.r.eq)), .d (.sl 6 (c.guard.kids.map FormD.d)), .d (.sl 5 (c.moves.map MoveD.d))])), (9, .box (zi x8))] (by kernel_rfl) h ?_; clear h; intro a w h
          refine condS false h rfl (fun hc => ?_) (fun hc => ?_)
          ·cases hc
          ·clear hc
           refine wp_skip ?_
           refine then_n ?_
           obtain ⟨x9, hx9⟩ : ∃ z_ : ZI, y.vals[i]? = some z_ := ⟨_, List.getElem?_eq_getElem (by first | omega | (simp at *; omega))⟩
           have gx9 := hy.val x9 (List.mem_of_getElem? hx9)
           have lgx9 := gx9.2
           refine rSeq fam0ok 10 [(4, .gen _ _ _ fun _ _ _ _ => Op.idxD (d := 106) (t := 104) (k := .i64) tt_6 (map_at hx9 (f := ziD)) (OV.tmp 105 _)), (6, .call (SRCmp x8 x9 gx8.1 gx9.1 (by omega) (by omega)) kh_1)] [(5, vp 6 0), (7, vp 7 0), (9, vp 8 0), (12, vi .i64 (i : Int)), (109, vb (cmpZ x8.val x9.val != 0))] [(6, .box [.d (.sl 1 (x.locs.map intD)), .d (.sl 2 (x.vals.map ziD))]), (7, .box [.d (.sl 1 (y.locs.map intD)), .d (.sl 2 (y.vals.map ziD))]), (8, .box ([.d (.raw (.int .i64 c.proc)), .d (.raw (.int .i64 c.from_)), .d (.raw (.int .i64 c.to_)), .d (.raw (.int .i64 c.guard.kind)), .d (.sl 3 (c.guard.r.t.parts.map Part.d))] ++ zi c.guard.r.t.k ++ [.d (.raw (.bool c.guard.r.eq)), .d (.sl 6 (c.guard.kids.map FormD.d)), .d (.sl 5 (c.moves.map MoveD.d))]))] (by kernel_rfl) h ?_; clear h; intro a w h
           refine condS (cmpZ x8.val x9.val != 0) h rfl (fun hc => ?_) (fun hc => ?_)
           ·have hc13 := hc; clear hc
            have hc13' := hc13; (try simp at hc13')
            refine rSeq fam0ok 10 [] [(5, vp 6 0), (7, vp 7 0), (8, vb false), (9, vp 8 0), (12, vi .i64 (i : Int))] [(6, .box [.d (.sl 1 (x.locs.map intD)), .d (.sl 2 (x.vals.map ziD))]), (7, .box [.d (.sl 1 (y.locs.map intD)), .d (.sl 2 (y.vals.map ziD))]), (8, .box ([.d (.raw (.int .i64 c.proc)), .d (.raw (.int .i64 c.from_)), .d (.raw (.int .i64 c.to_)), .d (.raw (.int .i64 c.guard.kind)), .d (.sl 3 (c.guard.r.t.parts.map Part.d))] ++ zi c.guard.r.t.k ++ [.d (.raw (.bool c.guard.r.eq)), .d (.sl 6 (c.guard.kids.map FormD.d)), .d (.sl 5 (c.moves.map MoveD.d))]))] (by kernel_rfl) h ?_; clear h; intro a w h
            refine wp_ret ?_
            refine block_r ?_
            refine then_r ?_
            refine then_r ?_
            refine block_r ?_
            refine then_r ?_
            refine retS [.c (.d (.raw (.bool false)))] h Exit.ret (.inl rfl)  rfl ⟨RV.tmp _ _ rfl, trivial⟩ ?_ (by kernel_rfl) (by kernel_rfl)
            have hz : leadsRC s x c y = false := by unfold leadsRC; rw [hc1, (show (fits s y) = true from by simpa using hc3), Bool.true_and, Bool.true_and]; rw [show x.locs.length = j by have := of_decide_eq_false hc11; omega, hj2, Bool.true_and]; rw [allN_fail (j := i) (by have := of_decide_eq_true hc12; omega) (show vstep x c y i = false from (by unfold vstep; rw [free_none hm, new_none hm hx8, show (clZ x8).val = x8.val from ZI.val_of _, hx9]; have := hc13; rw [cmpZ_n0] at this; simpa using this))]
            rw [← leads_eq, hz]; first | done | rfl
           ·have hc14 := hc; clear hc
            have hc14' := hc14; (try simp at hc14')
            refine wp_skip ?_
            refine block_n ?_
            refine then_n ?_
            refine rS fam0ok 10 [(1, .add .i64 (m := (i : Int)) (n := 1) (i64_id (by omega) (by omega)))] [(5, vp 6 0), (7, vp 7 0), (9, vp 8 0), (12, vi .i64 ((i : Int) + 1))] [(6, .box [.d (.sl 1 (x.locs.map intD)), .d (.sl 2 (x.vals.map ziD))]), (7, .box [.d (.sl 1 (y.locs.map intD)), .d (.sl 2 (y.vals.map ziD))]), (8, .box ([.d (.raw (.int .i64 c.proc)), .d (.raw (.int .i64 c.from_)), .d (.raw (.int .i64 c.to_)), .d (.raw (.int .i64 c.guard.kind)), .d (.sl 3 (c.guard.r.t.parts.map Part.d))] ++ zi c.guard.r.t.k ++ [.d (.raw (.bool c.guard.r.eq)), .d (.sl 6 (c.guard.kids.map FormD.d)), .d (.sl 5 (c.moves.map MoveD.d))]))] (by kernel_rfl) h ?_; clear h; intro a w h
            refine then_n ?_
            refine roundS (x := i) (y := i + 1) h ?_ ?_ (by kernel_rfl) (by kernel_rfl)
            ·exact ⟨by omega, allN_step hi2 (by unfold vstep; rw [free_none hm, new_none hm hx8, show (clZ x8).val = x8.val from ZI.val_of _, hx9]; have := hc14; rw [cmpZ_n0] at this; simpa using this)⟩
            ·show x.vals.length - (i + 1) < x.vals.length - i
             omega
        ·replace hm : mvAt c i = some m := hm
         have lmk := at_lt hmk
         refine rSeq fam0ok 9 [(2, .call (Fn.cast (SRmove c i lmv) (congrArg (vi .i64) hix)) kp_11)] [(5, vp 6 0), (7, vp 7 0), (9, vp 8 0), (12, vi .i64 (i : Int)), (13, vi .i64 (k : Int))] [(6, .box [.d (.sl 1 (x.locs.map intD)), .d (.sl 2 (x.vals.map ziD))]), (7, .box [.d (.sl 1 (y.locs.map intD)), .d (.sl 2 (y.vals.map ziD))]), (8, .box ([.d (.raw (.int .i64 c.proc)), .d (.raw (.int .i64 c.from_)), .d (.raw (.int .i64 c.to_)), .d (.raw (.int .i64 c.guard.kind)), .d (.sl 3 (c.guard.r.t.parts.map Part.d))] ++ zi c.guard.r.t.k ++ [.d (.raw (.bool c.guard.r.eq)), .d (.sl 6 (c.guard.kids.map FormD.d)), .d (.sl 5 (c.moves.map MoveD.d))]))] (by kernel_rfl) h ?_; clear h; intro a w h
         obtain ⟨x12, hx12⟩ : ∃ z_ : ZI, x.vals[i]? = some z_ := ⟨_, List.getElem?_eq_getElem (by first | omega | (simp at *; omega))⟩
         have gx12 := hx.val x12 (List.mem_of_getElem? hx12)
         have lgx12 := gx12.2
         refine rSeq fam0ok 9 [(3, .gen _ _ _ fun _ _ _ _ => Op.idxD (d := 79) (t := 77) (k := .i64) tt_6 (map_at hx12 (f := ziD)) (OV.tmp 78 _))] [(5, vp 6 0), (7, vp 7 0), (9, vp 8 0), (12, vi .i64 (i : Int)), (13, vi .i64 (k : Int)), (14, vp 9 0)] [(6, .box [.d (.sl 1 (x.locs.map intD)), .d (.sl 2 (x.vals.map ziD))]), (7, .box [.d (.sl 1 (y.locs.map intD)), .d (.sl 2 (y.vals.map ziD))]), (8, .box ([.d (.raw (.int .i64 c.proc)), .d (.raw (.int .i64 c.from_)), .d (.raw (.int .i64 c.to_)), .d (.raw (.int .i64 c.guard.kind)), .d (.sl 3 (c.guard.r.t.parts.map Part.d))] ++ zi c.guard.r.t.k ++ [.d (.raw (.bool c.guard.r.eq)), .d (.sl 6 (c.guard.kids.map FormD.d)), .d (.sl 5 (c.moves.map MoveD.d))])), (9, .box (zi x12))] (by kernel_rfl) h ?_; clear h; intro a w h
         refine wp_seq ?_
         refine rSeq fam0ok 10 [(1, .cmp (op := .geq) (m := (k : Int)) (n := 0) (b := true) .i64 (show (decide ((k : Int) ≥ 0)) = true from decide_eq_true (by omega))), (6, .gen _ _ _ fun _ _ _ _ => Op.idxD (d := 87) (t := 85) (k := .i64) ki_2 (map_at hmk (f := MoveD.d)) (OV.tmp 86 _))] [(5, vp 6 0), (7, vp 7 0), (9, vp 8 0), (12, vi .i64 (i : Int)), (13, vi .i64 (k : Int)), (14, vp 9 0), (90, vb m.any)] [(6, .box [.d (.sl 1 (x.locs.map intD)), .d (.sl 2 (x.vals.map ziD))]), (7, .box [.d (.sl 1 (y.locs.map intD)), .d (.sl 2 (y.vals.map ziD))]), (8, .box ([.d (.raw (.int .i64 c.proc)), .d (.raw (.int .i64 c.from_)), .d (.raw (.int .i64 c.to_)), .d (.raw (.int .i64 c.guard.kind)), .d (.sl 3 (c.guard.r.t.parts.map Part.d))] ++ zi c.guard.r.t.k ++ [.d (.raw (.bool c.guard.r.eq)), .d (.sl 6 (c.guard.kids.map FormD.d)), .d (.sl 5 (c.moves.map MoveD.d))])), (9, .box (zi x12))] (by kernel_rfl) h ?_; clear h; intro a w h
         refine condS m.any h rfl (fun hc => ?_) (fun hc => ?_)
         ·have hc15 := hc; clear hc
          refine wp_exit ?_
          refine then_x ?_
          refine inBlock_exit ?_
          refine then_n ?_
          refine rS fam0ok 10 [(1, .add .i64 (m := (i : Int)) (n := 1) (i64_id (by omega) (by omega)))] [(5, vp 6 0), (7, vp 7 0), (9, vp 8 0), (12, vi .i64 ((i : Int) + 1))] [(6, .box [.d (.sl 1 (x.locs.map intD)), .d (.sl 2 (x.vals.map ziD))]), (7, .box [.d (.sl 1 (y.locs.map intD)), .d (.sl 2 (y.vals.map ziD))]), (8, .box ([.d (.raw (.int .i64 c.proc)), .d (.raw (.int .i64 c.from_)), .d (.raw (.int .i64 c.to_)), .d (.raw (.int .i64 c.guard.kind)), .d (.sl 3 (c.guard.r.t.parts.map Part.d))] ++ zi c.guard.r.t.k ++ [.d (.raw (.bool c.guard.r.eq)), .d (.sl 6 (c.guard.kids.map FormD.d)), .d (.sl 5 (c.moves.map MoveD.d))]))] (by kernel_rfl) h ?_; clear h; intro a w h
          refine then_n ?_
          refine roundS (x := i) (y := i + 1) h ?_ ?_ (by kernel_rfl) (by kernel_rfl)
          ·exact ⟨by omega, allN_step hi2 (by unfold vstep; rw [free_some hm hc15]; rfl)⟩
          ·show x.vals.length - (i + 1) < x.vals.length - i
           omega
         ·have hc16 := hc; clear hc
          refine wp_skip ?_
          refine then_n ?_
          refine wp_seq ?_
          refine rSeq fam0ok 10 [(1, .cmp (op := .geq) (m := (k : Int)) (n := 0) (b := true) .i64 (show (decide ((k : Int) ≥ 0)) = true from decide_eq_true (by omega)))] [(5, vp 6 0), (7, vp 7 0), (9, vp 8 0), (12, vi .i64 (i : Int)), (13, vi .i64 (k : Int)), (14, vp 9 0), (92, vb true)] [(6, .box [.d (.sl 1 (x.locs.map intD)), .d (.sl 2 (x.vals.map ziD))]), (7, .box [.d (.sl 1 (y.locs.map intD)), .d (.sl 2 (y.vals.map ziD))]), (8, .box ([.d (.raw (.int .i64 c.proc)), .d (.raw (.int .i64 c.from_)), .d (.raw (.int .i64 c.to_)), .d (.raw (.int .i64 c.guard.kind)), .d (.sl 3 (c.guard.r.t.parts.map Part.d))] ++ zi c.guard.r.t.k ++ [.d (.raw (.bool c.guard.r.eq)), .d (.sl 6 (c.guard.kids.map FormD.d)), .d (.sl 5 (c.moves.map MoveD.d))])), (9, .box (zi x12))] (by kernel_rfl) h ?_; clear h; intro a w h
          refine condS true h rfl (fun hc => ?_) (fun hc => ?_)
          ·clear hc
           obtain ⟨r13, er13, vr13, or13, lr13⟩ := mkZ (v := valT m.t x.vals) (m := L + M + 2) (Nat.le_trans (val_len (hc.mv m (List.mem_of_getElem? hmk)) (by decide) hx.vok (fun p hp => hp) (Nat.le_refl _)) (by omega))
           refine rS fam0ok 10 [(3, .gen _ _ _ fun _ _ _ _ => Op.idxD (d := 96) (t := 94) (k := .i64) ki_2 (map_at hmk (f := MoveD.d)) (OV.tmp 95 _)), (8, .call (Fn.cast (SRValue m.t x.vals (hc.mv m (List.mem_of_getElem? hmk)) (by decide) (by omega) hx.vok) (congrArg vz er13.symm)) ke_2)] [(5, vp 6 0), (7, vp 7 0), (9, vp 8 0), (12, vi .i64 (i : Int)), (14, vp 9 0)] [(6, .box [.d (.sl 1 (x.locs.map intD)), .d (.sl 2 (x.vals.map ziD))]), (7, .box [.d (.sl 1 (y.locs.map intD)), .d (.sl 2 (y.vals.map ziD))]), (8, .box ([.d (.raw (.int .i64 c.proc)), .d (.raw (.int .i64 c.from_)), .d (.raw (.int .i64 c.to_)), .d (.raw (.int .i64 c.guard.kind)), .d (.sl 3 (c.guard.r.t.parts.map Part.d))] ++ zi c.guard.r.t.k ++ [.d (.raw (.bool c.guard.r.eq)), .d (.sl 6 (c.guard.kids.map FormD.d)), .d (.sl 5 (c.moves.map MoveD.d))])), (9, .box (zi r13))] (by kernel_rfl) h ?_; clear h; intro a w h
           refine then_n ?_
           obtain ⟨x14, hx14⟩ : ∃ z_ : ZI, y.vals[i]? = some z_ := ⟨_, List.getElem?_eq_getElem (by first | omega | (simp at *; omega))⟩
           have gx14 := hy.val x14 (List.mem_of_getElem? hx14)
           have lgx14 := gx14.2
           refine rSeq fam0ok 10 [(4, .gen _ _ _ fun _ _ _ _ => Op.idxD (d := 106) (t := 104) (k := .i64) tt_6 (map_at hx14 (f := ziD)) (OV.tmp 105 _)), (6, .call (SRCmp r13 x14 or13 gx14.1 (by omega) (by omega)) kh_1)] [(5, vp 6 0), (7, vp 7 0), (9, vp 8 0), (12, vi .i64 (i : Int)), (109, vb (cmpZ r13.val x14.val != 0))] [(6, .box [.d (.sl 1 (x.locs.map intD)), .d (.sl 2 (x.vals.map ziD))]), (7, .box [.d (.sl 1 (y.locs.map intD)), .d (.sl 2 (y.vals.map ziD))]), (8, .box ([.d (.raw (.int .i64 c.proc)), .d (.raw (.int .i64 c.from_)), .d (.raw (.int .i64 c.to_)), .d (.raw (.int .i64 c.guard.kind)), .d (.sl 3 (c.guard.r.t.parts.map Part.d))] ++ zi c.guard.r.t.k ++ [.d (.raw (.bool c.guard.r.eq)), .d (.sl 6 (c.guard.kids.map FormD.d)), .d (.sl 5 (c.moves.map MoveD.d))]))] (by kernel_rfl) h ?_; clear h; intro a w h
           refine condS (cmpZ r13.val x14.val != 0) h rfl (fun hc => ?_) (fun hc => ?_)
           ·have hc17 := hc; clear hc
            have hc17' := hc17; (try simp at hc17')
            refine rSeq fam0ok 10 [] [(5, vp 6 0), (7, vp 7 0), (8, vb false), (9, vp 8 0), (12, vi .i64 (i : Int))] [(6, .box [.d (.sl 1 (x.locs.map intD)), .d (.sl 2 (x.vals.map ziD))]), (7, .box [.d (.sl 1 (y.locs.map intD)), .d (.sl 2 (y.vals.map ziD))]), (8, .box ([.d (.raw (.int .i64 c.proc)), .d (.raw (.int .i64 c.from_)), .d (.raw (.int .i64 c.to_)), .d (.raw (.int .i64 c.guard.kind)), .d (.sl 3 (c.guard.r.t.parts.map Part.d))] ++ zi c.guard.r.t.k ++ [.d (.raw (.bool c.guard.r.eq)), .d (.sl 6 (c.guard.kids.map FormD.d)), .d (.sl 5 (c.moves.map MoveD.d))]))] (by kernel_rfl) h ?_; clear h; intro a w h
            refine wp_ret ?_
            refine block_r ?_
            refine then_r ?_
            refine then_r ?_
            refine block_r ?_
            refine then_r ?_
            refine retS [.c (.d (.raw (.bool false)))] h Exit.ret (.inl rfl)  rfl ⟨RV.tmp _ _ rfl, trivial⟩ ?_ (by kernel_rfl) (by kernel_rfl)
            have hz : leadsRC s x c y = false := by unfold leadsRC; rw [hc1, (show (fits s y) = true from by simpa using hc3), Bool.true_and, Bool.true_and]; rw [show x.locs.length = j by have := of_decide_eq_false hc11; omega, hj2, Bool.true_and]; rw [allN_fail (j := i) (by have := of_decide_eq_true hc12; omega) (show vstep x c y i = false from (by unfold vstep; rw [free_some hm hc16, new_some hm hc16, ZI.val_of, ← vr13, hx14]; have := hc17; rw [cmpZ_n0] at this; simpa using this))]
            rw [← leads_eq, hz]; first | done | rfl
           ·have hc18 := hc; clear hc
            have hc18' := hc18; (try simp at hc18')
            refine wp_skip ?_
            refine block_n ?_
            refine then_n ?_
            refine rS fam0ok 10 [(1, .add .i64 (m := (i : Int)) (n := 1) (i64_id (by omega) (by omega)))] [(5, vp 6 0), (7, vp 7 0), (9, vp 8 0), (12, vi .i64 ((i : Int) + 1))] [(6, .box [.d (.sl 1 (x.locs.map intD)), .d (.sl 2 (x.vals.map ziD))]), (7, .box [.d (.sl 1 (y.locs.map intD)), .d (.sl 2 (y.vals.map ziD))]), (8, .box ([.d (.raw (.int .i64 c.proc)), .d (.raw (.int .i64 c.from_)), .d (.raw (.int .i64 c.to_)), .d (.raw (.int .i64 c.guard.kind)), .d (.sl 3 (c.guard.r.t.parts.map Part.d))] ++ zi c.guard.r.t.k ++ [.d (.raw (.bool c.guard.r.eq)), .d (.sl 6 (c.guard.kids.map FormD.d)), .d (.sl 5 (c.moves.map MoveD.d))]))] (by kernel_rfl) h ?_; clear h; intro a w h
            refine then_n ?_
            refine roundS (x := i) (y := i + 1) h ?_ ?_ (by kernel_rfl) (by kernel_rfl)
            ·exact ⟨by omega, allN_step hi2 (by unfold vstep; rw [free_some hm hc16, new_some hm hc16, ZI.val_of, ← vr13, hx14]; have := hc18; rw [cmpZ_n0] at this; simpa using this)⟩
            ·show x.vals.length - (i + 1) < x.vals.length - i
             omega
          ·cases hc
       ·have hc19 := hc; clear hc
        have hc19' := of_decide_eq_false hc19
        refine wp_exit ?_
        refine then_x ?_
        refine then_x ?_
        refine inBlock_exit ?_
        refine then_n ?_
        refine rSeq fam0ok 10 [] [(8, vb true)] [] (by kernel_rfl) h ?_; clear h; intro a w h
        refine wp_ret ?_
        refine retS [.c (.d (.raw (.bool true)))] h Exit.ret (.inl rfl)  rfl ⟨RV.tmp _ _ rfl, trivial⟩ ?_ (by kernel_rfl) (by kernel_rfl)
        have hz : leadsRC s x c y = true := by unfold leadsRC; rw [hc1, (show (fits s y) = true from by simpa using hc3), Bool.true_and, Bool.true_and]; rw [show x.locs.length = j by have := of_decide_eq_false hc11; omega, hj2, Bool.true_and]; rw [show x.vals.length = i by have := of_decide_eq_false hc19; omega, hi2]
        rw [← leads_eq, hz]; first | done | rfl
  ·have hc20 := hc; clear hc
   refine rSeq fam0ok 10 [(3, .call (Fn.cast (SRbeginsS s x ki c (L := L) (M := M) (by omega) hs hx hka) (congrArg vb hc20)) kp_7)] [(2, vi .i64 (ki : Int)), (4, vp 5 0), (5, vp 6 0), (7, vp 7 0), (8, vb false), (35, vb true)] [(5, .box (sysC s)), (6, .box [.d (.sl 1 (x.locs.map intD)), .d (.sl 2 (x.vals.map ziD))]), (7, .box [.d (.sl 1 (y.locs.map intD)), .d (.sl 2 (y.vals.map ziD))])] (by kernel_rfl) h ?_; clear h; intro a w h
   refine condS true h rfl (fun hc => ?_) (fun hc => ?_)
   ·clear hc
    refine rSeq fam0ok 10 [] [(2, vi .i64 (ki : Int)), (4, vp 5 0), (5, vp 6 0), (7, vp 7 0), (8, vb false)] [(5, .box (sysC s)), (6, .box [.d (.sl 1 (x.locs.map intD)), .d (.sl 2 (x.vals.map ziD))]), (7, .box [.d (.sl 1 (y.locs.map intD)), .d (.sl 2 (y.vals.map ziD))])] (by kernel_rfl) h ?_; clear h; intro a w h
    refine wp_ret ?_
    refine then_r ?_
    refine retS [.c (.d (.raw (.bool false)))] h Exit.ret (.inl rfl)  rfl ⟨RV.tmp _ _ rfl, trivial⟩ ?_ (by kernel_rfl) (by kernel_rfl)
    have hz : leadsRC s x c y = false := by unfold leadsRC; rw [hc20]; rfl
    rw [← leads_eq, hz]; first | done | rfl
   ·cases hc
theorem SRLeads (s : SysD) (x : StD) (i : Int) (y : StD) {L M : Nat} (hL : L + M ≤ 1900) (hs : SysOk L s) (hx : StOk M x) (hy : StOk M y) : Fn Tryz.prog 12 [] [.t (.agg (sysC s)), .t (.agg [.d (.sl 1 (x.locs.map intD)), .d (.sl 2 (x.vals.map ziD))]), vi .i64 i, .t (.agg [.d (.sl 1 (y.locs.map intD)), .d (.sl 2 (y.vals.map ziD))])] (vb (leads s x i y)) [] := by
 by_cases hn : i = -1
 ·subst hn; unfold leads; rw [if_pos rfl]; exact SRLeads1 s x y hL hs hx hy
 ·cases hi : actAt s i with
  | none => unfold leads; rw [if_neg hn, hi]; exact SRLeads2 s x i y hL hs hx hy hi hn
  | some c => unfold leads; rw [if_neg hn, hi]; obtain ⟨ki, rfl, hka⟩ := actAt_some hi; exact SRLeads3 s x ki y c hL hs hx hy hka
end Go.Proofs.YtmohlifepfjmdaaGreat.S
end
