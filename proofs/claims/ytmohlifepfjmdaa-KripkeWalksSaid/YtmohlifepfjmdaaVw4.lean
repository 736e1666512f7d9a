/-
  Part 4 of the proof of the statement KripkeWalks: the walk through the program and the references lifted to the given row. It holds for every input.
-/
import Derived.Test.YtmohlifepfjmdaaVw3
import Derived.Test.YtmohlifepfjmdaaVw2
set_option maxRecDepth 100000
section
namespace Go.Proofs.Ytmohlifepfjmdaa.S
open Go.RowKit

theorem kl_0 : Bodied Try.prog 12 := Bodied.mk' (by kernel_rfl)
theorem kl_1 : Bodied Try.prog 21 := Bodied.mk' (by kernel_rfl)
theorem free_new {x : StD} {c : ActD} {v : Nat} (h : freeAt c v = true) : newAt x c v = zero0 := by
 unfold freeAt at h; unfold newAt
 cases hm : mvAt c v with
 | none => rw [hm] at h; cases h
 | some m => rw [hm] at h; simp only at h ⊢; rw [if_pos h]
theorem newV_pick {x : StD} {c : ActD} {picks : List ZI} {v : Nat} {p : ZI} (h : freeAt c v = true) (hp : (picks.drop (cntFree c v))[0]? = some p) : newV x c picks v = ZI.of p.val := by
 rw [List.getElem?_drop, Nat.add_zero] at hp; unfold newV; rw [if_pos h, hp]
theorem newV_out {x : StD} {c : ActD} {picks : List ZI} {v : Nat} (h : freeAt c v = true) (hp : ¬ ((picks.drop (cntFree c v)).length : Int) > 0) : newV x c picks v = zero0 := by
 rw [List.length_drop] at hp; unfold newV; rw [if_pos h, List.getElem?_eq_none (by omega)]
theorem newV_new {x : StD} {c : ActD} {picks : List ZI} {v : Nat} (h : freeAt c v = false) : newV x c picks v = newAt x c v := by unfold newV; rw [if_neg (by rw [h]; exact Bool.noConfusion)]
theorem cnt_free {c : ActD} {v : Nat} (h : freeAt c v = true) : cntFree c (v + 1) = cntFree c v + 1 := by rw [cntFree, if_pos h]
theorem cnt_kept {c : ActD} {v : Nat} (h : freeAt c v = false) : cntFree c (v + 1) = cntFree c v := by rw [cntFree, if_neg (by rw [h]; exact Bool.noConfusion), Nat.add_zero]
theorem outS_ok {L M : Nat} {s : SysD} {x : StD} {c : ActD} {picks : List ZI} (hs : SysOk L s) (hx : StOk M x) (hc : ActOk L c) (hp : ∀ z ∈ picks, ZOk M z) : StOk (L + M + 2) (outS s x c picks) := by
 refine ⟨by simp only [outS, List.length_set]; exact hx.locs, by simp only [outS, List.length_map, List.length_range]; exact Nat.le_trans hs.vars (by decide), fun z hz => ?_⟩
 simp only [outS, List.mem_map] at hz
 obtain ⟨v, _, rfl⟩ := hz
 unfold newV
 split
 ·split
  ·rename_i p hp2
   have g := hp p (List.mem_of_getElem? hp2)
   exact ⟨ZI.lb_of _, Nat.le_trans (len_id g.1) (by have := g.2; omega)⟩
  ·exact ZOk.zero
 ·exact new_ok hc hx v
set_option maxHeartbeats 4000000 in
theorem SGo1 (s : SysD) (x : StD) (picks : List ZI) {L M : Nat} (hL : L + M ≤ 4000) (hs : SysOk L s) (hx : StOk M x) (_hp : ∀ z ∈ picks, ZOk M z) (hst : stuck s x = true) : Fn Try.prog 8 [] [.t (.agg (sysC s)), .t (.agg [.d (.sl 1 (x.locs.map intD)), .d (.sl 2 (x.vals.map ziD))]), vi .i64 (-1), .t (.c (.d (.sl 2 (picks.map ziD))))] (.tup [.agg [.d (.sl 1 ((cloneS x).locs.map intD)), .d (.sl 2 ((cloneS x).vals.map ziD))], .c (.d (.raw (.bool true)))]) [] := by
 refine Fn.body Try.func8 rfl 92 rfl fun w H B a h => ?_
 refine rSeq fam0ok 5 [] [(2, vi .i64 (-1)), (3, .t (.c (.d (.sl 2 (picks.map ziD))))), (4, vp 5 0), (5, vp 6 0), (8, vp 7 0), (9, vb false)] [(5, .box (sysC s)), (6, .box [.d (.sl 1 (x.locs.map intD)), .d (.sl 2 (x.vals.map ziD))]), (7, .box [.d (.raw nilV), .d (.raw nilV)])] (by kernel_rfl) h ?_; clear h; intro a w h
 refine wp_seq ?_
 refine rSeq fam0ok 8 [(1, .cmp (op := .eql) (m := (-1)) (n := (-1)) (b := true) .i64 rfl), (5, .call (Fn.cast (SStuck s x hL hs hx) (congrArg vb hst)) kl_0)] [(2, vi .i64 (-1)), (3, .t (.c (.d (.sl 2 (picks.map ziD))))), (4, vp 5 0), (5, vp 6 0), (8, vp 7 0), (9, vb false), (22, vb true)] [(5, .box (sysC s)), (6, .box [.d (.sl 1 (x.locs.map intD)), .d (.sl 2 (x.vals.map ziD))]), (7, .box [.d (.raw nilV), .d (.raw nilV)])] (by kernel_rfl) h ?_; clear h; intro a w h
 refine condS true h rfl (fun hc => ?_) (fun hc => ?_)
 ·clear hc
  refine rSeq fam0ok 8 [(1, .call (Sclone x (by omega) hx) kl_1)] [(2, vi .i64 (-1)), (3, .t (.c (.d (.sl 2 (picks.map ziD))))), (4, vp 5 0), (5, vp 6 0), (8, vp 7 0), (9, vb true)] [(5, .box (sysC s)), (6, .box [.d (.sl 1 (x.locs.map intD)), .d (.sl 2 (x.vals.map ziD))]), (7, .box [.own 0 x.locs.length, .own 1 (x.vals.map clZ).length]), (0, .row 3 1 (x.locs.map intD)), (1, .row 28 2 ((x.vals.map clZ).map ziD))] (by kernel_rfl) h ?_; clear h; intro a w h
  refine wp_ret ?_
  refine then_r ?_
  replace h := pubS 0 1 3 (x.locs.map intD) [(2, vi .i64 (-1)), (3, .t (.c (.d (.sl 2 (picks.map ziD))))), (4, vp 5 0), (5, vp 6 0), (8, vp 7 0), (9, vb true)] [(5, .box (sysC s)), (6, .box [.d (.sl 1 (x.locs.map intD)), .d (.sl 2 (x.vals.map ziD))]), (7, .box [.d (.sl 1 (x.locs.map intD)), .own 1 (x.vals.map clZ).length]), (1, .row 28 2 ((x.vals.map clZ).map ziD))] h rfl trivial (show AllEq _ [x.locs.length] from ⟨by first | exact (List.length_map _).symm | (simp; done) | (simp; omega), trivial⟩) (by kernel_rfl) (by kernel_rfl)
  replace h := pubS 1 2 28 ((x.vals.map clZ).map ziD) [(2, vi .i64 (-1)), (3, .t (.c (.d (.sl 2 (picks.map ziD))))), (4, vp 5 0), (5, vp 6 0), (8, vp 7 0), (9, vb true)] [(5, .box (sysC s)), (6, .box [.d (.sl 1 (x.locs.map intD)), .d (.sl 2 (x.vals.map ziD))]), (7, .box [.d (.sl 1 (x.locs.map intD)), .d (.sl 2 ((x.vals.map clZ).map ziD))])] h rfl trivial (show AllEq _ [(x.vals.map clZ).length] from ⟨by first | exact (List.length_map _).symm | (simp; done) | (simp; omega), trivial⟩) (by kernel_rfl) (by kernel_rfl)
  refine retS [.agg [.d (.sl 1 (x.locs.map intD)), .d (.sl 2 ((x.vals.map clZ).map ziD))], .c (.d (.raw (.bool true)))] h Exit.ret (.inl rfl)  rfl ⟨RV.agg _ 7 0 _ _ _ _ kk_5 rfl rfl rfl rfl, RV.tmp _ _ rfl, trivial⟩ ?_ (by kernel_rfl) (by kernel_rfl)
  rfl
 ·cases hc
set_option maxHeartbeats 4000000 in
theorem SGo2 (s : SysD) (x : StD) (i : Int) (picks : List ZI) {L M : Nat} (hL : L + M ≤ 4000) (hs : SysOk L s) (hx : StOk M x) (_hp : ∀ z ∈ picks, ZOk M z) (hst : ¬ (i = -1 ∧ stuck s x = true)) (hi : actAt s i = none) : Fn Try.prog 8 [] [.t (.agg (sysC s)), .t (.agg [.d (.sl 1 (x.locs.map intD)), .d (.sl 2 (x.vals.map ziD))]), vi .i64 i, .t (.c (.d (.sl 2 (picks.map ziD))))] (.tup [.agg [.d (.sl 1 (st0.locs.map intD)), .d (.sl 2 (st0.vals.map ziD))], .c (.d (.raw (.bool false)))]) [] := by
 refine Fn.body Try.func8 rfl 92 rfl fun w H B a h => ?_
 refine rSeq fam0ok 5 [] [(2, vi .i64 i), (3, .t (.c (.d (.sl 2 (picks.map ziD))))), (4, vp 5 0), (5, vp 6 0), (8, vp 7 0), (9, vb false)] [(5, .box (sysC s)), (6, .box [.d (.sl 1 (x.locs.map intD)), .d (.sl 2 (x.vals.map ziD))]), (7, .box [.d (.raw nilV), .d (.raw nilV)])] (by kernel_rfl) h ?_; clear h; intro a w h
 refine wp_seq ?_
 rcases Bool.eq_false_or_eq_true (i == (-1)) with hc | hc
 ·have hc1 := hc; clear hc
  have hc1' := hc1; (try simp at hc1')
  refine rSeq fam0ok 8 [(1, .cmp (op := .eql) (m := i) (n := (-1)) (b := true) .i64 hc1), (5, .call (Fn.cast (SStuck s x hL hs hx) (congrArg vb (show stuck s x = false by cases hq : stuck s x with | false => rfl | true => exact absurd ⟨by have := hc1; simpa using this, hq⟩ hst))) kl_0)] [(2, vi .i64 i), (3, .t (.c (.d (.sl 2 (picks.map ziD))))), (4, vp 5 0), (5, vp 6 0), (8, vp 7 0), (9, vb false), (22, vb false)] [(5, .box (sysC s)), (6, .box [.d (.sl 1 (x.locs.map intD)), .d (.sl 2 (x.vals.map ziD))]), (7, .box [.d (.raw nilV), .d (.raw nilV)])] (by kernel_rfl) h ?_; clear h; intro a w h
  refine condS false h rfl (fun hc => ?_) (fun hc => ?_)
  ·cases hc
  ·clear hc
   refine wp_skip ?_
   refine then_n ?_
   refine rSeq fam0ok 8 [(2, .call (SactN s i hi) kk_6)] [(3, .t (.c (.d (.sl 2 (picks.map ziD))))), (4, vp 5 0), (5, vp 6 0), (8, vp 7 0), (9, vb false), (10, vp 8 0), (11, vb false)] [(5, .box (sysC s)), (6, .box [.d (.sl 1 (x.locs.map intD)), .d (.sl 2 (x.vals.map ziD))]), (7, .box [.d (.raw nilV), .d (.raw nilV)]), (8, .box ([.d (.raw (.int .i64 act0.proc)), .d (.raw (.int .i64 act0.from_)), .d (.raw (.int .i64 act0.to_)), .d (.raw (.int .i64 act0.guard.kind)), .d (.sl 3 (act0.guard.r.t.parts.map Part.d))] ++ zi act0.guard.r.t.k ++ [.d (.raw (.bool act0.guard.r.eq)), .d (.sl 6 (act0.guard.kids.map FormD.d)), .d (.sl 5 (act0.moves.map MoveD.d))]))] (by kernel_rfl) h ?_; clear h; intro a w h
   refine wp_seq ?_
   refine rSeq fam0ok 9 [] [(3, .t (.c (.d (.sl 2 (picks.map ziD))))), (4, vp 5 0), (5, vp 6 0), (8, vp 7 0), (9, vb false), (10, vp 8 0), (39, vb true)] [(5, .box (sysC s)), (6, .box [.d (.sl 1 (x.locs.map intD)), .d (.sl 2 (x.vals.map ziD))]), (7, .box [.d (.raw nilV), .d (.raw nilV)]), (8, .box ([.d (.raw (.int .i64 act0.proc)), .d (.raw (.int .i64 act0.from_)), .d (.raw (.int .i64 act0.to_)), .d (.raw (.int .i64 act0.guard.kind)), .d (.sl 3 (act0.guard.r.t.parts.map Part.d))] ++ zi act0.guard.r.t.k ++ [.d (.raw (.bool act0.guard.r.eq)), .d (.sl 6 (act0.guard.kids.map FormD.d)), .d (.sl 5 (act0.moves.map MoveD.d))]))] (by kernel_rfl) h ?_; clear h; intro a w h
   refine condS true h rfl (fun hc => ?_) (fun hc => ?_)
   ·clear hc
    refine rSeq fam0ok 9 [] [(3, .t (.c (.d (.sl 2 (picks.map ziD))))), (4, vp 5 0), (5, vp 6 0), (8, vp 7 0), (9, vb false), (10, vp 8 0)] [(5, .box (sysC s)), (6, .box [.d (.sl 1 (x.locs.map intD)), .d (.sl 2 (x.vals.map ziD))]), (7, .box [.d (.raw nilV), .d (.raw nilV)]), (8, .box ([.d (.raw (.int .i64 act0.proc)), .d (.raw (.int .i64 act0.from_)), .d (.raw (.int .i64 act0.to_)), .d (.raw (.int .i64 act0.guard.kind)), .d (.sl 3 (act0.guard.r.t.parts.map Part.d))] ++ zi act0.guard.r.t.k ++ [.d (.raw (.bool act0.guard.r.eq)), .d (.sl 6 (act0.guard.kids.map FormD.d)), .d (.sl 5 (act0.moves.map MoveD.d))]))] (by kernel_rfl) h ?_; clear h; intro a w h
    refine wp_ret ?_
    refine then_r ?_
    replace h := nilDLs 7 0 1 [.d (.raw nilV), .d (.raw nilV)] [(3, .t (.c (.d (.sl 2 (picks.map ziD))))), (4, vp 5 0), (5, vp 6 0), (8, vp 7 0), (9, vb false), (10, vp 8 0)] [(5, .box (sysC s)), (6, .box [.d (.sl 1 (x.locs.map intD)), .d (.sl 2 (x.vals.map ziD))]), (7, .box [.d (.sl 1 ([].map intD)), .d (.raw nilV)]), (8, .box ([.d (.raw (.int .i64 act0.proc)), .d (.raw (.int .i64 act0.from_)), .d (.raw (.int .i64 act0.to_)), .d (.raw (.int .i64 act0.guard.kind)), .d (.sl 3 (act0.guard.r.t.parts.map Part.d))] ++ zi act0.guard.r.t.k ++ [.d (.raw (.bool act0.guard.r.eq)), .d (.sl 6 (act0.guard.kids.map FormD.d)), .d (.sl 5 (act0.moves.map MoveD.d))]))] h rfl rfl (by kernel_rfl) (by kernel_rfl)
    replace h := nilDLs 7 1 2 [.d (.sl 1 ([].map intD)), .d (.raw nilV)] [(3, .t (.c (.d (.sl 2 (picks.map ziD))))), (4, vp 5 0), (5, vp 6 0), (8, vp 7 0), (9, vb false), (10, vp 8 0)] [(5, .box (sysC s)), (6, .box [.d (.sl 1 (x.locs.map intD)), .d (.sl 2 (x.vals.map ziD))]), (7, .box [.d (.sl 1 ([].map intD)), .d (.sl 2 ([].map ziD))]), (8, .box ([.d (.raw (.int .i64 act0.proc)), .d (.raw (.int .i64 act0.from_)), .d (.raw (.int .i64 act0.to_)), .d (.raw (.int .i64 act0.guard.kind)), .d (.sl 3 (act0.guard.r.t.parts.map Part.d))] ++ zi act0.guard.r.t.k ++ [.d (.raw (.bool act0.guard.r.eq)), .d (.sl 6 (act0.guard.kids.map FormD.d)), .d (.sl 5 (act0.moves.map MoveD.d))]))] h rfl rfl (by kernel_rfl) (by kernel_rfl)
    refine retS [.agg [.d (.sl 1 ([].map intD)), .d (.sl 2 ([].map ziD))], .c (.d (.raw (.bool false)))] h Exit.ret (.inl rfl)  rfl ⟨RV.agg _ 7 0 _ _ _ _ kk_5 rfl rfl rfl rfl, RV.tmp _ _ rfl, trivial⟩ ?_ (by kernel_rfl) (by kernel_rfl)
    rfl
   ·cases hc
 ·have hc2 := hc; clear hc
  have hc2' := hc2; (try simp at hc2')
  refine rSeq fam0ok 9 [(1, .cmp (op := .eql) (m := i) (n := (-1)) (b := false) .i64 hc2)] [(2, vi .i64 i), (3, .t (.c (.d (.sl 2 (picks.map ziD))))), (4, vp 5 0), (5, vp 6 0), (8, vp 7 0), (9, vb false), (22, vb false)] [(5, .box (sysC s)), (6, .box [.d (.sl 1 (x.locs.map intD)), .d (.sl 2 (x.vals.map ziD))]), (7, .box [.d (.raw nilV), .d (.raw nilV)])] (by kernel_rfl) h ?_; clear h; intro a w h
  refine condS false h rfl (fun hc => ?_) (fun hc => ?_)
  ·cases hc
  ·clear hc
   refine wp_skip ?_
   refine then_n ?_
   refine rSeq fam0ok 9 [(2, .call (SactN s i hi) kk_6)] [(3, .t (.c (.d (.sl 2 (picks.map ziD))))), (4, vp 5 0), (5, vp 6 0), (8, vp 7 0), (9, vb false), (10, vp 9 0), (11, vb false)] [(5, .box (sysC s)), (6, .box [.d (.sl 1 (x.locs.map intD)), .d (.sl 2 (x.vals.map ziD))]), (7, .box [.d (.raw nilV), .d (.raw nilV)]), (9, .box ([.d (.raw (.int .i64 act0.proc)), .d (.raw (.int .i64 act0.from_)), .d (.raw (.int .i64 act0.to_)), .d (.raw (.int .i64 act0.guard.kind)), .d (.sl 3 (act0.guard.r.t.parts.map Part.d))] ++ zi act0.guard.r.t.k ++ [.d (.raw (.bool act0.guard.r.eq)), .d (.sl 6 (act0.guard.kids.map FormD.d)), .d (.sl 5 (act0.moves.map MoveD.d))]))] (by kernel_rfl) h ?_; clear h; intro a w h
   refine wp_seq ?_
   refine rSeq fam0ok 10 [] [(3, .t (.c (.d (.sl 2 (picks.map ziD))))), (4, vp 5 0), (5, vp 6 0), (8, vp 7 0), (9, vb false), (10, vp 9 0), (39, vb true)] [(5, .box (sysC s)), (6, .box [.d (.sl 1 (x.locs.map intD)), .d (.sl 2 (x.vals.map ziD))]), (7, .box [.d (.raw nilV), .d (.raw nilV)]), (9, .box ([.d (.raw (.int .i64 act0.proc)), .d (.raw (.int .i64 act0.from_)), .d (.raw (.int .i64 act0.to_)), .d (.raw (.int .i64 act0.guard.kind)), .d (.sl 3 (act0.guard.r.t.parts.map Part.d))] ++ zi act0.guard.r.t.k ++ [.d (.raw (.bool act0.guard.r.eq)), .d (.sl 6 (act0.guard.kids.map FormD.d)), .d (.sl 5 (act0.moves.map MoveD.d))]))] (by kernel_rfl) h ?_; clear h; intro a w h
   refine condS true h rfl (fun hc => ?_) (fun hc => ?_)
   ·clear hc
    refine rSeq fam0ok 10 [] [(3, .t (.c (.d (.sl 2 (picks.map ziD))))), (4, vp 5 0), (5, vp 6 0), (8, vp 7 0), (9, vb false), (10, vp 9 0)] [(5, .box (sysC s)), (6, .box [.d (.sl 1 (x.locs.map intD)), .d (.sl 2 (x.vals.map ziD))]), (7, .box [.d (.raw nilV), .d (.raw nilV)]), (9, .box ([.d (.raw (.int .i64 act0.proc)), .d (.raw (.int .i64 act0.from_)), .d (.raw (.int .i64 act0.to_)), .d (.raw (.int .i64 act0.guard.kind)), .d (.sl 3 (act0.guard.r.t.parts.map Part.d))] ++ zi act0.guard.r.t.k ++ [.d (.raw (.bool act0.guard.r.eq)), .d (.sl 6 (act0.guard.kids.map FormD.d)), .d (.sl 5 (act0.moves.map MoveD.d))]))] (by kernel_rfl) h ?_; clear h; intro a w h
    refine wp_ret ?_
    refine then_r ?_
    replace h := nilDLs 7 0 1 [.d (.raw nilV), .d (.raw nilV)] [(3, .t (.c (.d (.sl 2 (picks.map ziD))))), (4, vp 5 0), (5, vp 6 0), (8, vp 7 0), (9, vb false), (10, vp 9 0)] [(5, .box (sysC s)), (6, .box [.d (.sl 1 (x.locs.map intD)), .d (.sl 2 (x.vals.map ziD))]), (7, .box [.d (.sl 1 ([].map intD)), .d (.raw nilV)]), (9, .box ([.d (.raw (.int .i64 act0.proc)), .d (.raw (.int .i64 act0.from_)), .d (.raw (.int .i64 act0.to_)), .d (.raw (.int .i64 act0.guard.kind)), .d (.sl 3 (act0.guard.r.t.parts.map Part.d))] ++ zi act0.guard.r.t.k ++ [.d (.raw (.bool act0.guard.r.eq)), .d (.sl 6 (act0.guard.kids.map FormD.d)), .d (.sl 5 (act0.moves.map MoveD.d))]))] h rfl rfl (by kernel_rfl) (by kernel_rfl)
    replace h := nilDLs 7 1 2 [.d (.sl 1 ([].map intD)), .d (.raw nilV)] [(3, .t (.c (.d (.sl 2 (picks.map ziD))))), (4, vp 5 0), (5, vp 6 0), (8, vp 7 0), (9, vb false), (10, vp 9 0)] [(5, .box (sysC s)), (6, .box [.d (.sl 1 (x.locs.map intD)), .d (.sl 2 (x.vals.map ziD))]), (7, .box [.d (.sl 1 ([].map intD)), .d (.sl 2 ([].map ziD))]), (9, .box ([.d (.raw (.int .i64 act0.proc)), .d (.raw (.int .i64 act0.from_)), .d (.raw (.int .i64 act0.to_)), .d (.raw (.int .i64 act0.guard.kind)), .d (.sl 3 (act0.guard.r.t.parts.map Part.d))] ++ zi act0.guard.r.t.k ++ [.d (.raw (.bool act0.guard.r.eq)), .d (.sl 6 (act0.guard.kids.map FormD.d)), .d (.sl 5 (act0.moves.map MoveD.d))]))] h rfl rfl (by kernel_rfl) (by kernel_rfl)
    refine retS [.agg [.d (.sl 1 ([].map intD)), .d (.sl 2 ([].map ziD))], .c (.d (.raw (.bool false)))] h Exit.ret (.inl rfl)  rfl ⟨RV.agg _ 7 0 _ _ _ _ kk_5 rfl rfl rfl rfl, RV.tmp _ _ rfl, trivial⟩ ?_ (by kernel_rfl) (by kernel_rfl)
    rfl
   ·cases hc
set_option maxHeartbeats 4000000 in
theorem SGo3 (s : SysD) (x : StD) (i : Int) (picks : List ZI) (c : ActD) {L M : Nat} (hL : L + M ≤ 4000) (hs : SysOk L s) (hx : StOk M x) (hp : ∀ z ∈ picks, ZOk M z) (hi : actAt s i = some c) : Fn Try.prog 8 [] [.t (.agg (sysC s)), .t (.agg [.d (.sl 1 (x.locs.map intD)), .d (.sl 2 (x.vals.map ziD))]), vi .i64 i, .t (.c (.d (.sl 2 (picks.map ziD))))] (.tup [.agg [.d (.sl 1 ((goC s x c picks).1.locs.map intD)), .d (.sl 2 ((goC s x c picks).1.vals.map ziD))], .c (.d (.raw (.bool (goC s x c picks).2)))]) [] := by
 have lx1 := hx.locs
 have lx2 := hx.vals
 have ls1 := hs.vars
 have ls2 := hs.procs
 have hc : ActOk L c := act_ok hs hi
 refine Fn.body Try.func8 rfl 92 rfl fun w H B a h => ?_
 refine rSeq fam0ok 5 [] [(2, vi .i64 i), (3, .t (.c (.d (.sl 2 (picks.map ziD))))), (4, vp 5 0), (5, vp 6 0), (8, vp 7 0), (9, vb false)] [(5, .box (sysC s)), (6, .box [.d (.sl 1 (x.locs.map intD)), .d (.sl 2 (x.vals.map ziD))]), (7, .box [.d (.raw nilV), .d (.raw nilV)])] (by kernel_rfl) h ?_; clear h; intro a w h
 refine wp_seq ?_
 refine rSeq fam0ok 8 [(1, .cmp (op := .eql) (m := i) (n := (-1)) (b := false) .i64 (by obtain ⟨k, rfl, _⟩ := actAt_some hi; exact beq_eq_false_iff_ne.2 (by omega)))] [(2, vi .i64 i), (3, .t (.c (.d (.sl 2 (picks.map ziD))))), (4, vp 5 0), (5, vp 6 0), (8, vp 7 0), (9, vb false), (22, vb false)] [(5, .box (sysC s)), (6, .box [.d (.sl 1 (x.locs.map intD)), .d (.sl 2 (x.vals.map ziD))]), (7, .box [.d (.raw nilV), .d (.raw nilV)])] (by kernel_rfl) h ?_; clear h; intro a w h
 refine condS false h rfl (fun hc => ?_) (fun hc => ?_)
 ·cases hc
 ·clear hc
  refine wp_skip ?_
  refine then_n ?_
  refine rSeq fam0ok 8 [(2, .call (SactS s i c hi) kk_6)] [(3, .t (.c (.d (.sl 2 (picks.map ziD))))), (4, vp 5 0), (5, vp 6 0), (8, vp 7 0), (9, vb false), (10, vp 8 0), (11, vb true)] [(5, .box (sysC s)), (6, .box [.d (.sl 1 (x.locs.map intD)), .d (.sl 2 (x.vals.map ziD))]), (7, .box [.d (.raw nilV), .d (.raw nilV)]), (8, .box ([.d (.raw (.int .i64 c.proc)), .d (.raw (.int .i64 c.from_)), .d (.raw (.int .i64 c.to_)), .d (.raw (.int .i64 c.guard.kind)), .d (.sl 3 (c.guard.r.t.parts.map Part.d))] ++ zi c.guard.r.t.k ++ [.d (.raw (.bool c.guard.r.eq)), .d (.sl 6 (c.guard.kids.map FormD.d)), .d (.sl 5 (c.moves.map MoveD.d))]))] (by kernel_rfl) h ?_; clear h; intro a w h
  refine wp_seq ?_
  refine rSeq fam0ok 9 [(6, .call (Senabled s x c (L := L) (M := M) (by omega) hs hx hc) kk_7)] [(3, .t (.c (.d (.sl 2 (picks.map ziD))))), (4, vp 5 0), (5, vp 6 0), (8, vp 7 0), (9, vb false), (10, vp 8 0), (39, vb (!(enabled s x c)))] [(5, .box (sysC s)), (6, .box [.d (.sl 1 (x.locs.map intD)), .d (.sl 2 (x.vals.map ziD))]), (7, .box [.d (.raw nilV), .d (.raw nilV)]), (8, .box ([.d (.raw (.int .i64 c.proc)), .d (.raw (.int .i64 c.from_)), .d (.raw (.int .i64 c.to_)), .d (.raw (.int .i64 c.guard.kind)), .d (.sl 3 (c.guard.r.t.parts.map Part.d))] ++ zi c.guard.r.t.k ++ [.d (.raw (.bool c.guard.r.eq)), .d (.sl 6 (c.guard.kids.map FormD.d)), .d (.sl 5 (c.moves.map MoveD.d))]))] (by kernel_rfl) h ?_; clear h; intro a w h
  refine condS (!(enabled s x c)) h rfl (fun hc => ?_) (fun hc => ?_)
  ·have hc1 := hc; clear hc
   have hc1' := hc1; (try simp at hc1')
   refine rSeq fam0ok 9 [] [(3, .t (.c (.d (.sl 2 (picks.map ziD))))), (4, vp 5 0), (5, vp 6 0), (8, vp 7 0), (9, vb false), (10, vp 8 0)] [(5, .box (sysC s)), (6, .box [.d (.sl 1 (x.locs.map intD)), .d (.sl 2 (x.vals.map ziD))]), (7, .box [.d (.raw nilV), .d (.raw nilV)]), (8, .box ([.d (.raw (.int .i64 c.proc)), .d (.raw (.int .i64 c.from_)), .d (.raw (.int .i64 c.to_)), .d (.raw (.int .i64 c.guard.kind)), .d (.sl 3 (c.guard.r.t.parts.map Part.d))] ++ zi c.guard.r.t.k ++ [.d (.raw (.bool c.guard.r.eq)), .d (.sl 6 (c.guard.kids.map FormD.d)), .d (.sl 5 (c.moves.map MoveD.d))]))] (by kernel_rfl) h ?_; clear h; intro a w h
   refine wp_ret ?_
   refine then_r ?_
   replace h := nilDLs 7 0 1 [.d (.raw nilV), .d (.raw nilV)] [(3, .t (.c (.d (.sl 2 (picks.map ziD))))), (4, vp 5 0), (5, vp 6 0), (8, vp 7 0), (9, vb false), (10, vp 8 0)] [(5, .box (sysC s)), (6, .box [.d (.sl 1 (x.locs.map intD)), .d (.sl 2 (x.vals.map ziD))]), (7, .box [.d (.sl 1 ([].map intD)), .d (.raw nilV)]), (8, .box ([.d (.raw (.int .i64 c.proc)), .d (.raw (.int .i64 c.from_)), .d (.raw (.int .i64 c.to_)), .d (.raw (.int .i64 c.guard.kind)), .d (.sl 3 (c.guard.r.t.parts.map Part.d))] ++ zi c.guard.r.t.k ++ [.d (.raw (.bool c.guard.r.eq)), .d (.sl 6 (c.guard.kids.map FormD.d)), .d (.sl 5 (c.moves.map MoveD.d))]))] h rfl rfl (by kernel_rfl) (by kernel_rfl)
   replace h := nilDLs 7 1 2 [.d (.sl 1 ([].map intD)), .d (.raw nilV)] [(3, .t (.c (.d (.sl 2 (picks.map ziD))))), (4, vp 5 0), (5, vp 6 0), (8, vp 7 0), (9, vb false), (10, vp 8 0)] [(5, .box (sysC s)), (6, .box [.d (.sl 1 (x.locs.map intD)), .d (.sl 2 (x.vals.map ziD))]), (7, .box [.d (.sl 1 ([].map intD)), .d (.sl 2 ([].map ziD))]), (8, .box ([.d (.raw (.int .i64 c.proc)), .d (.raw (.int .i64 c.from_)), .d (.raw (.int .i64 c.to_)), .d (.raw (.int .i64 c.guard.kind)), .d (.sl 3 (c.guard.r.t.parts.map Part.d))] ++ zi c.guard.r.t.k ++ [.d (.raw (.bool c.guard.r.eq)), .d (.sl 6 (c.guard.kids.map FormD.d)), .d (.sl 5 (c.moves.map MoveD.d))]))] h rfl rfl (by kernel_rfl) (by kernel_rfl)
   refine retS [.agg [.d (.sl 1 ([].map intD)), .d (.sl 2 ([].map ziD))], .c (.d (.raw (.bool false)))] h Exit.ret (.inl rfl)  rfl ⟨RV.agg _ 7 0 _ _ _ _ kk_5 rfl rfl rfl rfl, RV.tmp _ _ rfl, trivial⟩ ?_ (by kernel_rfl) (by kernel_rfl)
   have hz : goC s x c picks = (st0, false) := by unfold goC; rw [if_neg (fun h => by have := h.1; rw [(show (enabled s x c) = false from by simpa using hc1)] at this; cases this)]
   rw [hz]; first | done | rfl
  ·have hc2 := hc; clear hc
   have hc2' := hc2; (try simp at hc2')
   refine wp_skip ?_
   refine then_n ?_
   have hen := (show (enabled s x c) = true from by simpa using hc2)
   have hfl := fits_len (enabled_fits hen)
   have hpr := enabled_proc hen
   refine rSeq fam0ok 9 [(1, .call (Sclone x (by omega) hx) kl_1)] [(3, .t (.c (.d (.sl 2 (picks.map ziD))))), (4, vp 5 0), (5, vp 6 0), (8, vp 7 0), (9, vb false), (10, vp 8 0), (12, vp 9 0)] [(5, .box (sysC s)), (6, .box [.d (.sl 1 (x.locs.map intD)), .d (.sl 2 (x.vals.map ziD))]), (7, .box [.d (.raw nilV), .d (.raw nilV)]), (8, .box ([.d (.raw (.int .i64 c.proc)), .d (.raw (.int .i64 c.from_)), .d (.raw (.int .i64 c.to_)), .d (.raw (.int .i64 c.guard.kind)), .d (.sl 3 (c.guard.r.t.parts.map Part.d))] ++ zi c.guard.r.t.k ++ [.d (.raw (.bool c.guard.r.eq)), .d (.sl 6 (c.guard.kids.map FormD.d)), .d (.sl 5 (c.moves.map MoveD.d))])), (0, .row 3 1 (x.locs.map intD)), (1, .row 28 2 ((x.vals.map clZ).map ziD)), (9, .box [.own 0 x.locs.length, .own 1 (x.vals.map clZ).length])] (by kernel_rfl) h ?_; clear h; intro a w h
   obtain ⟨k, hkk⟩ : ∃ k_ : Nat, c.proc = (k_ : Int) := ⟨_, (Int.toNat_of_nonneg (by omega)).symm⟩
   replace h := h.conv (f' := F.of [(3, .t (.c (.d (.sl 2 (picks.map ziD))))), (4, vp 5 0), (5, vp 6 0), (8, vp 7 0), (9, vb false), (10, vp 8 0), (12, vp 9 0)] [(5, .box (sysC s)), (6, .box [.d (.sl 1 (x.locs.map intD)), .d (.sl 2 (x.vals.map ziD))]), (7, .box [.d (.raw nilV), .d (.raw nilV)]), (8, .box ([.d (.raw (.int .i64 (k : Int))), .d (.raw (.int .i64 c.from_)), .d (.raw (.int .i64 c.to_)), .d (.raw (.int .i64 c.guard.kind)), .d (.sl 3 (c.guard.r.t.parts.map Part.d))] ++ zi c.guard.r.t.k ++ [.d (.raw (.bool c.guard.r.eq)), .d (.sl 6 (c.guard.kids.map FormD.d)), .d (.sl 5 (c.moves.map MoveD.d))])), (0, .row 3 1 (x.locs.map intD)), (1, .row 28 2 ((x.vals.map clZ).map ziD)), (9, .box [.own 0 x.locs.length, .own 1 (x.vals.map clZ).length])]) (by rw [hkk])
   obtain ⟨x4, hx4⟩ : ∃ z_ : Int, x.locs[k]? = some z_ := ⟨_, List.getElem?_eq_getElem (by first | omega | (simp at *; omega))⟩
   refine rSeq fam0ok 10 [(6, .gen _ _ _ fun _ _ _ _ => Op.idxO (d := 49) (t := 44) (k := .i64) (n := 0) (len := x.locs.length) (i := k) tb_1 (by first | omega | (simp at *; omega)) (OV.tmp 46 _)), (7, .gen _ _ _ fun _ _ _ _ => Op.storeR (t := 49) (n := 0) (i := k) (fo := 0) (rty := 3) (es := 1) (r := intD x4) (ds := [.raw (.int .i64 c.to_)]) (rs := [(48, vi .i64 c.to_)]) (rows := x.locs.map intD) (rows' := (x.locs.set k c.to_).map intD) tl_7 (OV.tmp 48 _) rfl rfl rfl (map_at hx4 (f := intD)) (by simp [intD]) (set_map (xs := x.locs) (F := intD) k _ _ rfl))] [(3, .t (.c (.d (.sl 2 (picks.map ziD))))), (4, vp 5 0), (5, vp 6 0), (8, vp 7 0), (9, vb false), (10, vp 8 0), (12, vp 9 0)] [(5, .box (sysC s)), (6, .box [.d (.sl 1 (x.locs.map intD)), .d (.sl 2 (x.vals.map ziD))]), (7, .box [.d (.raw nilV), .d (.raw nilV)]), (8, .box ([.d (.raw (.int .i64 (k : Int))), .d (.raw (.int .i64 c.from_)), .d (.raw (.int .i64 c.to_)), .d (.raw (.int .i64 c.guard.kind)), .d (.sl 3 (c.guard.r.t.parts.map Part.d))] ++ zi c.guard.r.t.k ++ [.d (.raw (.bool c.guard.r.eq)), .d (.sl 6 (c.guard.kids.map FormD.d)), .d (.sl 5 (c.moves.map MoveD.d))])), (0, .row 3 1 ((x.locs.set k c.to_).map intD)), (1, .row 28 2 ((x.vals.map clZ).map ziD)), (9, .box [.own 0 x.locs.length, .own 1 (x.vals.map clZ).length])] (by kernel_rfl) h ?_; clear h; intro a w h
   refine wp_seq ?_
   replace h := h.conv (f' := F.of [(3, .t (.c (.d (.sl 2 (picks.map ziD))))), (4, vp 5 0), (5, vp 6 0), (8, vp 7 0), (9, vb false), (10, vp 8 0), (12, vp 9 0)] [(5, .box (sysC s)), (6, .box [.d (.sl 1 (x.locs.map intD)), .d (.sl 2 (x.vals.map ziD))]), (7, .box [.d (.raw nilV), .d (.raw nilV)]), (8, .box ([.d (.raw (.int .i64 c.proc)), .d (.raw (.int .i64 c.from_)), .d (.raw (.int .i64 c.to_)), .d (.raw (.int .i64 c.guard.kind)), .d (.sl 3 (c.guard.r.t.parts.map Part.d))] ++ zi c.guard.r.t.k ++ [.d (.raw (.bool c.guard.r.eq)), .d (.sl 6 (c.guard.kids.map FormD.d)), .d (.sl 5 (c.moves.map MoveD.d))])), (0, .row 3 1 ((x.locs.set k c.to_).map intD)), (1, .row 28 2 ((x.vals.map clZ).map ziD)), (9, .box [.own 0 x.locs.length, .own 1 (x.vals.map clZ).length])]) (by rw [hkk])
   refine rSeq fam0ok 10 [(2, .len (c := (.d (.sl 1 (s.vars.map strD)))) (n := s.vars.length) (lenC_map _ _ _))] [(3, .t (.c (.d (.sl 2 (picks.map ziD))))), (4, vp 5 0), (5, vp 6 0), (8, vp 7 0), (9, vb false), (10, vp 8 0), (12, vp 9 0), (52, vi .i64 (s.vars.length : Int)), (53, vi .i64 0)] [(5, .box (sysC s)), (6, .box [.d (.sl 1 (x.locs.map intD)), .d (.sl 2 (x.vals.map ziD))]), (7, .box [.d (.raw nilV), .d (.raw nilV)]), (8, .box ([.d (.raw (.int .i64 c.proc)), .d (.raw (.int .i64 c.from_)), .d (.raw (.int .i64 c.to_)), .d (.raw (.int .i64 c.guard.kind)), .d (.sl 3 (c.guard.r.t.parts.map Part.d))] ++ zi c.guard.r.t.k ++ [.d (.raw (.bool c.guard.r.eq)), .d (.sl 6 (c.guard.kids.map FormD.d)), .d (.sl 5 (c.moves.map MoveD.d))])), (0, .row 3 1 ((x.locs.set k c.to_).map intD)), (1, .row 28 2 ((x.vals.map clZ).map ziD)), (9, .box [.own 0 x.locs.length, .own 1 (x.vals.map clZ).length])] (by kernel_rfl) h ?_; clear h; intro a w h
   refine wp_block ?_
   refine loopS (ι := (Nat)) (fun (z_ : (Nat)) => match z_ with | j => j ≤ s.vars.length)
     (fun (z_ : (Nat)) => match z_ with | j => [(3, .t (.c (.d (.sl 2 ((picks.drop (cntFree c j)).map ziD))))), (4, vp 5 0), (5, vp 6 0), (8, vp 7 0), (9, vb false), (10, vp 8 0), (12, vp 9 0), (52, vi .i64 (s.vars.length : Int)), (53, vi .i64 (j : Int))])
     (fun (z_ : (Nat)) => match z_ with | j => [(5, .box (sysC s)), (6, .box [.d (.sl 1 (x.locs.map intD)), .d (.sl 2 (x.vals.map ziD))]), (7, .box [.d (.raw nilV), .d (.raw nilV)]), (8, .box ([.d (.raw (.int .i64 c.proc)), .d (.raw (.int .i64 c.from_)), .d (.raw (.int .i64 c.to_)), .d (.raw (.int .i64 c.guard.kind)), .d (.sl 3 (c.guard.r.t.parts.map Part.d))] ++ zi c.guard.r.t.k ++ [.d (.raw (.bool c.guard.r.eq)), .d (.sl 6 (c.guard.kids.map FormD.d)), .d (.sl 5 (c.moves.map MoveD.d))])), (0, .row 3 1 ((x.locs.set k c.to_).map intD)), (1, .row 28 2 (((List.range j).map (newV x c picks) ++ (x.vals.map clZ).drop j).map ziD)), (9, .box [.own 0 x.locs.length, .own 1 (x.vals.map clZ).length])])
     (fun (z_ : (Nat)) => match z_ with | j => s.vars.length - j) 0 ?_ h (by kernel_rfl) (by kernel_rfl) ?_
   ·exact Nat.zero_le _
   ·clear h; rintro j a w hI h
    change St _ (F.of [(3, .t (.c (.d (.sl 2 ((picks.drop (cntFree c j)).map ziD))))), (4, vp 5 0), (5, vp 6 0), (8, vp 7 0), (9, vb false), (10, vp 8 0), (12, vp 9 0), (52, vi .i64 (s.vars.length : Int)), (53, vi .i64 (j : Int))] [(5, .box (sysC s)), (6, .box [.d (.sl 1 (x.locs.map intD)), .d (.sl 2 (x.vals.map ziD))]), (7, .box [.d (.raw nilV), .d (.raw nilV)]), (8, .box ([.d (.raw (.int .i64 c.proc)), .d (.raw (.int .i64 c.from_)), .d (.raw (.int .i64 c.to_)), .d (.raw (.int .i64 c.guard.kind)), .d (.sl 3 (c.guard.r.t.parts.map Part.d))] ++ zi c.guard.r.t.k ++ [.d (.raw (.bool c.guard.r.eq)), .d (.sl 6 (c.guard.kids.map FormD.d)), .d (.sl 5 (c.moves.map MoveD.d))])), (0, .row 3 1 ((x.locs.set k c.to_).map intD)), (1, .row 28 2 (((List.range j).map (newV x c picks) ++ (x.vals.map clZ).drop j).map ziD)), (9, .box [.own 0 x.locs.length, .own 1 (x.vals.map clZ).length])]) a w at h
    have hrl := range_len (f := (newV x c picks)) (cl := (x.vals.map clZ)) (j := j) (by rw [List.length_map]; omega)
    rw [List.length_map] at hrl
    refine rSeq fam0ok 10 [] [(3, .t (.c (.d (.sl 2 ((picks.drop (cntFree c j)).map ziD))))), (4, vp 5 0), (5, vp 6 0), (8, vp 7 0), (9, vb false), (10, vp 8 0), (12, vp 9 0), (52, vi .i64 (s.vars.length : Int)), (53, vi .i64 (j : Int)), (54, vb (decide ((j : Int) < (s.vars.length : Int))))] [(5, .box (sysC s)), (6, .box [.d (.sl 1 (x.locs.map intD)), .d (.sl 2 (x.vals.map ziD))]), (7, .box [.d (.raw nilV), .d (.raw nilV)]), (8, .box ([.d (.raw (.int .i64 c.proc)), .d (.raw (.int .i64 c.from_)), .d (.raw (.int .i64 c.to_)), .d (.raw (.int .i64 c.guard.kind)), .d (.sl 3 (c.guard.r.t.parts.map Part.d))] ++ zi c.guard.r.t.k ++ [.d (.raw (.bool c.guard.r.eq)), .d (.sl 6 (c.guard.kids.map FormD.d)), .d (.sl 5 (c.moves.map MoveD.d))])), (0, .row 3 1 ((x.locs.set k c.to_).map intD)), (1, .row 28 2 (((List.range j).map (newV x c picks) ++ (x.vals.map clZ).drop j).map ziD)), (9, .box [.own 0 x.locs.length, .own 1 (x.vals.map clZ).length])] (by kernel_rfl) h ?_; clear h; intro a w h
    refine wp_seq ?_
    refine condS (decide ((j : Int) < (s.vars.length : Int))) h rfl (fun hc => ?_) (fun hc => ?_)
    ·have hc3 := hc; clear hc
     have hc3' := of_decide_eq_true hc3
     refine wp_skip ?_
     refine then_n ?_
     refine wp_seq ?_
     refine wp_block ?_
     refine rSeq fam0ok 10 [] [(3, .t (.c (.d (.sl 2 ((picks.drop (cntFree c j)).map ziD))))), (4, vp 5 0), (5, vp 6 0), (8, vp 7 0), (9, vb false), (10, vp 8 0), (12, vp 9 0), (13, vi .i64 (j : Int)), (52, vi .i64 (s.vars.length : Int)), (53, vi .i64 (j : Int))] [(5, .box (sysC s)), (6, .box [.d (.sl 1 (x.locs.map intD)), .d (.sl 2 (x.vals.map ziD))]), (7, .box [.d (.raw nilV), .d (.raw nilV)]), (8, .box ([.d (.raw (.int .i64 c.proc)), .d (.raw (.int .i64 c.from_)), .d (.raw (.int .i64 c.to_)), .d (.raw (.int .i64 c.guard.kind)), .d (.sl 3 (c.guard.r.t.parts.map Part.d))] ++ zi c.guard.r.t.k ++ [.d (.raw (.bool c.guard.r.eq)), .d (.sl 6 (c.guard.kids.map FormD.d)), .d (.sl 5 (c.moves.map MoveD.d))])), (0, .row 3 1 ((x.locs.set k c.to_).map intD)), (1, .row 28 2 (((List.range j).map (newV x c picks) ++ (x.vals.map clZ).drop j).map ziD)), (9, .box [.own 0 x.locs.length, .own 1 (x.vals.map clZ).length])] (by kernel_rfl) h ?_; clear h; intro a w h
     have gn := new_ok hc hx j
     have lgn := gn.2
     refine rSeq fam0ok 10 [(3, .call (Safter x c j (L := L) (M := M) (by omega) hc hx (by have := fits_len (enabled_fits hen); omega)) kk_8)] [(3, .t (.c (.d (.sl 2 ((picks.drop (cntFree c j)).map ziD))))), (4, vp 5 0), (5, vp 6 0), (8, vp 7 0), (9, vb false), (10, vp 8 0), (12, vp 9 0), (13, vi .i64 (j : Int)), (14, vp 10 0), (15, vb (freeAt c j)), (52, vi .i64 (s.vars.length : Int)), (53, vi .i64 (j : Int))] [(5, .box (sysC s)), (6, .box [.d (.sl 1 (x.locs.map intD)), .d (.sl 2 (x.vals.map ziD))]), (7, .box [.d (.raw nilV), .d (.raw nilV)]), (8, .box ([.d (.raw (.int .i64 c.proc)), .d (.raw (.int .i64 c.from_)), .d (.raw (.int .i64 c.to_)), .d (.raw (.int .i64 c.guard.kind)), .d (.sl 3 (c.guard.r.t.parts.map Part.d))] ++ zi c.guard.r.t.k ++ [.d (.raw (.bool c.guard.r.eq)), .d (.sl 6 (c.guard.kids.map FormD.d)), .d (.sl 5 (c.moves.map MoveD.d))])), (0, .row 3 1 ((x.locs.set k c.to_).map intD)), (1, .row 28 2 (((List.range j).map (newV x c picks) ++ (x.vals.map clZ).drop j).map ziD)), (9, .box [.own 0 x.locs.length, .own 1 (x.vals.map clZ).length]), (10, .box (zi (newAt x c j)))] (by kernel_rfl) h ?_; clear h; intro a w h
     refine wp_seq ?_
     rcases Bool.eq_false_or_eq_true (freeAt c j) with hc | hc
     ·have hc4 := hc; clear hc
      rw [hc4] at h
      refine rSeq fam0ok 11 [(3, .len (c := (.d (.sl 2 ((picks.drop (cntFree c j)).map ziD)))) (n := (picks.drop (cntFree c j)).length) (lenC_map _ _ _))] [(3, .t (.c (.d (.sl 2 ((picks.drop (cntFree c j)).map ziD))))), (4, vp 5 0), (5, vp 6 0), (8, vp 7 0), (9, vb false), (10, vp 8 0), (12, vp 9 0), (13, vi .i64 (j : Int)), (14, vp 10 0), (52, vi .i64 (s.vars.length : Int)), (53, vi .i64 (j : Int)), (68, vb (decide (((picks.drop (cntFree c j)).length : Int) > 0)))] [(5, .box (sysC s)), (6, .box [.d (.sl 1 (x.locs.map intD)), .d (.sl 2 (x.vals.map ziD))]), (7, .box [.d (.raw nilV), .d (.raw nilV)]), (8, .box ([.d (.raw (.int .i64 c.proc)), .d (.raw (.int .i64 c.from_)), .d (.raw (.int .i64 c.to_)), .d (.raw (.int .i64 c.guard.kind)), .d (.sl 3 (c.guard.r.t.parts.map Part.d))] ++ zi c.guard.r.t.k ++ [.d (.raw (.bool c.guard.r.eq)), .d (.sl 6 (c.guard.kids.map FormD.d)), .d (.sl 5 (c.moves.map MoveD.d))])), (0, .row 3 1 ((x.locs.set k c.to_).map intD)), (1, .row 28 2 (((List.range j).map (newV x c picks) ++ (x.vals.map clZ).drop j).map ziD)), (9, .box [.own 0 x.locs.length, .own 1 (x.vals.map clZ).length]), (10, .box (zi (newAt x c j)))] (by kernel_rfl) h ?_; clear h; intro a w h
      refine condS (decide (((picks.drop (cntFree c j)).length : Int) > 0)) h rfl (fun hc => ?_) (fun hc => ?_)
      ·have hc5 := hc; clear hc
       have hc5' := of_decide_eq_true hc5
       obtain ⟨x6, hx6⟩ : ∃ z_ : ZI, (picks.drop (cntFree c j))[0]? = some z_ := ⟨_, List.getElem?_eq_getElem (by first | omega | (simp at *; omega))⟩
       have gx6 := hp x6 (List.mem_of_mem_drop (List.mem_of_getElem? hx6))
       have lgx6 := gx6.2
       obtain ⟨r7, er7, vr7, or7, lr7⟩ := mkZ (v := x6.val) (m := M) (Nat.le_trans (len_id gx6.1) gx6.2)
       refine rSeq fam0ok 11 [(1, .gen _ _ _ fun _ _ _ _ => Op.idxD (d := 70) (t := 69) (k := .i64) tt_6 (map_at hx6 (f := ziD)) (OV.const (.int .i64 0) rfl)), (5, .gen _ _ _ fun _ _ _ _ => Op.idxD (d := 74) (t := 73) (k := .i64) tt_6 (map_at hx6 (f := ziD)) (OV.const (.int .i64 0) rfl)), (8, .call (Fn.cast ((show Fn _ _ _ _ (vz (ZI.of x6.val)) _ from SFrom x6.neg x6.abs gx6.1 (by omega))) (congrArg vz er7.symm)) ia_3)] [(3, .t (.c (.d (.sl 2 ((picks.drop (cntFree c j)).map ziD))))), (4, vp 5 0), (5, vp 6 0), (8, vp 7 0), (9, vb false), (10, vp 8 0), (12, vp 9 0), (13, vi .i64 (j : Int)), (14, vp 10 0), (52, vi .i64 (s.vars.length : Int)), (53, vi .i64 (j : Int))] [(5, .box (sysC s)), (6, .box [.d (.sl 1 (x.locs.map intD)), .d (.sl 2 (x.vals.map ziD))]), (7, .box [.d (.raw nilV), .d (.raw nilV)]), (8, .box ([.d (.raw (.int .i64 c.proc)), .d (.raw (.int .i64 c.from_)), .d (.raw (.int .i64 c.to_)), .d (.raw (.int .i64 c.guard.kind)), .d (.sl 3 (c.guard.r.t.parts.map Part.d))] ++ zi c.guard.r.t.k ++ [.d (.raw (.bool c.guard.r.eq)), .d (.sl 6 (c.guard.kids.map FormD.d)), .d (.sl 5 (c.moves.map MoveD.d))])), (0, .row 3 1 ((x.locs.set k c.to_).map intD)), (1, .row 28 2 (((List.range j).map (newV x c picks) ++ (x.vals.map clZ).drop j).map ziD)), (9, .box [.own 0 x.locs.length, .own 1 (x.vals.map clZ).length]), (10, .box (zi r7))] (by kernel_rfl) h ?_; clear h; intro a w h
       refine rS fam0ok 11 [(1, .gen _ _ _ fun _ _ _ _ => Op.sliceD (d := 79) (t := 78) (l := 1) (h := (picks.drop (cntFree c j)).length) (rows := (picks.drop (cntFree c j)).map ziD) (rows' := ((picks.drop (cntFree c j)).drop 1).map ziD) tt_6 (BO.yes _ (OV.const (.int .i64 1) rfl)) (by rw [List.length_map]; exact BO.no _) (by first | omega | (simp at *; omega)) (by first | omega | (simp only [List.length_map]; omega) | (simp at *; omega)) (by first | (simp [List.map_drop]; done) | (rw [List.take_of_length_le (by simp <;> omega)]; simp [List.map_drop])))] [(3, .t (.c (.d (.sl 2 (((picks.drop (cntFree c j)).drop 1).map ziD))))), (4, vp 5 0), (5, vp 6 0), (8, vp 7 0), (9, vb false), (10, vp 8 0), (12, vp 9 0), (13, vi .i64 (j : Int)), (14, vp 10 0), (52, vi .i64 (s.vars.length : Int)), (53, vi .i64 (j : Int))] [(5, .box (sysC s)), (6, .box [.d (.sl 1 (x.locs.map intD)), .d (.sl 2 (x.vals.map ziD))]), (7, .box [.d (.raw nilV), .d (.raw nilV)]), (8, .box ([.d (.raw (.int .i64 c.proc)), .d (.raw (.int .i64 c.from_)), .d (.raw (.int .i64 c.to_)), .d (.raw (.int .i64 c.guard.kind)), .d (.sl 3 (c.guard.r.t.parts.map Part.d))] ++ zi c.guard.r.t.k ++ [.d (.raw (.bool c.guard.r.eq)), .d (.sl 6 (c.guard.kids.map FormD.d)), .d (.sl 5 (c.moves.map MoveD.d))])), (0, .row 3 1 ((x.locs.set k c.to_).map intD)), (1, .row 28 2 (((List.range j).map (newV x c picks) ++ (x.vals.map clZ).drop j).map ziD)), (9, .box [.own 0 x.locs.length, .own 1 (x.vals.map clZ).length]), (10, .box (zi r7))] (by kernel_rfl) h ?_; clear h; intro a w h
       refine then_n ?_
       obtain ⟨x8, hx8⟩ : ∃ z_ : ZI, ((List.range j).map (newV x c picks) ++ (x.vals.map clZ).drop j)[j]? = some z_ := ⟨_, List.getElem?_eq_getElem (by first | omega | (simp at *; omega))⟩
       refine rS fam0ok 11 [(4, .gen _ _ _ fun _ _ _ _ => Op.idxO (d := 84) (t := 81) (k := .i64) (n := 1) (len := (x.vals.map clZ).length) (i := j) tt_6 (by first | omega | (simp at *; omega)) (OV.tmp 82 _)), (5, .gen _ _ _ fun _ _ _ _ => Op.storeR (t := 84) (n := 1) (i := j) (fo := 0) (rty := 28) (es := 2) (r := ziD x8) (ds := [.raw (.bool r7.neg), nsl r7.abs]) (rs := [(83, vz r7)]) (rows := ((List.range j).map (newV x c picks) ++ (x.vals.map clZ).drop j).map ziD) (rows' := (((List.range j).map (newV x c picks) ++ (x.vals.map clZ).drop j).set j r7).map ziD) ia_1 (OV.tmp 83 _) rfl rfl rfl (map_at hx8 (f := ziD)) (by simp [ziD]) (set_map (xs := ((List.range j).map (newV x c picks) ++ (x.vals.map clZ).drop j)) (F := ziD) j _ _ rfl))] [(3, .t (.c (.d (.sl 2 (((picks.drop (cntFree c j)).drop 1).map ziD))))), (4, vp 5 0), (5, vp 6 0), (8, vp 7 0), (9, vb false), (10, vp 8 0), (12, vp 9 0), (52, vi .i64 (s.vars.length : Int)), (53, vi .i64 (j : Int))] [(5, .box (sysC s)), (6, .box [.d (.sl 1 (x.locs.map intD)), .d (.sl 2 (x.vals.map ziD))]), (7, .box [.d (.raw nilV), .d (.raw nilV)]), (8, .box ([.d (.raw (.int .i64 c.proc)), .d (.raw (.int .i64 c.from_)), .d (.raw (.int .i64 c.to_)), .d (.raw (.int .i64 c.guard.kind)), .d (.sl 3 (c.guard.r.t.parts.map Part.d))] ++ zi c.guard.r.t.k ++ [.d (.raw (.bool c.guard.r.eq)), .d (.sl 6 (c.guard.kids.map FormD.d)), .d (.sl 5 (c.moves.map MoveD.d))])), (0, .row 3 1 ((x.locs.set k c.to_).map intD)), (1, .row 28 2 ((((List.range j).map (newV x c picks) ++ (x.vals.map clZ).drop j).set j r7).map ziD)), (9, .box [.own 0 x.locs.length, .own 1 (x.vals.map clZ).length])] (by kernel_rfl) h ?_; clear h; intro a w h
       refine block_n ?_
       refine then_n ?_
       refine rS fam0ok 11 [(0, .add .i64 (m := (j : Int)) (n := 1) (i64_id (by omega) (by omega)))] [(3, .t (.c (.d (.sl 2 (((picks.drop (cntFree c j)).drop 1).map ziD))))), (4, vp 5 0), (5, vp 6 0), (8, vp 7 0), (9, vb false), (10, vp 8 0), (12, vp 9 0), (52, vi .i64 (s.vars.length : Int)), (53, vi .i64 ((j : Int) + 1))] [(5, .box (sysC s)), (6, .box [.d (.sl 1 (x.locs.map intD)), .d (.sl 2 (x.vals.map ziD))]), (7, .box [.d (.raw nilV), .d (.raw nilV)]), (8, .box ([.d (.raw (.int .i64 c.proc)), .d (.raw (.int .i64 c.from_)), .d (.raw (.int .i64 c.to_)), .d (.raw (.int .i64 c.guard.kind)), .d (.sl 3 (c.guard.r.t.parts.map Part.d))] ++ zi c.guard.r.t.k ++ [.d (.raw (.bool c.guard.r.eq)), .d (.sl 6 (c.guard.kids.map FormD.d)), .d (.sl 5 (c.moves.map MoveD.d))])), (0, .row 3 1 ((x.locs.set k c.to_).map intD)), (1, .row 28 2 ((((List.range j).map (newV x c picks) ++ (x.vals.map clZ).drop j).set j r7).map ziD)), (9, .box [.own 0 x.locs.length, .own 1 (x.vals.map clZ).length])] (by kernel_rfl) h ?_; clear h; intro a w h
       refine then_n ?_
       replace h := h.conv (f' := F.of [(3, .t (.c (.d (.sl 2 (((picks.drop (cntFree c j)).drop 1).map ziD))))), (4, vp 5 0), (5, vp 6 0), (8, vp 7 0), (9, vb false), (10, vp 8 0), (12, vp 9 0), (52, vi .i64 (s.vars.length : Int)), (53, vi .i64 ((j : Int) + 1))] [(5, .box (sysC s)), (6, .box [.d (.sl 1 (x.locs.map intD)), .d (.sl 2 (x.vals.map ziD))]), (7, .box [.d (.raw nilV), .d (.raw nilV)]), (8, .box ([.d (.raw (.int .i64 c.proc)), .d (.raw (.int .i64 c.from_)), .d (.raw (.int .i64 c.to_)), .d (.raw (.int .i64 c.guard.kind)), .d (.sl 3 (c.guard.r.t.parts.map Part.d))] ++ zi c.guard.r.t.k ++ [.d (.raw (.bool c.guard.r.eq)), .d (.sl 6 (c.guard.kids.map FormD.d)), .d (.sl 5 (c.moves.map MoveD.d))])), (0, .row 3 1 ((x.locs.set k c.to_).map intD)), (1, .row 28 2 (((List.range (j + 1)).map (newV x c picks) ++ (x.vals.map clZ).drop (j + 1)).map ziD)), (9, .box [.own 0 x.locs.length, .own 1 (x.vals.map clZ).length])]) (congrArg (fun (z_ : List ZI) => F.of [(3, .t (.c (.d (.sl 2 (((picks.drop (cntFree c j)).drop 1).map ziD))))), (4, vp 5 0), (5, vp 6 0), (8, vp 7 0), (9, vb false), (10, vp 8 0), (12, vp 9 0), (52, vi .i64 (s.vars.length : Int)), (53, vi .i64 ((j : Int) + 1))] [(5, .box (sysC s)), (6, .box [.d (.sl 1 (x.locs.map intD)), .d (.sl 2 (x.vals.map ziD))]), (7, .box [.d (.raw nilV), .d (.raw nilV)]), (8, .box ([.d (.raw (.int .i64 c.proc)), .d (.raw (.int .i64 c.from_)), .d (.raw (.int .i64 c.to_)), .d (.raw (.int .i64 c.guard.kind)), .d (.sl 3 (c.guard.r.t.parts.map Part.d))] ++ zi c.guard.r.t.k ++ [.d (.raw (.bool c.guard.r.eq)), .d (.sl 6 (c.guard.kids.map FormD.d)), .d (.sl 5 (c.moves.map MoveD.d))])), (0, .row 3 1 ((x.locs.set k c.to_).map intD)), (1, .row 28 2 (z_.map ziD)), (9, .box [.own 0 x.locs.length, .own 1 (x.vals.map clZ).length])]) (show ((((List.range j).map (newV x c picks) ++ (x.vals.map clZ).drop j).set j r7) : List ZI) = ((List.range (j + 1)).map (newV x c picks) ++ (x.vals.map clZ).drop (j + 1)) from (range_set (by rw [List.length_map]; omega) (by rw [newV_pick hc4 hx6]; simp [*]))))
       replace h := h.conv (f' := F.of [(3, .t (.c (.d (.sl 2 ((picks.drop (cntFree c (j + 1))).map ziD))))), (4, vp 5 0), (5, vp 6 0), (8, vp 7 0), (9, vb false), (10, vp 8 0), (12, vp 9 0), (52, vi .i64 (s.vars.length : Int)), (53, vi .i64 ((j : Int) + 1))] [(5, .box (sysC s)), (6, .box [.d (.sl 1 (x.locs.map intD)), .d (.sl 2 (x.vals.map ziD))]), (7, .box [.d (.raw nilV), .d (.raw nilV)]), (8, .box ([.d (.raw (.int .i64 c.proc)), .d (.raw (.int .i64 c.from_)), .d (.raw (.int .i64 c.to_)), .d (.raw (.int .i64 c.guard.kind)), .d (.sl 3 (c.guard.r.t.parts.map Part.d))] ++ zi c.guard.r.t.k ++ [.d (.raw (.bool c.guard.r.eq)), .d (.sl 6 (c.guard.kids.map FormD.d)), .d (.sl 5 (c.moves.map MoveD.d))])), (0, .row 3 1 ((x.locs.set k c.to_).map intD)), (1, .row 28 2 (((List.range (j + 1)).map (newV x c picks) ++ (x.vals.map clZ).drop (j + 1)).map ziD)), (9, .box [.own 0 x.locs.length, .own 1 (x.vals.map clZ).length])]) (congrArg (fun (z_ : List ZI) => F.of [(3, .t (.c (.d (.sl 2 (z_.map ziD))))), (4, vp 5 0), (5, vp 6 0), (8, vp 7 0), (9, vb false), (10, vp 8 0), (12, vp 9 0), (52, vi .i64 (s.vars.length : Int)), (53, vi .i64 ((j : Int) + 1))] [(5, .box (sysC s)), (6, .box [.d (.sl 1 (x.locs.map intD)), .d (.sl 2 (x.vals.map ziD))]), (7, .box [.d (.raw nilV), .d (.raw nilV)]), (8, .box ([.d (.raw (.int .i64 c.proc)), .d (.raw (.int .i64 c.from_)), .d (.raw (.int .i64 c.to_)), .d (.raw (.int .i64 c.guard.kind)), .d (.sl 3 (c.guard.r.t.parts.map Part.d))] ++ zi c.guard.r.t.k ++ [.d (.raw (.bool c.guard.r.eq)), .d (.sl 6 (c.guard.kids.map FormD.d)), .d (.sl 5 (c.moves.map MoveD.d))])), (0, .row 3 1 ((x.locs.set k c.to_).map intD)), (1, .row 28 2 (((List.range (j + 1)).map (newV x c picks) ++ (x.vals.map clZ).drop (j + 1)).map ziD)), (9, .box [.own 0 x.locs.length, .own 1 (x.vals.map clZ).length])]) (show (((picks.drop (cntFree c j)).drop 1) : List ZI) = (picks.drop (cntFree c (j + 1))) from (by rw [cnt_free hc4, List.drop_drop])))
       refine roundS (x := j) (y := j + 1) h ?_ ?_ (by kernel_rfl) (by kernel_rfl)
       ·show j + 1 ≤ s.vars.length
        omega
       ·show s.vars.length - (j + 1) < s.vars.length - j
        omega
      ·have hc6 := hc; clear hc
       have hc6' := of_decide_eq_false hc6
       refine wp_skip ?_
       refine then_n ?_
       obtain ⟨x9, hx9⟩ : ∃ z_ : ZI, ((List.range j).map (newV x c picks) ++ (x.vals.map clZ).drop j)[j]? = some z_ := ⟨_, List.getElem?_eq_getElem (by first | omega | (simp at *; omega))⟩
       refine rS fam0ok 11 [(4, .gen _ _ _ fun _ _ _ _ => Op.idxO (d := 84) (t := 81) (k := .i64) (n := 1) (len := (x.vals.map clZ).length) (i := j) tt_6 (by first | omega | (simp at *; omega)) (OV.tmp 82 _)), (5, .gen _ _ _ fun _ _ _ _ => Op.storeR (t := 84) (n := 1) (i := j) (fo := 0) (rty := 28) (es := 2) (r := ziD x9) (ds := [.raw (.bool (newAt x c j).neg), nsl (newAt x c j).abs]) (rs := [(83, vz (newAt x c j))]) (rows := ((List.range j).map (newV x c picks) ++ (x.vals.map clZ).drop j).map ziD) (rows' := (((List.range j).map (newV x c picks) ++ (x.vals.map clZ).drop j).set j (newAt x c j)).map ziD) ia_1 (OV.tmp 83 _) rfl rfl rfl (map_at hx9 (f := ziD)) (by simp [ziD]) (set_map (xs := ((List.range j).map (newV x c picks) ++ (x.vals.map clZ).drop j)) (F := ziD) j _ _ rfl))] [(3, .t (.c (.d (.sl 2 ((picks.drop (cntFree c j)).map ziD))))), (4, vp 5 0), (5, vp 6 0), (8, vp 7 0), (9, vb false), (10, vp 8 0), (12, vp 9 0), (52, vi .i64 (s.vars.length : Int)), (53, vi .i64 (j : Int))] [(5, .box (sysC s)), (6, .box [.d (.sl 1 (x.locs.map intD)), .d (.sl 2 (x.vals.map ziD))]), (7, .box [.d (.raw nilV), .d (.raw nilV)]), (8, .box ([.d (.raw (.int .i64 c.proc)), .d (.raw (.int .i64 c.from_)), .d (.raw (.int .i64 c.to_)), .d (.raw (.int .i64 c.guard.kind)), .d (.sl 3 (c.guard.r.t.parts.map Part.d))] ++ zi c.guard.r.t.k ++ [.d (.raw (.bool c.guard.r.eq)), .d (.sl 6 (c.guard.kids.map FormD.d)), .d (.sl 5 (c.moves.map MoveD.d))])), (0, .row 3 1 ((x.locs.set k c.to_).map intD)), (1, .row 28 2 ((((List.range j).map (newV x c picks) ++ (x.vals.map clZ).drop j).set j (newAt x c j)).map ziD)), (9, .box [.own 0 x.locs.length, .own 1 (x.vals.map clZ).length])] (by kernel_rfl) h ?_; clear h; intro a w h
       refine block_n ?_
       refine then_n ?_
       refine rS fam0ok 11 [(0, .add .i64 (m := (j : Int)) (n := 1) (i64_id (by omega) (by omega)))] [(3, .t (.c (.d (.sl 2 ((picks.drop (cntFree c j)).map ziD))))), (4, vp 5 0), (5, vp 6 0), (8, vp 7 0), (9, vb false), (10, vp 8 0), (12, vp 9 0), (52, vi .i64 (s.vars.length : Int)), (53, vi .i64 ((j : Int) + 1))] [(5, .box (sysC s)), (6, .box [.d (.sl 1 (x.locs.map intD)), .d (.sl 2 (x.vals.map ziD))]), (7, .box [.d (.raw nilV), .d (.raw nilV)]), (8, .box ([.d (.raw (.int .i64 c.proc)), .d (.raw (.int .i64 c.from_)), .d (.raw (.int .i64 c.to_)), .d (.raw (.int .i64 c.guard.kind)), .d (.sl 3 (c.guard.r.t.parts.map Part.d))] ++ zi c.guard.r.t.k ++ [.d (.raw (.bool c.guard.r.eq)), .d (.sl 6 (c.guard.kids.map FormD.d)), .d (.sl 5 (c.moves.map MoveD.d))])), (0, .row 3 1 ((x.locs.set k c.to_).map intD)), (1, .row 28 2 ((((List.range j).map (newV x c picks) ++ (x.vals.map clZ).drop j).set j (newAt x c j)).map ziD)), (9, .box [.own 0 x.locs.length, .own 1 (x.vals.map clZ).length])] (by kernel_rfl) h ?_; clear h; intro a w h
       refine then_n ?_
       replace h := h.conv (f' := F.of [(3, .t (.c (.d (.sl 2 ((picks.drop (cntFree c j)).map ziD))))), (4, vp 5 0), (5, vp 6 0), (8, vp 7 0), (9, vb false), (10, vp 8 0), (12, vp 9 0), (52, vi .i64 (s.vars.length : Int)), (53, vi .i64 ((j : Int) + 1))] [(5, .box (sysC s)), (6, .box [.d (.sl 1 (x.locs.map intD)), .d (.sl 2 (x.vals.map ziD))]), (7, .box [.d (.raw nilV), .d (.raw nilV)]), (8, .box ([.d (.raw (.int .i64 c.proc)), .d (.raw (.int .i64 c.from_)), .d (.raw (.int .i64 c.to_)), .d (.raw (.int .i64 c.guard.kind)), .d (.sl 3 (c.guard.r.t.parts.map Part.d))] ++ zi c.guard.r.t.k ++ [.d (.raw (.bool c.guard.r.eq)), .d (.sl 6 (c.guard.kids.map FormD.d)), .d (.sl 5 (c.moves.map MoveD.d))])), (0, .row 3 1 ((x.locs.set k c.to_).map intD)), (1, .row 28 2 (((List.range (j + 1)).map (newV x c picks) ++ (x.vals.map clZ).drop (j + 1)).map ziD)), (9, .box [.own 0 x.locs.length, .own 1 (x.vals.map clZ).length])]) (congrArg (fun (z_ : List ZI) => F.of [(3, .t (.c (.d (.sl 2 ((picks.drop (cntFree c j)).map ziD))))), (4, vp 5 0), (5, vp 6 0), (8, vp 7 0), (9, vb false), (10, vp 8 0), (12, vp 9 0), (52, vi .i64 (s.vars.length : Int)), (53, vi .i64 ((j : Int) + 1))] [(5, .box (sysC s)), (6, .box [.d (.sl 1 (x.locs.map intD)), .d (.sl 2 (x.vals.map ziD))]), (7, .box [.d (.raw nilV), .d (.raw nilV)]), (8, .box ([.d (.raw (.int .i64 c.proc)), .d (.raw (.int .i64 c.from_)), .d (.raw (.int .i64 c.to_)), .d (.raw (.int .i64 c.guard.kind)), .d (.sl 3 (c.guard.r.t.parts.map Part.d))] ++ zi c.guard.r.t.k ++ [.d (.raw (.bool c.guard.r.eq)), .d (.sl 6 (c.guard.kids.map FormD.d)), .d (.sl 5 (c.moves.map MoveD.d))])), (0, .row 3 1 ((x.locs.set k c.to_).map intD)), (1, .row 28 2 (z_.map ziD)), (9, .box [.own 0 x.locs.length, .own 1 (x.vals.map clZ).length])]) (show ((((List.range j).map (newV x c picks) ++ (x.vals.map clZ).drop j).set j (newAt x c j)) : List ZI) = ((List.range (j + 1)).map (newV x c picks) ++ (x.vals.map clZ).drop (j + 1)) from (range_set (by rw [List.length_map]; omega) (by rw [newV_out hc4 (of_decide_eq_false hc6)]; exact free_new hc4))))
       replace h := h.conv (f' := F.of [(3, .t (.c (.d (.sl 2 ((picks.drop (cntFree c (j + 1))).map ziD))))), (4, vp 5 0), (5, vp 6 0), (8, vp 7 0), (9, vb false), (10, vp 8 0), (12, vp 9 0), (52, vi .i64 (s.vars.length : Int)), (53, vi .i64 ((j : Int) + 1))] [(5, .box (sysC s)), (6, .box [.d (.sl 1 (x.locs.map intD)), .d (.sl 2 (x.vals.map ziD))]), (7, .box [.d (.raw nilV), .d (.raw nilV)]), (8, .box ([.d (.raw (.int .i64 c.proc)), .d (.raw (.int .i64 c.from_)), .d (.raw (.int .i64 c.to_)), .d (.raw (.int .i64 c.guard.kind)), .d (.sl 3 (c.guard.r.t.parts.map Part.d))] ++ zi c.guard.r.t.k ++ [.d (.raw (.bool c.guard.r.eq)), .d (.sl 6 (c.guard.kids.map FormD.d)), .d (.sl 5 (c.moves.map MoveD.d))])), (0, .row 3 1 ((x.locs.set k c.to_).map intD)), (1, .row 28 2 (((List.range (j + 1)).map (newV x c picks) ++ (x.vals.map clZ).drop (j + 1)).map ziD)), (9, .box [.own 0 x.locs.length, .own 1 (x.vals.map clZ).length])]) (congrArg (fun (z_ : List ZI) => F.of [(3, .t (.c (.d (.sl 2 (z_.map ziD))))), (4, vp 5 0), (5, vp 6 0), (8, vp 7 0), (9, vb false), (10, vp 8 0), (12, vp 9 0), (52, vi .i64 (s.vars.length : Int)), (53, vi .i64 ((j : Int) + 1))] [(5, .box (sysC s)), (6, .box [.d (.sl 1 (x.locs.map intD)), .d (.sl 2 (x.vals.map ziD))]), (7, .box [.d (.raw nilV), .d (.raw nilV)]), (8, .box ([.d (.raw (.int .i64 c.proc)), .d (.raw (.int .i64 c.from_)), .d (.raw (.int .i64 c.to_)), .d (.raw (.int .i64 c.guard.kind)), .d (.sl 3 (c.guard.r.t.parts.map Part.d))] ++ zi c.guard.r.t.k ++ [.d (.raw (.bool c.guard.r.eq)), .d (.sl 6 (c.guard.kids.map FormD.d)), .d (.sl 5 (c.moves.map MoveD.d))])), (0, .row 3 1 ((x.locs.set k c.to_).map intD)), (1, .row 28 2 (((List.range (j + 1)).map (newV x c picks) ++ (x.vals.map clZ).drop (j + 1)).map ziD)), (9, .box [.own 0 x.locs.length, .own 1 (x.vals.map clZ).length])]) (show ((picks.drop (cntFree c j)) : List ZI) = (picks.drop (cntFree c (j + 1))) from (by rw [cnt_free hc4]; have := of_decide_eq_false hc6; rw [List.length_drop] at this; rw [List.drop_of_length_le (by omega), List.drop_of_length_le (by omega)])))
       refine roundS (x := j) (y := j + 1) h ?_ ?_ (by kernel_rfl) (by kernel_rfl)
       ·show j + 1 ≤ s.vars.length
        omega
       ·show s.vars.length - (j + 1) < s.vars.length - j
        omega
     ·have hc7 := hc; clear hc
      rw [hc7] at h
      refine rSeq fam0ok 11 [] [(3, .t (.c (.d (.sl 2 ((picks.drop (cntFree c j)).map ziD))))), (4, vp 5 0), (5, vp 6 0), (8, vp 7 0), (9, vb false), (10, vp 8 0), (12, vp 9 0), (13, vi .i64 (j : Int)), (14, vp 10 0), (52, vi .i64 (s.vars.length : Int)), (53, vi .i64 (j : Int)), (68, vb false)] [(5, .box (sysC s)), (6, .box [.d (.sl 1 (x.locs.map intD)), .d (.sl 2 (x.vals.map ziD))]), (7, .box [.d (.raw nilV), .d (.raw nilV)]), (8, .box ([.d (.raw (.int .i64 c.proc)), .d (.raw (.int .i64 c.from_)), .d (.raw (.int .i64 c.to_)), .d (.raw (.int .i64 c.guard.kind)), .d (.sl 3 (c.guard.r.t.parts.map Part.d))] ++ zi c.guard.r.t.k ++ [.d (.raw (.bool c.guard.r.eq)), .d (.sl 6 (c.guard.kids.map FormD.d)), .d (.sl 5 (c.moves.map MoveD.d))])), (0, .row 3 1 ((x.locs.set k c.to_).map intD)), (1, .row 28 2 (((List.range j).map (newV x c picks) ++ (x.vals.map clZ).drop j).map ziD)), (9, .box [.own 0 x.locs.length, .own 1 (x.vals.map clZ).length]), (10, .box (zi (newAt x c j)))] (by kernel_rfl) h ?_; clear h; intro a w h
      refine condS false h rfl (fun hc => ?_) (fun hc => ?_)
      ·cases hc
      ·clear hc
       refine wp_skip ?_
       refine then_n ?_
       obtain ⟨x10, hx10⟩ : ∃ z_ : ZI, ((List.range j).map (newV x c picks) ++ (x.vals.map clZ).drop j)[j]? = some z_ := ⟨_, List.getElem?_eq_getElem (by first | omega | (simp at *; omega))⟩
       refine rS fam0ok 11 [(4, .gen _ _ _ fun _ _ _ _ => Op.idxO (d := 84) (t := 81) (k := .i64) (n := 1) (len := (x.vals.map clZ).length) (i := j) tt_6 (by first | omega | (simp at *; omega)) (OV.tmp 82 _)), (5, .gen _ _ _ fun _ _ _ _ => Op.storeR (t := 84) (n := 1) (i := j) (fo := 0) (rty := 28) (es := 2) (r := ziD x10) (ds := [.raw (.bool (newAt x c j).neg), nsl (newAt x c j).abs]) (rs := [(83, vz (newAt x c j))]) (rows := ((List.range j).map (newV x c picks) ++ (x.vals.map clZ).drop j).map ziD) (rows' := (((List.range j).map (newV x c picks) ++ (x.vals.map clZ).drop j).set j (newAt x c j)).map ziD) ia_1 (OV.tmp 83 _) rfl rfl rfl (map_at hx10 (f := ziD)) (by simp [ziD]) (set_map (xs := ((List.range j).map (newV x c picks) ++ (x.vals.map clZ).drop j)) (F := ziD) j _ _ rfl))] [(3, .t (.c (.d (.sl 2 ((picks.drop (cntFree c j)).map ziD))))), (4, vp 5 0), (5, vp 6 0), (8, vp 7 0), (9, vb false), (10, vp 8 0), (12, vp 9 0), (52, vi .i64 (s.vars.length : Int)), (53, vi .i64 (j : Int))] [(5, .box (sysC s)), (6, .box [.d (.sl 1 (x.locs.map intD)), .d (.sl 2 (x.vals.map ziD))]), (7, .box [.d (.raw nilV), .d (.raw nilV)]), (8, .box ([.d (.raw (.int .i64 c.proc)), .d (.raw (.int .i64 c.from_)), .d (.raw (.int .i64 c.to_)), .d (.raw (.int .i64 c.guard.kind)), .d (.sl 3 (c.guard.r.t.parts.map Part.d))] ++ zi c.guard.r.t.k ++ [.d (.raw (.bool c.guard.r.eq)), .d (.sl 6 (c.guard.kids.map FormD.d)), .d (.sl 5 (c.moves.map MoveD.d))])), (0, .row 3 1 ((x.locs.set k c.to_).map intD)), (1, .row 28 2 ((((List.range j).map (newV x c picks) ++ (x.vals.map clZ).drop j).set j (newAt x c j)).map ziD)), (9, .box [.own 0 x.locs.length, .own 1 (x.vals.map clZ).length])] (by kernel_rfl) h ?_; clear h; intro a w h
       refine block_n ?_
       refine then_n ?_
       refine rS fam0ok 11 [(0, .add .i64 (m := (j : Int)) (n := 1) (i64_id (by omega) (by omega)))] [(3, .t (.c (.d (.sl 2 ((picks.drop (cntFree c j)).map ziD))))), (4, vp 5 0), (5, vp 6 0), (8, vp 7 0), (9, vb false), (10, vp 8 0), (12, vp 9 0), (52, vi .i64 (s.vars.length : Int)), (53, vi .i64 ((j : Int) + 1))] [(5, .box (sysC s)), (6, .box [.d (.sl 1 (x.locs.map intD)), .d (.sl 2 (x.vals.map ziD))]), (7, .box [.d (.raw nilV), .d (.raw nilV)]), (8, .box ([.d (.raw (.int .i64 c.proc)), .d (.raw (.int .i64 c.from_)), .d (.raw (.int .i64 c.to_)), .d (.raw (.int .i64 c.guard.kind)), .d (.sl 3 (c.guard.r.t.parts.map Part.d))] ++ zi c.guard.r.t.k ++ [.d (.raw (.bool c.guard.r.eq)), .d (.sl 6 (c.guard.kids.map FormD.d)), .d (.sl 5 (c.moves.map MoveD.d))])), (0, .row 3 1 ((x.locs.set k c.to_).map intD)), (1, .row 28 2 ((((List.range j).map (newV x c picks) ++ (x.vals.map clZ).drop j).set j (newAt x c j)).map ziD)), (9, .box [.own 0 x.locs.length, .own 1 (x.vals.map clZ).length])] (by kernel_rfl) h ?_; clear h; intro a w h
       refine then_n ?_
       replace h := h.conv (f' := F.of [(3, .t (.c (.d (.sl 2 ((picks.drop (cntFree c j)).map ziD))))), (4, vp 5 0), (5, vp 6 0), (8, vp 7 0), (9, vb false), (10, vp 8 0), (12, vp 9 0), (52, vi .i64 (s.vars.length : Int)), (53, vi .i64 ((j : Int) + 1))] [(5, .box (sysC s)), (6, .box [.d (.sl 1 (x.locs.map intD)), .d (.sl 2 (x.vals.map ziD))]), (7, .box [.d (.raw nilV), .d (.raw nilV)]), (8, .box ([.d (.raw (.int .i64 c.proc)), .d (.raw (.int .i64 c.from_)), .d (.raw (.int .i64 c.to_)), .d (.raw (.int .i64 c.guard.kind)), .d (.sl 3 (c.guard.r.t.parts.map Part.d))] ++ zi c.guard.r.t.k ++ [.d (.raw (.bool c.guard.r.eq)), .d (.sl 6 (c.guard.kids.map FormD.d)), .d (.sl 5 (c.moves.map MoveD.d))])), (0, .row 3 1 ((x.locs.set k c.to_).map intD)), (1, .row 28 2 (((List.range (j + 1)).map (newV x c picks) ++ (x.vals.map clZ).drop (j + 1)).map ziD)), (9, .box [.own 0 x.locs.length, .own 1 (x.vals.map clZ).length])]) (congrArg (fun (z_ : List ZI) => F.of [(3, .t (.c (.d (.sl 2 ((picks.drop (cntFree c j)).map ziD))))), (4, vp 5 0), (5, vp 6 0), (8, vp 7 0), (9, vb false), (10, vp 8 0), (12, vp 9 0), (52, vi .i64 (s.vars.length : Int)), (53, vi .i64 ((j : Int) + 1))] [(5, .box (sysC s)), (6, .box [.d (.sl 1 (x.locs.map intD)), .d (.sl 2 (x.vals.map ziD))]), (7, .box [.d (.raw nilV), .d (.raw nilV)]), (8, .box ([.d (.raw (.int .i64 c.proc)), .d (.raw (.int .i64 c.from_)), .d (.raw (.int .i64 c.to_)), .d (.raw (.int .i64 c.guard.kind)), .d (.sl 3 (c.guard.r.t.parts.map Part.d))] ++ zi c.guard.r.t.k ++ [.d (.raw (.bool c.guard.r.eq)), .d (.sl 6 (c.guard.kids.map FormD.d)), .d (.sl 5 (c.moves.map MoveD.d))])), (0, .row 3 1 ((x.locs.set k c.to_).map intD)), (1, .row 28 2 (z_.map ziD)), (9, .box [.own 0 x.locs.length, .own 1 (x.vals.map clZ).length])]) (show ((((List.range j).map (newV x c picks) ++ (x.vals.map clZ).drop j).set j (newAt x c j)) : List ZI) = ((List.range (j + 1)).map (newV x c picks) ++ (x.vals.map clZ).drop (j + 1)) from (range_set (by rw [List.length_map]; omega) (newV_new hc7).symm)))
       replace h := h.conv (f' := F.of [(3, .t (.c (.d (.sl 2 ((picks.drop (cntFree c (j + 1))).map ziD))))), (4, vp 5 0), (5, vp 6 0), (8, vp 7 0), (9, vb false), (10, vp 8 0), (12, vp 9 0), (52, vi .i64 (s.vars.length : Int)), (53, vi .i64 ((j : Int) + 1))] [(5, .box (sysC s)), (6, .box [.d (.sl 1 (x.locs.map intD)), .d (.sl 2 (x.vals.map ziD))]), (7, .box [.d (.raw nilV), .d (.raw nilV)]), (8, .box ([.d (.raw (.int .i64 c.proc)), .d (.raw (.int .i64 c.from_)), .d (.raw (.int .i64 c.to_)), .d (.raw (.int .i64 c.guard.kind)), .d (.sl 3 (c.guard.r.t.parts.map Part.d))] ++ zi c.guard.r.t.k ++ [.d (.raw (.bool c.guard.r.eq)), .d (.sl 6 (c.guard.kids.map FormD.d)), .d (.sl 5 (c.moves.map MoveD.d))])), (0, .row 3 1 ((x.locs.set k c.to_).map intD)), (1, .row 28 2 (((List.range (j + 1)).map (newV x c picks) ++ (x.vals.map clZ).drop (j + 1)).map ziD)), (9, .box [.own 0 x.locs.length, .own 1 (x.vals.map clZ).length])]) (congrArg (fun (z_ : List ZI) => F.of [(3, .t (.c (.d (.sl 2 (z_.map ziD))))), (4, vp 5 0), (5, vp 6 0), (8, vp 7 0), (9, vb false), (10, vp 8 0), (12, vp 9 0), (52, vi .i64 (s.vars.length : Int)), (53, vi .i64 ((j : Int) + 1))] [(5, .box (sysC s)), (6, .box [.d (.sl 1 (x.locs.map intD)), .d (.sl 2 (x.vals.map ziD))]), (7, .box [.d (.raw nilV), .d (.raw nilV)]), (8, .box ([.d (.raw (.int .i64 c.proc)), .d (.raw (.int .i64 c.from_)), .d (.raw (.int .i64 c.to_)), .d (.raw (.int .i64 c.guard.kind)), .d (.sl 3 (c.guard.r.t.parts.map Part.d))] ++ zi c.guard.r.t.k ++ [.d (.raw (.bool c.guard.r.eq)), .d (.sl 6 (c.guard.kids.map FormD.d)), .d (.sl 5 (c.moves.map MoveD.d))])), (0, .row 3 1 ((x.locs.set k c.to_).map intD)), (1, .row 28 2 (((List.range (j + 1)).map (newV x c picks) ++ (x.vals.map clZ).drop (j + 1)).map ziD)), (9, .box [.own 0 x.locs.length, .own 1 (x.vals.map clZ).length])]) (show ((picks.drop (cntFree c j)) : List ZI) = (picks.drop (cntFree c (j + 1))) from (by rw [cnt_kept hc7])))
       refine roundS (x := j) (y := j + 1) h ?_ ?_ (by kernel_rfl) (by kernel_rfl)
       ·show j + 1 ≤ s.vars.length
        omega
       ·show s.vars.length - (j + 1) < s.vars.length - j
        omega
    ·have hc8 := hc; clear hc
     have hc8' := of_decide_eq_false hc8
     refine wp_exit ?_
     refine then_x ?_
     refine then_x ?_
     refine inBlock_exit ?_
     refine then_n ?_
     refine wp_seq ?_
     replace h := pubS 0 1 3 ((x.locs.set k c.to_).map intD) [(3, .t (.c (.d (.sl 2 ((picks.drop (cntFree c j)).map ziD))))), (4, vp 5 0), (5, vp 6 0), (8, vp 7 0), (9, vb false), (10, vp 8 0), (12, vp 9 0), (52, vi .i64 (s.vars.length : Int)), (53, vi .i64 (j : Int)), (54, vb (decide ((j : Int) < (s.vars.length : Int))))] [(5, .box (sysC s)), (6, .box [.d (.sl 1 (x.locs.map intD)), .d (.sl 2 (x.vals.map ziD))]), (7, .box [.d (.raw nilV), .d (.raw nilV)]), (8, .box ([.d (.raw (.int .i64 c.proc)), .d (.raw (.int .i64 c.from_)), .d (.raw (.int .i64 c.to_)), .d (.raw (.int .i64 c.guard.kind)), .d (.sl 3 (c.guard.r.t.parts.map Part.d))] ++ zi c.guard.r.t.k ++ [.d (.raw (.bool c.guard.r.eq)), .d (.sl 6 (c.guard.kids.map FormD.d)), .d (.sl 5 (c.moves.map MoveD.d))])), (1, .row 28 2 (((List.range j).map (newV x c picks) ++ (x.vals.map clZ).drop j).map ziD)), (9, .box [.d (.sl 1 ((x.locs.set k c.to_).map intD)), .own 1 (x.vals.map clZ).length])] h rfl trivial (show AllEq _ [x.locs.length] from ⟨by first | exact (List.length_map _).symm | (simp; done) | (simp; omega), trivial⟩) (by kernel_rfl) (by kernel_rfl)
     replace h := pubS 1 2 28 (((List.range j).map (newV x c picks) ++ (x.vals.map clZ).drop j).map ziD) [(3, .t (.c (.d (.sl 2 ((picks.drop (cntFree c j)).map ziD))))), (4, vp 5 0), (5, vp 6 0), (8, vp 7 0), (9, vb false), (10, vp 8 0), (12, vp 9 0), (52, vi .i64 (s.vars.length : Int)), (53, vi .i64 (j : Int)), (54, vb (decide ((j : Int) < (s.vars.length : Int))))] [(5, .box (sysC s)), (6, .box [.d (.sl 1 (x.locs.map intD)), .d (.sl 2 (x.vals.map ziD))]), (7, .box [.d (.raw nilV), .d (.raw nilV)]), (8, .box ([.d (.raw (.int .i64 c.proc)), .d (.raw (.int .i64 c.from_)), .d (.raw (.int .i64 c.to_)), .d (.raw (.int .i64 c.guard.kind)), .d (.sl 3 (c.guard.r.t.parts.map Part.d))] ++ zi c.guard.r.t.k ++ [.d (.raw (.bool c.guard.r.eq)), .d (.sl 6 (c.guard.kids.map FormD.d)), .d (.sl 5 (c.moves.map MoveD.d))])), (9, .box ([.d (.sl 1 ((x.locs.set k c.to_).map intD)), .d (.sl 2 (((List.range j).map (newV x c picks) ++ (x.vals.map clZ).drop j).map ziD))]))] h rfl trivial (show AllEq _ [(x.vals.map clZ).length] from ⟨by first | exact (List.length_map _).symm | (simp; done) | (simp; omega), trivial⟩) (by kernel_rfl) (by kernel_rfl)
     replace h := h.conv (f' := F.of [(3, .t (.c (.d (.sl 2 ((picks.drop (cntFree c j)).map ziD))))), (4, vp 5 0), (5, vp 6 0), (8, vp 7 0), (9, vb false), (10, vp 8 0), (12, vp 9 0), (52, vi .i64 (s.vars.length : Int)), (53, vi .i64 (j : Int)), (54, vb (decide ((j : Int) < (s.vars.length : Int))))] [(5, .box (sysC s)), (6, .box [.d (.sl 1 (x.locs.map intD)), .d (.sl 2 (x.vals.map ziD))]), (7, .box [.d (.raw nilV), .d (.raw nilV)]), (8, .box ([.d (.raw (.int .i64 c.proc)), .d (.raw (.int .i64 c.from_)), .d (.raw (.int .i64 c.to_)), .d (.raw (.int .i64 c.guard.kind)), .d (.sl 3 (c.guard.r.t.parts.map Part.d))] ++ zi c.guard.r.t.k ++ [.d (.raw (.bool c.guard.r.eq)), .d (.sl 6 (c.guard.kids.map FormD.d)), .d (.sl 5 (c.moves.map MoveD.d))])), (9, .box ([.d (.sl 1 ((outS s x c picks).locs.map intD)), .d (.sl 2 (((List.range j).map (newV x c picks) ++ (x.vals.map clZ).drop j).map ziD))]))]) (congrArg (fun (z_ : List Int) => F.of [(3, .t (.c (.d (.sl 2 ((picks.drop (cntFree c j)).map ziD))))), (4, vp 5 0), (5, vp 6 0), (8, vp 7 0), (9, vb false), (10, vp 8 0), (12, vp 9 0), (52, vi .i64 (s.vars.length : Int)), (53, vi .i64 (j : Int)), (54, vb (decide ((j : Int) < (s.vars.length : Int))))] [(5, .box (sysC s)), (6, .box [.d (.sl 1 (x.locs.map intD)), .d (.sl 2 (x.vals.map ziD))]), (7, .box [.d (.raw nilV), .d (.raw nilV)]), (8, .box ([.d (.raw (.int .i64 c.proc)), .d (.raw (.int .i64 c.from_)), .d (.raw (.int .i64 c.to_)), .d (.raw (.int .i64 c.guard.kind)), .d (.sl 3 (c.guard.r.t.parts.map Part.d))] ++ zi c.guard.r.t.k ++ [.d (.raw (.bool c.guard.r.eq)), .d (.sl 6 (c.guard.kids.map FormD.d)), .d (.sl 5 (c.moves.map MoveD.d))])), (9, .box ([.d (.sl 1 (z_.map intD)), .d (.sl 2 (((List.range j).map (newV x c picks) ++ (x.vals.map clZ).drop j).map ziD))]))]) (show ((x.locs.set k c.to_) : List Int) = (outS s x c picks).locs from (by show _ = x.locs.set c.proc.toNat c.to_; rw [show c.proc.toNat = k by omega])))
     replace h := h.conv (f' := F.of [(3, .t (.c (.d (.sl 2 ((picks.drop (cntFree c j)).map ziD))))), (4, vp 5 0), (5, vp 6 0), (8, vp 7 0), (9, vb false), (10, vp 8 0), (12, vp 9 0), (52, vi .i64 (s.vars.length : Int)), (53, vi .i64 (j : Int)), (54, vb (decide ((j : Int) < (s.vars.length : Int))))] [(5, .box (sysC s)), (6, .box [.d (.sl 1 (x.locs.map intD)), .d (.sl 2 (x.vals.map ziD))]), (7, .box [.d (.raw nilV), .d (.raw nilV)]), (8, .box ([.d (.raw (.int .i64 c.proc)), .d (.raw (.int .i64 c.from_)), .d (.raw (.int .i64 c.to_)), .d (.raw (.int .i64 c.guard.kind)), .d (.sl 3 (c.guard.r.t.parts.map Part.d))] ++ zi c.guard.r.t.k ++ [.d (.raw (.bool c.guard.r.eq)), .d (.sl 6 (c.guard.kids.map FormD.d)), .d (.sl 5 (c.moves.map MoveD.d))])), (9, .box [.d (.sl 1 ((outS s x c picks).locs.map intD)), .d (.sl 2 ((outS s x c picks).vals.map ziD))])]) (congrArg (fun (z_ : List ZI) => F.of [(3, .t (.c (.d (.sl 2 ((picks.drop (cntFree c j)).map ziD))))), (4, vp 5 0), (5, vp 6 0), (8, vp 7 0), (9, vb false), (10, vp 8 0), (12, vp 9 0), (52, vi .i64 (s.vars.length : Int)), (53, vi .i64 (j : Int)), (54, vb (decide ((j : Int) < (s.vars.length : Int))))] [(5, .box (sysC s)), (6, .box [.d (.sl 1 (x.locs.map intD)), .d (.sl 2 (x.vals.map ziD))]), (7, .box [.d (.raw nilV), .d (.raw nilV)]), (8, .box ([.d (.raw (.int .i64 c.proc)), .d (.raw (.int .i64 c.from_)), .d (.raw (.int .i64 c.to_)), .d (.raw (.int .i64 c.guard.kind)), .d (.sl 3 (c.guard.r.t.parts.map Part.d))] ++ zi c.guard.r.t.k ++ [.d (.raw (.bool c.guard.r.eq)), .d (.sl 6 (c.guard.kids.map FormD.d)), .d (.sl 5 (c.moves.map MoveD.d))])), (9, .box [.d (.sl 1 ((outS s x c picks).locs.map intD)), .d (.sl 2 (z_.map ziD))])]) (show (((List.range j).map (newV x c picks) ++ (x.vals.map clZ).drop j) : List ZI) = (outS s x c picks).vals from (by rw [show j = s.vars.length by omega, range_end (by rw [List.length_map]; omega)]; rfl)))
     refine rSeq fam0ok 11 [(2, .call (SFits s (outS s x c picks) (L := L) (M := L + M + 2) (by omega) hs (outS_ok hs hx hc hp)) kg_9)] [(8, vp 7 0), (9, vb false), (12, vp 9 0), (89, vb (!(fits s (outS s x c picks))))] [(7, .box [.d (.raw nilV), .d (.raw nilV)]), (9, .box [.d (.sl 1 ((outS s x c picks).locs.map intD)), .d (.sl 2 ((outS s x c picks).vals.map ziD))])] (by kernel_rfl) h ?_; clear h; intro a w h
     refine condS (!(fits s (outS s x c picks))) h rfl (fun hc => ?_) (fun hc => ?_)
     ·have hc9 := hc; clear hc
      have hc9' := hc9; (try simp at hc9')
      refine rSeq fam0ok 11 [] [(8, vp 7 0), (9, vb false), (12, vp 9 0)] [(7, .box [.d (.raw nilV), .d (.raw nilV)]), (9, .box [.d (.sl 1 ((outS s x c picks).locs.map intD)), .d (.sl 2 ((outS s x c picks).vals.map ziD))])] (by kernel_rfl) h ?_; clear h; intro a w h
      refine wp_ret ?_
      refine then_r ?_
      replace h := nilDLs 7 0 1 [.d (.raw nilV), .d (.raw nilV)] [(8, vp 7 0), (9, vb false), (12, vp 9 0)] [(7, .box [.d (.sl 1 ([].map intD)), .d (.raw nilV)]), (9, .box [.d (.sl 1 ((outS s x c picks).locs.map intD)), .d (.sl 2 ((outS s x c picks).vals.map ziD))])] h rfl rfl (by kernel_rfl) (by kernel_rfl)
      replace h := nilDLs 7 1 2 [.d (.sl 1 ([].map intD)), .d (.raw nilV)] [(8, vp 7 0), (9, vb false), (12, vp 9 0)] [(7, .box [.d (.sl 1 ([].map intD)), .d (.sl 2 ([].map ziD))]), (9, .box [.d (.sl 1 ((outS s x c picks).locs.map intD)), .d (.sl 2 ((outS s x c picks).vals.map ziD))])] h rfl rfl (by kernel_rfl) (by kernel_rfl)
      refine retS [.agg [.d (.sl 1 ([].map intD)), .d (.sl 2 ([].map ziD))], .c (.d (.raw (.bool false)))] h Exit.ret (.inl rfl)  rfl ⟨RV.agg _ 7 0 _ _ _ _ kk_5 rfl rfl rfl rfl, RV.tmp _ _ rfl, trivial⟩ ?_ (by kernel_rfl) (by kernel_rfl)
      have hz : goC s x c picks = (st0, false) := by unfold goC; rw [if_neg (fun h => by have := h.2; rw [(show (fits s (outS s x c picks)) = false from by simpa using hc9)] at this; cases this)]
      rw [hz]; first | done | rfl
     ·have hc10 := hc; clear hc
      have hc10' := hc10; (try simp at hc10')
      refine wp_skip ?_
      refine then_n ?_
      refine rSeq fam0ok 11 [] [(8, vp 7 0), (9, vb true)] [(7, .box [.d (.sl 1 ((outS s x c picks).locs.map intD)), .d (.sl 2 ((outS s x c picks).vals.map ziD))])] (by kernel_rfl) h ?_; clear h; intro a w h
      refine wp_ret ?_
      refine retS [.agg [.d (.sl 1 ((outS s x c picks).locs.map intD)), .d (.sl 2 ((outS s x c picks).vals.map ziD))], .c (.d (.raw (.bool true)))] h Exit.ret (.inl rfl)  rfl ⟨RV.agg _ 7 0 _ _ _ _ kk_5 rfl rfl rfl rfl, RV.tmp _ _ rfl, trivial⟩ ?_ (by kernel_rfl) (by kernel_rfl)
      have hz : goC s x c picks = (outS s x c picks, true) := by unfold goC; rw [if_pos ⟨(show (enabled s x c) = true from by simpa using hc2), (show (fits s (outS s x c picks)) = true from by simpa using hc10)⟩]
      rw [hz]; first | done | rfl
end Go.Proofs.Ytmohlifepfjmdaa.S
end
section
namespace Go.Proofs.Ytmohlifepfjmdaa.S
open Go.RowKit

theorem km_1 : Bodied Try.prog 13 := Bodied.mk' (by kernel_rfl)
theorem km_9 : Bodied Try.prog 8 := Bodied.mk' (by kernel_rfl)
def picksOf (y : StD) (c : ActD) : Nat → List ZI
  | 0 => []
  | v + 1 => if freeAt c v = true then picksOf y c v ++ [(y.vals[v]?).getD zero0] else picksOf y c v
def leadsC (s : SysD) (x : StD) (c : ActD) (y : StD) : Bool := (enabled s x c && fits s y) && ((goC s x c (picksOf y c s.vars.length)).2 && sameS y (goC s x c (picksOf y c s.vars.length)).1)
def leads (s : SysD) (x : StD) (i : Int) (y : StD) : Bool := if i = -1 then stuck s x && sameS x y else match actAt s i with | none => false | some c => leadsC s x c y
theorem picks_ok {M : Nat} {y : StD} (hy : StOk M y) (c : ActD) : ∀ n, ∀ z ∈ picksOf y c n, ZOk M z
 | 0, z, hz => by cases hz
 | n + 1, z, hz => by
  rw [picksOf] at hz
  split at hz
  ·rcases List.mem_append.1 hz with h | h
   ·exact picks_ok hy c n z h
   ·rw [List.mem_singleton.1 h]
    cases hv : y.vals[n]? with
    | none => exact ZOk.zero
    | some q => exact hy.val q (List.mem_of_getElem? hv)
  ·exact picks_ok hy c n z hz
theorem st0_ok {M : Nat} : StOk M st0 := ⟨Nat.zero_le _, Nat.zero_le _, fun z hz => (by cases hz)⟩
theorem goC_ok {L M : Nat} {s : SysD} {x : StD} {c : ActD} {picks : List ZI} (hs : SysOk L s) (hx : StOk M x) (hc : ActOk L c) (hp : ∀ z ∈ picks, ZOk M z) : StOk (L + M + 2) (goC s x c picks).1 := by
 unfold goC; split
 ·exact outS_ok hs hx hc hp
 ·exact st0_ok
theorem picks_free {y : StD} {c : ActD} {v : Nat} {q : ZI} (h : freeAt c v = true) (hq : y.vals[v]? = some q) : picksOf y c v ++ [q] = picksOf y c (v + 1) := by rw [picksOf, if_pos h, hq]; rfl
theorem picks_kept {y : StD} {c : ActD} {v : Nat} (h : freeAt c v = false) : picksOf y c v = picksOf y c (v + 1) := by rw [picksOf, if_neg (by rw [h]; exact Bool.noConfusion)]
set_option maxHeartbeats 4000000 in
theorem SLeads1 (s : SysD) (x y : StD) {L M : Nat} (hL : L + M ≤ 4000) (hs : SysOk L s) (hx : StOk M x) (hy : StOk M y) : Fn Try.prog 11 [] [.t (.agg (sysC s)), .t (.agg [.d (.sl 1 (x.locs.map intD)), .d (.sl 2 (x.vals.map ziD))]), vi .i64 (-1), .t (.agg [.d (.sl 1 (y.locs.map intD)), .d (.sl 2 (y.vals.map ziD))])] (vb (stuck s x && sameS x y)) [] := by
 refine Fn.body Try.func11 rfl 84 rfl fun w H B a h => ?_
 refine rSeq fam0ok 0 [] [(2, vi .i64 (-1)), (4, vp 0 0), (5, vp 1 0), (7, vp 2 0), (8, vb false)] [(0, .box (sysC s)), (1, .box [.d (.sl 1 (x.locs.map intD)), .d (.sl 2 (x.vals.map ziD))]), (2, .box [.d (.sl 1 (y.locs.map intD)), .d (.sl 2 (y.vals.map ziD))])] (by kernel_rfl) h ?_; clear h; intro a w h
 refine wp_seq ?_
 refine rSeq fam0ok 3 [(1, .cmp (op := .eql) (m := (-1)) (n := (-1)) (b := true) .i64 rfl)] [(2, vi .i64 (-1)), (4, vp 0 0), (5, vp 1 0), (7, vp 2 0), (8, vb false), (17, vb true)] [(0, .box (sysC s)), (1, .box [.d (.sl 1 (x.locs.map intD)), .d (.sl 2 (x.vals.map ziD))]), (2, .box [.d (.sl 1 (y.locs.map intD)), .d (.sl 2 (y.vals.map ziD))])] (by kernel_rfl) h ?_; clear h; intro a w h
 refine condS true h rfl (fun hc => ?_) (fun hc => ?_)
 ·clear hc
  rcases Bool.eq_false_or_eq_true (stuck s x) with hc | hc
  ·have hc1 := hc; clear hc
   refine rSeq fam0ok 3 [(2, .call (Fn.cast (SStuck s x hL hs hx) (congrArg vb hc1)) kl_0), (6, .call (SSame x y (M := M) (by omega) hx hy) km_1)] [(2, vi .i64 (-1)), (4, vp 0 0), (5, vp 1 0), (7, vp 2 0), (8, vb (sameS x y))] [(0, .box (sysC s)), (1, .box [.d (.sl 1 (x.locs.map intD)), .d (.sl 2 (x.vals.map ziD))]), (2, .box [.d (.sl 1 (y.locs.map intD)), .d (.sl 2 (y.vals.map ziD))])] (by kernel_rfl) h ?_; clear h; intro a w h
   refine wp_ret ?_
   refine then_r ?_
   refine retS [.c (.d (.raw (.bool (sameS x y))))] h Exit.ret (.inl rfl)  rfl ⟨RV.tmp _ _ rfl, trivial⟩ ?_ (by kernel_rfl) (by kernel_rfl)
   rw [hc1]; first | done | rfl
  ·have hc2 := hc; clear hc
   refine rSeq fam0ok 3 [(2, .call (Fn.cast (SStuck s x hL hs hx) (congrArg vb hc2)) kl_0)] [(2, vi .i64 (-1)), (4, vp 0 0), (5, vp 1 0), (7, vp 2 0), (8, vb false)] [(0, .box (sysC s)), (1, .box [.d (.sl 1 (x.locs.map intD)), .d (.sl 2 (x.vals.map ziD))]), (2, .box [.d (.sl 1 (y.locs.map intD)), .d (.sl 2 (y.vals.map ziD))])] (by kernel_rfl) h ?_; clear h; intro a w h
   refine wp_ret ?_
   refine then_r ?_
   refine retS [.c (.d (.raw (.bool false)))] h Exit.ret (.inl rfl)  rfl ⟨RV.tmp _ _ rfl, trivial⟩ ?_ (by kernel_rfl) (by kernel_rfl)
   rw [hc2]; first | done | rfl
 ·cases hc
set_option maxHeartbeats 4000000 in
theorem SLeads2 (s : SysD) (x : StD) (i : Int) (y : StD) {L M : Nat} (_hL : L + M ≤ 4000) (_hs : SysOk L s) (_hx : StOk M x) (_hy : StOk M y) (hi : actAt s i = none) (hn : i ≠ -1) : Fn Try.prog 11 [] [.t (.agg (sysC s)), .t (.agg [.d (.sl 1 (x.locs.map intD)), .d (.sl 2 (x.vals.map ziD))]), vi .i64 i, .t (.agg [.d (.sl 1 (y.locs.map intD)), .d (.sl 2 (y.vals.map ziD))])] (vb false) [] := by
 refine Fn.body Try.func11 rfl 84 rfl fun w H B a h => ?_
 refine rSeq fam0ok 0 [] [(2, vi .i64 i), (4, vp 0 0), (5, vp 1 0), (7, vp 2 0), (8, vb false)] [(0, .box (sysC s)), (1, .box [.d (.sl 1 (x.locs.map intD)), .d (.sl 2 (x.vals.map ziD))]), (2, .box [.d (.sl 1 (y.locs.map intD)), .d (.sl 2 (y.vals.map ziD))])] (by kernel_rfl) h ?_; clear h; intro a w h
 refine wp_seq ?_
 refine rSeq fam0ok 3 [(1, .cmp (op := .eql) (m := i) (n := (-1)) (b := false) .i64 (beq_eq_false_iff_ne.2 hn))] [(2, vi .i64 i), (4, vp 0 0), (5, vp 1 0), (7, vp 2 0), (8, vb false), (17, vb false)] [(0, .box (sysC s)), (1, .box [.d (.sl 1 (x.locs.map intD)), .d (.sl 2 (x.vals.map ziD))]), (2, .box [.d (.sl 1 (y.locs.map intD)), .d (.sl 2 (y.vals.map ziD))])] (by kernel_rfl) h ?_; clear h; intro a w h
 refine condS false h rfl (fun hc => ?_) (fun hc => ?_)
 ·cases hc
 ·clear hc
  refine wp_skip ?_
  refine then_n ?_
  refine rSeq fam0ok 3 [(2, .call (SactN s i hi) kk_6)] [(2, vi .i64 i), (4, vp 0 0), (5, vp 1 0), (7, vp 2 0), (8, vb false), (9, vp 3 0), (10, vb false)] [(0, .box (sysC s)), (1, .box [.d (.sl 1 (x.locs.map intD)), .d (.sl 2 (x.vals.map ziD))]), (2, .box [.d (.sl 1 (y.locs.map intD)), .d (.sl 2 (y.vals.map ziD))]), (3, .box ([.d (.raw (.int .i64 act0.proc)), .d (.raw (.int .i64 act0.from_)), .d (.raw (.int .i64 act0.to_)), .d (.raw (.int .i64 act0.guard.kind)), .d (.sl 3 (act0.guard.r.t.parts.map Part.d))] ++ zi act0.guard.r.t.k ++ [.d (.raw (.bool act0.guard.r.eq)), .d (.sl 6 (act0.guard.kids.map FormD.d)), .d (.sl 5 (act0.moves.map MoveD.d))]))] (by kernel_rfl) h ?_; clear h; intro a w h
  refine wp_seq ?_
  refine rSeq fam0ok 4 [] [(2, vi .i64 i), (4, vp 0 0), (5, vp 1 0), (7, vp 2 0), (8, vb false), (9, vp 3 0), (10, vb false), (46, vb true)] [(0, .box (sysC s)), (1, .box [.d (.sl 1 (x.locs.map intD)), .d (.sl 2 (x.vals.map ziD))]), (2, .box [.d (.sl 1 (y.locs.map intD)), .d (.sl 2 (y.vals.map ziD))]), (3, .box ([.d (.raw (.int .i64 act0.proc)), .d (.raw (.int .i64 act0.from_)), .d (.raw (.int .i64 act0.to_)), .d (.raw (.int .i64 act0.guard.kind)), .d (.sl 3 (act0.guard.r.t.parts.map Part.d))] ++ zi act0.guard.r.t.k ++ [.d (.raw (.bool act0.guard.r.eq)), .d (.sl 6 (act0.guard.kids.map FormD.d)), .d (.sl 5 (act0.moves.map MoveD.d))]))] (by kernel_rfl) h ?_; clear h; intro a w h
  refine condS true h rfl (fun hc => ?_) (fun hc => ?_)
  ·clear hc
   refine rSeq fam0ok 4 [] [(2, vi .i64 i), (4, vp 0 0), (5, vp 1 0), (7, vp 2 0), (8, vb false), (9, vp 3 0), (10, vb false)] [(0, .box (sysC s)), (1, .box [.d (.sl 1 (x.locs.map intD)), .d (.sl 2 (x.vals.map ziD))]), (2, .box [.d (.sl 1 (y.locs.map intD)), .d (.sl 2 (y.vals.map ziD))]), (3, .box ([.d (.raw (.int .i64 act0.proc)), .d (.raw (.int .i64 act0.from_)), .d (.raw (.int .i64 act0.to_)), .d (.raw (.int .i64 act0.guard.kind)), .d (.sl 3 (act0.guard.r.t.parts.map Part.d))] ++ zi act0.guard.r.t.k ++ [.d (.raw (.bool act0.guard.r.eq)), .d (.sl 6 (act0.guard.kids.map FormD.d)), .d (.sl 5 (act0.moves.map MoveD.d))]))] (by kernel_rfl) h ?_; clear h; intro a w h
   refine wp_ret ?_
   refine then_r ?_
   refine retS [.c (.d (.raw (.bool false)))] h Exit.ret (.inl rfl)  rfl ⟨RV.tmp _ _ rfl, trivial⟩ ?_ (by kernel_rfl) (by kernel_rfl)
   rfl
  ·cases hc
set_option maxHeartbeats 4000000 in
theorem SLeads3 (s : SysD) (x : StD) (i : Int) (y : StD) (c : ActD) {L M : Nat} (hL : L + M ≤ 4000) (hs : SysOk L s) (hx : StOk M x) (hy : StOk M y) (hi : actAt s i = some c) : Fn Try.prog 11 [] [.t (.agg (sysC s)), .t (.agg [.d (.sl 1 (x.locs.map intD)), .d (.sl 2 (x.vals.map ziD))]), vi .i64 i, .t (.agg [.d (.sl 1 (y.locs.map intD)), .d (.sl 2 (y.vals.map ziD))])] (vb (leadsC s x c y)) [] := by
 have lx1 := hx.locs
 have lx2 := hx.vals
 have ls1 := hs.vars
 have ls2 := hs.procs
 have hc : ActOk L c := act_ok hs hi
 refine Fn.body Try.func11 rfl 84 rfl fun w H B a h => ?_
 refine rSeq fam0ok 5 [] [(2, vi .i64 i), (4, vp 5 0), (5, vp 6 0), (7, vp 7 0), (8, vb false)] [(5, .box (sysC s)), (6, .box [.d (.sl 1 (x.locs.map intD)), .d (.sl 2 (x.vals.map ziD))]), (7, .box [.d (.sl 1 (y.locs.map intD)), .d (.sl 2 (y.vals.map ziD))])] (by kernel_rfl) h ?_; clear h; intro a w h
 refine wp_seq ?_
 refine rSeq fam0ok 8 [(1, .cmp (op := .eql) (m := i) (n := (-1)) (b := false) .i64 (by obtain ⟨k, rfl, _⟩ := actAt_some hi; exact beq_eq_false_iff_ne.2 (by omega)))] [(2, vi .i64 i), (4, vp 5 0), (5, vp 6 0), (7, vp 7 0), (8, vb false), (17, vb false)] [(5, .box (sysC s)), (6, .box [.d (.sl 1 (x.locs.map intD)), .d (.sl 2 (x.vals.map ziD))]), (7, .box [.d (.sl 1 (y.locs.map intD)), .d (.sl 2 (y.vals.map ziD))])] (by kernel_rfl) h ?_; clear h; intro a w h
 refine condS false h rfl (fun hc => ?_) (fun hc => ?_)
 ·cases hc
 ·clear hc
  refine wp_skip ?_
  refine then_n ?_
  refine rSeq fam0ok 8 [(2, .call (SactS s i c hi) kk_6)] [(2, vi .i64 i), (4, vp 5 0), (5, vp 6 0), (7, vp 7 0), (8, vb false), (9, vp 8 0), (10, vb true)] [(5, .box (sysC s)), (6, .box [.d (.sl 1 (x.locs.map intD)), .d (.sl 2 (x.vals.map ziD))]), (7, .box [.d (.sl 1 (y.locs.map intD)), .d (.sl 2 (y.vals.map ziD))]), (8, .box ([.d (.raw (.int .i64 c.proc)), .d (.raw (.int .i64 c.from_)), .d (.raw (.int .i64 c.to_)), .d (.raw (.int .i64 c.guard.kind)), .d (.sl 3 (c.guard.r.t.parts.map Part.d))] ++ zi c.guard.r.t.k ++ [.d (.raw (.bool c.guard.r.eq)), .d (.sl 6 (c.guard.kids.map FormD.d)), .d (.sl 5 (c.moves.map MoveD.d))]))] (by kernel_rfl) h ?_; clear h; intro a w h
  refine wp_seq ?_
  rcases Bool.eq_false_or_eq_true (enabled s x c) with hc | hc
  ·have hc1 := hc; clear hc
   refine rSeq fam0ok 9 [(6, .call (Fn.cast (Senabled s x c (L := L) (M := M) (by omega) hs hx hc) (congrArg vb hc1)) kk_7), (12, .call (SFits s y (L := L) (M := M) (by omega) hs hy) kg_9)] [(2, vi .i64 i), (4, vp 5 0), (5, vp 6 0), (7, vp 7 0), (8, vb false), (9, vp 8 0), (10, vb true), (46, vb (!(fits s y)))] [(5, .box (sysC s)), (6, .box [.d (.sl 1 (x.locs.map intD)), .d (.sl 2 (x.vals.map ziD))]), (7, .box [.d (.sl 1 (y.locs.map intD)), .d (.sl 2 (y.vals.map ziD))]), (8, .box ([.d (.raw (.int .i64 c.proc)), .d (.raw (.int .i64 c.from_)), .d (.raw (.int .i64 c.to_)), .d (.raw (.int .i64 c.guard.kind)), .d (.sl 3 (c.guard.r.t.parts.map Part.d))] ++ zi c.guard.r.t.k ++ [.d (.raw (.bool c.guard.r.eq)), .d (.sl 6 (c.guard.kids.map FormD.d)), .d (.sl 5 (c.moves.map MoveD.d))]))] (by kernel_rfl) h ?_; clear h; intro a w h
   refine condS (!(fits s y)) h rfl (fun hc => ?_) (fun hc => ?_)
   ·have hc2 := hc; clear hc
    have hc2' := hc2; (try simp at hc2')
    refine rSeq fam0ok 9 [] [(2, vi .i64 i), (4, vp 5 0), (5, vp 6 0), (7, vp 7 0), (8, vb false), (9, vp 8 0), (10, vb true)] [(5, .box (sysC s)), (6, .box [.d (.sl 1 (x.locs.map intD)), .d (.sl 2 (x.vals.map ziD))]), (7, .box [.d (.sl 1 (y.locs.map intD)), .d (.sl 2 (y.vals.map ziD))]), (8, .box ([.d (.raw (.int .i64 c.proc)), .d (.raw (.int .i64 c.from_)), .d (.raw (.int .i64 c.to_)), .d (.raw (.int .i64 c.guard.kind)), .d (.sl 3 (c.guard.r.t.parts.map Part.d))] ++ zi c.guard.r.t.k ++ [.d (.raw (.bool c.guard.r.eq)), .d (.sl 6 (c.guard.kids.map FormD.d)), .d (.sl 5 (c.moves.map MoveD.d))]))] (by kernel_rfl) h ?_; clear h; intro a w h
    refine wp_ret ?_
    refine then_r ?_
    refine retS [.c (.d (.raw (.bool false)))] h Exit.ret (.inl rfl)  rfl ⟨RV.tmp _ _ rfl, trivial⟩ ?_ (by kernel_rfl) (by kernel_rfl)
    have hz : leadsC s x c y = (false) := by unfold leadsC; rw [hc1, (show (fits s y) = false from by simpa using hc2)]; rfl
    rw [hz]; first | done | rfl
   ·have hc3 := hc; clear hc
    have hc3' := hc3; (try simp at hc3')
    refine wp_skip ?_
    refine then_n ?_
    have hen := hc1
    have hfl := fits_len (enabled_fits hen)
    have hfy := fits_len (show (fits s y) = true from by simpa using hc3)
    refine rSeq fam0ok 9 [] [(2, vi .i64 i), (4, vp 5 0), (5, vp 6 0), (7, vp 7 0), (8, vb false), (9, vp 8 0), (10, vb true), (11, .t (.c (.d (.raw nilV))))] [(5, .box (sysC s)), (6, .box [.d (.sl 1 (x.locs.map intD)), .d (.sl 2 (x.vals.map ziD))]), (7, .box [.d (.sl 1 (y.locs.map intD)), .d (.sl 2 (y.vals.map ziD))]), (8, .box ([.d (.raw (.int .i64 c.proc)), .d (.raw (.int .i64 c.from_)), .d (.raw (.int .i64 c.to_)), .d (.raw (.int .i64 c.guard.kind)), .d (.sl 3 (c.guard.r.t.parts.map Part.d))] ++ zi c.guard.r.t.k ++ [.d (.raw (.bool c.guard.r.eq)), .d (.sl 6 (c.guard.kids.map FormD.d)), .d (.sl 5 (c.moves.map MoveD.d))]))] (by kernel_rfl) h ?_; clear h; intro a w h
    refine wp_seq ?_
    replace h := nilOSs 11 0 9 2 28 (.t (.c (.d (.raw nilV)))) [(2, vi .i64 i), (4, vp 5 0), (5, vp 6 0), (7, vp 7 0), (8, vb false), (9, vp 8 0), (10, vb true), (11, .t (.c (.own 9 0)))] [(5, .box (sysC s)), (6, .box [.d (.sl 1 (x.locs.map intD)), .d (.sl 2 (x.vals.map ziD))]), (7, .box [.d (.sl 1 (y.locs.map intD)), .d (.sl 2 (y.vals.map ziD))]), (8, .box ([.d (.raw (.int .i64 c.proc)), .d (.raw (.int .i64 c.from_)), .d (.raw (.int .i64 c.to_)), .d (.raw (.int .i64 c.guard.kind)), .d (.sl 3 (c.guard.r.t.parts.map Part.d))] ++ zi c.guard.r.t.k ++ [.d (.raw (.bool c.guard.r.eq)), .d (.sl 6 (c.guard.kids.map FormD.d)), .d (.sl 5 (c.moves.map MoveD.d))])), (9, .row 28 2 ([].map ziD))] h (by kernel_rfl) rfl rfl (by kernel_rfl) (by kernel_rfl)
    refine rSeq fam0ok 10 [(2, .len (c := (.d (.sl 1 (s.vars.map strD)))) (n := s.vars.length) (lenC_map _ _ _))] [(2, vi .i64 i), (4, vp 5 0), (5, vp 6 0), (7, vp 7 0), (8, vb false), (9, vp 8 0), (10, vb true), (11, .t (.c (.own 9 0))), (49, vi .i64 (s.vars.length : Int)), (50, vi .i64 0)] [(5, .box (sysC s)), (6, .box [.d (.sl 1 (x.locs.map intD)), .d (.sl 2 (x.vals.map ziD))]), (7, .box [.d (.sl 1 (y.locs.map intD)), .d (.sl 2 (y.vals.map ziD))]), (8, .box ([.d (.raw (.int .i64 c.proc)), .d (.raw (.int .i64 c.from_)), .d (.raw (.int .i64 c.to_)), .d (.raw (.int .i64 c.guard.kind)), .d (.sl 3 (c.guard.r.t.parts.map Part.d))] ++ zi c.guard.r.t.k ++ [.d (.raw (.bool c.guard.r.eq)), .d (.sl 6 (c.guard.kids.map FormD.d)), .d (.sl 5 (c.moves.map MoveD.d))])), (9, .row 28 2 ([].map ziD))] (by kernel_rfl) h ?_; clear h; intro a w h
    refine wp_block ?_
    refine loopS (ι := (Nat)) (fun (z_ : (Nat)) => match z_ with | j => j ≤ s.vars.length ∧ (picksOf y c j).length ≤ j)
      (fun (z_ : (Nat)) => match z_ with | j => [(2, vi .i64 i), (4, vp 5 0), (5, vp 6 0), (7, vp 7 0), (8, vb false), (9, vp 8 0), (10, vb true), (11, .t (.c (.own 9 (picksOf y c j).length))), (49, vi .i64 (s.vars.length : Int)), (50, vi .i64 (j : Int))])
      (fun (z_ : (Nat)) => match z_ with | j => [(5, .box (sysC s)), (6, .box [.d (.sl 1 (x.locs.map intD)), .d (.sl 2 (x.vals.map ziD))]), (7, .box [.d (.sl 1 (y.locs.map intD)), .d (.sl 2 (y.vals.map ziD))]), (8, .box ([.d (.raw (.int .i64 c.proc)), .d (.raw (.int .i64 c.from_)), .d (.raw (.int .i64 c.to_)), .d (.raw (.int .i64 c.guard.kind)), .d (.sl 3 (c.guard.r.t.parts.map Part.d))] ++ zi c.guard.r.t.k ++ [.d (.raw (.bool c.guard.r.eq)), .d (.sl 6 (c.guard.kids.map FormD.d)), .d (.sl 5 (c.moves.map MoveD.d))])), (9, .row 28 2 ((picksOf y c j).map ziD))])
      (fun (z_ : (Nat)) => match z_ with | j => s.vars.length - j) 0 ?_ h (by kernel_rfl) (by kernel_rfl) ?_
    ·exact ⟨Nat.zero_le _, Nat.le_refl _⟩
    ·clear h; rintro j a w hI h
     change St _ (F.of [(2, vi .i64 i), (4, vp 5 0), (5, vp 6 0), (7, vp 7 0), (8, vb false), (9, vp 8 0), (10, vb true), (11, .t (.c (.own 9 (picksOf y c j).length))), (49, vi .i64 (s.vars.length : Int)), (50, vi .i64 (j : Int))] [(5, .box (sysC s)), (6, .box [.d (.sl 1 (x.locs.map intD)), .d (.sl 2 (x.vals.map ziD))]), (7, .box [.d (.sl 1 (y.locs.map intD)), .d (.sl 2 (y.vals.map ziD))]), (8, .box ([.d (.raw (.int .i64 c.proc)), .d (.raw (.int .i64 c.from_)), .d (.raw (.int .i64 c.to_)), .d (.raw (.int .i64 c.guard.kind)), .d (.sl 3 (c.guard.r.t.parts.map Part.d))] ++ zi c.guard.r.t.k ++ [.d (.raw (.bool c.guard.r.eq)), .d (.sl 6 (c.guard.kids.map FormD.d)), .d (.sl 5 (c.moves.map MoveD.d))])), (9, .row 28 2 ((picksOf y c j).map ziD))]) a w at h
     obtain ⟨hI1, hI2⟩ := hI
     refine rSeq fam0ok 10 [] [(2, vi .i64 i), (4, vp 5 0), (5, vp 6 0), (7, vp 7 0), (8, vb false), (9, vp 8 0), (10, vb true), (11, .t (.c (.own 9 (picksOf y c j).length))), (49, vi .i64 (s.vars.length : Int)), (50, vi .i64 (j : Int)), (51, vb (decide ((j : Int) < (s.vars.length : Int))))] [(5, .box (sysC s)), (6, .box [.d (.sl 1 (x.locs.map intD)), .d (.sl 2 (x.vals.map ziD))]), (7, .box [.d (.sl 1 (y.locs.map intD)), .d (.sl 2 (y.vals.map ziD))]), (8, .box ([.d (.raw (.int .i64 c.proc)), .d (.raw (.int .i64 c.from_)), .d (.raw (.int .i64 c.to_)), .d (.raw (.int .i64 c.guard.kind)), .d (.sl 3 (c.guard.r.t.parts.map Part.d))] ++ zi c.guard.r.t.k ++ [.d (.raw (.bool c.guard.r.eq)), .d (.sl 6 (c.guard.kids.map FormD.d)), .d (.sl 5 (c.moves.map MoveD.d))])), (9, .row 28 2 ((picksOf y c j).map ziD))] (by kernel_rfl) h ?_; clear h; intro a w h
     refine wp_seq ?_
     refine condS (decide ((j : Int) < (s.vars.length : Int))) h rfl (fun hc => ?_) (fun hc => ?_)
     ·have hc4 := hc; clear hc
      have hc4' := of_decide_eq_true hc4
      refine wp_skip ?_
      refine then_n ?_
      refine wp_seq ?_
      refine wp_block ?_
      refine rSeq fam0ok 10 [] [(2, vi .i64 i), (4, vp 5 0), (5, vp 6 0), (7, vp 7 0), (8, vb false), (9, vp 8 0), (10, vb true), (11, .t (.c (.own 9 (picksOf y c j).length))), (12, vi .i64 (j : Int)), (49, vi .i64 (s.vars.length : Int)), (50, vi .i64 (j : Int))] [(5, .box (sysC s)), (6, .box [.d (.sl 1 (x.locs.map intD)), .d (.sl 2 (x.vals.map ziD))]), (7, .box [.d (.sl 1 (y.locs.map intD)), .d (.sl 2 (y.vals.map ziD))]), (8, .box ([.d (.raw (.int .i64 c.proc)), .d (.raw (.int .i64 c.from_)), .d (.raw (.int .i64 c.to_)), .d (.raw (.int .i64 c.guard.kind)), .d (.sl 3 (c.guard.r.t.parts.map Part.d))] ++ zi c.guard.r.t.k ++ [.d (.raw (.bool c.guard.r.eq)), .d (.sl 6 (c.guard.kids.map FormD.d)), .d (.sl 5 (c.moves.map MoveD.d))])), (9, .row 28 2 ((picksOf y c j).map ziD))] (by kernel_rfl) h ?_; clear h; intro a w h
      have gn := new_ok hc hx j
      have lgn := gn.2
      refine rSeq fam0ok 10 [(3, .call (Safter x c j (L := L) (M := M) (by omega) hc hx (by have := fits_len (enabled_fits hen); omega)) kk_8)] [(2, vi .i64 i), (4, vp 5 0), (5, vp 6 0), (7, vp 7 0), (8, vb false), (9, vp 8 0), (10, vb true), (11, .t (.c (.own 9 (picksOf y c j).length))), (12, vi .i64 (j : Int)), (14, vb (freeAt c j)), (49, vi .i64 (s.vars.length : Int)), (50, vi .i64 (j : Int))] [(5, .box (sysC s)), (6, .box [.d (.sl 1 (x.locs.map intD)), .d (.sl 2 (x.vals.map ziD))]), (7, .box [.d (.sl 1 (y.locs.map intD)), .d (.sl 2 (y.vals.map ziD))]), (8, .box ([.d (.raw (.int .i64 c.proc)), .d (.raw (.int .i64 c.from_)), .d (.raw (.int .i64 c.to_)), .d (.raw (.int .i64 c.guard.kind)), .d (.sl 3 (c.guard.r.t.parts.map Part.d))] ++ zi c.guard.r.t.k ++ [.d (.raw (.bool c.guard.r.eq)), .d (.sl 6 (c.guard.kids.map FormD.d)), .d (.sl 5 (c.moves.map MoveD.d))])), (9, .row 28 2 ((picksOf y c j).map ziD))] (by kernel_rfl) h ?_; clear h; intro a w h
      refine rSeq fam0ok 11 [] [(2, vi .i64 i), (4, vp 5 0), (5, vp 6 0), (7, vp 7 0), (8, vb false), (9, vp 8 0), (10, vb true), (11, .t (.c (.own 9 (picksOf y c j).length))), (12, vi .i64 (j : Int)), (49, vi .i64 (s.vars.length : Int)), (50, vi .i64 (j : Int)), (60, vb (freeAt c j))] [(5, .box (sysC s)), (6, .box [.d (.sl 1 (x.locs.map intD)), .d (.sl 2 (x.vals.map ziD))]), (7, .box [.d (.sl 1 (y.locs.map intD)), .d (.sl 2 (y.vals.map ziD))]), (8, .box ([.d (.raw (.int .i64 c.proc)), .d (.raw (.int .i64 c.from_)), .d (.raw (.int .i64 c.to_)), .d (.raw (.int .i64 c.guard.kind)), .d (.sl 3 (c.guard.r.t.parts.map Part.d))] ++ zi c.guard.r.t.k ++ [.d (.raw (.bool c.guard.r.eq)), .d (.sl 6 (c.guard.kids.map FormD.d)), .d (.sl 5 (c.moves.map MoveD.d))])), (9, .row 28 2 ((picksOf y c j).map ziD))] (by kernel_rfl) h ?_; clear h; intro a w h
      refine condS (freeAt c j) h rfl (fun hc => ?_) (fun hc => ?_)
      ·have hc5 := hc; clear hc
       obtain ⟨x6, hx6⟩ : ∃ z_ : ZI, y.vals[j]? = some z_ := ⟨_, List.getElem?_eq_getElem (by first | omega | (simp at *; omega))⟩
       refine rS fam0ok 11 [(4, .gen _ _ _ fun _ _ _ _ => Op.idxD (d := 65) (t := 63) (k := .i64) tt_6 (map_at hx6 (f := ziD)) (OV.tmp 64 _)), (6, .gen _ _ _ fun _ _ _ _ => Op.buildD (d := 67) (len := 1) (rows := [x6].map ziD) (rs := [(66, vz x6)]) kk_3 (.cons (i := 0) (OV.tmp 66 _) (.nil)) (by kernel_rfl) rfl (by simp [ziD]) (by decide) (by decide)), (7, .gen _ _ _ fun _ _ _ _ => Op.appOD (d := 68) (t := 61) (u := 67) (n := 9) (n' := 11) (len := (picksOf y c j).length) (len' := ((picksOf y c j) ++ [x6]).length) (rows := (picksOf y c j).map ziD) (rows2 := [x6].map ziD) (rows' := ((picksOf y c j) ++ [x6]).map ziD) kk_4 (by first | exact (List.length_map _).symm | simp) (by first | (rw [List.length_append, List.length_map]; done) | simp) (by simp) (by simp [ziD]) (by first | omega | (simp at *; done) | (simp at *; omega)))] [(2, vi .i64 i), (4, vp 5 0), (5, vp 6 0), (7, vp 7 0), (8, vb false), (9, vp 8 0), (10, vb true), (11, .t (.c (.own 11 ((picksOf y c j) ++ [x6]).length))), (49, vi .i64 (s.vars.length : Int)), (50, vi .i64 (j : Int))] [(5, .box (sysC s)), (6, .box [.d (.sl 1 (x.locs.map intD)), .d (.sl 2 (x.vals.map ziD))]), (7, .box [.d (.sl 1 (y.locs.map intD)), .d (.sl 2 (y.vals.map ziD))]), (8, .box ([.d (.raw (.int .i64 c.proc)), .d (.raw (.int .i64 c.from_)), .d (.raw (.int .i64 c.to_)), .d (.raw (.int .i64 c.guard.kind)), .d (.sl 3 (c.guard.r.t.parts.map Part.d))] ++ zi c.guard.r.t.k ++ [.d (.raw (.bool c.guard.r.eq)), .d (.sl 6 (c.guard.kids.map FormD.d)), .d (.sl 5 (c.moves.map MoveD.d))])), (11, .row 28 2 (((picksOf y c j) ++ [x6]).map ziD))] (by kernel_rfl) h ?_; clear h; intro a w h
       refine block_n ?_
       refine then_n ?_
       refine rS fam0ok 12 [(0, .add .i64 (m := (j : Int)) (n := 1) (i64_id (by omega) (by omega)))] [(2, vi .i64 i), (4, vp 5 0), (5, vp 6 0), (7, vp 7 0), (8, vb false), (9, vp 8 0), (10, vb true), (11, .t (.c (.own 11 ((picksOf y c j) ++ [x6]).length))), (49, vi .i64 (s.vars.length : Int)), (50, vi .i64 ((j : Int) + 1))] [(5, .box (sysC s)), (6, .box [.d (.sl 1 (x.locs.map intD)), .d (.sl 2 (x.vals.map ziD))]), (7, .box [.d (.sl 1 (y.locs.map intD)), .d (.sl 2 (y.vals.map ziD))]), (8, .box ([.d (.raw (.int .i64 c.proc)), .d (.raw (.int .i64 c.from_)), .d (.raw (.int .i64 c.to_)), .d (.raw (.int .i64 c.guard.kind)), .d (.sl 3 (c.guard.r.t.parts.map Part.d))] ++ zi c.guard.r.t.k ++ [.d (.raw (.bool c.guard.r.eq)), .d (.sl 6 (c.guard.kids.map FormD.d)), .d (.sl 5 (c.moves.map MoveD.d))])), (11, .row 28 2 (((picksOf y c j) ++ [x6]).map ziD))] (by kernel_rfl) h ?_; clear h; intro a w h
       refine then_n ?_
       replace h := h.conv (f' := F.of [(2, vi .i64 i), (4, vp 5 0), (5, vp 6 0), (7, vp 7 0), (8, vb false), (9, vp 8 0), (10, vb true), (11, .t (.c (.own 11 (picksOf y c (j + 1)).length))), (49, vi .i64 (s.vars.length : Int)), (50, vi .i64 ((j : Int) + 1))] [(5, .box (sysC s)), (6, .box [.d (.sl 1 (x.locs.map intD)), .d (.sl 2 (x.vals.map ziD))]), (7, .box [.d (.sl 1 (y.locs.map intD)), .d (.sl 2 (y.vals.map ziD))]), (8, .box ([.d (.raw (.int .i64 c.proc)), .d (.raw (.int .i64 c.from_)), .d (.raw (.int .i64 c.to_)), .d (.raw (.int .i64 c.guard.kind)), .d (.sl 3 (c.guard.r.t.parts.map Part.d))] ++ zi c.guard.r.t.k ++ [.d (.raw (.bool c.guard.r.eq)), .d (.sl 6 (c.guard.kids.map FormD.d)), .d (.sl 5 (c.moves.map MoveD.d))])), (11, .row 28 2 ((picksOf y c (j + 1)).map ziD))]) (congrArg (fun (z_ : List ZI) => F.of [(2, vi .i64 i), (4, vp 5 0), (5, vp 6 0), (7, vp 7 0), (8, vb false), (9, vp 8 0), (10, vb true), (11, .t (.c (.own 11 z_.length))), (49, vi .i64 (s.vars.length : Int)), (50, vi .i64 ((j : Int) + 1))] [(5, .box (sysC s)), (6, .box [.d (.sl 1 (x.locs.map intD)), .d (.sl 2 (x.vals.map ziD))]), (7, .box [.d (.sl 1 (y.locs.map intD)), .d (.sl 2 (y.vals.map ziD))]), (8, .box ([.d (.raw (.int .i64 c.proc)), .d (.raw (.int .i64 c.from_)), .d (.raw (.int .i64 c.to_)), .d (.raw (.int .i64 c.guard.kind)), .d (.sl 3 (c.guard.r.t.parts.map Part.d))] ++ zi c.guard.r.t.k ++ [.d (.raw (.bool c.guard.r.eq)), .d (.sl 6 (c.guard.kids.map FormD.d)), .d (.sl 5 (c.moves.map MoveD.d))])), (11, .row 28 2 (z_.map ziD))]) (show (((picksOf y c j) ++ [x6]) : List ZI) = (picksOf y c (j + 1)) from (picks_free hc5 hx6)))
       replace h := renS 11 9 [(2, vi .i64 i), (4, vp 5 0), (5, vp 6 0), (7, vp 7 0), (8, vb false), (9, vp 8 0), (10, vb true), (11, .t (.c (.own 9 (picksOf y c (j + 1)).length))), (49, vi .i64 (s.vars.length : Int)), (50, vi .i64 ((j : Int) + 1))] [(5, .box (sysC s)), (6, .box [.d (.sl 1 (x.locs.map intD)), .d (.sl 2 (x.vals.map ziD))]), (7, .box [.d (.sl 1 (y.locs.map intD)), .d (.sl 2 (y.vals.map ziD))]), (8, .box ([.d (.raw (.int .i64 c.proc)), .d (.raw (.int .i64 c.from_)), .d (.raw (.int .i64 c.to_)), .d (.raw (.int .i64 c.guard.kind)), .d (.sl 3 (c.guard.r.t.parts.map Part.d))] ++ zi c.guard.r.t.k ++ [.d (.raw (.bool c.guard.r.eq)), .d (.sl 6 (c.guard.kids.map FormD.d)), .d (.sl 5 (c.moves.map MoveD.d))])), (9, .row 28 2 ((picksOf y c (j + 1)).map ziD))] h (by kernel_rfl) (by kernel_rfl) (by kernel_rfl)
       refine roundS (x := j) (y := j + 1) h ?_ ?_ (by kernel_rfl) (by kernel_rfl)
       ·exact ⟨by omega, by rw [← picks_free hc5 hx6, List.length_append]; show _ + 1 ≤ _; omega⟩
       ·show s.vars.length - (j + 1) < s.vars.length - j
        omega
      ·have hc6 := hc; clear hc
       refine wp_skip ?_
       refine block_n ?_
       refine then_n ?_
       refine rS fam0ok 12 [(0, .add .i64 (m := (j : Int)) (n := 1) (i64_id (by omega) (by omega)))] [(2, vi .i64 i), (4, vp 5 0), (5, vp 6 0), (7, vp 7 0), (8, vb false), (9, vp 8 0), (10, vb true), (11, .t (.c (.own 9 (picksOf y c j).length))), (49, vi .i64 (s.vars.length : Int)), (50, vi .i64 ((j : Int) + 1))] [(5, .box (sysC s)), (6, .box [.d (.sl 1 (x.locs.map intD)), .d (.sl 2 (x.vals.map ziD))]), (7, .box [.d (.sl 1 (y.locs.map intD)), .d (.sl 2 (y.vals.map ziD))]), (8, .box ([.d (.raw (.int .i64 c.proc)), .d (.raw (.int .i64 c.from_)), .d (.raw (.int .i64 c.to_)), .d (.raw (.int .i64 c.guard.kind)), .d (.sl 3 (c.guard.r.t.parts.map Part.d))] ++ zi c.guard.r.t.k ++ [.d (.raw (.bool c.guard.r.eq)), .d (.sl 6 (c.guard.kids.map FormD.d)), .d (.sl 5 (c.moves.map MoveD.d))])), (9, .row 28 2 ((picksOf y c j).map ziD))] (by kernel_rfl) h ?_; clear h; intro a w h
       refine then_n ?_
       replace h := h.conv (f' := F.of [(2, vi .i64 i), (4, vp 5 0), (5, vp 6 0), (7, vp 7 0), (8, vb false), (9, vp 8 0), (10, vb true), (11, .t (.c (.own 9 (picksOf y c (j + 1)).length))), (49, vi .i64 (s.vars.length : Int)), (50, vi .i64 ((j : Int) + 1))] [(5, .box (sysC s)), (6, .box [.d (.sl 1 (x.locs.map intD)), .d (.sl 2 (x.vals.map ziD))]), (7, .box [.d (.sl 1 (y.locs.map intD)), .d (.sl 2 (y.vals.map ziD))]), (8, .box ([.d (.raw (.int .i64 c.proc)), .d (.raw (.int .i64 c.from_)), .d (.raw (.int .i64 c.to_)), .d (.raw (.int .i64 c.guard.kind)), .d (.sl 3 (c.guard.r.t.parts.map Part.d))] ++ zi c.guard.r.t.k ++ [.d (.raw (.bool c.guard.r.eq)), .d (.sl 6 (c.guard.kids.map FormD.d)), .d (.sl 5 (c.moves.map MoveD.d))])), (9, .row 28 2 ((picksOf y c (j + 1)).map ziD))]) (congrArg (fun (z_ : List ZI) => F.of [(2, vi .i64 i), (4, vp 5 0), (5, vp 6 0), (7, vp 7 0), (8, vb false), (9, vp 8 0), (10, vb true), (11, .t (.c (.own 9 z_.length))), (49, vi .i64 (s.vars.length : Int)), (50, vi .i64 ((j : Int) + 1))] [(5, .box (sysC s)), (6, .box [.d (.sl 1 (x.locs.map intD)), .d (.sl 2 (x.vals.map ziD))]), (7, .box [.d (.sl 1 (y.locs.map intD)), .d (.sl 2 (y.vals.map ziD))]), (8, .box ([.d (.raw (.int .i64 c.proc)), .d (.raw (.int .i64 c.from_)), .d (.raw (.int .i64 c.to_)), .d (.raw (.int .i64 c.guard.kind)), .d (.sl 3 (c.guard.r.t.parts.map Part.d))] ++ zi c.guard.r.t.k ++ [.d (.raw (.bool c.guard.r.eq)), .d (.sl 6 (c.guard.kids.map FormD.d)), .d (.sl 5 (c.moves.map MoveD.d))])), (9, .row 28 2 (z_.map ziD))]) (show ((picksOf y c j) : List ZI) = (picksOf y c (j + 1)) from (picks_kept hc6)))
       refine roundS (x := j) (y := j + 1) h ?_ ?_ (by kernel_rfl) (by kernel_rfl)
       ·exact ⟨by omega, by rw [← picks_kept hc6]; omega⟩
       ·show s.vars.length - (j + 1) < s.vars.length - j
        omega
     ·have hc7 := hc; clear hc
      have hc7' := of_decide_eq_false hc7
      refine wp_exit ?_
      refine then_x ?_
      refine then_x ?_
      refine inBlock_exit ?_
      refine then_n ?_
      replace h := h.conv (f' := F.of [(2, vi .i64 i), (4, vp 5 0), (5, vp 6 0), (7, vp 7 0), (8, vb false), (9, vp 8 0), (10, vb true), (11, .t (.c (.own 9 (picksOf y c s.vars.length).length))), (49, vi .i64 (s.vars.length : Int)), (50, vi .i64 (j : Int)), (51, vb (decide ((j : Int) < (s.vars.length : Int))))] [(5, .box (sysC s)), (6, .box [.d (.sl 1 (x.locs.map intD)), .d (.sl 2 (x.vals.map ziD))]), (7, .box [.d (.sl 1 (y.locs.map intD)), .d (.sl 2 (y.vals.map ziD))]), (8, .box ([.d (.raw (.int .i64 c.proc)), .d (.raw (.int .i64 c.from_)), .d (.raw (.int .i64 c.to_)), .d (.raw (.int .i64 c.guard.kind)), .d (.sl 3 (c.guard.r.t.parts.map Part.d))] ++ zi c.guard.r.t.k ++ [.d (.raw (.bool c.guard.r.eq)), .d (.sl 6 (c.guard.kids.map FormD.d)), .d (.sl 5 (c.moves.map MoveD.d))])), (9, .row 28 2 ((picksOf y c s.vars.length).map ziD))]) (congrArg (fun (z_ : List ZI) => F.of [(2, vi .i64 i), (4, vp 5 0), (5, vp 6 0), (7, vp 7 0), (8, vb false), (9, vp 8 0), (10, vb true), (11, .t (.c (.own 9 z_.length))), (49, vi .i64 (s.vars.length : Int)), (50, vi .i64 (j : Int)), (51, vb (decide ((j : Int) < (s.vars.length : Int))))] [(5, .box (sysC s)), (6, .box [.d (.sl 1 (x.locs.map intD)), .d (.sl 2 (x.vals.map ziD))]), (7, .box [.d (.sl 1 (y.locs.map intD)), .d (.sl 2 (y.vals.map ziD))]), (8, .box ([.d (.raw (.int .i64 c.proc)), .d (.raw (.int .i64 c.from_)), .d (.raw (.int .i64 c.to_)), .d (.raw (.int .i64 c.guard.kind)), .d (.sl 3 (c.guard.r.t.parts.map Part.d))] ++ zi c.guard.r.t.k ++ [.d (.raw (.bool c.guard.r.eq)), .d (.sl 6 (c.guard.kids.map FormD.d)), .d (.sl 5 (c.moves.map MoveD.d))])), (9, .row 28 2 (z_.map ziD))]) (show ((picksOf y c j) : List ZI) = (picksOf y c s.vars.length) from (by rw [show j = s.vars.length by omega])))
      replace h := pubS 9 2 28 ((picksOf y c s.vars.length).map ziD) [(2, vi .i64 i), (4, vp 5 0), (5, vp 6 0), (7, vp 7 0), (8, vb false), (9, vp 8 0), (10, vb true), (11, .t (.c (.d (.sl 2 ((picksOf y c s.vars.length).map ziD))))), (49, vi .i64 (s.vars.length : Int)), (50, vi .i64 (j : Int)), (51, vb (decide ((j : Int) < (s.vars.length : Int))))] [(5, .box (sysC s)), (6, .box [.d (.sl 1 (x.locs.map intD)), .d (.sl 2 (x.vals.map ziD))]), (7, .box [.d (.sl 1 (y.locs.map intD)), .d (.sl 2 (y.vals.map ziD))]), (8, .box ([.d (.raw (.int .i64 c.proc)), .d (.raw (.int .i64 c.from_)), .d (.raw (.int .i64 c.to_)), .d (.raw (.int .i64 c.guard.kind)), .d (.sl 3 (c.guard.r.t.parts.map Part.d))] ++ zi c.guard.r.t.k ++ [.d (.raw (.bool c.guard.r.eq)), .d (.sl 6 (c.guard.kids.map FormD.d)), .d (.sl 5 (c.moves.map MoveD.d))]))] h rfl (show AllEq _ [(picksOf y c s.vars.length).length] from ⟨by first | exact (List.length_map _).symm | (simp; done) | (simp; omega), trivial⟩) trivial (by kernel_rfl) (by kernel_rfl)
      refine rSeq fam0ok 12 [(4, .call (SGo3 s x i (picksOf y c s.vars.length) c hL hs hx (picks_ok hy c _) hi) km_9)] [(7, vp 7 0), (8, vb false), (10, vb (goC s x c (picksOf y c s.vars.length)).2), (15, vp 12 0)] [(7, .box [.d (.sl 1 (y.locs.map intD)), .d (.sl 2 (y.vals.map ziD))]), (12, .box [.d (.sl 1 ((goC s x c (picksOf y c s.vars.length)).1.locs.map intD)), .d (.sl 2 ((goC s x c (picksOf y c s.vars.length)).1.vals.map ziD))])] (by kernel_rfl) h ?_; clear h; intro a w h
      rcases Bool.eq_false_or_eq_true (goC s x c (picksOf y c s.vars.length)).2 with hc | hc
      ·have hc8 := hc; clear hc
       rw [hc8] at h
       refine rSeq fam0ok 13 [(4, .call (SSame y (goC s x c (picksOf y c s.vars.length)).1 (M := L + M + 2) (by omega) (hy.mono (by omega)) (goC_ok hs hx hc (picks_ok hy c _))) km_1)] [(8, vb (sameS y (goC s x c (picksOf y c s.vars.length)).1))] [] (by kernel_rfl) h ?_; clear h; intro a w h
       refine wp_ret ?_
       refine retS [.c (.d (.raw (.bool (sameS y (goC s x c (picksOf y c s.vars.length)).1))))] h Exit.ret (.inl rfl)  rfl ⟨RV.tmp _ _ rfl, trivial⟩ ?_ (by kernel_rfl) (by kernel_rfl)
       have hz : leadsC s x c y = (sameS y (goC s x c (picksOf y c s.vars.length)).1) := by unfold leadsC; rw [hc1, (show (fits s y) = true from by simpa using hc3), hc8]; rfl
       rw [hz]; first | done | rfl
      ·have hc9 := hc; clear hc
       rw [hc9] at h
       refine rSeq fam0ok 13 [] [(8, vb false)] [] (by kernel_rfl) h ?_; clear h; intro a w h
       refine wp_ret ?_
       refine retS [.c (.d (.raw (.bool false)))] h Exit.ret (.inl rfl)  rfl ⟨RV.tmp _ _ rfl, trivial⟩ ?_ (by kernel_rfl) (by kernel_rfl)
       have hz : leadsC s x c y = (false) := by unfold leadsC; rw [hc1, (show (fits s y) = true from by simpa using hc3), hc9]; rfl
       rw [hz]; first | done | rfl
  ·have hc10 := hc; clear hc
   refine rSeq fam0ok 13 [(6, .call (Fn.cast (Senabled s x c (L := L) (M := M) (by omega) hs hx hc) (congrArg vb hc10)) kk_7)] [(2, vi .i64 i), (4, vp 5 0), (5, vp 6 0), (7, vp 7 0), (8, vb false), (9, vp 8 0), (10, vb true), (46, vb true)] [(5, .box (sysC s)), (6, .box [.d (.sl 1 (x.locs.map intD)), .d (.sl 2 (x.vals.map ziD))]), (7, .box [.d (.sl 1 (y.locs.map intD)), .d (.sl 2 (y.vals.map ziD))]), (8, .box ([.d (.raw (.int .i64 c.proc)), .d (.raw (.int .i64 c.from_)), .d (.raw (.int .i64 c.to_)), .d (.raw (.int .i64 c.guard.kind)), .d (.sl 3 (c.guard.r.t.parts.map Part.d))] ++ zi c.guard.r.t.k ++ [.d (.raw (.bool c.guard.r.eq)), .d (.sl 6 (c.guard.kids.map FormD.d)), .d (.sl 5 (c.moves.map MoveD.d))]))] (by kernel_rfl) h ?_; clear h; intro a w h
   refine condS true h rfl (fun hc => ?_) (fun hc => ?_)
   ·clear hc
    refine rSeq fam0ok 13 [] [(2, vi .i64 i), (4, vp 5 0), (5, vp 6 0), (7, vp 7 0), (8, vb false), (9, vp 8 0), (10, vb true)] [(5, .box (sysC s)), (6, .box [.d (.sl 1 (x.locs.map intD)), .d (.sl 2 (x.vals.map ziD))]), (7, .box [.d (.sl 1 (y.locs.map intD)), .d (.sl 2 (y.vals.map ziD))]), (8, .box ([.d (.raw (.int .i64 c.proc)), .d (.raw (.int .i64 c.from_)), .d (.raw (.int .i64 c.to_)), .d (.raw (.int .i64 c.guard.kind)), .d (.sl 3 (c.guard.r.t.parts.map Part.d))] ++ zi c.guard.r.t.k ++ [.d (.raw (.bool c.guard.r.eq)), .d (.sl 6 (c.guard.kids.map FormD.d)), .d (.sl 5 (c.moves.map MoveD.d))]))] (by kernel_rfl) h ?_; clear h; intro a w h
    refine wp_ret ?_
    refine then_r ?_
    refine retS [.c (.d (.raw (.bool false)))] h Exit.ret (.inl rfl)  rfl ⟨RV.tmp _ _ rfl, trivial⟩ ?_ (by kernel_rfl) (by kernel_rfl)
    have hz : leadsC s x c y = (false) := by unfold leadsC; rw [hc10]; rfl
    rw [hz]; first | done | rfl
   ·cases hc
theorem SLeads (s : SysD) (x : StD) (i : Int) (y : StD) {L M : Nat} (hL : L + M ≤ 4000) (hs : SysOk L s) (hx : StOk M x) (hy : StOk M y) : Fn Try.prog 11 [] [.t (.agg (sysC s)), .t (.agg [.d (.sl 1 (x.locs.map intD)), .d (.sl 2 (x.vals.map ziD))]), vi .i64 i, .t (.agg [.d (.sl 1 (y.locs.map intD)), .d (.sl 2 (y.vals.map ziD))])] (vb (leads s x i y)) [] := by
 by_cases hn : i = -1
 ·subst hn; unfold leads; rw [if_pos rfl]; exact SLeads1 s x y hL hs hx hy
 ·cases hi : actAt s i with
  | none => unfold leads; rw [if_neg hn, hi]; exact SLeads2 s x i y hL hs hx hy hi hn
  | some c => unfold leads; rw [if_neg hn, hi]; exact SLeads3 s x i y c hL hs hx hy hi
theorem SGo (s : SysD) (x : StD) (i : Int) (picks : List ZI) {L M : Nat} (hL : L + M ≤ 4000) (hs : SysOk L s) (hx : StOk M x) (hp : ∀ z ∈ picks, ZOk M z) : Fn Try.prog 8 [] [.t (.agg (sysC s)), .t (.agg [.d (.sl 1 (x.locs.map intD)), .d (.sl 2 (x.vals.map ziD))]), vi .i64 i, .t (.c (.d (.sl 2 (picks.map ziD))))] (.tup [.agg [.d (.sl 1 ((goS s x i picks).1.locs.map intD)), .d (.sl 2 ((goS s x i picks).1.vals.map ziD))], .c (.d (.raw (.bool (goS s x i picks).2)))]) [] := by
 by_cases hn : i = -1 ∧ stuck s x = true
 ·obtain ⟨rfl, hst⟩ := hn
  have : goS s x (-1) picks = (cloneS x, true) := by unfold goS; rw [if_pos ⟨rfl, hst⟩]
  rw [this]; exact SGo1 s x picks hL hs hx hp hst
 ·cases hi : actAt s i with
  | none =>
   have : goS s x i picks = (st0, false) := by unfold goS; rw [if_neg hn, hi]
   rw [this]; exact SGo2 s x i picks hL hs hx hp hn hi
  | some c =>
   have : goS s x i picks = goC s x c picks := by unfold goS; rw [if_neg hn, hi]
   rw [this]; exact SGo3 s x i picks c hL hs hx hp hi
end Go.Proofs.Ytmohlifepfjmdaa.S
end
section
namespace Go.Proofs.Ytmohlifepfjmdaa.S
open Go.RowKit

theorem kn_0 : SlT Try.prog 60 43 2 := SlT.mk' Try.underlying60 (by kernel_rfl)
theorem kn_1 : ElT Try.prog 60 43 2 48 := ElT.mk' Try.underlying60 _ _ rfl rfl (by kernel_rfl) (by kernel_rfl) (by kernel_rfl) (by decide) (by decide)
theorem kn_2 : SlT Try.prog 117 60 1 := SlT.mk' Try.underlying117 (by kernel_rfl)
theorem kn_3 : Bodied Try.prog 55 := Bodied.mk' (by kernel_rfl)
theorem kn_4 : ElZ Try.prog 117 60 1 := ElZ.mk' Try.underlying117 _ _ rfl rfl (by kernel_rfl) (by kernel_rfl) (by kernel_rfl) (by decide)
theorem kn_5 : Bodied Try.prog 36 := Bodied.mk' (by kernel_rfl)
theorem kn_6 : Bodied Try.prog 14 := Bodied.mk' (by kernel_rfl)
theorem kn_8 : Bodied Try.prog 11 := Bodied.mk' (by kernel_rfl)
theorem kn_10 : SlT Try.prog 73 72 9 := SlT.mk' Try.underlying73 (by kernel_rfl)
theorem kn_11 : Bodied Try.prog 38 := Bodied.mk' (by kernel_rfl)
theorem kn_12 : ElZ Try.prog 74 4 1 := ElZ.mk' Try.underlying74 _ _ rfl rfl (by kernel_rfl) (by kernel_rfl) (by kernel_rfl) (by decide)
theorem kn_13 : ElT Try.prog 74 4 1 1 := ElT.mk' Try.underlying74 _ _ rfl rfl (by kernel_rfl) (by kernel_rfl) (by kernel_rfl) (by decide) (by decide)
theorem kn_14 : Bodied Try.prog 19 := Bodied.mk' (by kernel_rfl)
theorem kn_15 : ElZ Try.prog 63 74 1 := ElZ.mk' Try.underlying63 _ _ rfl rfl (by kernel_rfl) (by kernel_rfl) (by kernel_rfl) (by decide)
theorem kn_16 : ElT Try.prog 63 74 1 24 := ElT.mk' Try.underlying63 _ _ rfl rfl (by kernel_rfl) (by kernel_rfl) (by kernel_rfl) (by decide) (by decide)
theorem kn_17 : Bodied Try.prog 35 := Bodied.mk' (by kernel_rfl)
theorem kn_18 : Sz Try.prog 65 2 true := Sz.mk' (by kernel_rfl) Try.underlying65 _ rfl
set_option maxHeartbeats 4000000 in
theorem SGrowSt (n : Nat) (hn : n ≤ 1000000) : Fn Try.prog 55 [] [.t (.c (.d (.raw nilV))), vi .i64 (n : Int)] (.t (.c (.own 0 0))) [(0, .row 43 2 ([].map StD.d))] := by
 refine Fn.body Try.func55 rfl 27 rfl fun w H B a h => ?_
 refine rSeq fam0ok 1 [] [(0, .t (.c (.d (.raw nilV)))), (1, vi .i64 (n : Int)), (4, .t (.c (.d (.raw nilV))))] [] (by kernel_rfl) h ?_; clear h; intro a w h
 refine wp_seq ?_
 refine rSeq fam0ok 1 [(1, .cmp (op := .lss) (m := (n : Int)) (n := 0) (b := false) .i64 (show decide ((n : Int) < 0) = false from decide_eq_false (by omega)))] [(0, .t (.c (.d (.raw nilV)))), (1, vi .i64 (n : Int)), (4, .t (.c (.d (.raw nilV)))), (6, vb false)] [] (by kernel_rfl) h ?_; clear h; intro a w h
 refine condS false h rfl (fun hc => ?_) (fun hc => ?_)
 ·cases hc
 ·clear hc
  refine wp_skip ?_
  refine then_n ?_
  refine wp_seq ?_
  refine rSeq fam0ok 1 [(2, .gen _ _ _ fun _ _ _ _ => Op.capR (d := 10) (ao := none) (n := 0) (c := 0) kn_0.hu (OV.tmp 9 _)), (5, .gen _ _ _ fun _ _ _ _ => Op.arith (op := .sub) (d := 13) (xt := 3) (yt := 3) (k := .i64) (m := 0) (n := 0) (r := 0) (OV.tmp 10 _) (OV.tmp 12 _) (.inr (.inl ⟨rfl, rfl⟩)) (i64_id (by omega) (by omega))), (6, .gen _ _ _ fun _ _ _ _ => Op.arith (op := .sub) (d := 14) (xt := 3) (yt := 3) (k := .i64) (m := (n : Int)) (n := 0) (r := (n : Int)) (OV.tmp 8 _) (OV.tmp 13 _) (.inr (.inl ⟨rfl, (Int.sub_zero _).symm⟩)) (i64_id (by omega) (by omega)))] [(0, .t (.c (.d (.raw nilV)))), (1, vi .i64 (n : Int)), (4, .t (.c (.d (.raw nilV))))] [] (by kernel_rfl) h ?_; clear h; intro a w h
  refine rSeq fam0ok 1 [] [(0, .t (.c (.d (.raw nilV)))), (1, vi .i64 (n : Int)), (4, .t (.c (.d (.raw nilV)))), (16, vb (decide ((n : Int) > 0)))] [] (by kernel_rfl) h ?_; clear h; intro a w h
  refine condS (decide ((n : Int) > 0)) h rfl (fun hc => ?_) (fun hc => ?_)
  ·have hc1 := hc; clear hc
   have hc1' := of_decide_eq_true hc1
   refine rS fam0ok 1 [(2, .gen _ _ _ fun _ _ _ _ => Op.capR (d := 19) (ao := none) (n := 0) (c := 0) kn_0.hu (OV.tmp 18 _)), (3, .gen _ _ _ fun _ _ _ _ => Op.sliceR0 (d := 20) (k := .i64) kn_0 (OV.tmp 17 _) (OV.tmp 19 _)), (5, .gen _ _ _ fun _ _ _ _ => Op.appNM (d := 22) (t := 20) (u := 21) (n := 1) (L := n) kn_1 Try.underlying3 (by omega) (by omega) (by omega)), (8, .gen _ _ _ fun _ _ _ _ => Op.sliceHi (d := 25) (t := 22) (k := .i64) (n := 1) (len := n) (h := 0) (rows := [].map StD.d) (rty := 43) kn_0 (by first | omega | (simp at *; omega)) (OV.tmp 24 _))] [(0, .t (.c (.own 1 0))), (4, .t (.c (.d (.raw nilV))))] [(1, .row 43 2 ([].map StD.d))] (by kernel_rfl) h ?_; clear h; intro a w h
   refine then_n ?_
   refine rSeq fam0ok 2 [] [(4, .t (.c (.own 1 0)))] [(1, .row 43 2 ([].map StD.d))] (by kernel_rfl) h ?_; clear h; intro a w h
   refine wp_ret ?_
   replace h := renS 1 0 [(4, .t (.c (.own 0 0)))] [(0, .row 43 2 ([].map StD.d))] h (by kernel_rfl) (by kernel_rfl) (by kernel_rfl)
   refine retS [.c (.own 0 0)] h Exit.ret (.inl rfl)  rfl ⟨RV.tmp _ _ rfl, trivial⟩ ?_ (by kernel_rfl) (by kernel_rfl)
   rfl
  ·have hc2 := hc; clear hc
   have hc2' := of_decide_eq_false hc2
   refine wp_skip ?_
   refine then_n ?_
   refine rSeq fam0ok 2 [] [(4, .t (.c (.d (.raw nilV))))] [] (by kernel_rfl) h ?_; clear h; intro a w h
   refine wp_ret ?_
   replace h := nilOSs 4 0 2 2 43 (.t (.c (.d (.raw nilV)))) [(4, .t (.c (.own 2 0)))] [(2, .row 43 2 ([].map StD.d))] h (by kernel_rfl) rfl rfl (by kernel_rfl) (by kernel_rfl)
   replace h := renS 2 0 [(4, .t (.c (.own 0 0)))] [(0, .row 43 2 ([].map StD.d))] h (by kernel_rfl) (by kernel_rfl) (by kernel_rfl)
   refine retS [.c (.own 0 0)] h Exit.ret (.inl rfl)  rfl ⟨RV.tmp _ _ rfl, trivial⟩ ?_ (by kernel_rfl) (by kernel_rfl)
   rfl
set_option maxHeartbeats 4000000 in
theorem SConcatSt (xss : List (List StD)) (hl : (xss.map List.length).sum ≤ 1000000) (hn : xss.length ≤ 1000) : Fn Try.prog 36 [] [.t (.c (.d (.sl 1 (xss.map (slD 2 StD.d)))))] (.t (.c (.d (.sl 2 (xss.flatten.map StD.d))))) [] := by
 refine Fn.body Try.func36 rfl 36 rfl fun w H B a h => ?_
 refine rSeq fam0ok 5 [] [(0, .t (.c (.d (.sl 1 (xss.map (slD 2 StD.d)))))), (2, .t (.c (.d (.raw nilV))))] [] (by kernel_rfl) h ?_; clear h; intro a w h
 refine rSeq fam0ok 5 [] [(0, .t (.c (.d (.sl 1 (xss.map (slD 2 StD.d)))))), (2, .t (.c (.d (.raw nilV)))), (3, vi .i64 0)] [] (by kernel_rfl) h ?_; clear h; intro a w h
 refine wp_seq ?_
 refine rSeq fam0ok 5 [(1, .len (c := (.d (.sl 1 (xss.map (slD 2 StD.d))))) (n := xss.length) (lenC_map _ _ _))] [(0, .t (.c (.d (.sl 1 (xss.map (slD 2 StD.d)))))), (2, .t (.c (.d (.raw nilV)))), (3, vi .i64 0), (9, .t (.c (.d (.sl 1 (xss.map (slD 2 StD.d)))))), (10, vi .i64 (xss.length : Int)), (11, vi .i64 0)] [] (by kernel_rfl) h ?_; clear h; intro a w h
 refine wp_block ?_
 refine loopS (ι := (Nat)) (fun (z_ : (Nat)) => match z_ with | j => j ≤ xss.length)
   (fun (z_ : (Nat)) => match z_ with | j => [(0, .t (.c (.d (.sl 1 (xss.map (slD 2 StD.d)))))), (2, .t (.c (.d (.raw nilV)))), (3, vi .i64 ((((xss.map List.length).take j).sum : Nat) : Int)), (9, .t (.c (.d (.sl 1 (xss.map (slD 2 StD.d)))))), (10, vi .i64 (xss.length : Int)), (11, vi .i64 (j : Int))])
   (fun (z_ : (Nat)) => match z_ with | j => [])
   (fun (z_ : (Nat)) => match z_ with | j => xss.length - j) 0 ?_ h (by kernel_rfl) (by kernel_rfl) ?_
 ·exact Nat.zero_le _
 ·clear h; rintro j a w hI h
  change St _ (F.of [(0, .t (.c (.d (.sl 1 (xss.map (slD 2 StD.d)))))), (2, .t (.c (.d (.raw nilV)))), (3, vi .i64 ((((xss.map List.length).take j).sum : Nat) : Int)), (9, .t (.c (.d (.sl 1 (xss.map (slD 2 StD.d)))))), (10, vi .i64 (xss.length : Int)), (11, vi .i64 (j : Int))] []) a w at h
  have hs1 := sum_take_le (xss.map List.length) j
  have hs2 := sum_take_le (xss.map List.length) (j + 1)
  refine rSeq fam0ok 5 [] [(0, .t (.c (.d (.sl 1 (xss.map (slD 2 StD.d)))))), (2, .t (.c (.d (.raw nilV)))), (3, vi .i64 ((((xss.map List.length).take j).sum : Nat) : Int)), (9, .t (.c (.d (.sl 1 (xss.map (slD 2 StD.d)))))), (10, vi .i64 (xss.length : Int)), (11, vi .i64 (j : Int)), (12, vb (decide ((j : Int) < (xss.length : Int))))] [] (by kernel_rfl) h ?_; clear h; intro a w h
  refine wp_seq ?_
  refine condS (decide ((j : Int) < (xss.length : Int))) h rfl (fun hc => ?_) (fun hc => ?_)
  ·have hc1 := hc; clear hc
   have hc1' := of_decide_eq_true hc1
   refine wp_skip ?_
   refine then_n ?_
   refine wp_seq ?_
   refine wp_block ?_
   obtain ⟨x1, hx1⟩ : ∃ z_ : List StD, xss[j]? = some z_ := ⟨_, List.getElem?_eq_getElem (by first | omega | (simp at *; omega))⟩
   have hsx : x1.length ≤ (xss.map List.length).sum := by
    have := sum_mem (List.mem_map_of_mem (f := List.length) (List.mem_of_getElem? hx1))
    omega
   refine rSeq fam0ok 5 [(0, .gen _ _ _ fun _ _ _ _ => Op.idxD (d := 13) (t := 9) (k := .i64) kn_2 (map_at hx1 (f := (slD 2 StD.d))) (OV.tmp 11 _))] [(0, .t (.c (.d (.sl 1 (xss.map (slD 2 StD.d)))))), (2, .t (.c (.d (.raw nilV)))), (3, vi .i64 ((((xss.map List.length).take j).sum : Nat) : Int)), (5, .t (.c (.d (.sl 2 (x1.map StD.d))))), (9, .t (.c (.d (.sl 1 (xss.map (slD 2 StD.d)))))), (10, vi .i64 (xss.length : Int)), (11, vi .i64 (j : Int))] [] (by kernel_rfl) h ?_; clear h; intro a w h
   refine rSeq fam0ok 5 [(2, .len (c := (.d (.sl 2 (x1.map StD.d)))) (n := x1.length) (lenC_map _ _ _)), (3, .gen _ _ _ fun _ _ _ _ => Op.arith (op := .add) (d := 18) (xt := 3) (yt := 3) (k := .i64) (m := ((((xss.map List.length).take j).sum : Nat) : Int)) (n := (x1.length : Int)) (r := ((((xss.map List.length).take (j + 1)).sum : Nat) : Int)) (OV.tmp 15 _) (OV.tmp 17 _) (.inl ⟨rfl, (by rw [List.take_add_one, List.getElem?_map, hx1]; simp)⟩) (i64_id (by omega) (by omega)))] [(0, .t (.c (.d (.sl 1 (xss.map (slD 2 StD.d)))))), (2, .t (.c (.d (.raw nilV)))), (3, vi .i64 ((((xss.map List.length).take (j + 1)).sum : Nat) : Int)), (9, .t (.c (.d (.sl 1 (xss.map (slD 2 StD.d)))))), (10, vi .i64 (xss.length : Int)), (11, vi .i64 (j : Int))] [] (by kernel_rfl) h ?_; clear h; intro a w h
   refine rSeq fam0ok 5 [(1, .cmp (op := .lss) (m := ((((xss.map List.length).take (j + 1)).sum : Nat) : Int)) (n := 0) (b := false) .i64 (show decide (((((xss.map List.length).take (j + 1)).sum : Nat) : Int) < 0) = false from decide_eq_false (by omega)))] [(0, .t (.c (.d (.sl 1 (xss.map (slD 2 StD.d)))))), (2, .t (.c (.d (.raw nilV)))), (3, vi .i64 ((((xss.map List.length).take (j + 1)).sum : Nat) : Int)), (9, .t (.c (.d (.sl 1 (xss.map (slD 2 StD.d)))))), (10, vi .i64 (xss.length : Int)), (11, vi .i64 (j : Int)), (20, vb false)] [] (by kernel_rfl) h ?_; clear h; intro a w h
   refine condS false h rfl (fun hc => ?_) (fun hc => ?_)
   ·cases hc
   ·clear hc
    refine wp_skip ?_
    refine block_n ?_
    refine then_n ?_
    refine rS fam0ok 5 [(0, .add .i64 (m := (j : Int)) (n := 1) (i64_id (by omega) (by omega)))] [(0, .t (.c (.d (.sl 1 (xss.map (slD 2 StD.d)))))), (2, .t (.c (.d (.raw nilV)))), (3, vi .i64 ((((xss.map List.length).take (j + 1)).sum : Nat) : Int)), (9, .t (.c (.d (.sl 1 (xss.map (slD 2 StD.d)))))), (10, vi .i64 (xss.length : Int)), (11, vi .i64 ((j : Int) + 1))] [] (by kernel_rfl) h ?_; clear h; intro a w h
    refine then_n ?_
    refine roundS (x := j) (y := (j + 1)) h ?_ ?_ (by kernel_rfl) (by kernel_rfl)
    ·have := at_lt hx1; omega
    ·show xss.length - (j + 1) < xss.length - j
     have := at_lt hx1; omega
  ·have hc2 := hc; clear hc
   have hc2' := of_decide_eq_false hc2
   refine wp_exit ?_
   refine then_x ?_
   refine then_x ?_
   refine inBlock_exit ?_
   refine then_n ?_
   have hj : j = xss.length := by omega
   refine rSeq fam0ok 5 [(1, .call (SGrowSt ((xss.map List.length).take j).sum (by omega)) kn_3)] [(0, .t (.c (.d (.sl 1 (xss.map (slD 2 StD.d)))))), (2, .t (.c (.d (.raw nilV)))), (6, .t (.c (.own 0 0)))] [(0, .row 43 2 ([].map StD.d))] (by kernel_rfl) h ?_; clear h; intro a w h
   refine wp_seq ?_
   refine rSeq fam0ok 5 [(1, .len (c := (.d (.sl 1 (xss.map (slD 2 StD.d))))) (n := xss.length) (lenC_map _ _ _))] [(2, .t (.c (.d (.raw nilV)))), (6, .t (.c (.own 0 0))), (25, .t (.c (.d (.sl 1 (xss.map (slD 2 StD.d)))))), (26, vi .i64 (xss.length : Int)), (27, vi .i64 0)] [(0, .row 43 2 ([].map StD.d))] (by kernel_rfl) h ?_; clear h; intro a w h
   refine wp_block ?_
   refine loopS (ι := (Nat)) (fun (z_ : (Nat)) => match z_ with | i => i ≤ xss.length)
     (fun (z_ : (Nat)) => match z_ with | i => [(2, .t (.c (.d (.raw nilV)))), (6, .t (.c (.own 0 ((xss.take i).flatten).length))), (25, .t (.c (.d (.sl 1 (xss.map (slD 2 StD.d)))))), (26, vi .i64 (xss.length : Int)), (27, vi .i64 (i : Int))])
     (fun (z_ : (Nat)) => match z_ with | i => [(0, .row 43 2 (((xss.take i).flatten).map StD.d))])
     (fun (z_ : (Nat)) => match z_ with | i => xss.length - i) 0 ?_ h (by kernel_rfl) (by kernel_rfl) ?_
   ·exact Nat.zero_le _
   ·clear h; rintro i a w hI h
    change St _ (F.of [(2, .t (.c (.d (.raw nilV)))), (6, .t (.c (.own 0 ((xss.take i).flatten).length))), (25, .t (.c (.d (.sl 1 (xss.map (slD 2 StD.d)))))), (26, vi .i64 (xss.length : Int)), (27, vi .i64 (i : Int))] [(0, .row 43 2 (((xss.take i).flatten).map StD.d))]) a w at h
    have hs1 := sum_take_le (xss.map List.length) i
    have hs2 := sum_take_le (xss.map List.length) (i + 1)
    have hf1 : ((xss.take i).flatten).length = ((xss.map List.length).take i).sum := by rw [flat_sum, List.map_take]
    have hf2 : ((xss.take (i + 1)).flatten).length = ((xss.map List.length).take (i + 1)).sum := by rw [flat_sum, List.map_take]
    refine rSeq fam0ok 5 [] [(2, .t (.c (.d (.raw nilV)))), (6, .t (.c (.own 0 ((xss.take i).flatten).length))), (25, .t (.c (.d (.sl 1 (xss.map (slD 2 StD.d)))))), (26, vi .i64 (xss.length : Int)), (27, vi .i64 (i : Int)), (28, vb (decide ((i : Int) < (xss.length : Int))))] [(0, .row 43 2 (((xss.take i).flatten).map StD.d))] (by kernel_rfl) h ?_; clear h; intro a w h
    refine wp_seq ?_
    refine condS (decide ((i : Int) < (xss.length : Int))) h rfl (fun hc => ?_) (fun hc => ?_)
    ·have hc3 := hc; clear hc
     have hc3' := of_decide_eq_true hc3
     refine wp_skip ?_
     refine then_n ?_
     refine wp_seq ?_
     refine wp_block ?_
     obtain ⟨x3, hx3⟩ : ∃ z_ : List StD, xss[i]? = some z_ := ⟨_, List.getElem?_eq_getElem (by first | omega | (simp at *; omega))⟩
     have hsx : x3.length ≤ (xss.map List.length).sum := by
      have := sum_mem (List.mem_map_of_mem (f := List.length) (List.mem_of_getElem? hx3))
      omega
     refine rSeq fam0ok 5 [(0, .gen _ _ _ fun _ _ _ _ => Op.idxD (d := 29) (t := 25) (k := .i64) kn_2 (map_at hx3 (f := (slD 2 StD.d))) (OV.tmp 27 _))] [(2, .t (.c (.d (.raw nilV)))), (6, .t (.c (.own 0 ((xss.take i).flatten).length))), (8, .t (.c (.d (.sl 2 (x3.map StD.d))))), (25, .t (.c (.d (.sl 1 (xss.map (slD 2 StD.d)))))), (26, vi .i64 (xss.length : Int)), (27, vi .i64 (i : Int))] [(0, .row 43 2 (((xss.take i).flatten).map StD.d))] (by kernel_rfl) h ?_; clear h; intro a w h
     refine rS fam0ok 5 [(2, .gen _ _ _ fun _ _ _ _ => Op.appOD (d := 33) (t := 31) (u := 32) (n := 0) (n' := 5) (len := ((xss.take i).flatten).length) (len' := (((xss.take i).flatten) ++ x3).length) (rows := ((xss.take i).flatten).map StD.d) (rows2 := x3.map StD.d) (rows' := (((xss.take i).flatten) ++ x3).map StD.d) kn_1 (by first | exact (List.length_map _).symm | simp) (by first | (rw [List.length_append, List.length_map]; done) | simp) (by simp) (by simp [StD.d]) (by first | omega | (simp at *; done) | (simp at *; omega)))] [(2, .t (.c (.d (.raw nilV)))), (6, .t (.c (.own 5 (((xss.take i).flatten) ++ x3).length))), (25, .t (.c (.d (.sl 1 (xss.map (slD 2 StD.d)))))), (26, vi .i64 (xss.length : Int)), (27, vi .i64 (i : Int))] [(5, .row 43 2 ((((xss.take i).flatten) ++ x3).map StD.d))] (by kernel_rfl) h ?_; clear h; intro a w h
     refine block_n ?_
     refine then_n ?_
     refine rS fam0ok 6 [(0, .add .i64 (m := (i : Int)) (n := 1) (i64_id (by omega) (by omega)))] [(2, .t (.c (.d (.raw nilV)))), (6, .t (.c (.own 5 (((xss.take i).flatten) ++ x3).length))), (25, .t (.c (.d (.sl 1 (xss.map (slD 2 StD.d)))))), (26, vi .i64 (xss.length : Int)), (27, vi .i64 ((i : Int) + 1))] [(5, .row 43 2 ((((xss.take i).flatten) ++ x3).map StD.d))] (by kernel_rfl) h ?_; clear h; intro a w h
     refine then_n ?_
     replace h := h.conv (f' := F.of [(2, .t (.c (.d (.raw nilV)))), (6, .t (.c (.own 5 ((xss.take (i + 1)).flatten).length))), (25, .t (.c (.d (.sl 1 (xss.map (slD 2 StD.d)))))), (26, vi .i64 (xss.length : Int)), (27, vi .i64 ((i : Int) + 1))] [(5, .row 43 2 (((xss.take (i + 1)).flatten).map StD.d))]) (congrArg (fun (z_ : List StD) => F.of [(2, .t (.c (.d (.raw nilV)))), (6, .t (.c (.own 5 z_.length))), (25, .t (.c (.d (.sl 1 (xss.map (slD 2 StD.d)))))), (26, vi .i64 (xss.length : Int)), (27, vi .i64 ((i : Int) + 1))] [(5, .row 43 2 (z_.map StD.d))]) (show ((((xss.take i).flatten) ++ x3) : List StD) = ((xss.take (i + 1)).flatten) from (by rw [List.take_add_one, hx3]; simp)))
     replace h := renS 5 0 [(2, .t (.c (.d (.raw nilV)))), (6, .t (.c (.own 0 ((xss.take (i + 1)).flatten).length))), (25, .t (.c (.d (.sl 1 (xss.map (slD 2 StD.d)))))), (26, vi .i64 (xss.length : Int)), (27, vi .i64 ((i : Int) + 1))] [(0, .row 43 2 (((xss.take (i + 1)).flatten).map StD.d))] h (by kernel_rfl) (by kernel_rfl) (by kernel_rfl)
     refine roundS (x := i) (y := (i + 1)) h ?_ ?_ (by kernel_rfl) (by kernel_rfl)
     ·have := at_lt hx3; omega
     ·show xss.length - (i + 1) < xss.length - i
      have := at_lt hx3; omega
    ·have hc4 := hc; clear hc
     have hc4' := of_decide_eq_false hc4
     refine wp_exit ?_
     refine then_x ?_
     refine then_x ?_
     refine inBlock_exit ?_
     refine then_n ?_
     refine rSeq fam0ok 6 [] [(2, .t (.c (.own 0 ((xss.take i).flatten).length)))] [(0, .row 43 2 (((xss.take i).flatten).map StD.d))] (by kernel_rfl) h ?_; clear h; intro a w h
     refine wp_ret ?_
     replace h := pubS 0 2 43 (((xss.take i).flatten).map StD.d) [(2, .t (.c (.d (.sl 2 (((xss.take i).flatten).map StD.d)))))] [] h rfl (show AllEq _ [((xss.take i).flatten).length] from ⟨by first | exact (List.length_map _).symm | (simp; done) | (simp; omega), trivial⟩) trivial (by kernel_rfl) (by kernel_rfl)
     refine retS [.c (.d (.sl 2 (((xss.take i).flatten).map StD.d)))] h Exit.ret (.inl rfl)  rfl ⟨RV.tmp _ _ rfl, trivial⟩ ?_ (by kernel_rfl) (by kernel_rfl)
     have hi : i = xss.length := by omega
     subst hi
     rw [List.take_length]; first | done | rfl
structure RunOk (M : Nat) (r : RunD) : Prop where
  len : r.stem.length + r.cycle.length ≤ 20
  stem : ∀ x ∈ r.stem, StOk M x
  cycle : ∀ x ∈ r.cycle, StOk M x
theorem RunOk.all {M : Nat} {r : RunD} (h : RunOk M r) : ∀ x ∈ r.stem ++ r.cycle, StOk M x := fun x hx => (List.mem_append.1 hx).elim (h.stem x) (h.cycle x)
def nxt (r : RunD) (i : Nat) : StD := if i + 1 < (r.stem ++ r.cycle).length then ((r.stem ++ r.cycle)[i + 1]?).getD st0 else (r.cycle[0]?).getD st0
def stepOk (s : SysD) (r : RunD) (i : Nat) : Bool := leads s (((r.stem ++ r.cycle)[i]?).getD st0) ((r.acts[i]?).getD 0) (nxt r i)
def right (s : SysD) (r : RunD) : Bool := decide (r.cycle.length ≠ 0 ∧ r.acts.length = (r.stem ++ r.cycle).length) && (first s (((r.stem ++ r.cycle)[0]?).getD st0) && allN (r.stem ++ r.cycle).length (stepOk s r))
def holdsP (p : PropD) (x : StD) : Bool := if p.at_ = true then decide (0 ≤ p.proc ∧ p.proc < (x.locs.length : Int)) && ((x.locs[p.proc.toNat]?).getD 0 == p.loc) else p.f.holds x.vals
def PropOk (L : Nat) (p : PropD) : Prop := p.f.lb ∧ p.f.ok L
def letter (ps : List PropD) (x : StD) : List Bool := ps.map fun p => holdsP p x
set_option maxHeartbeats 4000000 in
theorem SRight (s : SysD) (r : RunD) {L M : Nat} (hL : L + M ≤ 4000) (hs : SysOk L s) (hr : RunOk M r) : Fn Try.prog 16 [] [.t (.agg (sysC s)), .t (.agg [.d (.sl 2 (r.stem.map StD.d)), .d (.sl 2 (r.cycle.map StD.d)), .d (.sl 1 (r.acts.map intD))])] (vb (right s r)) [] := by
 have lr := hr.len
 have lall : (r.stem ++ r.cycle).length = r.stem.length + r.cycle.length := List.length_append
 refine Fn.body Try.func16 rfl 67 rfl fun w H B a h => ?_
 refine rSeq fam0ok 0 [] [(2, vp 0 0), (3, vp 1 0), (4, vb false)] [(0, .box (sysC s)), (1, .box [.d (.sl 2 (r.stem.map StD.d)), .d (.sl 2 (r.cycle.map StD.d)), .d (.sl 1 (r.acts.map intD))])] (by kernel_rfl) h ?_; clear h; intro a w h
 refine rSeq fam0ok 2 [(4, .gen _ _ _ fun _ _ _ _ => Op.buildD (d := 13) (len := 2) (rows := [r.stem, r.cycle].map (slD 2 StD.d)) (rs := [(10, .t (.c (.d (.sl 2 (r.stem.map StD.d))))), (12, .t (.c (.d (.sl 2 (r.cycle.map StD.d)))))]) kn_4 (.cons (i := 0) (OV.tmp 10 _) (.cons (i := 1) (OV.tmp 12 _) (.nil))) (by kernel_rfl) rfl (by simp [slD]) (by decide) (by decide)), (5, .call (Fn.cast (SConcatSt [r.stem, r.cycle] (by simp only [List.map_cons, List.map_nil, List.sum_cons, List.sum_nil]; omega) (by simp)) (show _ = (.t (.c (.d (.sl 2 ((r.stem ++ r.cycle).map StD.d)))) : V) by simp)) kn_5)] [(2, vp 0 0), (3, vp 1 0), (4, vb false), (5, .t (.c (.d (.sl 2 ((r.stem ++ r.cycle).map StD.d)))))] [(0, .box (sysC s)), (1, .box [.d (.sl 2 (r.stem.map StD.d)), .d (.sl 2 (r.cycle.map StD.d)), .d (.sl 1 (r.acts.map intD))])] (by kernel_rfl) h ?_; clear h; intro a w h
 refine wp_seq ?_
 rcases Bool.eq_false_or_eq_true ((r.cycle.length : Int) == 0) with hc | hc
 ·have hc1 := hc; clear hc
  have hc1' := hc1; (try simp at hc1')
  refine rSeq fam0ok 2 [(2, .len (c := (.d (.sl 2 (r.cycle.map StD.d)))) (n := r.cycle.length) (lenC_map _ _ _)), (3, .cmp (op := .eql) (m := (r.cycle.length : Int)) (n := 0) (b := true) .i64 hc1)] [(2, vp 0 0), (3, vp 1 0), (4, vb false), (5, .t (.c (.d (.sl 2 ((r.stem ++ r.cycle).map StD.d))))), (34, vb true)] [(0, .box (sysC s)), (1, .box [.d (.sl 2 (r.stem.map StD.d)), .d (.sl 2 (r.cycle.map StD.d)), .d (.sl 1 (r.acts.map intD))])] (by kernel_rfl) h ?_; clear h; intro a w h
  refine condS true h rfl (fun hc => ?_) (fun hc => ?_)
  ·clear hc
   refine rSeq fam0ok 2 [] [(2, vp 0 0), (3, vp 1 0), (4, vb false), (5, .t (.c (.d (.sl 2 ((r.stem ++ r.cycle).map StD.d)))))] [(0, .box (sysC s)), (1, .box [.d (.sl 2 (r.stem.map StD.d)), .d (.sl 2 (r.cycle.map StD.d)), .d (.sl 1 (r.acts.map intD))])] (by kernel_rfl) h ?_; clear h; intro a w h
   refine wp_ret ?_
   refine then_r ?_
   refine retS [.c (.d (.raw (.bool false)))] h Exit.ret (.inl rfl)  rfl ⟨RV.tmp _ _ rfl, trivial⟩ ?_ (by kernel_rfl) (by kernel_rfl)
   have hz : right s r = false := by unfold right; rw [decide_eq_false (by have := hc1; simp at this; intro h; exact h.1 (by simp [this]))]; rfl
   rw [hz]; first | done | rfl
  ·cases hc
 ·have hc2 := hc; clear hc
  have hc2' := hc2; (try simp at hc2')
  have hcl : 0 < r.cycle.length := by have := beq_eq_false_iff_ne.1 hc2; omega
  rcases Bool.eq_false_or_eq_true ((r.acts.length : Int) != ((r.stem ++ r.cycle).length : Int)) with hc | hc
  ·have hc3 := hc; clear hc
   have hc3' := hc3; (try simp at hc3')
   refine rSeq fam0ok 2 [(2, .len (c := (.d (.sl 2 (r.cycle.map StD.d)))) (n := r.cycle.length) (lenC_map _ _ _)), (3, .cmp (op := .eql) (m := (r.cycle.length : Int)) (n := 0) (b := false) .i64 hc2), (7, .len (c := (.d (.sl 1 (r.acts.map intD)))) (n := r.acts.length) (lenC_map _ _ _)), (9, .len (c := (.d (.sl 2 ((r.stem ++ r.cycle).map StD.d)))) (n := (r.stem ++ r.cycle).length) (lenC_map _ _ _)), (10, .cmp (op := .neq) (m := (r.acts.length : Int)) (n := ((r.stem ++ r.cycle).length : Int)) (b := true) .i64 hc3)] [(2, vp 0 0), (3, vp 1 0), (4, vb false), (5, .t (.c (.d (.sl 2 ((r.stem ++ r.cycle).map StD.d))))), (34, vb true)] [(0, .box (sysC s)), (1, .box [.d (.sl 2 (r.stem.map StD.d)), .d (.sl 2 (r.cycle.map StD.d)), .d (.sl 1 (r.acts.map intD))])] (by kernel_rfl) h ?_; clear h; intro a w h
   refine condS true h rfl (fun hc => ?_) (fun hc => ?_)
   ·clear hc
    refine rSeq fam0ok 2 [] [(2, vp 0 0), (3, vp 1 0), (4, vb false), (5, .t (.c (.d (.sl 2 ((r.stem ++ r.cycle).map StD.d)))))] [(0, .box (sysC s)), (1, .box [.d (.sl 2 (r.stem.map StD.d)), .d (.sl 2 (r.cycle.map StD.d)), .d (.sl 1 (r.acts.map intD))])] (by kernel_rfl) h ?_; clear h; intro a w h
    refine wp_ret ?_
    refine then_r ?_
    refine retS [.c (.d (.raw (.bool false)))] h Exit.ret (.inl rfl)  rfl ⟨RV.tmp _ _ rfl, trivial⟩ ?_ (by kernel_rfl) (by kernel_rfl)
    have hz : right s r = false := by unfold right; rw [decide_eq_false (by have := hc3; simp at this; intro h; have := h.2; simp at this; omega)]; rfl
    rw [hz]; first | done | rfl
   ·cases hc
  ·have hc4 := hc; clear hc
   have hc4' := hc4; (try simp at hc4')
   have hla : r.acts.length = (r.stem ++ r.cycle).length := by have := hc4; simp only [bne_eq_false_iff_eq] at this; omega
   obtain ⟨x2, hx2⟩ : ∃ z_ : StD, (r.stem ++ r.cycle)[0]? = some z_ := ⟨_, List.getElem?_eq_getElem (by first | omega | (simp at *; omega))⟩
   have gx2 := hr.all x2 (List.mem_of_getElem? hx2)
   refine rSeq fam0ok 2 [(2, .len (c := (.d (.sl 2 (r.cycle.map StD.d)))) (n := r.cycle.length) (lenC_map _ _ _)), (3, .cmp (op := .eql) (m := (r.cycle.length : Int)) (n := 0) (b := false) .i64 hc2), (7, .len (c := (.d (.sl 1 (r.acts.map intD)))) (n := r.acts.length) (lenC_map _ _ _)), (9, .len (c := (.d (.sl 2 ((r.stem ++ r.cycle).map StD.d)))) (n := (r.stem ++ r.cycle).length) (lenC_map _ _ _)), (10, .cmp (op := .neq) (m := (r.acts.length : Int)) (n := ((r.stem ++ r.cycle).length : Int)) (b := false) .i64 hc4), (15, .gen _ _ _ fun _ _ _ _ => Op.idxD (d := 30) (t := 29) (k := .i64) kn_0 (map_at hx2 (f := StD.d)) (OV.const (.int .i64 0) rfl)), (17, .call (SFirst s x2 (L := L) (M := M) (by omega) hs gx2) kn_6)] [(2, vp 0 0), (3, vp 1 0), (4, vb false), (5, .t (.c (.d (.sl 2 ((r.stem ++ r.cycle).map StD.d))))), (34, vb (!(first s x2)))] [(0, .box (sysC s)), (1, .box [.d (.sl 2 (r.stem.map StD.d)), .d (.sl 2 (r.cycle.map StD.d)), .d (.sl 1 (r.acts.map intD))])] (by kernel_rfl) h ?_; clear h; intro a w h
   refine condS (!(first s x2)) h rfl (fun hc => ?_) (fun hc => ?_)
   ·have hc5 := hc; clear hc
    have hc5' := hc5; (try simp at hc5')
    refine rSeq fam0ok 2 [] [(2, vp 0 0), (3, vp 1 0), (4, vb false), (5, .t (.c (.d (.sl 2 ((r.stem ++ r.cycle).map StD.d)))))] [(0, .box (sysC s)), (1, .box [.d (.sl 2 (r.stem.map StD.d)), .d (.sl 2 (r.cycle.map StD.d)), .d (.sl 1 (r.acts.map intD))])] (by kernel_rfl) h ?_; clear h; intro a w h
    refine wp_ret ?_
    refine then_r ?_
    refine retS [.c (.d (.raw (.bool false)))] h Exit.ret (.inl rfl)  rfl ⟨RV.tmp _ _ rfl, trivial⟩ ?_ (by kernel_rfl) (by kernel_rfl)
    have hz : right s r = false := by unfold right; rw [decide_eq_true ⟨by have := hc2; simp at this; intro h; exact this (List.length_eq_zero_iff.1 h), by have := hc4; simp at this; simp; omega⟩, Bool.true_and]; rw [hx2, Option.getD_some, (show (first s x2) = false from by simpa using hc5)]; rfl
    rw [hz]; first | done | rfl
   ·have hc6 := hc; clear hc
    have hc6' := hc6; (try simp at hc6')
    refine wp_skip ?_
    refine then_n ?_
    refine wp_seq ?_
    refine rSeq fam0ok 2 [(1, .len (c := (.d (.sl 2 ((r.stem ++ r.cycle).map StD.d)))) (n := (r.stem ++ r.cycle).length) (lenC_map _ _ _))] [(2, vp 0 0), (3, vp 1 0), (4, vb false), (5, .t (.c (.d (.sl 2 ((r.stem ++ r.cycle).map StD.d))))), (35, .t (.c (.d (.sl 2 ((r.stem ++ r.cycle).map StD.d))))), (36, vi .i64 ((r.stem ++ r.cycle).length : Int)), (37, vi .i64 0)] [(0, .box (sysC s)), (1, .box [.d (.sl 2 (r.stem.map StD.d)), .d (.sl 2 (r.cycle.map StD.d)), .d (.sl 1 (r.acts.map intD))])] (by kernel_rfl) h ?_; clear h; intro a w h
    refine wp_block ?_
    refine loopS (ι := (Nat)) (fun (z_ : (Nat)) => match z_ with | j => j ≤ (r.stem ++ r.cycle).length ∧ allN j (stepOk s r) = true)
      (fun (z_ : (Nat)) => match z_ with | j => [(2, vp 0 0), (3, vp 1 0), (5, .t (.c (.d (.sl 2 ((r.stem ++ r.cycle).map StD.d))))), (35, .t (.c (.d (.sl 2 ((r.stem ++ r.cycle).map StD.d))))), (36, vi .i64 ((r.stem ++ r.cycle).length : Int)), (37, vi .i64 (j : Int))])
      (fun (z_ : (Nat)) => match z_ with | j => [(0, .box (sysC s)), (1, .box [.d (.sl 2 (r.stem.map StD.d)), .d (.sl 2 (r.cycle.map StD.d)), .d (.sl 1 (r.acts.map intD))])])
      (fun (z_ : (Nat)) => match z_ with | j => (r.stem ++ r.cycle).length - j) 0 ?_ h (by kernel_rfl) (by kernel_rfl) ?_
    ·exact ⟨Nat.zero_le _, rfl⟩
    ·clear h; rintro j a w hI h
     change St _ (F.of [(2, vp 0 0), (3, vp 1 0), (5, .t (.c (.d (.sl 2 ((r.stem ++ r.cycle).map StD.d))))), (35, .t (.c (.d (.sl 2 ((r.stem ++ r.cycle).map StD.d))))), (36, vi .i64 ((r.stem ++ r.cycle).length : Int)), (37, vi .i64 (j : Int))] [(0, .box (sysC s)), (1, .box [.d (.sl 2 (r.stem.map StD.d)), .d (.sl 2 (r.cycle.map StD.d)), .d (.sl 1 (r.acts.map intD))])]) a w at h
     obtain ⟨hI1, hI2⟩ := hI
     refine rSeq fam0ok 2 [] [(2, vp 0 0), (3, vp 1 0), (5, .t (.c (.d (.sl 2 ((r.stem ++ r.cycle).map StD.d))))), (35, .t (.c (.d (.sl 2 ((r.stem ++ r.cycle).map StD.d))))), (36, vi .i64 ((r.stem ++ r.cycle).length : Int)), (37, vi .i64 (j : Int)), (38, vb (decide ((j : Int) < ((r.stem ++ r.cycle).length : Int))))] [(0, .box (sysC s)), (1, .box [.d (.sl 2 (r.stem.map StD.d)), .d (.sl 2 (r.cycle.map StD.d)), .d (.sl 1 (r.acts.map intD))])] (by kernel_rfl) h ?_; clear h; intro a w h
     refine wp_seq ?_
     refine condS (decide ((j : Int) < ((r.stem ++ r.cycle).length : Int))) h rfl (fun hc => ?_) (fun hc => ?_)
     ·have hc7 := hc; clear hc
      have hc7' := of_decide_eq_true hc7
      refine wp_skip ?_
      refine then_n ?_
      refine wp_seq ?_
      refine wp_block ?_
      obtain ⟨x4, hx4⟩ : ∃ z_ : StD, (r.stem ++ r.cycle)[j]? = some z_ := ⟨_, List.getElem?_eq_getElem (by first | omega | (simp at *; omega))⟩
      have gx4 := hr.all x4 (List.mem_of_getElem? hx4)
      refine rSeq fam0ok 2 [(1, .gen _ _ _ fun _ _ _ _ => Op.idxD (d := 40) (t := 35) (k := .i64) kn_0 (map_at hx4 (f := StD.d)) (OV.tmp 37 _))] [(2, vp 0 0), (3, vp 1 0), (5, .t (.c (.d (.sl 2 ((r.stem ++ r.cycle).map StD.d))))), (6, vi .i64 (j : Int)), (7, vp 2 0), (35, .t (.c (.d (.sl 2 ((r.stem ++ r.cycle).map StD.d))))), (36, vi .i64 ((r.stem ++ r.cycle).length : Int)), (37, vi .i64 (j : Int))] [(0, .box (sysC s)), (1, .box [.d (.sl 2 (r.stem.map StD.d)), .d (.sl 2 (r.cycle.map StD.d)), .d (.sl 1 (r.acts.map intD))]), (2, .box [.d (.sl 1 (x4.locs.map intD)), .d (.sl 2 (x4.vals.map ziD))])] (by kernel_rfl) h ?_; clear h; intro a w h
      obtain ⟨x5, hx5⟩ : ∃ z_ : StD, r.cycle[0]? = some z_ := ⟨_, List.getElem?_eq_getElem (by first | omega | (simp at *; omega))⟩
      have gx5 := hr.cycle x5 (List.mem_of_getElem? hx5)
      refine rSeq fam0ok 3 [(2, .gen _ _ _ fun _ _ _ _ => Op.idxD (d := 44) (t := 43) (k := .i64) kn_0 (map_at hx5 (f := StD.d)) (OV.const (.int .i64 0) rfl))] [(2, vp 0 0), (3, vp 1 0), (5, .t (.c (.d (.sl 2 ((r.stem ++ r.cycle).map StD.d))))), (6, vi .i64 (j : Int)), (7, vp 2 0), (8, vp 3 0), (35, .t (.c (.d (.sl 2 ((r.stem ++ r.cycle).map StD.d))))), (36, vi .i64 ((r.stem ++ r.cycle).length : Int)), (37, vi .i64 (j : Int))] [(0, .box (sysC s)), (1, .box [.d (.sl 2 (r.stem.map StD.d)), .d (.sl 2 (r.cycle.map StD.d)), .d (.sl 1 (r.acts.map intD))]), (2, .box [.d (.sl 1 (x4.locs.map intD)), .d (.sl 2 (x4.vals.map ziD))]), (3, .box [.d (.sl 1 (x5.locs.map intD)), .d (.sl 2 (x5.vals.map ziD))])] (by kernel_rfl) h ?_; clear h; intro a w h
      refine wp_seq ?_
      refine rSeq fam0ok 4 [(1, .add .i64 (m := (j : Int)) (n := 1) (i64_id (by omega) (by omega))), (3, .len (c := (.d (.sl 2 ((r.stem ++ r.cycle).map StD.d)))) (n := (r.stem ++ r.cycle).length) (lenC_map _ _ _))] [(2, vp 0 0), (3, vp 1 0), (5, .t (.c (.d (.sl 2 ((r.stem ++ r.cycle).map StD.d))))), (6, vi .i64 (j : Int)), (7, vp 2 0), (8, vp 3 0), (35, .t (.c (.d (.sl 2 ((r.stem ++ r.cycle).map StD.d))))), (36, vi .i64 ((r.stem ++ r.cycle).length : Int)), (37, vi .i64 (j : Int)), (50, vb (decide (((j : Int) + 1) < ((r.stem ++ r.cycle).length : Int))))] [(0, .box (sysC s)), (1, .box [.d (.sl 2 (r.stem.map StD.d)), .d (.sl 2 (r.cycle.map StD.d)), .d (.sl 1 (r.acts.map intD))]), (2, .box [.d (.sl 1 (x4.locs.map intD)), .d (.sl 2 (x4.vals.map ziD))]), (3, .box [.d (.sl 1 (x5.locs.map intD)), .d (.sl 2 (x5.vals.map ziD))])] (by kernel_rfl) h ?_; clear h; intro a w h
      refine condS (decide (((j : Int) + 1) < ((r.stem ++ r.cycle).length : Int))) h rfl (fun hc => ?_) (fun hc => ?_)
      ·have hc8 := hc; clear hc
       have hc8' := of_decide_eq_true hc8
       obtain ⟨x6, hx6⟩ : ∃ z_ : StD, (r.stem ++ r.cycle)[j + 1]? = some z_ := ⟨_, List.getElem?_eq_getElem (by first | omega | (simp at *; omega))⟩
       have gx6 := hr.all x6 (List.mem_of_getElem? hx6)
       refine rS fam0ok 4 [(2, .add .i64 (m := (j : Int)) (n := 1) (i64_id (by omega) (by omega))), (3, .gen _ _ _ fun _ _ _ _ => Op.idxD (d := 54) (t := 51) (k := .i64) kn_0 (map_at hx6 (f := StD.d)) (OV.tmp 53 _))] [(2, vp 0 0), (3, vp 1 0), (5, .t (.c (.d (.sl 2 ((r.stem ++ r.cycle).map StD.d))))), (6, vi .i64 (j : Int)), (7, vp 2 0), (8, vp 3 0), (35, .t (.c (.d (.sl 2 ((r.stem ++ r.cycle).map StD.d))))), (36, vi .i64 ((r.stem ++ r.cycle).length : Int)), (37, vi .i64 (j : Int))] [(0, .box (sysC s)), (1, .box [.d (.sl 2 (r.stem.map StD.d)), .d (.sl 2 (r.cycle.map StD.d)), .d (.sl 1 (r.acts.map intD))]), (2, .box [.d (.sl 1 (x4.locs.map intD)), .d (.sl 2 (x4.vals.map ziD))]), (3, .box [.d (.sl 1 (x6.locs.map intD)), .d (.sl 2 (x6.vals.map ziD))])] (by kernel_rfl) h ?_; clear h; intro a w h
       refine then_n ?_
       obtain ⟨x7, hx7⟩ : ∃ z_ : Int, r.acts[j]? = some z_ := ⟨_, List.getElem?_eq_getElem (by first | omega | (simp at *; omega))⟩
       refine rSeq fam0ok 4 [(5, .gen _ _ _ fun _ _ _ _ => Op.idxD (d := 61) (t := 59) (k := .i64) tb_1 (map_at hx7 (f := intD)) (OV.tmp 60 _)), (8, .call (SLeads s x4 x7 x6 hL hs gx4 gx6) kn_8)] [(2, vp 0 0), (3, vp 1 0), (5, .t (.c (.d (.sl 2 ((r.stem ++ r.cycle).map StD.d))))), (35, .t (.c (.d (.sl 2 ((r.stem ++ r.cycle).map StD.d))))), (36, vi .i64 ((r.stem ++ r.cycle).length : Int)), (37, vi .i64 (j : Int)), (65, vb (!(leads s x4 x7 x6)))] [(0, .box (sysC s)), (1, .box [.d (.sl 2 (r.stem.map StD.d)), .d (.sl 2 (r.cycle.map StD.d)), .d (.sl 1 (r.acts.map intD))])] (by kernel_rfl) h ?_; clear h; intro a w h
       refine condS (!(leads s x4 x7 x6)) h rfl (fun hc => ?_) (fun hc => ?_)
       ·have hc9 := hc; clear hc
        have hc9' := hc9; (try simp at hc9')
        refine rSeq fam0ok 4 [] [(2, vp 0 0), (3, vp 1 0), (4, vb false), (5, .t (.c (.d (.sl 2 ((r.stem ++ r.cycle).map StD.d))))), (35, .t (.c (.d (.sl 2 ((r.stem ++ r.cycle).map StD.d))))), (36, vi .i64 ((r.stem ++ r.cycle).length : Int)), (37, vi .i64 (j : Int))] [(0, .box (sysC s)), (1, .box [.d (.sl 2 (r.stem.map StD.d)), .d (.sl 2 (r.cycle.map StD.d)), .d (.sl 1 (r.acts.map intD))])] (by kernel_rfl) h ?_; clear h; intro a w h
        refine wp_ret ?_
        refine block_r ?_
        refine then_r ?_
        refine then_r ?_
        refine block_r ?_
        refine then_r ?_
        refine retS [.c (.d (.raw (.bool false)))] h Exit.ret (.inl rfl)  rfl ⟨RV.tmp _ _ rfl, trivial⟩ ?_ (by kernel_rfl) (by kernel_rfl)
        have hz : right s r = false := by unfold right; rw [decide_eq_true ⟨by have := hc2; simp at this; intro h; exact this (List.length_eq_zero_iff.1 h), by have := hc4; simp at this; simp; omega⟩, Bool.true_and]; rw [hx2, Option.getD_some, (show (first s x2) = true from by simpa using hc6)]; rw [allN_fail (j := j) (by have := of_decide_eq_true hc7; omega) (show stepOk s r j = false from by unfold stepOk nxt; rw [if_pos (by have := of_decide_eq_true hc8; omega), hx4, hx7, hx6]; exact (show (leads s x4 x7 x6) = false from by simpa using hc9))]; rfl
        rw [hz]; first | done | rfl
       ·have hc10 := hc; clear hc
        have hc10' := hc10; (try simp at hc10')
        refine wp_skip ?_
        refine block_n ?_
        refine then_n ?_
        refine rS fam0ok 4 [(0, .add .i64 (m := (j : Int)) (n := 1) (i64_id (by omega) (by omega)))] [(2, vp 0 0), (3, vp 1 0), (5, .t (.c (.d (.sl 2 ((r.stem ++ r.cycle).map StD.d))))), (35, .t (.c (.d (.sl 2 ((r.stem ++ r.cycle).map StD.d))))), (36, vi .i64 ((r.stem ++ r.cycle).length : Int)), (37, vi .i64 ((j : Int) + 1))] [(0, .box (sysC s)), (1, .box [.d (.sl 2 (r.stem.map StD.d)), .d (.sl 2 (r.cycle.map StD.d)), .d (.sl 1 (r.acts.map intD))])] (by kernel_rfl) h ?_; clear h; intro a w h
        refine then_n ?_
        refine roundS (x := j) (y := j + 1) h ?_ ?_ (by kernel_rfl) (by kernel_rfl)
        ·exact ⟨by omega, allN_step hI2 (by unfold stepOk nxt; rw [if_pos (by have := of_decide_eq_true hc8; omega), hx4, hx7, hx6]; exact (show (leads s x4 x7 x6) = true from by simpa using hc10))⟩
        ·show (r.stem ++ r.cycle).length - (j + 1) < (r.stem ++ r.cycle).length - j
         omega
      ·have hc11 := hc; clear hc
       have hc11' := of_decide_eq_false hc11
       refine wp_skip ?_
       refine then_n ?_
       obtain ⟨x9, hx9⟩ : ∃ z_ : Int, r.acts[j]? = some z_ := ⟨_, List.getElem?_eq_getElem (by first | omega | (simp at *; omega))⟩
       refine rSeq fam0ok 4 [(5, .gen _ _ _ fun _ _ _ _ => Op.idxD (d := 61) (t := 59) (k := .i64) tb_1 (map_at hx9 (f := intD)) (OV.tmp 60 _)), (8, .call (SLeads s x4 x9 x5 hL hs gx4 gx5) kn_8)] [(2, vp 0 0), (3, vp 1 0), (5, .t (.c (.d (.sl 2 ((r.stem ++ r.cycle).map StD.d))))), (35, .t (.c (.d (.sl 2 ((r.stem ++ r.cycle).map StD.d))))), (36, vi .i64 ((r.stem ++ r.cycle).length : Int)), (37, vi .i64 (j : Int)), (65, vb (!(leads s x4 x9 x5)))] [(0, .box (sysC s)), (1, .box [.d (.sl 2 (r.stem.map StD.d)), .d (.sl 2 (r.cycle.map StD.d)), .d (.sl 1 (r.acts.map intD))])] (by kernel_rfl) h ?_; clear h; intro a w h
       refine condS (!(leads s x4 x9 x5)) h rfl (fun hc => ?_) (fun hc => ?_)
       ·have hc12 := hc; clear hc
        have hc12' := hc12; (try simp at hc12')
        refine rSeq fam0ok 4 [] [(2, vp 0 0), (3, vp 1 0), (4, vb false), (5, .t (.c (.d (.sl 2 ((r.stem ++ r.cycle).map StD.d))))), (35, .t (.c (.d (.sl 2 ((r.stem ++ r.cycle).map StD.d))))), (36, vi .i64 ((r.stem ++ r.cycle).length : Int)), (37, vi .i64 (j : Int))] [(0, .box (sysC s)), (1, .box [.d (.sl 2 (r.stem.map StD.d)), .d (.sl 2 (r.cycle.map StD.d)), .d (.sl 1 (r.acts.map intD))])] (by kernel_rfl) h ?_; clear h; intro a w h
        refine wp_ret ?_
        refine block_r ?_
        refine then_r ?_
        refine then_r ?_
        refine block_r ?_
        refine then_r ?_
        refine retS [.c (.d (.raw (.bool false)))] h Exit.ret (.inl rfl)  rfl ⟨RV.tmp _ _ rfl, trivial⟩ ?_ (by kernel_rfl) (by kernel_rfl)
        have hz : right s r = false := by unfold right; rw [decide_eq_true ⟨by have := hc2; simp at this; intro h; exact this (List.length_eq_zero_iff.1 h), by have := hc4; simp at this; simp; omega⟩, Bool.true_and]; rw [hx2, Option.getD_some, (show (first s x2) = true from by simpa using hc6)]; rw [allN_fail (j := j) (by have := of_decide_eq_true hc7; omega) (show stepOk s r j = false from by unfold stepOk nxt; rw [if_neg (by have := of_decide_eq_false hc11; omega), hx4, hx9, hx5]; exact (show (leads s x4 x9 x5) = false from by simpa using hc12))]; rfl
        rw [hz]; first | done | rfl
       ·have hc13 := hc; clear hc
        have hc13' := hc13; (try simp at hc13')
        refine wp_skip ?_
        refine block_n ?_
        refine then_n ?_
        refine rS fam0ok 4 [(0, .add .i64 (m := (j : Int)) (n := 1) (i64_id (by omega) (by omega)))] [(2, vp 0 0), (3, vp 1 0), (5, .t (.c (.d (.sl 2 ((r.stem ++ r.cycle).map StD.d))))), (35, .t (.c (.d (.sl 2 ((r.stem ++ r.cycle).map StD.d))))), (36, vi .i64 ((r.stem ++ r.cycle).length : Int)), (37, vi .i64 ((j : Int) + 1))] [(0, .box (sysC s)), (1, .box [.d (.sl 2 (r.stem.map StD.d)), .d (.sl 2 (r.cycle.map StD.d)), .d (.sl 1 (r.acts.map intD))])] (by kernel_rfl) h ?_; clear h; intro a w h
        refine then_n ?_
        refine roundS (x := j) (y := j + 1) h ?_ ?_ (by kernel_rfl) (by kernel_rfl)
        ·exact ⟨by omega, allN_step hI2 (by unfold stepOk nxt; rw [if_neg (by have := of_decide_eq_false hc11; omega), hx4, hx9, hx5]; exact (show (leads s x4 x9 x5) = true from by simpa using hc13))⟩
        ·show (r.stem ++ r.cycle).length - (j + 1) < (r.stem ++ r.cycle).length - j
         omega
     ·have hc14 := hc; clear hc
      have hc14' := of_decide_eq_false hc14
      refine wp_exit ?_
      refine then_x ?_
      refine then_x ?_
      refine inBlock_exit ?_
      refine then_n ?_
      refine rSeq fam0ok 4 [] [(4, vb true)] [] (by kernel_rfl) h ?_; clear h; intro a w h
      refine wp_ret ?_
      refine retS [.c (.d (.raw (.bool true)))] h Exit.ret (.inl rfl)  rfl ⟨RV.tmp _ _ rfl, trivial⟩ ?_ (by kernel_rfl) (by kernel_rfl)
      have hz : right s r = true := by unfold right; rw [decide_eq_true ⟨by have := hc2; simp at this; intro h; exact this (List.length_eq_zero_iff.1 h), by have := hc4; simp at this; simp; omega⟩, Bool.true_and]; rw [hx2, Option.getD_some, (show (first s x2) = true from by simpa using hc6)]; rw [show (r.stem ++ r.cycle).length = j by have := of_decide_eq_false hc14; omega, hI2]; rfl
      rw [hz]; first | done | rfl
set_option maxHeartbeats 4000000 in
theorem SholdsP (p : PropD) (x : StD) {L M : Nat} (hL : L + M ≤ 4000) (hp : PropOk L p) (hx : StOk M x) : Fn Try.prog 38 [] [.t (.agg ([.d (.raw (.bool p.at_)), .d (.raw (.int .i64 p.proc)), .d (.raw (.int .i64 p.loc)), .d (.raw (.int .i64 p.f.kind)), .d (.sl 3 (p.f.r.t.parts.map Part.d))] ++ zi p.f.r.t.k ++ [.d (.raw (.bool p.f.r.eq)), .d (.sl 6 (p.f.kids.map FormD.d))])), .t (.agg [.d (.sl 1 (x.locs.map intD)), .d (.sl 2 (x.vals.map ziD))])] (vb (holdsP p x)) [] := by
 have lx1 := hx.locs
 refine Fn.body Try.func38 rfl 34 rfl fun w H B a h => ?_
 refine rSeq fam0ok 0 [] [(2, vp 0 0), (3, vp 1 0), (4, vb false)] [(0, .box ([.d (.raw (.bool p.at_)), .d (.raw (.int .i64 p.proc)), .d (.raw (.int .i64 p.loc)), .d (.raw (.int .i64 p.f.kind)), .d (.sl 3 (p.f.r.t.parts.map Part.d))] ++ zi p.f.r.t.k ++ [.d (.raw (.bool p.f.r.eq)), .d (.sl 6 (p.f.kids.map FormD.d))])), (1, .box [.d (.sl 1 (x.locs.map intD)), .d (.sl 2 (x.vals.map ziD))])] (by kernel_rfl) h ?_; clear h; intro a w h
 refine wp_seq ?_
 refine rSeq fam0ok 2 [] [(2, vp 0 0), (3, vp 1 0), (4, vb false), (6, vb p.at_)] [(0, .box ([.d (.raw (.bool p.at_)), .d (.raw (.int .i64 p.proc)), .d (.raw (.int .i64 p.loc)), .d (.raw (.int .i64 p.f.kind)), .d (.sl 3 (p.f.r.t.parts.map Part.d))] ++ zi p.f.r.t.k ++ [.d (.raw (.bool p.f.r.eq)), .d (.sl 6 (p.f.kids.map FormD.d))])), (1, .box [.d (.sl 1 (x.locs.map intD)), .d (.sl 2 (x.vals.map ziD))])] (by kernel_rfl) h ?_; clear h; intro a w h
 refine condS p.at_ h rfl (fun hc => ?_) (fun hc => ?_)
 ·have hc1 := hc; clear hc
  rcases Bool.eq_false_or_eq_true (decide (p.proc ≥ 0)) with hc | hc
  ·have hc2 := hc; clear hc
   have hc2' := of_decide_eq_true hc2
   rcases Bool.eq_false_or_eq_true (decide (p.proc < (x.locs.length : Int))) with hc | hc
   ·have hc3 := hc; clear hc
    have hc3' := of_decide_eq_true hc3
    obtain ⟨k, hkk⟩ : ∃ k_ : Nat, p.proc = (k_ : Int) := ⟨_, (Int.toNat_of_nonneg (by have := of_decide_eq_true hc2; omega)).symm⟩
    replace h := h.conv (f' := F.of [(2, vp 0 0), (3, vp 1 0), (4, vb false), (6, vb p.at_)] [(0, .box ([.d (.raw (.bool p.at_)), .d (.raw (.int .i64 (k : Int))), .d (.raw (.int .i64 p.loc)), .d (.raw (.int .i64 p.f.kind)), .d (.sl 3 (p.f.r.t.parts.map Part.d))] ++ zi p.f.r.t.k ++ [.d (.raw (.bool p.f.r.eq)), .d (.sl 6 (p.f.kids.map FormD.d))])), (1, .box [.d (.sl 1 (x.locs.map intD)), .d (.sl 2 (x.vals.map ziD))])]) (by rw [hkk])
    obtain ⟨x1, hx1⟩ : ∃ z_ : Int, x.locs[k]? = some z_ := ⟨_, List.getElem?_eq_getElem (by first | omega | (simp at *; omega))⟩
    refine rSeq fam0ok 2 [(2, .cmp (op := .geq) (m := (k : Int)) (n := 0) (b := true) .i64 (show (decide ((k : Int) ≥ 0)) = true from by rw [← hkk]; exact hc2)), (8, .len (c := (.d (.sl 1 (x.locs.map intD)))) (n := x.locs.length) (lenC_map _ _ _)), (9, .cmp (op := .lss) (m := (k : Int)) (n := (x.locs.length : Int)) (b := true) .i64 (show (decide ((k : Int) < (x.locs.length : Int))) = true from by rw [← hkk]; exact hc3)), (16, .gen _ _ _ fun _ _ _ _ => Op.idxD (d := 23) (t := 20) (k := .i64) tb_1 (map_at hx1 (f := intD)) (OV.tmp 22 _))] [(2, vp 0 0), (3, vp 1 0), (4, vb (x1 == p.loc))] [(0, .box ([.d (.raw (.bool p.at_)), .d (.raw (.int .i64 (k : Int))), .d (.raw (.int .i64 p.loc)), .d (.raw (.int .i64 p.f.kind)), .d (.sl 3 (p.f.r.t.parts.map Part.d))] ++ zi p.f.r.t.k ++ [.d (.raw (.bool p.f.r.eq)), .d (.sl 6 (p.f.kids.map FormD.d))])), (1, .box [.d (.sl 1 (x.locs.map intD)), .d (.sl 2 (x.vals.map ziD))])] (by kernel_rfl) h ?_; clear h; intro a w h
    refine wp_ret ?_
    refine then_r ?_
    refine retS [.c (.d (.raw (.bool (x1 == p.loc))))] h Exit.ret (.inl rfl)  rfl ⟨RV.tmp _ _ rfl, trivial⟩ ?_ (by kernel_rfl) (by kernel_rfl)
    have hz : holdsP p x = (x1 == p.loc) := by unfold holdsP; rw [if_pos hc1]; rw [decide_eq_true (p := 0 ≤ p.proc ∧ p.proc < (x.locs.length : Int)) (by have := of_decide_eq_true hc2; have := of_decide_eq_true hc3; omega), show p.proc.toNat = k by omega, hx1]; rfl
    rw [hz]; first | done | rfl
   ·have hc4 := hc; clear hc
    have hc4' := of_decide_eq_false hc4
    refine rSeq fam0ok 2 [(2, .cmp (op := .geq) (m := p.proc) (n := 0) (b := true) .i64 hc2), (8, .len (c := (.d (.sl 1 (x.locs.map intD)))) (n := x.locs.length) (lenC_map _ _ _)), (9, .cmp (op := .lss) (m := p.proc) (n := (x.locs.length : Int)) (b := false) .i64 hc4)] [(2, vp 0 0), (3, vp 1 0), (4, vb false)] [(0, .box ([.d (.raw (.bool p.at_)), .d (.raw (.int .i64 p.proc)), .d (.raw (.int .i64 p.loc)), .d (.raw (.int .i64 p.f.kind)), .d (.sl 3 (p.f.r.t.parts.map Part.d))] ++ zi p.f.r.t.k ++ [.d (.raw (.bool p.f.r.eq)), .d (.sl 6 (p.f.kids.map FormD.d))])), (1, .box [.d (.sl 1 (x.locs.map intD)), .d (.sl 2 (x.vals.map ziD))])] (by kernel_rfl) h ?_; clear h; intro a w h
    refine wp_ret ?_
    refine then_r ?_
    refine retS [.c (.d (.raw (.bool false)))] h Exit.ret (.inl rfl)  rfl ⟨RV.tmp _ _ rfl, trivial⟩ ?_ (by kernel_rfl) (by kernel_rfl)
    have hz : holdsP p x = (false) := by unfold holdsP; rw [if_pos hc1]; rw [decide_eq_false (by have := of_decide_eq_false hc4; omega)]; rfl
    rw [hz]; first | done | rfl
  ·have hc5 := hc; clear hc
   have hc5' := of_decide_eq_false hc5
   refine rSeq fam0ok 2 [(2, .cmp (op := .geq) (m := p.proc) (n := 0) (b := false) .i64 hc5)] [(2, vp 0 0), (3, vp 1 0), (4, vb false)] [(0, .box ([.d (.raw (.bool p.at_)), .d (.raw (.int .i64 p.proc)), .d (.raw (.int .i64 p.loc)), .d (.raw (.int .i64 p.f.kind)), .d (.sl 3 (p.f.r.t.parts.map Part.d))] ++ zi p.f.r.t.k ++ [.d (.raw (.bool p.f.r.eq)), .d (.sl 6 (p.f.kids.map FormD.d))])), (1, .box [.d (.sl 1 (x.locs.map intD)), .d (.sl 2 (x.vals.map ziD))])] (by kernel_rfl) h ?_; clear h; intro a w h
   refine wp_ret ?_
   refine then_r ?_
   refine retS [.c (.d (.raw (.bool false)))] h Exit.ret (.inl rfl)  rfl ⟨RV.tmp _ _ rfl, trivial⟩ ?_ (by kernel_rfl) (by kernel_rfl)
   have hz : holdsP p x = (false) := by unfold holdsP; rw [if_pos hc1]; rw [decide_eq_false (by have := of_decide_eq_false hc5; omega)]; rfl
   rw [hz]; first | done | rfl
 ·have hc6 := hc; clear hc
  refine wp_skip ?_
  refine then_n ?_
  refine rSeq fam0ok 2 [(4, .call (SHolds x.vals (L := L) (M := M) (by omega) hx.vok p.f hp.1 hp.2) ke_4)] [(4, vb (FormD.holds x.vals p.f))] [] (by kernel_rfl) h ?_; clear h; intro a w h
  refine wp_ret ?_
  refine retS [.c (.d (.raw (.bool (FormD.holds x.vals p.f))))] h Exit.ret (.inl rfl)  rfl ⟨RV.tmp _ _ rfl, trivial⟩ ?_ (by kernel_rfl) (by kernel_rfl)
  have hz : holdsP p x = (FormD.holds x.vals p.f) := by unfold holdsP; rw [if_neg (by rw [hc6]; exact Bool.noConfusion)]
  rw [hz]; first | done | rfl
set_option maxHeartbeats 4000000 in
theorem SLetter (ps : List PropD) (x : StD) {L M : Nat} (hL : L + M ≤ 4000) (hps : ∀ p ∈ ps, PropOk L p) (hpl : ps.length ≤ 1000) (hx : StOk M x) : Fn Try.prog 19 [] [.t (.c (.d (.sl 9 (ps.map PropD.d)))), .t (.agg [.d (.sl 1 (x.locs.map intD)), .d (.sl 2 (x.vals.map ziD))])] (.t (.c (.d (.sl 1 ((letter ps x).map boolD))))) [] := by
 refine Fn.body Try.func19 rfl 22 rfl fun w H B a h => ?_
 refine rSeq fam0ok 0 [] [(0, .t (.c (.d (.sl 9 (ps.map PropD.d))))), (3, vp 0 0), (4, .t (.c (.d (.raw nilV))))] [(0, .box [.d (.sl 1 (x.locs.map intD)), .d (.sl 2 (x.vals.map ziD))])] (by kernel_rfl) h ?_; clear h; intro a w h
 refine rSeq fam0ok 1 [] [(0, .t (.c (.d (.sl 9 (ps.map PropD.d))))), (3, vp 0 0), (4, .t (.c (.d (.raw nilV)))), (5, .t (.c (.d (.raw nilV))))] [(0, .box [.d (.sl 1 (x.locs.map intD)), .d (.sl 2 (x.vals.map ziD))])] (by kernel_rfl) h ?_; clear h; intro a w h
 refine wp_seq ?_
 replace h := nilOSs 5 0 1 1 4 (.t (.c (.d (.raw nilV)))) [(0, .t (.c (.d (.sl 9 (ps.map PropD.d))))), (3, vp 0 0), (4, .t (.c (.d (.raw nilV)))), (5, .t (.c (.own 1 0)))] [(0, .box [.d (.sl 1 (x.locs.map intD)), .d (.sl 2 (x.vals.map ziD))]), (1, .row 4 1 ([].map boolD))] h (by kernel_rfl) rfl rfl (by kernel_rfl) (by kernel_rfl)
 refine rSeq fam0ok 2 [(1, .len (c := (.d (.sl 9 (ps.map PropD.d)))) (n := ps.length) (lenC_map _ _ _))] [(3, vp 0 0), (4, .t (.c (.d (.raw nilV)))), (5, .t (.c (.own 1 0))), (8, .t (.c (.d (.sl 9 (ps.map PropD.d))))), (9, vi .i64 (ps.length : Int)), (10, vi .i64 0)] [(0, .box [.d (.sl 1 (x.locs.map intD)), .d (.sl 2 (x.vals.map ziD))]), (1, .row 4 1 ([].map boolD))] (by kernel_rfl) h ?_; clear h; intro a w h
 refine wp_block ?_
 refine loopS (ι := (Nat)) (fun (z_ : (Nat)) => match z_ with | j => j ≤ ps.length)
   (fun (z_ : (Nat)) => match z_ with | j => [(3, vp 0 0), (4, .t (.c (.d (.raw nilV)))), (5, .t (.c (.own 1 ((ps.take j).map (fun p => holdsP p x)).length))), (8, .t (.c (.d (.sl 9 (ps.map PropD.d))))), (9, vi .i64 (ps.length : Int)), (10, vi .i64 (j : Int))])
   (fun (z_ : (Nat)) => match z_ with | j => [(0, .box [.d (.sl 1 (x.locs.map intD)), .d (.sl 2 (x.vals.map ziD))]), (1, .row 4 1 (((ps.take j).map (fun p => holdsP p x)).map boolD))])
   (fun (z_ : (Nat)) => match z_ with | j => ps.length - j) 0 ?_ h (by kernel_rfl) (by kernel_rfl) ?_
 ·exact Nat.zero_le _
 ·clear h; rintro j a w hI h
  change St _ (F.of [(3, vp 0 0), (4, .t (.c (.d (.raw nilV)))), (5, .t (.c (.own 1 ((ps.take j).map (fun p => holdsP p x)).length))), (8, .t (.c (.d (.sl 9 (ps.map PropD.d))))), (9, vi .i64 (ps.length : Int)), (10, vi .i64 (j : Int))] [(0, .box [.d (.sl 1 (x.locs.map intD)), .d (.sl 2 (x.vals.map ziD))]), (1, .row 4 1 (((ps.take j).map (fun p => holdsP p x)).map boolD))]) a w at h
  have hfl : ((ps.take j).map (fun p => holdsP p x)).length ≤ j := by rw [List.length_map, List.length_take]; omega
  refine rSeq fam0ok 2 [] [(3, vp 0 0), (4, .t (.c (.d (.raw nilV)))), (5, .t (.c (.own 1 ((ps.take j).map (fun p => holdsP p x)).length))), (8, .t (.c (.d (.sl 9 (ps.map PropD.d))))), (9, vi .i64 (ps.length : Int)), (10, vi .i64 (j : Int)), (11, vb (decide ((j : Int) < (ps.length : Int))))] [(0, .box [.d (.sl 1 (x.locs.map intD)), .d (.sl 2 (x.vals.map ziD))]), (1, .row 4 1 (((ps.take j).map (fun p => holdsP p x)).map boolD))] (by kernel_rfl) h ?_; clear h; intro a w h
  refine wp_seq ?_
  refine condS (decide ((j : Int) < (ps.length : Int))) h rfl (fun hc => ?_) (fun hc => ?_)
  ·have hc1 := hc; clear hc
   have hc1' := of_decide_eq_true hc1
   refine wp_skip ?_
   refine then_n ?_
   refine wp_seq ?_
   refine wp_block ?_
   obtain ⟨x1, hx1⟩ : ∃ z_ : PropD, ps[j]? = some z_ := ⟨_, List.getElem?_eq_getElem (by first | omega | (simp at *; omega))⟩
   refine rSeq fam0ok 2 [(0, .gen _ _ _ fun _ _ _ _ => Op.idxD (d := 12) (t := 8) (k := .i64) kn_10 (map_at hx1 (f := PropD.d)) (OV.tmp 10 _))] [(3, vp 0 0), (4, .t (.c (.d (.raw nilV)))), (5, .t (.c (.own 1 ((ps.take j).map (fun p => holdsP p x)).length))), (7, vp 2 0), (8, .t (.c (.d (.sl 9 (ps.map PropD.d))))), (9, vi .i64 (ps.length : Int)), (10, vi .i64 (j : Int))] [(0, .box [.d (.sl 1 (x.locs.map intD)), .d (.sl 2 (x.vals.map ziD))]), (1, .row 4 1 (((ps.take j).map (fun p => holdsP p x)).map boolD)), (2, .box ([.d (.raw (.bool x1.at_)), .d (.raw (.int .i64 x1.proc)), .d (.raw (.int .i64 x1.loc)), .d (.raw (.int .i64 x1.f.kind)), .d (.sl 3 (x1.f.r.t.parts.map Part.d))] ++ zi x1.f.r.t.k ++ [.d (.raw (.bool x1.f.r.eq)), .d (.sl 6 (x1.f.kids.map FormD.d))]))] (by kernel_rfl) h ?_; clear h; intro a w h
   refine rS fam0ok 3 [(3, .call (SholdsP x1 x hL (hps x1 (List.mem_of_getElem? hx1)) hx) kn_11), (4, .gen _ _ _ fun _ _ _ _ => Op.buildD (d := 18) (len := 1) (rows := [holdsP x1 x].map boolD) (rs := [(17, vb (holdsP x1 x))]) kn_12 (.cons (i := 0) (OV.tmp 17 _) (.nil)) (by kernel_rfl) rfl (by simp [boolD]) (by decide) (by decide)), (5, .gen _ _ _ fun _ _ _ _ => Op.appOD (d := 19) (t := 14) (u := 18) (n := 1) (n' := 3) (len := ((ps.take j).map (fun p => holdsP p x)).length) (len' := (((ps.take j).map (fun p => holdsP p x)) ++ [holdsP x1 x]).length) (rows := ((ps.take j).map (fun p => holdsP p x)).map boolD) (rows2 := [holdsP x1 x].map boolD) (rows' := (((ps.take j).map (fun p => holdsP p x)) ++ [holdsP x1 x]).map boolD) kn_13 (by first | exact (List.length_map _).symm | simp) (by first | (rw [List.length_append, List.length_map]; done) | simp) (by simp) (by simp [boolD]) (by first | omega | (simp at *; done) | (simp at *; omega)))] [(3, vp 0 0), (4, .t (.c (.d (.raw nilV)))), (5, .t (.c (.own 3 (((ps.take j).map (fun p => holdsP p x)) ++ [holdsP x1 x]).length))), (8, .t (.c (.d (.sl 9 (ps.map PropD.d))))), (9, vi .i64 (ps.length : Int)), (10, vi .i64 (j : Int))] [(0, .box [.d (.sl 1 (x.locs.map intD)), .d (.sl 2 (x.vals.map ziD))]), (3, .row 4 1 ((((ps.take j).map (fun p => holdsP p x)) ++ [holdsP x1 x]).map boolD))] (by kernel_rfl) h ?_; clear h; intro a w h
   refine block_n ?_
   refine then_n ?_
   refine rS fam0ok 4 [(0, .add .i64 (m := (j : Int)) (n := 1) (i64_id (by omega) (by omega)))] [(3, vp 0 0), (4, .t (.c (.d (.raw nilV)))), (5, .t (.c (.own 3 (((ps.take j).map (fun p => holdsP p x)) ++ [holdsP x1 x]).length))), (8, .t (.c (.d (.sl 9 (ps.map PropD.d))))), (9, vi .i64 (ps.length : Int)), (10, vi .i64 ((j : Int) + 1))] [(0, .box [.d (.sl 1 (x.locs.map intD)), .d (.sl 2 (x.vals.map ziD))]), (3, .row 4 1 ((((ps.take j).map (fun p => holdsP p x)) ++ [holdsP x1 x]).map boolD))] (by kernel_rfl) h ?_; clear h; intro a w h
   refine then_n ?_
   replace h := h.conv (f' := F.of [(3, vp 0 0), (4, .t (.c (.d (.raw nilV)))), (5, .t (.c (.own 3 ((ps.take (j + 1)).map (fun p => holdsP p x)).length))), (8, .t (.c (.d (.sl 9 (ps.map PropD.d))))), (9, vi .i64 (ps.length : Int)), (10, vi .i64 ((j : Int) + 1))] [(0, .box [.d (.sl 1 (x.locs.map intD)), .d (.sl 2 (x.vals.map ziD))]), (3, .row 4 1 (((ps.take (j + 1)).map (fun p => holdsP p x)).map boolD))]) (congrArg (fun (z_ : List Bool) => F.of [(3, vp 0 0), (4, .t (.c (.d (.raw nilV)))), (5, .t (.c (.own 3 z_.length))), (8, .t (.c (.d (.sl 9 (ps.map PropD.d))))), (9, vi .i64 (ps.length : Int)), (10, vi .i64 ((j : Int) + 1))] [(0, .box [.d (.sl 1 (x.locs.map intD)), .d (.sl 2 (x.vals.map ziD))]), (3, .row 4 1 (z_.map boolD))]) (show ((((ps.take j).map (fun p => holdsP p x)) ++ [holdsP x1 x]) : List Bool) = ((ps.take (j + 1)).map (fun p => holdsP p x)) from (by rw [← map_snoc hx1])))
   replace h := renS 3 1 [(3, vp 0 0), (4, .t (.c (.d (.raw nilV)))), (5, .t (.c (.own 1 ((ps.take (j + 1)).map (fun p => holdsP p x)).length))), (8, .t (.c (.d (.sl 9 (ps.map PropD.d))))), (9, vi .i64 (ps.length : Int)), (10, vi .i64 ((j : Int) + 1))] [(0, .box [.d (.sl 1 (x.locs.map intD)), .d (.sl 2 (x.vals.map ziD))]), (1, .row 4 1 (((ps.take (j + 1)).map (fun p => holdsP p x)).map boolD))] h (by kernel_rfl) (by kernel_rfl) (by kernel_rfl)
   refine roundS (x := j) (y := j + 1) h ?_ ?_ (by kernel_rfl) (by kernel_rfl)
   ·have := at_lt hx1
    show j + 1 ≤ ps.length
    omega
   ·show ps.length - (j + 1) < ps.length - j
    have := at_lt hx1; omega
  ·have hc2 := hc; clear hc
   have hc2' := of_decide_eq_false hc2
   refine wp_exit ?_
   refine then_x ?_
   refine then_x ?_
   refine inBlock_exit ?_
   refine then_n ?_
   refine rSeq fam0ok 4 [] [(4, .t (.c (.own 1 ((ps.take j).map (fun p => holdsP p x)).length)))] [(1, .row 4 1 (((ps.take j).map (fun p => holdsP p x)).map boolD))] (by kernel_rfl) h ?_; clear h; intro a w h
   refine wp_ret ?_
   replace h := h.conv (f' := F.of [(4, .t (.c (.own 1 (ps.map (fun p => holdsP p x)).length)))] [(1, .row 4 1 ((ps.map (fun p => holdsP p x)).map boolD))]) (congrArg (fun (z_ : List Bool) => F.of [(4, .t (.c (.own 1 z_.length)))] [(1, .row 4 1 (z_.map boolD))]) (show (((ps.take j).map (fun p => holdsP p x)) : List Bool) = (ps.map (fun p => holdsP p x)) from (by rw [List.take_of_length_le (by omega)])))
   replace h := pubS 1 1 4 ((ps.map (fun p => holdsP p x)).map boolD) [(4, .t (.c (.d (.sl 1 ((ps.map (fun p => holdsP p x)).map boolD)))))] [] h rfl (show AllEq _ [(ps.map (fun p => holdsP p x)).length] from ⟨by first | exact (List.length_map _).symm | (simp; done) | (simp; omega), trivial⟩) trivial (by kernel_rfl) (by kernel_rfl)
   refine retS [.c (.d (.sl 1 ((ps.map (fun p => holdsP p x)).map boolD)))] h Exit.ret (.inl rfl)  rfl ⟨RV.tmp _ _ rfl, trivial⟩ ?_ (by kernel_rfl) (by kernel_rfl)
   rfl
set_option maxHeartbeats 4000000 in
theorem Sletters (ps : List PropD) (xs : List StD) {L M : Nat} (hL : L + M ≤ 4000) (hps : ∀ p ∈ ps, PropOk L p) (hpl : ps.length ≤ 1000) (hxs : ∀ x ∈ xs, StOk M x) (hl : xs.length ≤ 1000) : Fn Try.prog 35 [] [.t (.c (.d (.sl 9 (ps.map PropD.d)))), .t (.c (.d (.sl 2 (xs.map StD.d))))] (.t (.c (.d (.sl 1 ((xs.map (letter ps)).map (slD 1 boolD)))))) [] := by
 refine Fn.body Try.func35 rfl 22 rfl fun w H B a h => ?_
 refine rSeq fam0ok 0 [] [(0, .t (.c (.d (.sl 9 (ps.map PropD.d))))), (1, .t (.c (.d (.sl 2 (xs.map StD.d))))), (4, .t (.c (.d (.raw nilV))))] [] (by kernel_rfl) h ?_; clear h; intro a w h
 refine rSeq fam0ok 0 [] [(0, .t (.c (.d (.sl 9 (ps.map PropD.d))))), (1, .t (.c (.d (.sl 2 (xs.map StD.d))))), (4, .t (.c (.d (.raw nilV)))), (5, .t (.c (.d (.raw nilV))))] [] (by kernel_rfl) h ?_; clear h; intro a w h
 refine wp_seq ?_
 replace h := nilOSs 5 0 0 1 74 (.t (.c (.d (.raw nilV)))) [(0, .t (.c (.d (.sl 9 (ps.map PropD.d))))), (1, .t (.c (.d (.sl 2 (xs.map StD.d))))), (4, .t (.c (.d (.raw nilV)))), (5, .t (.c (.own 0 0)))] [(0, .row 74 1 ([].map (slD 1 boolD)))] h (by kernel_rfl) rfl rfl (by kernel_rfl) (by kernel_rfl)
 refine rSeq fam0ok 1 [(1, .len (c := (.d (.sl 2 (xs.map StD.d)))) (n := xs.length) (lenC_map _ _ _))] [(0, .t (.c (.d (.sl 9 (ps.map PropD.d))))), (4, .t (.c (.d (.raw nilV)))), (5, .t (.c (.own 0 0))), (8, .t (.c (.d (.sl 2 (xs.map StD.d))))), (9, vi .i64 (xs.length : Int)), (10, vi .i64 0)] [(0, .row 74 1 ([].map (slD 1 boolD)))] (by kernel_rfl) h ?_; clear h; intro a w h
 refine wp_block ?_
 refine loopS (ι := (Nat)) (fun (z_ : (Nat)) => match z_ with | j => j ≤ xs.length)
   (fun (z_ : (Nat)) => match z_ with | j => [(0, .t (.c (.d (.sl 9 (ps.map PropD.d))))), (4, .t (.c (.d (.raw nilV)))), (5, .t (.c (.own 0 ((xs.take j).map (letter ps)).length))), (8, .t (.c (.d (.sl 2 (xs.map StD.d))))), (9, vi .i64 (xs.length : Int)), (10, vi .i64 (j : Int))])
   (fun (z_ : (Nat)) => match z_ with | j => [(0, .row 74 1 (((xs.take j).map (letter ps)).map (slD 1 boolD)))])
   (fun (z_ : (Nat)) => match z_ with | j => xs.length - j) 0 ?_ h (by kernel_rfl) (by kernel_rfl) ?_
 ·exact Nat.zero_le _
 ·clear h; rintro j a w hI h
  change St _ (F.of [(0, .t (.c (.d (.sl 9 (ps.map PropD.d))))), (4, .t (.c (.d (.raw nilV)))), (5, .t (.c (.own 0 ((xs.take j).map (letter ps)).length))), (8, .t (.c (.d (.sl 2 (xs.map StD.d))))), (9, vi .i64 (xs.length : Int)), (10, vi .i64 (j : Int))] [(0, .row 74 1 (((xs.take j).map (letter ps)).map (slD 1 boolD)))]) a w at h
  have hfl : ((xs.take j).map (letter ps)).length ≤ j := by rw [List.length_map, List.length_take]; omega
  refine rSeq fam0ok 1 [] [(0, .t (.c (.d (.sl 9 (ps.map PropD.d))))), (4, .t (.c (.d (.raw nilV)))), (5, .t (.c (.own 0 ((xs.take j).map (letter ps)).length))), (8, .t (.c (.d (.sl 2 (xs.map StD.d))))), (9, vi .i64 (xs.length : Int)), (10, vi .i64 (j : Int)), (11, vb (decide ((j : Int) < (xs.length : Int))))] [(0, .row 74 1 (((xs.take j).map (letter ps)).map (slD 1 boolD)))] (by kernel_rfl) h ?_; clear h; intro a w h
  refine wp_seq ?_
  refine condS (decide ((j : Int) < (xs.length : Int))) h rfl (fun hc => ?_) (fun hc => ?_)
  ·have hc1 := hc; clear hc
   have hc1' := of_decide_eq_true hc1
   refine wp_skip ?_
   refine then_n ?_
   refine wp_seq ?_
   refine wp_block ?_
   obtain ⟨x1, hx1⟩ : ∃ z_ : StD, xs[j]? = some z_ := ⟨_, List.getElem?_eq_getElem (by first | omega | (simp at *; omega))⟩
   refine rSeq fam0ok 1 [(0, .gen _ _ _ fun _ _ _ _ => Op.idxD (d := 12) (t := 8) (k := .i64) kn_0 (map_at hx1 (f := StD.d)) (OV.tmp 10 _))] [(0, .t (.c (.d (.sl 9 (ps.map PropD.d))))), (4, .t (.c (.d (.raw nilV)))), (5, .t (.c (.own 0 ((xs.take j).map (letter ps)).length))), (7, vp 1 0), (8, .t (.c (.d (.sl 2 (xs.map StD.d))))), (9, vi .i64 (xs.length : Int)), (10, vi .i64 (j : Int))] [(0, .row 74 1 (((xs.take j).map (letter ps)).map (slD 1 boolD))), (1, .box [.d (.sl 1 (x1.locs.map intD)), .d (.sl 2 (x1.vals.map ziD))])] (by kernel_rfl) h ?_; clear h; intro a w h
   refine rS fam0ok 2 [(3, .call (SLetter ps x1 hL hps hpl (hxs x1 (List.mem_of_getElem? hx1))) kn_14), (4, .gen _ _ _ fun _ _ _ _ => Op.buildD (d := 18) (len := 1) (rows := [(letter ps x1)].map (slD 1 boolD)) (rs := [(17, .t (.c (.d (.sl 1 ((letter ps x1).map boolD)))))]) kn_15 (.cons (i := 0) (OV.tmp 17 _) (.nil)) (by kernel_rfl) rfl (by simp [slD]) (by decide) (by decide)), (5, .gen _ _ _ fun _ _ _ _ => Op.appOD (d := 19) (t := 14) (u := 18) (n := 0) (n' := 2) (len := ((xs.take j).map (letter ps)).length) (len' := (((xs.take j).map (letter ps)) ++ [(letter ps x1)]).length) (rows := ((xs.take j).map (letter ps)).map (slD 1 boolD)) (rows2 := [(letter ps x1)].map (slD 1 boolD)) (rows' := (((xs.take j).map (letter ps)) ++ [(letter ps x1)]).map (slD 1 boolD)) kn_16 (by first | exact (List.length_map _).symm | simp) (by first | (rw [List.length_append, List.length_map]; done) | simp) (by simp) (by simp [slD]) (by first | omega | (simp at *; done) | (simp at *; omega)))] [(0, .t (.c (.d (.sl 9 (ps.map PropD.d))))), (4, .t (.c (.d (.raw nilV)))), (5, .t (.c (.own 2 (((xs.take j).map (letter ps)) ++ [(letter ps x1)]).length))), (8, .t (.c (.d (.sl 2 (xs.map StD.d))))), (9, vi .i64 (xs.length : Int)), (10, vi .i64 (j : Int))] [(2, .row 74 1 ((((xs.take j).map (letter ps)) ++ [(letter ps x1)]).map (slD 1 boolD)))] (by kernel_rfl) h ?_; clear h; intro a w h
   refine block_n ?_
   refine then_n ?_
   refine rS fam0ok 3 [(0, .add .i64 (m := (j : Int)) (n := 1) (i64_id (by omega) (by omega)))] [(0, .t (.c (.d (.sl 9 (ps.map PropD.d))))), (4, .t (.c (.d (.raw nilV)))), (5, .t (.c (.own 2 (((xs.take j).map (letter ps)) ++ [(letter ps x1)]).length))), (8, .t (.c (.d (.sl 2 (xs.map StD.d))))), (9, vi .i64 (xs.length : Int)), (10, vi .i64 ((j : Int) + 1))] [(2, .row 74 1 ((((xs.take j).map (letter ps)) ++ [(letter ps x1)]).map (slD 1 boolD)))] (by kernel_rfl) h ?_; clear h; intro a w h
   refine then_n ?_
   replace h := h.conv (f' := F.of [(0, .t (.c (.d (.sl 9 (ps.map PropD.d))))), (4, .t (.c (.d (.raw nilV)))), (5, .t (.c (.own 2 ((xs.take (j + 1)).map (letter ps)).length))), (8, .t (.c (.d (.sl 2 (xs.map StD.d))))), (9, vi .i64 (xs.length : Int)), (10, vi .i64 ((j : Int) + 1))] [(2, .row 74 1 (((xs.take (j + 1)).map (letter ps)).map (slD 1 boolD)))]) (congrArg (fun (z_ : List (List Bool)) => F.of [(0, .t (.c (.d (.sl 9 (ps.map PropD.d))))), (4, .t (.c (.d (.raw nilV)))), (5, .t (.c (.own 2 z_.length))), (8, .t (.c (.d (.sl 2 (xs.map StD.d))))), (9, vi .i64 (xs.length : Int)), (10, vi .i64 ((j : Int) + 1))] [(2, .row 74 1 (z_.map (slD 1 boolD)))]) (show ((((xs.take j).map (letter ps)) ++ [(letter ps x1)]) : List (List Bool)) = ((xs.take (j + 1)).map (letter ps)) from (by rw [← map_snoc hx1])))
   replace h := renS 2 0 [(0, .t (.c (.d (.sl 9 (ps.map PropD.d))))), (4, .t (.c (.d (.raw nilV)))), (5, .t (.c (.own 0 ((xs.take (j + 1)).map (letter ps)).length))), (8, .t (.c (.d (.sl 2 (xs.map StD.d))))), (9, vi .i64 (xs.length : Int)), (10, vi .i64 ((j : Int) + 1))] [(0, .row 74 1 (((xs.take (j + 1)).map (letter ps)).map (slD 1 boolD)))] h (by kernel_rfl) (by kernel_rfl) (by kernel_rfl)
   refine roundS (x := j) (y := j + 1) h ?_ ?_ (by kernel_rfl) (by kernel_rfl)
   ·have := at_lt hx1
    show j + 1 ≤ xs.length
    omega
   ·show xs.length - (j + 1) < xs.length - j
    have := at_lt hx1; omega
  ·have hc2 := hc; clear hc
   have hc2' := of_decide_eq_false hc2
   refine wp_exit ?_
   refine then_x ?_
   refine then_x ?_
   refine inBlock_exit ?_
   refine then_n ?_
   refine rSeq fam0ok 3 [] [(4, .t (.c (.own 0 ((xs.take j).map (letter ps)).length)))] [(0, .row 74 1 (((xs.take j).map (letter ps)).map (slD 1 boolD)))] (by kernel_rfl) h ?_; clear h; intro a w h
   refine wp_ret ?_
   replace h := h.conv (f' := F.of [(4, .t (.c (.own 0 (xs.map (letter ps)).length)))] [(0, .row 74 1 ((xs.map (letter ps)).map (slD 1 boolD)))]) (congrArg (fun (z_ : List (List Bool)) => F.of [(4, .t (.c (.own 0 z_.length)))] [(0, .row 74 1 (z_.map (slD 1 boolD)))]) (show (((xs.take j).map (letter ps)) : List (List Bool)) = (xs.map (letter ps)) from (by rw [List.take_of_length_le (by omega)])))
   replace h := pubS 0 1 74 ((xs.map (letter ps)).map (slD 1 boolD)) [(4, .t (.c (.d (.sl 1 ((xs.map (letter ps)).map (slD 1 boolD))))))] [] h rfl (show AllEq _ [(xs.map (letter ps)).length] from ⟨by first | exact (List.length_map _).symm | (simp; done) | (simp; omega), trivial⟩) trivial (by kernel_rfl) (by kernel_rfl)
   refine retS [.c (.d (.sl 1 ((xs.map (letter ps)).map (slD 1 boolD))))] h Exit.ret (.inl rfl)  rfl ⟨RV.tmp _ _ rfl, trivial⟩ ?_ (by kernel_rfl) (by kernel_rfl)
   rfl
def spell (ps : List PropD) (r : RunD) : WordD := ⟨r.stem.map (letter ps), r.cycle.map (letter ps)⟩
set_option maxHeartbeats 4000000 in
theorem SSpell (ps : List PropD) (r : RunD) {L M : Nat} (hL : L + M ≤ 4000) (hps : ∀ p ∈ ps, PropOk L p) (hpl : ps.length ≤ 1000) (hr : RunOk M r) : Fn Try.prog 15 [] [.t (.c (.d (.sl 9 (ps.map PropD.d)))), .t (.agg [.d (.sl 2 (r.stem.map StD.d)), .d (.sl 2 (r.cycle.map StD.d)), .d (.sl 1 (r.acts.map intD))])] (.t (.agg [.d (.sl 1 ((spell ps r).stem.map (slD 1 boolD))), .d (.sl 1 ((spell ps r).cycle.map (slD 1 boolD)))])) [] := by
 have lr := hr.len
 refine Fn.body Try.func15 rfl 14 rfl fun w H B a h => ?_
 refine rSeq fam0ok 0 [] [(0, .t (.c (.d (.sl 9 (ps.map PropD.d))))), (3, vp 0 0), (4, vp 1 0)] [(0, .box [.d (.sl 2 (r.stem.map StD.d)), .d (.sl 2 (r.cycle.map StD.d)), .d (.sl 1 (r.acts.map intD))]), (1, .box [.d (.raw nilV), .d (.raw nilV)])] (by kernel_rfl) h ?_; clear h; intro a w h
 refine rSeq fam0ok 2 [(3, .call (Sletters ps r.stem hL hps hpl hr.stem (by omega)) kn_17), (7, .call (Sletters ps r.cycle hL hps hpl hr.cycle (by omega)) kn_17)] [(4, vp 1 0)] [(1, .box [.d (.sl 1 ((r.stem.map (letter ps)).map (slD 1 boolD))), .d (.sl 1 ((r.cycle.map (letter ps)).map (slD 1 boolD)))])] (by kernel_rfl) h ?_; clear h; intro a w h
 refine wp_ret ?_
 refine retS [.agg [.d (.sl 1 ((r.stem.map (letter ps)).map (slD 1 boolD))), .d (.sl 1 ((r.cycle.map (letter ps)).map (slD 1 boolD)))]] h Exit.ret (.inl rfl)  rfl ⟨RV.agg _ 1 0 _ _ _ _ kn_18 rfl rfl rfl rfl, trivial⟩ ?_ (by kernel_rfl) (by kernel_rfl)
 rfl
end Go.Proofs.Ytmohlifepfjmdaa.S
end
section
namespace Go.Proofs.Ytmohlifepfjmdaa.S
open Go.RowKit

end Go.Proofs.Ytmohlifepfjmdaa.S
end
section
namespace Go.Proofs.Ytmohlifepfjmdaa.S
open Go.RowKit

theorem newV_at {x : StD} {c : ActD} {picks : List ZI} {v : Nat} {p : ZI} (h : freeAt c v = true) (hp : picks[cntFree c v]? = some p) : newV x c picks v = ZI.of p.val := by unfold newV; rw [if_pos h, hp]
end Go.Proofs.Ytmohlifepfjmdaa.S
end
section
namespace Go.Proofs.Ytmohlifepfjmdaa.S
open Go.RowKit

theorem cnt_step_le (c : ActD) (v : Nat) : cntFree c v ≤ cntFree c (v + 1) := by rw [cntFree]; omega
theorem cnt_mono (c : ActD) {u v : Nat} (h : u ≤ v) : cntFree c u ≤ cntFree c v := by
 induction v with
 | zero => rw [Nat.le_zero.1 h]; exact Nat.le_refl _
 | succ v ih =>
  rcases Nat.lt_or_ge u (v + 1) with h1 | h1
  ·exact Nat.le_trans (ih (by omega)) (cnt_step_le c v)
  ·rw [show u = v + 1 by omega]; exact Nat.le_refl _
def freeL (f : Nat → ZI) (c : ActD) : Nat → List ZI
  | 0 => []
  | v + 1 => if freeAt c v = true then freeL f c v ++ [f v] else freeL f c v
theorem freeL_len (f : Nat → ZI) (c : ActD) : ∀ n, (freeL f c n).length = cntFree c n
 | 0 => rfl
 | n + 1 => by
  rw [freeL, cntFree]
  split
  ·rw [List.length_append, freeL_len f c n]; rfl
  ·rw [freeL_len f c n]; rfl
theorem freeL_at (f : Nat → ZI) (c : ActD) {v : Nat} (hv : freeAt c v = true) : ∀ n, v < n → (freeL f c n)[cntFree c v]? = some (f v)
 | n + 1, h => by
  rw [freeL]
  rcases Nat.lt_or_ge v n with h1 | h1
  ·have ih := freeL_at f c hv n h1
   split
   ·rw [List.getElem?_append_left (by rw [freeL_len]; exact Nat.lt_of_lt_of_le (by rw [cnt_free hv]; omega) (cnt_mono c h1))]; exact ih
   ·exact ih
  ·obtain rfl : v = n := by omega
   rw [if_pos hv, List.getElem?_append_right (by rw [freeL_len]; exact Nat.le_refl _), freeL_len, Nat.sub_self]; rfl
theorem picks_freeL (y : StD) (c : ActD) : ∀ n, picksOf y c n = freeL (fun v => (y.vals[v]?).getD zero0) c n
 | 0 => rfl
 | n + 1 => by rw [picksOf, freeL, picks_freeL y c n]
theorem within_val {b : BoundD} {p q : ZI} (h : p.val = q.val) : withinB b p = withinB b q := by unfold withinB; rw [h]
theorem nlocs_in {s : SysD} {x : StD} (h : fits s x = true) {i : Nat} (hi : i < x.locs.length) : locOk s x i = true := by
 unfold fits at h; simp only [Bool.and_eq_true] at h; exact allN_iff.1 h.2.1 i hi
theorem vals_in {s : SysD} {x : StD} (h : fits s x = true) {i : Nat} (hi : i < x.vals.length) : valOk s x i = true := by
 unfold fits at h; simp only [Bool.and_eq_true] at h; exact allN_iff.1 h.2.2 i hi
theorem enabled_to {s : SysD} {x : StD} {c : ActD} (h : enabled s x c = true) : 0 ≤ c.to_ ∧ c.to_ < (nlocs s c.proc.toNat : Int) := by unfold enabled at h; simp only [Bool.and_eq_true, decide_eq_true_eq] at h; exact h.1.2.2
theorem fits_out {s : SysD} {x : StD} {c : ActD} (picks : List ZI) (h : enabled s x c = true) : fits s (outS s x c picks) = allN s.vars.length (fun v => withinB (bndAt s v) (newV x c picks v)) := by
 have hf := enabled_fits h; have hl := fits_len hf; have hp := enabled_proc h; have ht := enabled_to h
 have e1 : (outS s x c picks).locs.length = s.procs.length := by simp only [outS, List.length_set]; exact hl.1
 have e2 : (outS s x c picks).vals.length = s.vars.length := by simp [outS]
 unfold fits
 rw [decide_eq_true ⟨e1, e2⟩, Bool.true_and]
 have a1 : allN (outS s x c picks).locs.length (locOk s (outS s x c picks)) = true := allN_iff.2 fun i hi => by
  rw [e1] at hi
  have h1 := nlocs_in hf (i := i) (by omega)
  unfold locOk at h1 ⊢
  by_cases hi2 : i = c.proc.toNat
  ·subst hi2
   have : (outS s x c picks).locs[c.proc.toNat]? = some c.to_ := by simp only [outS]; exact List.getElem?_set_self (by omega)
   rw [this]; exact decide_eq_true ht
  ·have : (outS s x c picks).locs[i]? = x.locs[i]? := by simp only [outS]; exact List.getElem?_set_ne (Ne.symm hi2)
   rw [this]; exact h1
 rw [a1, Bool.true_and, e2]
 refine allN_congr fun v hv => ?_
 unfold valOk
 have : (outS s x c picks).vals[v]? = some (newV x c picks v) := by simp [outS, List.getElem?_map, List.getElem?_range hv]
 rw [this]; rfl
end Go.Proofs.Ytmohlifepfjmdaa.S
end
section
namespace Go.Proofs.Ytmohlifepfjmdaa.S
open Go.RowKit

def lstep (x : StD) (c : ActD) (y : StD) (p : Nat) : Bool := (y.locs[p]?).getD 0 == (if (p : Int) = c.proc then c.to_ else (x.locs[p]?).getD 0)
def vstep (x : StD) (c : ActD) (y : StD) (v : Nat) : Bool := freeAt c v || decide ((newAt x c v).val = ((y.vals[v]?).getD zero0).val)
def leadsRC (s : SysD) (x : StD) (c : ActD) (y : StD) : Bool := (enabled s x c && fits s y) && (allN x.locs.length (lstep x c y) && allN x.vals.length (vstep x c y))
theorem out_loc {s : SysD} {x : StD} {c : ActD} {picks : List ZI} (h : enabled s x c = true) {p : Nat} (hp : p < x.locs.length) : (outS s x c picks).locs[p]? = some (if (p : Int) = c.proc then c.to_ else (x.locs[p]?).getD 0) := by
 have hpr := enabled_proc h
 by_cases e : (p : Int) = c.proc
 ·rw [if_pos e, show p = c.proc.toNat by omega]; simp only [outS]; exact List.getElem?_set_self (by omega)
 ·rw [if_neg e]; simp only [outS]; rw [List.getElem?_set_ne (by omega), List.getElem?_eq_getElem hp]; rfl
theorem out_val {s : SysD} {x : StD} {c : ActD} {picks : List ZI} {v : Nat} (hv : v < s.vars.length) : (outS s x c picks).vals[v]? = some (newV x c picks v) := by simp [outS, List.getElem?_map, List.getElem?_range hv]
theorem leads_eq (s : SysD) (x : StD) (c : ActD) (y : StD) : leadsRC s x c y = leadsC s x c y := by
 unfold leadsRC leadsC
 cases he : enabled s x c with
 | false => rfl
 | true =>
  cases hy : fits s y with
  | false => rfl
  | true =>
   rw [Bool.true_and, Bool.true_and, Bool.true_and]
   have lx := fits_len (enabled_fits he); have ly := fits_len hy
   have hn : ∀ v, v < s.vars.length → (newV x c (picksOf y c s.vars.length) v).val = if freeAt c v = true then ((y.vals[v]?).getD zero0).val else (newAt x c v).val := fun v hv => by
    by_cases hf : freeAt c v = true
    ·rw [if_pos hf, newV_at hf (by rw [picks_freeL]; exact freeL_at _ c hf _ hv), ZI.val_of]
    ·rw [if_neg hf, newV_new (by simpa using hf)]
   have key : (fits s (outS s x c (picksOf y c s.vars.length)) = true ∧ sameS y (outS s x c (picksOf y c s.vars.length)) = true) ↔ (allN x.locs.length (lstep x c y) = true ∧ allN x.vals.length (vstep x c y) = true) := by
    unfold sameS
    simp only [Bool.and_eq_true, decide_eq_true_eq, allN_iff]
    constructor
    ·rintro ⟨_, h1, h2⟩
     refine ⟨fun p hp => ?_, fun v hv => ?_⟩
     ·unfold lstep; rw [h1, out_loc he hp]; simp
     ·unfold vstep
      have hv' : v < s.vars.length := by omega
      have h3 := congrArg (fun l => l[v]?) h2
      simp only [List.getElem?_map, out_val hv', Option.map_some] at h3
      cases hz : y.vals[v]? with
      | none => rw [hz] at h3; cases h3
      | some z =>
       rw [hz] at h3
       simp only [Option.map_some, Option.some.injEq] at h3
       rw [hn v hv', hz] at h3
       by_cases hf : freeAt c v = true
       ·rw [hf]; rfl
       ·rw [if_neg hf] at h3; rw [Option.getD_some, decide_eq_true h3.symm, Bool.or_true]
    ·rintro ⟨h1, h2⟩
     have e1 : y.locs = (outS s x c (picksOf y c s.vars.length)).locs := by
      refine List.ext_getElem? fun p => ?_
      by_cases hp : p < x.locs.length
      ·have := h1 p hp; unfold lstep at this; rw [out_loc he hp]
       rw [List.getElem?_eq_getElem (by omega)] at this ⊢
       simp at this; rw [this]
      ·rw [List.getElem?_eq_none (by omega), List.getElem?_eq_none (by simp only [outS, List.length_set]; omega)]
     have e2 : y.vals.map ZI.val = (outS s x c (picksOf y c s.vars.length)).vals.map ZI.val := by
      refine List.ext_getElem? fun v => ?_
      simp only [List.getElem?_map]
      by_cases hv : v < s.vars.length
      ·rw [out_val hv]
       have := h2 v (by omega); unfold vstep at this
       rw [List.getElem?_eq_getElem (by omega)] at this ⊢
       simp only [Option.map_some, Option.some.injEq, Option.getD_some] at this ⊢
       rw [hn v hv]
       by_cases hf : freeAt c v = true
       ·rw [if_pos hf, List.getElem?_eq_getElem (by omega)]; rfl
       ·rw [if_neg hf]; rw [show freeAt c v = false by simpa using hf, Bool.false_or] at this; exact (of_decide_eq_true this).symm
      ·rw [List.getElem?_eq_none (by omega), List.getElem?_eq_none (by simp [outS]; omega)]
     refine ⟨?_, e1, e2⟩
     rw [fits_out _ he, allN_iff]
     intro v hv
     have h3 := vals_in hy (i := v) (by omega)
     unfold valOk at h3
     rw [← h3]
     refine within_val ?_
     have h4 := congrArg (fun l => l[v]?) e2
     simp only [List.getElem?_map, out_val hv] at h4
     rw [List.getElem?_eq_getElem (by omega)] at h4 ⊢
     simp only [Option.map_some, Option.some.injEq, Option.getD_some] at h4 ⊢
     exact h4.symm
   unfold goC
   by_cases hfo : fits s (outS s x c (picksOf y c s.vars.length)) = true
   ·rw [if_pos ⟨he, hfo⟩, Bool.true_and]
    rw [Bool.eq_iff_iff, Bool.and_eq_true]
    exact ⟨fun h => (key.2 h).2, fun h => key.1 ⟨hfo, h⟩⟩
   ·rw [if_neg (fun h => hfo h.2)]
    have : ¬ (allN x.locs.length (lstep x c y) = true ∧ allN x.vals.length (vstep x c y) = true) := fun h => hfo (key.2 h).1
    rw [← Bool.and_eq_true] at this
    simpa using this
end Go.Proofs.Ytmohlifepfjmdaa.S
end
section
namespace Go.Proofs.Ytmohlifepfjmdaa.S
open Go.RowKit

theorem ks_14 : SlT Try.prog 63 74 1 := SlT.mk' Try.underlying63 (by kernel_rfl)
theorem ks_15 : SlT Try.prog 74 4 1 := SlT.mk' Try.underlying74 (by kernel_rfl)
end Go.Proofs.Ytmohlifepfjmdaa.S
end
section
namespace Go.Proofs.Ytmohlifepfjmdaa.S
open Go.RowKit

theorem kt_1 : Bodied Try.prog 20 := Bodied.mk' (by kernel_rfl)
theorem all2c {α β : Type} {R : α → β → Prop} {x : α} {xs : List α} {us : List β} (h : All2 R (x :: xs) us) : ∃ u vs, us = u :: vs ∧ R x u ∧ All2 R xs vs := by
 cases us with
 | nil => exact h.elim
 | cons u us => exact ⟨u, us, rfl, h⟩
theorem Fn.agg6 {P : Program} {k : FuncId} {ps qs : List (Nat × L)} {es : Nat} {c1 c2 c3 c4 c5 : C} {x y res : V} (h : Fn P k ps [.t (.agg [c1, c2, c3, c4, c5, .d (.sl es [])]), x, y] res qs) : Fn P k ps [.t (.agg [c1, c2, c3, c4, c5, .d (.raw nilV)]), x, y] res qs := by
 intro w H B vals pre
 obtain ⟨h1, h2, h3, h4, h5⟩ := pre
 cases vals with
 | nil => exact h5.elim
 | cons v vs =>
  obtain ⟨⟨us, rfl, ha⟩, ht⟩ := h5
  obtain ⟨u1, us, rfl, a1, ha⟩ := all2c ha
  obtain ⟨u2, us, rfl, a2, ha⟩ := all2c ha
  obtain ⟨u3, us, rfl, a3, ha⟩ := all2c ha
  obtain ⟨u4, us, rfl, a4, ha⟩ := all2c ha
  obtain ⟨u5, us, rfl, a5, ha⟩ := all2c ha
  obtain ⟨u6, us, rfl, a6, hz⟩ := all2c ha
  have h6 : u6 = nilV := VR.rawI (B := B) a6
  subst h6
  exact h w H B _ ⟨h1, h2, h3, h4, ⟨_, rfl, a1, a2, a3, a4, a5, DR.nil _ _ _ (fun _ => rfl) (Nat.zero_le _), hz⟩, ht⟩
def fewB (L : Nat) (b : BoundD) : Bool := decide ((b.lo.abs.length : Int) ≤ (L : Int)) && decide ((b.hi.abs.length : Int) ≤ (L : Int))
def formT (t : Term) : FormD := ⟨2, ⟨t, false⟩, []⟩
def fewM (L : Nat) (m : MoveD) : Bool := fewF (formT m.t) 5 L
def fewA (L : Nat) (c : ActD) : Bool := (fewF c.guard 30 L && decide ((c.moves.length : Int) ≤ 20)) && c.moves.all (fewM L)
def fewSys (L : Nat) (s : SysD) : Bool := (decide ((s.vars.length : Int) ≤ 8 ∧ (s.bounds.length : Int) ≤ 20 ∧ (s.procs.length : Int) ≤ 6 ∧ (s.acts.length : Int) ≤ 20) && fewF s.init 30 L) && (s.bounds.all (fewB L) && s.acts.all (fewA L))
def fewSt (L : Nat) (x : StD) : Bool := decide ((x.locs.length : Int) ≤ 10 ∧ (x.vals.length : Int) ≤ 10) && x.vals.all fun z => decide ((z.abs.length : Int) ≤ (L : Int))
/-- limbs that are limbs -/
structure SysRd (s : SysD) : Prop where
  init : s.init.lb
  bnd : ∀ b ∈ s.bounds, Lb b.lo.abs ∧ Lb b.hi.abs
  act : ∀ c ∈ s.acts, c.guard.lb ∧ ∀ m ∈ c.moves, TLb m.t
  len : s.bounds.length ≤ 9223372036854775807 ∧ s.acts.length ≤ 9223372036854775807
  mlen : ∀ c ∈ s.acts, c.moves.length ≤ 9223372036854775807
def StRd (x : StD) : Prop := (∀ z ∈ x.vals, Lb z.abs) ∧ x.vals.length ≤ 9223372036854775807
theorem fewF_ok {f : FormD} {most : Int} {L : Nat} (h : fewF f most L = true) (hl : f.lb) : f.ok L := by unfold fewF at h; rw [Bool.and_eq_true] at h; exact FormD.few_ok f h.2 hl
theorem formT_lb {t : Term} (h : TLb t) : (formT t).lb := (FormD.lb_eq _).2 ⟨⟨h, Nat.zero_le _⟩, fun g hg => (by cases hg)⟩
theorem formT_ok {t : Term} {L : Nat} (h : (formT t).ok L) : TOk 20 L t := ((FormD.ok_eq L _).1 h).1 rfl
theorem few_sys {L : Nat} {s : SysD} (h : fewSys L s = true) (hr : SysRd s) : SysOk L s := by
 unfold fewSys at h
 simp only [Bool.and_eq_true, decide_eq_true_eq, List.all_eq_true] at h
 obtain ⟨⟨⟨h1, h2, h3, h4⟩, h5⟩, h6, h7⟩ := h
 refine ⟨by omega, by omega, by omega, by omega, fun b hb => ?_, ⟨hr.init, fewF_ok h5 hr.init⟩, fun c hc => ?_⟩
 ·have := h6 b hb; unfold fewB at this; simp only [Bool.and_eq_true, decide_eq_true_eq] at this
  exact ⟨⟨(hr.bnd b hb).1, by omega⟩, (hr.bnd b hb).2, by omega⟩
 ·have := h7 c hc; unfold fewA at this; simp only [Bool.and_eq_true, decide_eq_true_eq, List.all_eq_true] at this
  exact ⟨⟨(hr.act c hc).1, fewF_ok this.1.1 (hr.act c hc).1⟩, by omega, fun m hm => formT_ok (fewF_ok (this.2 m hm) (formT_lb ((hr.act c hc).2 m hm)))⟩
theorem few_st {L : Nat} {x : StD} (h : fewSt L x = true) (hr : StRd x) : StOk L x := by
 unfold fewSt at h
 simp only [Bool.and_eq_true, decide_eq_true_eq, List.all_eq_true] at h
 exact ⟨by omega, by omega, fun z hz => ⟨hr.1 z hz, by have := h.2 z hz; omega⟩⟩
set_option maxHeartbeats 4000000 in
theorem SFewSt (x : StD) (L : Nat) (hr : StRd x) : Fn Try.prog 7 [] [.t (.agg [.d (.sl 1 (x.locs.map intD)), .d (.sl 2 (x.vals.map ziD))]), vi .i64 (L : Int)] (vb (fewSt L x)) [] := by
 have lv := hr.2
 refine Fn.body Try.func7 rfl 32 rfl fun w H B a h => ?_
 refine rSeq fam0ok 0 [] [(1, vi .i64 (L : Int)), (2, vp 0 0), (4, vb false)] [(0, .box [.d (.sl 1 (x.locs.map intD)), .d (.sl 2 (x.vals.map ziD))])] (by kernel_rfl) h ?_; clear h; intro a w h
 refine wp_seq ?_
 rcases Bool.eq_false_or_eq_true (decide ((x.locs.length : Int) > 10)) with hc | hc
 ·have hc1 := hc; clear hc
  have hc1' := of_decide_eq_true hc1
  refine rSeq fam0ok 1 [(2, .len (c := (.d (.sl 1 (x.locs.map intD)))) (n := x.locs.length) (lenC_map _ _ _)), (3, .cmp (op := .gtr) (m := (x.locs.length : Int)) (n := 10) (b := true) .i64 hc1)] [(1, vi .i64 (L : Int)), (2, vp 0 0), (4, vb false), (15, vb true)] [(0, .box [.d (.sl 1 (x.locs.map intD)), .d (.sl 2 (x.vals.map ziD))])] (by kernel_rfl) h ?_; clear h; intro a w h
  refine condS true h rfl (fun hc => ?_) (fun hc => ?_)
  ·clear hc
   refine rSeq fam0ok 1 [] [(1, vi .i64 (L : Int)), (2, vp 0 0), (4, vb false)] [(0, .box [.d (.sl 1 (x.locs.map intD)), .d (.sl 2 (x.vals.map ziD))])] (by kernel_rfl) h ?_; clear h; intro a w h
   refine wp_ret ?_
   refine then_r ?_
   refine retS [.c (.d (.raw (.bool false)))] h Exit.ret (.inl rfl)  rfl ⟨RV.tmp _ _ rfl, trivial⟩ ?_ (by kernel_rfl) (by kernel_rfl)
   have hz : fewSt L x = false := by unfold fewSt; rw [decide_eq_false (p := (x.locs.length : Int) ≤ 10 ∧ (x.vals.length : Int) ≤ 10) (by have := of_decide_eq_true hc1; omega)]; rfl
   rw [hz]; first | done | rfl
  ·cases hc
 ·have hc2 := hc; clear hc
  have hc2' := of_decide_eq_false hc2
  refine rSeq fam0ok 1 [(2, .len (c := (.d (.sl 1 (x.locs.map intD)))) (n := x.locs.length) (lenC_map _ _ _)), (3, .cmp (op := .gtr) (m := (x.locs.length : Int)) (n := 10) (b := false) .i64 hc2), (7, .len (c := (.d (.sl 2 (x.vals.map ziD)))) (n := x.vals.length) (lenC_map _ _ _))] [(1, vi .i64 (L : Int)), (2, vp 0 0), (4, vb false), (15, vb (decide ((x.vals.length : Int) > 10)))] [(0, .box [.d (.sl 1 (x.locs.map intD)), .d (.sl 2 (x.vals.map ziD))])] (by kernel_rfl) h ?_; clear h; intro a w h
  refine condS (decide ((x.vals.length : Int) > 10)) h rfl (fun hc => ?_) (fun hc => ?_)
  ·have hc3 := hc; clear hc
   have hc3' := of_decide_eq_true hc3
   refine rSeq fam0ok 1 [] [(1, vi .i64 (L : Int)), (2, vp 0 0), (4, vb false)] [(0, .box [.d (.sl 1 (x.locs.map intD)), .d (.sl 2 (x.vals.map ziD))])] (by kernel_rfl) h ?_; clear h; intro a w h
   refine wp_ret ?_
   refine then_r ?_
   refine retS [.c (.d (.raw (.bool false)))] h Exit.ret (.inl rfl)  rfl ⟨RV.tmp _ _ rfl, trivial⟩ ?_ (by kernel_rfl) (by kernel_rfl)
   have hz : fewSt L x = false := by unfold fewSt; rw [decide_eq_false (p := (x.locs.length : Int) ≤ 10 ∧ (x.vals.length : Int) ≤ 10) (by have := of_decide_eq_true hc3; omega)]; rfl
   rw [hz]; first | done | rfl
  ·have hc4 := hc; clear hc
   have hc4' := of_decide_eq_false hc4
   refine wp_skip ?_
   refine then_n ?_
   refine wp_seq ?_
   refine rSeq fam0ok 1 [] [(1, vi .i64 (L : Int)), (2, vp 0 0), (4, vb false), (5, vi .i64 0)] [(0, .box [.d (.sl 1 (x.locs.map intD)), .d (.sl 2 (x.vals.map ziD))])] (by kernel_rfl) h ?_; clear h; intro a w h
   refine wp_block ?_
   refine loopS (ι := (Nat)) (fun (z_ : (Nat)) => match z_ with | j => j ≤ x.vals.length ∧ (x.vals.take j).all (fun z => decide ((z.abs.length : Int) ≤ (L : Int))) = true)
     (fun (z_ : (Nat)) => match z_ with | j => [(1, vi .i64 (L : Int)), (2, vp 0 0), (5, vi .i64 (j : Int))])
     (fun (z_ : (Nat)) => match z_ with | j => [(0, .box [.d (.sl 1 (x.locs.map intD)), .d (.sl 2 (x.vals.map ziD))])])
     (fun (z_ : (Nat)) => match z_ with | j => x.vals.length - j) 0 ?_ h (by kernel_rfl) (by kernel_rfl) ?_
   ·exact ⟨Nat.zero_le _, rfl⟩
   ·clear h; rintro j a w hI h
    change St _ (F.of [(1, vi .i64 (L : Int)), (2, vp 0 0), (5, vi .i64 (j : Int))] [(0, .box [.d (.sl 1 (x.locs.map intD)), .d (.sl 2 (x.vals.map ziD))])]) a w at h
    obtain ⟨hI1, hI2⟩ := hI
    refine wp_seq ?_
    refine rSeq fam0ok 1 [(3, .len (c := (.d (.sl 2 (x.vals.map ziD)))) (n := x.vals.length) (lenC_map _ _ _))] [(1, vi .i64 (L : Int)), (2, vp 0 0), (5, vi .i64 (j : Int)), (20, vb (decide ((j : Int) < (x.vals.length : Int))))] [(0, .box [.d (.sl 1 (x.locs.map intD)), .d (.sl 2 (x.vals.map ziD))])] (by kernel_rfl) h ?_; clear h; intro a w h
    refine condS (decide ((j : Int) < (x.vals.length : Int))) h rfl (fun hc => ?_) (fun hc => ?_)
    ·have hc5 := hc; clear hc
     have hc5' := of_decide_eq_true hc5
     refine wp_skip ?_
     refine then_n ?_
     refine wp_seq ?_
     refine wp_block ?_
     obtain ⟨x1, hx1⟩ : ∃ z_ : ZI, x.vals[j]? = some z_ := ⟨_, List.getElem?_eq_getElem (by first | omega | (simp at *; omega))⟩
     refine rSeq fam0ok 1 [(3, .gen _ _ _ fun _ _ _ _ => Op.idxD (d := 26) (t := 24) (k := .i64) tt_6 (map_at hx1 (f := ziD)) (OV.tmp 25 _)), (6, .len (nsl_len x1.abs))] [(1, vi .i64 (L : Int)), (2, vp 0 0), (5, vi .i64 (j : Int)), (31, vb (decide ((x1.abs.length : Int) > (L : Int))))] [(0, .box [.d (.sl 1 (x.locs.map intD)), .d (.sl 2 (x.vals.map ziD))])] (by kernel_rfl) h ?_; clear h; intro a w h
     refine condS (decide ((x1.abs.length : Int) > (L : Int))) h rfl (fun hc => ?_) (fun hc => ?_)
     ·have hc6 := hc; clear hc
      have hc6' := of_decide_eq_true hc6
      refine rSeq fam0ok 1 [] [(1, vi .i64 (L : Int)), (2, vp 0 0), (4, vb false), (5, vi .i64 (j : Int))] [(0, .box [.d (.sl 1 (x.locs.map intD)), .d (.sl 2 (x.vals.map ziD))])] (by kernel_rfl) h ?_; clear h; intro a w h
      refine wp_ret ?_
      refine block_r ?_
      refine then_r ?_
      refine then_r ?_
      refine block_r ?_
      refine then_r ?_
      refine retS [.c (.d (.raw (.bool false)))] h Exit.ret (.inl rfl)  rfl ⟨RV.tmp _ _ rfl, trivial⟩ ?_ (by kernel_rfl) (by kernel_rfl)
      have hz : fewSt L x = false := by unfold fewSt; rw [decide_eq_true (p := (x.locs.length : Int) ≤ 10 ∧ (x.vals.length : Int) ≤ 10) (by have := of_decide_eq_false hc2; have := of_decide_eq_false hc4; omega), Bool.true_and]; exact all_stop hx1 (decide_eq_false (by have := of_decide_eq_true hc6; omega))
      rw [hz]; first | done | rfl
     ·have hc7 := hc; clear hc
      have hc7' := of_decide_eq_false hc7
      refine wp_skip ?_
      refine block_n ?_
      refine then_n ?_
      refine rS fam0ok 1 [(1, .add .i64 (m := (j : Int)) (n := 1) (i64_id (by omega) (by omega)))] [(1, vi .i64 (L : Int)), (2, vp 0 0), (5, vi .i64 ((j : Int) + 1))] [(0, .box [.d (.sl 1 (x.locs.map intD)), .d (.sl 2 (x.vals.map ziD))])] (by kernel_rfl) h ?_; clear h; intro a w h
      refine then_n ?_
      refine roundS (x := j) (y := j + 1) h ?_ ?_ (by kernel_rfl) (by kernel_rfl)
      ·exact ⟨by have := at_lt hx1; omega, all_step hx1 hI2 (decide_eq_true (by have := of_decide_eq_false hc7; omega))⟩
      ·show x.vals.length - (j + 1) < x.vals.length - j
       have := at_lt hx1; omega
    ·have hc8 := hc; clear hc
     have hc8' := of_decide_eq_false hc8
     refine wp_exit ?_
     refine then_x ?_
     refine then_x ?_
     refine inBlock_exit ?_
     refine then_n ?_
     refine rSeq fam0ok 1 [] [(4, vb true)] [] (by kernel_rfl) h ?_; clear h; intro a w h
     refine wp_ret ?_
     refine retS [.c (.d (.raw (.bool true)))] h Exit.ret (.inl rfl)  rfl ⟨RV.tmp _ _ rfl, trivial⟩ ?_ (by kernel_rfl) (by kernel_rfl)
     have hz : fewSt L x = true := by unfold fewSt; rw [decide_eq_true (p := (x.locs.length : Int) ≤ 10 ∧ (x.vals.length : Int) ≤ 10) (by have := of_decide_eq_false hc2; have := of_decide_eq_false hc4; omega), Bool.true_and]; exact all_end (of_decide_eq_false hc8) hI2
     rw [hz]; first | done | rfl
set_option maxHeartbeats 4000000 in
theorem SFewSys (s : SysD) (L : Nat) (hr : SysRd s) : Fn Try.prog 6 [] [.t (.agg (sysC s)), vi .i64 (L : Int)] (vb (fewSys L s)) [] := by
 have lb1 := hr.len.1
 have lb2 := hr.len.2
 refine Fn.body Try.func6 rfl 118 rfl fun w H B a h => ?_
 refine rSeq fam0ok 0 [] [(1, vi .i64 (L : Int)), (2, vp 0 0), (4, vb false)] [(0, .box (sysC s))] (by kernel_rfl) h ?_; clear h; intro a w h
 refine wp_seq ?_
 rcases Bool.eq_false_or_eq_true (decide ((s.vars.length : Int) > 8)) with hc | hc
 ·have hc1 := hc; clear hc
  have hc1' := of_decide_eq_true hc1
  refine rSeq fam0ok 1 [(2, .len (c := (.d (.sl 1 (s.vars.map strD)))) (n := s.vars.length) (lenC_map _ _ _)), (3, .cmp (op := .gtr) (m := (s.vars.length : Int)) (n := 8) (b := true) .i64 hc1)] [(1, vi .i64 (L : Int)), (2, vp 0 0), (4, vb false), (36, vb true)] [(0, .box (sysC s))] (by kernel_rfl) h ?_; clear h; intro a w h
  refine condS true h rfl (fun hc => ?_) (fun hc => ?_)
  ·clear hc
   refine rSeq fam0ok 1 [] [(1, vi .i64 (L : Int)), (2, vp 0 0), (4, vb false)] [(0, .box (sysC s))] (by kernel_rfl) h ?_; clear h; intro a w h
   refine wp_ret ?_
   refine then_r ?_
   refine retS [.c (.d (.raw (.bool false)))] h Exit.ret (.inl rfl)  rfl ⟨RV.tmp _ _ rfl, trivial⟩ ?_ (by kernel_rfl) (by kernel_rfl)
   have hz : fewSys L s = false := by unfold fewSys; rw [decide_eq_false (p := (s.vars.length : Int) ≤ 8 ∧ (s.bounds.length : Int) ≤ 20 ∧ (s.procs.length : Int) ≤ 6 ∧ (s.acts.length : Int) ≤ 20) (by have := of_decide_eq_true hc1; omega)]; rfl
   rw [hz]; first | done | rfl
  ·cases hc
 ·have hc2 := hc; clear hc
  have hc2' := of_decide_eq_false hc2
  rcases Bool.eq_false_or_eq_true (decide ((s.bounds.length : Int) > 20)) with hc | hc
  ·have hc3 := hc; clear hc
   have hc3' := of_decide_eq_true hc3
   refine rSeq fam0ok 1 [(2, .len (c := (.d (.sl 1 (s.vars.map strD)))) (n := s.vars.length) (lenC_map _ _ _)), (3, .cmp (op := .gtr) (m := (s.vars.length : Int)) (n := 8) (b := false) .i64 hc2), (7, .len (c := (.d (.sl 5 (s.bounds.map BoundD.d)))) (n := s.bounds.length) (lenC_map _ _ _)), (8, .cmp (op := .gtr) (m := (s.bounds.length : Int)) (n := 20) (b := true) .i64 hc3)] [(1, vi .i64 (L : Int)), (2, vp 0 0), (4, vb false), (36, vb true)] [(0, .box (sysC s))] (by kernel_rfl) h ?_; clear h; intro a w h
   refine condS true h rfl (fun hc => ?_) (fun hc => ?_)
   ·clear hc
    refine rSeq fam0ok 1 [] [(1, vi .i64 (L : Int)), (2, vp 0 0), (4, vb false)] [(0, .box (sysC s))] (by kernel_rfl) h ?_; clear h; intro a w h
    refine wp_ret ?_
    refine then_r ?_
    refine retS [.c (.d (.raw (.bool false)))] h Exit.ret (.inl rfl)  rfl ⟨RV.tmp _ _ rfl, trivial⟩ ?_ (by kernel_rfl) (by kernel_rfl)
    have hz : fewSys L s = false := by unfold fewSys; rw [decide_eq_false (p := (s.vars.length : Int) ≤ 8 ∧ (s.bounds.length : Int) ≤ 20 ∧ (s.procs.length : Int) ≤ 6 ∧ (s.acts.length : Int) ≤ 20) (by have := of_decide_eq_true hc3; omega)]; rfl
    rw [hz]; first | done | rfl
   ·cases hc
  ·have hc4 := hc; clear hc
   have hc4' := of_decide_eq_false hc4
   rcases Bool.eq_false_or_eq_true (decide ((s.procs.length : Int) > 6)) with hc | hc
   ·have hc5 := hc; clear hc
    have hc5' := of_decide_eq_true hc5
    refine rSeq fam0ok 1 [(2, .len (c := (.d (.sl 1 (s.vars.map strD)))) (n := s.vars.length) (lenC_map _ _ _)), (3, .cmp (op := .gtr) (m := (s.vars.length : Int)) (n := 8) (b := false) .i64 hc2), (7, .len (c := (.d (.sl 5 (s.bounds.map BoundD.d)))) (n := s.bounds.length) (lenC_map _ _ _)), (8, .cmp (op := .gtr) (m := (s.bounds.length : Int)) (n := 20) (b := false) .i64 hc4), (13, .len (c := (.d (.sl 3 (s.procs.map ProcD.d)))) (n := s.procs.length) (lenC_map _ _ _)), (14, .cmp (op := .gtr) (m := (s.procs.length : Int)) (n := 6) (b := true) .i64 hc5)] [(1, vi .i64 (L : Int)), (2, vp 0 0), (4, vb false), (36, vb true)] [(0, .box (sysC s))] (by kernel_rfl) h ?_; clear h; intro a w h
    refine condS true h rfl (fun hc => ?_) (fun hc => ?_)
    ·clear hc
     refine rSeq fam0ok 1 [] [(1, vi .i64 (L : Int)), (2, vp 0 0), (4, vb false)] [(0, .box (sysC s))] (by kernel_rfl) h ?_; clear h; intro a w h
     refine wp_ret ?_
     refine then_r ?_
     refine retS [.c (.d (.raw (.bool false)))] h Exit.ret (.inl rfl)  rfl ⟨RV.tmp _ _ rfl, trivial⟩ ?_ (by kernel_rfl) (by kernel_rfl)
     have hz : fewSys L s = false := by unfold fewSys; rw [decide_eq_false (p := (s.vars.length : Int) ≤ 8 ∧ (s.bounds.length : Int) ≤ 20 ∧ (s.procs.length : Int) ≤ 6 ∧ (s.acts.length : Int) ≤ 20) (by have := of_decide_eq_true hc5; omega)]; rfl
     rw [hz]; first | done | rfl
    ·cases hc
   ·have hc6 := hc; clear hc
    have hc6' := of_decide_eq_false hc6
    rcases Bool.eq_false_or_eq_true (decide ((s.acts.length : Int) > 20)) with hc | hc
    ·have hc7 := hc; clear hc
     have hc7' := of_decide_eq_true hc7
     refine rSeq fam0ok 1 [(2, .len (c := (.d (.sl 1 (s.vars.map strD)))) (n := s.vars.length) (lenC_map _ _ _)), (3, .cmp (op := .gtr) (m := (s.vars.length : Int)) (n := 8) (b := false) .i64 hc2), (7, .len (c := (.d (.sl 5 (s.bounds.map BoundD.d)))) (n := s.bounds.length) (lenC_map _ _ _)), (8, .cmp (op := .gtr) (m := (s.bounds.length : Int)) (n := 20) (b := false) .i64 hc4), (13, .len (c := (.d (.sl 3 (s.procs.map ProcD.d)))) (n := s.procs.length) (lenC_map _ _ _)), (14, .cmp (op := .gtr) (m := (s.procs.length : Int)) (n := 6) (b := false) .i64 hc6), (19, .len (c := (.d (.sl 10 (s.acts.map ActD.d)))) (n := s.acts.length) (lenC_map _ _ _)), (20, .cmp (op := .gtr) (m := (s.acts.length : Int)) (n := 20) (b := true) .i64 hc7)] [(1, vi .i64 (L : Int)), (2, vp 0 0), (4, vb false), (36, vb true)] [(0, .box (sysC s))] (by kernel_rfl) h ?_; clear h; intro a w h
     refine condS true h rfl (fun hc => ?_) (fun hc => ?_)
     ·clear hc
      refine rSeq fam0ok 1 [] [(1, vi .i64 (L : Int)), (2, vp 0 0), (4, vb false)] [(0, .box (sysC s))] (by kernel_rfl) h ?_; clear h; intro a w h
      refine wp_ret ?_
      refine then_r ?_
      refine retS [.c (.d (.raw (.bool false)))] h Exit.ret (.inl rfl)  rfl ⟨RV.tmp _ _ rfl, trivial⟩ ?_ (by kernel_rfl) (by kernel_rfl)
      have hz : fewSys L s = false := by unfold fewSys; rw [decide_eq_false (p := (s.vars.length : Int) ≤ 8 ∧ (s.bounds.length : Int) ≤ 20 ∧ (s.procs.length : Int) ≤ 6 ∧ (s.acts.length : Int) ≤ 20) (by have := of_decide_eq_true hc7; omega)]; rfl
      rw [hz]; first | done | rfl
     ·cases hc
    ·have hc8 := hc; clear hc
     have hc8' := of_decide_eq_false hc8
     refine rSeq fam0ok 1 [(2, .len (c := (.d (.sl 1 (s.vars.map strD)))) (n := s.vars.length) (lenC_map _ _ _)), (3, .cmp (op := .gtr) (m := (s.vars.length : Int)) (n := 8) (b := false) .i64 hc2), (7, .len (c := (.d (.sl 5 (s.bounds.map BoundD.d)))) (n := s.bounds.length) (lenC_map _ _ _)), (8, .cmp (op := .gtr) (m := (s.bounds.length : Int)) (n := 20) (b := false) .i64 hc4), (13, .len (c := (.d (.sl 3 (s.procs.map ProcD.d)))) (n := s.procs.length) (lenC_map _ _ _)), (14, .cmp (op := .gtr) (m := (s.procs.length : Int)) (n := 6) (b := false) .i64 hc6), (19, .len (c := (.d (.sl 10 (s.acts.map ActD.d)))) (n := s.acts.length) (lenC_map _ _ _)), (20, .cmp (op := .gtr) (m := (s.acts.length : Int)) (n := 20) (b := false) .i64 hc8), (26, .call (SFewF s.init 30 (L : Int) hr.init (by decide) (by decide)) kt_1)] [(1, vi .i64 (L : Int)), (2, vp 0 0), (4, vb false), (36, vb (!(fewF s.init 30 L)))] [(0, .box (sysC s))] (by kernel_rfl) h ?_; clear h; intro a w h
     refine condS (!(fewF s.init 30 L)) h rfl (fun hc => ?_) (fun hc => ?_)
     ·have hc9 := hc; clear hc
      have hc9' := hc9; (try simp at hc9')
      refine rSeq fam0ok 1 [] [(1, vi .i64 (L : Int)), (2, vp 0 0), (4, vb false)] [(0, .box (sysC s))] (by kernel_rfl) h ?_; clear h; intro a w h
      refine wp_ret ?_
      refine then_r ?_
      refine retS [.c (.d (.raw (.bool false)))] h Exit.ret (.inl rfl)  rfl ⟨RV.tmp _ _ rfl, trivial⟩ ?_ (by kernel_rfl) (by kernel_rfl)
      have hz : fewSys L s = false := by unfold fewSys; rw [decide_eq_true (p := (s.vars.length : Int) ≤ 8 ∧ (s.bounds.length : Int) ≤ 20 ∧ (s.procs.length : Int) ≤ 6 ∧ (s.acts.length : Int) ≤ 20) (by have := of_decide_eq_false hc2; have := of_decide_eq_false hc4; have := of_decide_eq_false hc6; have := of_decide_eq_false hc8; omega), Bool.true_and]; rw [(show (fewF s.init 30 L) = false from by simpa using hc9)]; rfl
      rw [hz]; first | done | rfl
     ·have hc10 := hc; clear hc
      have hc10' := hc10; (try simp at hc10')
      refine wp_skip ?_
      refine then_n ?_
      refine wp_seq ?_
      refine rSeq fam0ok 1 [] [(1, vi .i64 (L : Int)), (2, vp 0 0), (4, vb false), (5, vi .i64 0)] [(0, .box (sysC s))] (by kernel_rfl) h ?_; clear h; intro a w h
      refine wp_block ?_
      refine loopS (ι := (Nat)) (fun (z_ : (Nat)) => match z_ with | j => j ≤ s.bounds.length ∧ (s.bounds.take j).all (fewB L) = true)
        (fun (z_ : (Nat)) => match z_ with | j => [(1, vi .i64 (L : Int)), (2, vp 0 0), (5, vi .i64 (j : Int))])
        (fun (z_ : (Nat)) => match z_ with | j => [(0, .box (sysC s))])
        (fun (z_ : (Nat)) => match z_ with | j => s.bounds.length - j) 0 ?_ h (by kernel_rfl) (by kernel_rfl) ?_
      ·exact ⟨Nat.zero_le _, rfl⟩
      ·clear h; rintro j a w hI h
       change St _ (F.of [(1, vi .i64 (L : Int)), (2, vp 0 0), (5, vi .i64 (j : Int))] [(0, .box (sysC s))]) a w at h
       obtain ⟨hI1, hI2⟩ := hI
       refine wp_seq ?_
       refine rSeq fam0ok 1 [(3, .len (c := (.d (.sl 5 (s.bounds.map BoundD.d)))) (n := s.bounds.length) (lenC_map _ _ _))] [(1, vi .i64 (L : Int)), (2, vp 0 0), (5, vi .i64 (j : Int)), (41, vb (decide ((j : Int) < (s.bounds.length : Int))))] [(0, .box (sysC s))] (by kernel_rfl) h ?_; clear h; intro a w h
       refine condS (decide ((j : Int) < (s.bounds.length : Int))) h rfl (fun hc => ?_) (fun hc => ?_)
       ·have hc11 := hc; clear hc
        have hc11' := of_decide_eq_true hc11
        refine wp_skip ?_
        refine then_n ?_
        refine wp_seq ?_
        refine wp_block ?_
        obtain ⟨x2, hx2⟩ : ∃ z_ : BoundD, s.bounds[j]? = some z_ := ⟨_, List.getElem?_eq_getElem (by first | omega | (simp at *; omega))⟩
        rcases Bool.eq_false_or_eq_true (decide ((x2.lo.abs.length : Int) > (L : Int))) with hc | hc
        ·have hc12 := hc; clear hc
         have hc12' := of_decide_eq_true hc12
         refine rSeq fam0ok 1 [(3, .gen _ _ _ fun _ _ _ _ => Op.idxD (d := 47) (t := 45) (k := .i64) kf_0 (map_at hx2 (f := BoundD.d)) (OV.tmp 46 _)), (7, .len (nsl_len x2.lo.abs)), (9, .cmp (op := .gtr) (m := (x2.lo.abs.length : Int)) (n := (L : Int)) (b := true) .i64 hc12)] [(1, vi .i64 (L : Int)), (2, vp 0 0), (5, vi .i64 (j : Int)), (65, vb true)] [(0, .box (sysC s))] (by kernel_rfl) h ?_; clear h; intro a w h
         refine condS true h rfl (fun hc => ?_) (fun hc => ?_)
         ·clear hc
          refine rSeq fam0ok 1 [] [(1, vi .i64 (L : Int)), (2, vp 0 0), (4, vb false), (5, vi .i64 (j : Int))] [(0, .box (sysC s))] (by kernel_rfl) h ?_; clear h; intro a w h
          refine wp_ret ?_
          refine block_r ?_
          refine then_r ?_
          refine then_r ?_
          refine block_r ?_
          refine then_r ?_
          refine retS [.c (.d (.raw (.bool false)))] h Exit.ret (.inl rfl)  rfl ⟨RV.tmp _ _ rfl, trivial⟩ ?_ (by kernel_rfl) (by kernel_rfl)
          have hz : fewSys L s = false := by unfold fewSys; rw [decide_eq_true (p := (s.vars.length : Int) ≤ 8 ∧ (s.bounds.length : Int) ≤ 20 ∧ (s.procs.length : Int) ≤ 6 ∧ (s.acts.length : Int) ≤ 20) (by have := of_decide_eq_false hc2; have := of_decide_eq_false hc4; have := of_decide_eq_false hc6; have := of_decide_eq_false hc8; omega), Bool.true_and]; rw [(show (fewF s.init 30 L) = true from by simpa using hc10)]; rw [all_stop hx2 (show fewB L x2 = false from (by unfold fewB; rw [decide_eq_false (by have := of_decide_eq_true hc12; omega)]; rfl))]; rfl
          rw [hz]; first | done | rfl
         ·cases hc
        ·have hc13 := hc; clear hc
         have hc13' := of_decide_eq_false hc13
         refine rSeq fam0ok 1 [(3, .gen _ _ _ fun _ _ _ _ => Op.idxD (d := 47) (t := 45) (k := .i64) kf_0 (map_at hx2 (f := BoundD.d)) (OV.tmp 46 _)), (7, .len (nsl_len x2.lo.abs)), (9, .cmp (op := .gtr) (m := (x2.lo.abs.length : Int)) (n := (L : Int)) (b := false) .i64 hc13), (14, .gen _ _ _ fun _ _ _ _ => Op.idxD (d := 58) (t := 56) (k := .i64) kf_0 (map_at hx2 (f := BoundD.d)) (OV.tmp 57 _)), (18, .len (nsl_len x2.hi.abs))] [(1, vi .i64 (L : Int)), (2, vp 0 0), (5, vi .i64 (j : Int)), (65, vb (decide ((x2.hi.abs.length : Int) > (L : Int))))] [(0, .box (sysC s))] (by kernel_rfl) h ?_; clear h; intro a w h
         refine condS (decide ((x2.hi.abs.length : Int) > (L : Int))) h rfl (fun hc => ?_) (fun hc => ?_)
         ·have hc14 := hc; clear hc
          have hc14' := of_decide_eq_true hc14
          refine rSeq fam0ok 1 [] [(1, vi .i64 (L : Int)), (2, vp 0 0), (4, vb false), (5, vi .i64 (j : Int))] [(0, .box (sysC s))] (by kernel_rfl) h ?_; clear h; intro a w h
          refine wp_ret ?_
          refine block_r ?_
          refine then_r ?_
          refine then_r ?_
          refine block_r ?_
          refine then_r ?_
          refine retS [.c (.d (.raw (.bool false)))] h Exit.ret (.inl rfl)  rfl ⟨RV.tmp _ _ rfl, trivial⟩ ?_ (by kernel_rfl) (by kernel_rfl)
          have hz : fewSys L s = false := by unfold fewSys; rw [decide_eq_true (p := (s.vars.length : Int) ≤ 8 ∧ (s.bounds.length : Int) ≤ 20 ∧ (s.procs.length : Int) ≤ 6 ∧ (s.acts.length : Int) ≤ 20) (by have := of_decide_eq_false hc2; have := of_decide_eq_false hc4; have := of_decide_eq_false hc6; have := of_decide_eq_false hc8; omega), Bool.true_and]; rw [(show (fewF s.init 30 L) = true from by simpa using hc10)]; rw [all_stop hx2 (show fewB L x2 = false from (by unfold fewB; rw [decide_eq_false (p := (x2.hi.abs.length : Int) ≤ (L : Int)) (by have := of_decide_eq_true hc14; omega), Bool.and_false]))]; rfl
          rw [hz]; first | done | rfl
         ·have hc15 := hc; clear hc
          have hc15' := of_decide_eq_false hc15
          refine wp_skip ?_
          refine block_n ?_
          refine then_n ?_
          refine rS fam0ok 1 [(1, .add .i64 (m := (j : Int)) (n := 1) (i64_id (by omega) (by omega)))] [(1, vi .i64 (L : Int)), (2, vp 0 0), (5, vi .i64 ((j : Int) + 1))] [(0, .box (sysC s))] (by kernel_rfl) h ?_; clear h; intro a w h
          refine then_n ?_
          refine roundS (x := j) (y := j + 1) h ?_ ?_ (by kernel_rfl) (by kernel_rfl)
          ·exact ⟨by have := at_lt hx2; omega, all_step hx2 hI2 (by unfold fewB; rw [decide_eq_true (by have := of_decide_eq_false hc13; omega), decide_eq_true (by have := of_decide_eq_false hc15; omega)]; rfl)⟩
          ·show s.bounds.length - (j + 1) < s.bounds.length - j
           have := at_lt hx2; omega
       ·have hc16 := hc; clear hc
        have hc16' := of_decide_eq_false hc16
        refine wp_exit ?_
        refine then_x ?_
        refine then_x ?_
        refine inBlock_exit ?_
        refine then_n ?_
        refine wp_seq ?_
        refine rSeq fam0ok 1 [] [(1, vi .i64 (L : Int)), (2, vp 0 0), (6, vi .i64 0)] [(0, .box (sysC s))] (by kernel_rfl) h ?_; clear h; intro a w h
        refine wp_block ?_
        refine loopS (ι := (Nat)) (fun (z_ : (Nat)) => match z_ with | q => q ≤ s.acts.length ∧ (s.acts.take q).all (fewA L) = true)
          (fun (z_ : (Nat)) => match z_ with | q => [(1, vi .i64 (L : Int)), (2, vp 0 0), (6, vi .i64 (q : Int))])
          (fun (z_ : (Nat)) => match z_ with | q => [(0, .box (sysC s))])
          (fun (z_ : (Nat)) => match z_ with | q => s.acts.length - q) 0 ?_ h (by kernel_rfl) (by kernel_rfl) ?_
        ·exact ⟨Nat.zero_le _, rfl⟩
        ·clear h; rintro q a w hI h
         change St _ (F.of [(1, vi .i64 (L : Int)), (2, vp 0 0), (6, vi .i64 (q : Int))] [(0, .box (sysC s))]) a w at h
         obtain ⟨hQ1, hQ2⟩ := hI
         refine wp_seq ?_
         refine rSeq fam0ok 1 [(3, .len (c := (.d (.sl 10 (s.acts.map ActD.d)))) (n := s.acts.length) (lenC_map _ _ _))] [(1, vi .i64 (L : Int)), (2, vp 0 0), (6, vi .i64 (q : Int)), (70, vb (decide ((q : Int) < (s.acts.length : Int))))] [(0, .box (sysC s))] (by kernel_rfl) h ?_; clear h; intro a w h
         refine condS (decide ((q : Int) < (s.acts.length : Int))) h rfl (fun hc => ?_) (fun hc => ?_)
         ·have hc17 := hc; clear hc
          have hc17' := of_decide_eq_true hc17
          refine wp_skip ?_
          refine then_n ?_
          refine wp_seq ?_
          refine wp_block ?_
          refine wp_seq ?_
          obtain ⟨x3, hx3⟩ : ∃ z_ : ActD, s.acts[q]? = some z_ := ⟨_, List.getElem?_eq_getElem (by first | omega | (simp at *; omega))⟩
          have lmx3 := hr.mlen x3 (List.mem_of_getElem? hx3)
          rcases Bool.eq_false_or_eq_true (fewF x3.guard 30 L) with hc | hc
          ·have hc18 := hc; clear hc
           refine rSeq fam0ok 1 [(3, .gen _ _ _ fun _ _ _ _ => Op.idxD (d := 76) (t := 74) (k := .i64) ki_1 (map_at hx3 (f := ActD.d)) (OV.tmp 75 _)), (7, .call (Fn.cast (SFewF x3.guard 30 (L : Int) (hr.act x3 (List.mem_of_getElem? hx3)).1 (by decide) (by decide)) (congrArg vb hc18)) kt_1), (13, .gen _ _ _ fun _ _ _ _ => Op.idxD (d := 86) (t := 84) (k := .i64) ki_1 (map_at hx3 (f := ActD.d)) (OV.tmp 85 _)), (16, .len (c := (.d (.sl 5 (x3.moves.map MoveD.d)))) (n := x3.moves.length) (lenC_map _ _ _))] [(1, vi .i64 (L : Int)), (2, vp 0 0), (6, vi .i64 (q : Int)), (91, vb (decide ((x3.moves.length : Int) > 20)))] [(0, .box (sysC s))] (by kernel_rfl) h ?_; clear h; intro a w h
           refine condS (decide ((x3.moves.length : Int) > 20)) h rfl (fun hc => ?_) (fun hc => ?_)
           ·have hc19 := hc; clear hc
            have hc19' := of_decide_eq_true hc19
            refine rSeq fam0ok 1 [] [(1, vi .i64 (L : Int)), (2, vp 0 0), (4, vb false), (6, vi .i64 (q : Int))] [(0, .box (sysC s))] (by kernel_rfl) h ?_; clear h; intro a w h
            refine wp_ret ?_
            refine then_r ?_
            refine block_r ?_
            refine then_r ?_
            refine then_r ?_
            refine block_r ?_
            refine then_r ?_
            refine retS [.c (.d (.raw (.bool false)))] h Exit.ret (.inl rfl)  rfl ⟨RV.tmp _ _ rfl, trivial⟩ ?_ (by kernel_rfl) (by kernel_rfl)
            have hz : fewSys L s = false := by unfold fewSys; rw [decide_eq_true (p := (s.vars.length : Int) ≤ 8 ∧ (s.bounds.length : Int) ≤ 20 ∧ (s.procs.length : Int) ≤ 6 ∧ (s.acts.length : Int) ≤ 20) (by have := of_decide_eq_false hc2; have := of_decide_eq_false hc4; have := of_decide_eq_false hc6; have := of_decide_eq_false hc8; omega), Bool.true_and]; rw [(show (fewF s.init 30 L) = true from by simpa using hc10)]; rw [all_end (of_decide_eq_false hc16) hI2]; rw [all_stop hx3 (show fewA L x3 = false from (by unfold fewA; rw [decide_eq_false (p := (x3.moves.length : Int) ≤ 20) (by have := of_decide_eq_true hc19; omega), Bool.and_false]; rfl))]; rfl
            rw [hz]; first | done | rfl
           ·have hc20 := hc; clear hc
            have hc20' := of_decide_eq_false hc20
            refine wp_skip ?_
            refine then_n ?_
            refine rSeq fam0ok 1 [] [(1, vi .i64 (L : Int)), (2, vp 0 0), (6, vi .i64 (q : Int)), (7, vi .i64 0)] [(0, .box (sysC s))] (by kernel_rfl) h ?_; clear h; intro a w h
            refine wp_block ?_
            refine loopS (ι := (Nat)) (fun (z_ : (Nat)) => match z_ with | i => i ≤ x3.moves.length ∧ (x3.moves.take i).all (fewM L) = true)
              (fun (z_ : (Nat)) => match z_ with | i => [(1, vi .i64 (L : Int)), (2, vp 0 0), (6, vi .i64 (q : Int)), (7, vi .i64 (i : Int))])
              (fun (z_ : (Nat)) => match z_ with | i => [(0, .box (sysC s))])
              (fun (z_ : (Nat)) => match z_ with | i => x3.moves.length - i) 0 ?_ h (by kernel_rfl) (by kernel_rfl) ?_
            ·exact ⟨Nat.zero_le _, rfl⟩
            ·clear h; rintro i a w hI h
             change St _ (F.of [(1, vi .i64 (L : Int)), (2, vp 0 0), (6, vi .i64 (q : Int)), (7, vi .i64 (i : Int))] [(0, .box (sysC s))]) a w at h
             obtain ⟨hJ1, hJ2⟩ := hI
             refine wp_seq ?_
             refine rSeq fam0ok 1 [(4, .gen _ _ _ fun _ _ _ _ => Op.idxD (d := 96) (t := 94) (k := .i64) ki_1 (map_at hx3 (f := ActD.d)) (OV.tmp 95 _)), (7, .len (c := (.d (.sl 5 (x3.moves.map MoveD.d)))) (n := x3.moves.length) (lenC_map _ _ _))] [(1, vi .i64 (L : Int)), (2, vp 0 0), (6, vi .i64 (q : Int)), (7, vi .i64 (i : Int)), (100, vb (decide ((i : Int) < (x3.moves.length : Int))))] [(0, .box (sysC s))] (by kernel_rfl) h ?_; clear h; intro a w h
             refine condS (decide ((i : Int) < (x3.moves.length : Int))) h rfl (fun hc => ?_) (fun hc => ?_)
             ·have hc21 := hc; clear hc
              have hc21' := of_decide_eq_true hc21
              refine wp_skip ?_
              refine then_n ?_
              refine wp_seq ?_
              refine wp_block ?_
              obtain ⟨x6, hx6⟩ : ∃ z_ : MoveD, x3.moves[i]? = some z_ := ⟨_, List.getElem?_eq_getElem (by first | omega | (simp at *; omega))⟩
              refine rSeq fam0ok 1 [(3, .gen _ _ _ fun _ _ _ _ => Op.idxD (d := 106) (t := 104) (k := .i64) ki_1 (map_at hx3 (f := ActD.d)) (OV.tmp 105 _)), (7, .gen _ _ _ fun _ _ _ _ => Op.idxD (d := 110) (t := 108) (k := .i64) ki_2 (map_at hx6 (f := MoveD.d)) (OV.tmp 109 _)), (13, .call (Fn.agg6 (SFewF (formT x6.t) 5 (L : Int) (formT_lb ((hr.act x3 (List.mem_of_getElem? hx3)).2 x6 (List.mem_of_getElem? hx6))) (by decide) (by decide))) kt_1)] [(1, vi .i64 (L : Int)), (2, vp 0 0), (6, vi .i64 (q : Int)), (7, vi .i64 (i : Int)), (117, vb (!(fewF (formT x6.t) 5 L)))] [(0, .box (sysC s))] (by kernel_rfl) h ?_; clear h; intro a w h
              refine condS (!(fewF (formT x6.t) 5 L)) h rfl (fun hc => ?_) (fun hc => ?_)
              ·have hc22 := hc; clear hc
               have hc22' := hc22; (try simp at hc22')
               refine rSeq fam0ok 1 [] [(1, vi .i64 (L : Int)), (2, vp 0 0), (4, vb false), (6, vi .i64 (q : Int)), (7, vi .i64 (i : Int))] [(0, .box (sysC s))] (by kernel_rfl) h ?_; clear h; intro a w h
               refine wp_ret ?_
               refine block_r ?_
               refine then_r ?_
               refine then_r ?_
               refine block_r ?_
               refine block_r ?_
               refine then_r ?_
               refine then_r ?_
               refine block_r ?_
               refine then_r ?_
               refine retS [.c (.d (.raw (.bool false)))] h Exit.ret (.inl rfl)  rfl ⟨RV.tmp _ _ rfl, trivial⟩ ?_ (by kernel_rfl) (by kernel_rfl)
               have hz : fewSys L s = false := by unfold fewSys; rw [decide_eq_true (p := (s.vars.length : Int) ≤ 8 ∧ (s.bounds.length : Int) ≤ 20 ∧ (s.procs.length : Int) ≤ 6 ∧ (s.acts.length : Int) ≤ 20) (by have := of_decide_eq_false hc2; have := of_decide_eq_false hc4; have := of_decide_eq_false hc6; have := of_decide_eq_false hc8; omega), Bool.true_and]; rw [(show (fewF s.init 30 L) = true from by simpa using hc10)]; rw [all_end (of_decide_eq_false hc16) hI2]; rw [all_stop hx3 (show fewA L x3 = false from (by unfold fewA; rw [hc18, decide_eq_true (p := (x3.moves.length : Int) ≤ 20) (by have := of_decide_eq_false hc20; omega), Bool.true_and, Bool.true_and]; exact all_stop hx6 (show fewM L x6 = false from (show (fewF (formT x6.t) 5 L) = false from by simpa using hc22))))]; rfl
               rw [hz]; first | done | rfl
              ·have hc23 := hc; clear hc
               have hc23' := hc23; (try simp at hc23')
               refine wp_skip ?_
               refine block_n ?_
               refine then_n ?_
               refine rS fam0ok 1 [(1, .add .i64 (m := (i : Int)) (n := 1) (i64_id (by omega) (by omega)))] [(1, vi .i64 (L : Int)), (2, vp 0 0), (6, vi .i64 (q : Int)), (7, vi .i64 ((i : Int) + 1))] [(0, .box (sysC s))] (by kernel_rfl) h ?_; clear h; intro a w h
               refine then_n ?_
               refine roundS (x := i) (y := i + 1) h ?_ ?_ (by kernel_rfl) (by kernel_rfl)
               ·have := at_lt hx6
                exact ⟨by omega, all_step hx6 hJ2 (show fewM L x6 = true from (show (fewF (formT x6.t) 5 L) = true from by simpa using hc23))⟩
               ·show x3.moves.length - (i + 1) < x3.moves.length - i
                have := at_lt hx6; omega
             ·have hc24 := hc; clear hc
              have hc24' := of_decide_eq_false hc24
              refine wp_exit ?_
              refine then_x ?_
              refine then_x ?_
              refine inBlock_exit ?_
              refine block_n ?_
              refine then_n ?_
              refine rS fam0ok 1 [(1, .add .i64 (m := (q : Int)) (n := 1) (i64_id (by omega) (by omega)))] [(1, vi .i64 (L : Int)), (2, vp 0 0), (6, vi .i64 ((q : Int) + 1))] [(0, .box (sysC s))] (by kernel_rfl) h ?_; clear h; intro a w h
              refine then_n ?_
              refine roundS (x := q) (y := q + 1) h ?_ ?_ (by kernel_rfl) (by kernel_rfl)
              ·have := at_lt hx3
               exact ⟨by omega, all_step hx3 hQ2 (by unfold fewA; rw [hc18, decide_eq_true (p := (x3.moves.length : Int) ≤ 20) (by have := of_decide_eq_false hc20; omega), Bool.true_and, Bool.true_and]; exact all_end (of_decide_eq_false hc24) hJ2)⟩
              ·show s.acts.length - (q + 1) < s.acts.length - q
               have := at_lt hx3; omega
          ·have hc25 := hc; clear hc
           refine rSeq fam0ok 1 [(3, .gen _ _ _ fun _ _ _ _ => Op.idxD (d := 76) (t := 74) (k := .i64) ki_1 (map_at hx3 (f := ActD.d)) (OV.tmp 75 _)), (7, .call (Fn.cast (SFewF x3.guard 30 (L : Int) (hr.act x3 (List.mem_of_getElem? hx3)).1 (by decide) (by decide)) (congrArg vb hc25)) kt_1)] [(1, vi .i64 (L : Int)), (2, vp 0 0), (6, vi .i64 (q : Int)), (91, vb true)] [(0, .box (sysC s))] (by kernel_rfl) h ?_; clear h; intro a w h
           refine condS true h rfl (fun hc => ?_) (fun hc => ?_)
           ·clear hc
            refine rSeq fam0ok 1 [] [(1, vi .i64 (L : Int)), (2, vp 0 0), (4, vb false), (6, vi .i64 (q : Int))] [(0, .box (sysC s))] (by kernel_rfl) h ?_; clear h; intro a w h
            refine wp_ret ?_
            refine then_r ?_
            refine block_r ?_
            refine then_r ?_
            refine then_r ?_
            refine block_r ?_
            refine then_r ?_
            refine retS [.c (.d (.raw (.bool false)))] h Exit.ret (.inl rfl)  rfl ⟨RV.tmp _ _ rfl, trivial⟩ ?_ (by kernel_rfl) (by kernel_rfl)
            have hz : fewSys L s = false := by unfold fewSys; rw [decide_eq_true (p := (s.vars.length : Int) ≤ 8 ∧ (s.bounds.length : Int) ≤ 20 ∧ (s.procs.length : Int) ≤ 6 ∧ (s.acts.length : Int) ≤ 20) (by have := of_decide_eq_false hc2; have := of_decide_eq_false hc4; have := of_decide_eq_false hc6; have := of_decide_eq_false hc8; omega), Bool.true_and]; rw [(show (fewF s.init 30 L) = true from by simpa using hc10)]; rw [all_end (of_decide_eq_false hc16) hI2]; rw [all_stop hx3 (show fewA L x3 = false from (by unfold fewA; rw [hc25]; rfl))]; rfl
            rw [hz]; first | done | rfl
           ·cases hc
         ·have hc26 := hc; clear hc
          have hc26' := of_decide_eq_false hc26
          refine wp_exit ?_
          refine then_x ?_
          refine then_x ?_
          refine inBlock_exit ?_
          refine then_n ?_
          refine rSeq fam0ok 1 [] [(4, vb true)] [] (by kernel_rfl) h ?_; clear h; intro a w h
          refine wp_ret ?_
          refine retS [.c (.d (.raw (.bool true)))] h Exit.ret (.inl rfl)  rfl ⟨RV.tmp _ _ rfl, trivial⟩ ?_ (by kernel_rfl) (by kernel_rfl)
          have hz : fewSys L s = true := by unfold fewSys; rw [decide_eq_true (p := (s.vars.length : Int) ≤ 8 ∧ (s.bounds.length : Int) ≤ 20 ∧ (s.procs.length : Int) ≤ 6 ∧ (s.acts.length : Int) ≤ 20) (by have := of_decide_eq_false hc2; have := of_decide_eq_false hc4; have := of_decide_eq_false hc6; have := of_decide_eq_false hc8; omega), Bool.true_and]; rw [(show (fewF s.init 30 L) = true from by simpa using hc10)]; rw [all_end (of_decide_eq_false hc16) hI2]; rw [all_end (of_decide_eq_false hc26) hQ2]; rfl
          rw [hz]; first | done | rfl
end Go.Proofs.Ytmohlifepfjmdaa.S
end
section
namespace Go.Proofs.Ytmohlifepfjmdaa.S
open Go.RowKit

theorem sameS_refl (x : StD) : sameS x x = true := by unfold sameS; rw [decide_eq_true rfl, decide_eq_true rfl]; rfl
def atD (loc v : Int) : StD := ⟨[loc], [ZI.of v]⟩
theorem atD_ok (loc v : Int) (hv : -9223372036854775808 ≤ v ∧ v ≤ 9223372036854775807) {M : Nat} (hM : 2 ≤ M) : StOk M (atD loc v) := ⟨by show 1 ≤ 10; decide, by show 1 ≤ 10; decide, fun z hz => by
 obtain rfl : z = ZI.of v := by simpa [atD] using hz
 exact ⟨ZI.lb_of _, Nat.le_trans (ZI.len_of (by have := pw2; omega)) hM⟩⟩
set_option maxHeartbeats 4000000 in
theorem SAt (loc v : Int) (hv : -9223372036854775808 ≤ v ∧ v ≤ 9223372036854775807) : Fn Try.prog 18 [] [vi .i64 loc, vi .i64 v] (.t (.agg [.d (.sl 1 ((atD loc v).locs.map intD)), .d (.sl 2 ((atD loc v).vals.map ziD))])) [] := by
 refine Fn.body Try.func18 rfl 11 rfl fun w H B a h => ?_
 refine rSeq fam0ok 0 [] [(0, vi .i64 loc), (1, vi .i64 v), (4, vp 0 0)] [(0, .box [.d (.raw nilV), .d (.raw nilV)])] (by kernel_rfl) h ?_; clear h; intro a w h
 refine rSeq fam0ok 1 [(1, .gen _ _ _ fun _ _ _ _ => Op.buildD (d := 6) (len := 1) (rows := [loc].map intD) (rs := [(5, vi .i64 loc)]) tb_0 (.cons (i := 0) (OV.tmp 5 _) (.nil)) (by kernel_rfl) rfl (by simp [intD]) (by decide) (by decide)), (3, .call (SROf v hv) tc_0), (4, .gen _ _ _ fun _ _ _ _ => Op.buildD (d := 9) (len := 1) (rows := [(ZI.of v)].map ziD) (rs := [(8, vz (ZI.of v))]) kk_3 (.cons (i := 0) (OV.tmp 8 _) (.nil)) (by kernel_rfl) rfl (by simp [ziD]) (by decide) (by decide))] [(4, vp 0 0)] [(0, .box [.d (.sl 1 ([loc].map intD)), .d (.sl 2 ([(ZI.of v)].map ziD))])] (by kernel_rfl) h ?_; clear h; intro a w h
 refine wp_ret ?_
 refine retS [.agg [.d (.sl 1 ([loc].map intD)), .d (.sl 2 ([(ZI.of v)].map ziD))]] h Exit.ret (.inl rfl)  rfl ⟨RV.agg _ 0 0 _ _ _ _ kk_5 rfl rfl rfl rfl, trivial⟩ ?_ (by kernel_rfl) (by kernel_rfl)
 rfl
end Go.Proofs.Ytmohlifepfjmdaa.S
end
section
namespace Go.Proofs.Ytmohlifepfjmdaa.S
open Go.RowKit

mutual
/-- y is x, with nil read as an empty slice here and there -/
inductive Wk : D → D → Prop
  | refl (x : D) : Wk x x
  | nil (es : Nat) : Wk (.raw nilV) (.sl es [])
  | sl (es : Nat) (a b : List (List D)) (h : WkR a b) : Wk (.sl es a) (.sl es b)
inductive WkL : List D → List D → Prop
  | nil : WkL [] []
  | cons (x y : D) (xs ys : List D) (h : Wk x y) (hs : WkL xs ys) : WkL (x :: xs) (y :: ys)
inductive WkR : List (List D) → List (List D) → Prop
  | nil : WkR [] []
  | cons (x y : List D) (xs ys : List (List D)) (h : WkL x y) (hs : WkR xs ys) : WkR (x :: xs) (y :: ys)
end
def WkM (x y : D) : Prop := ∀ (H : Im) (v : Value), DR H x v → DR H y v
def WkLM (xs ys : List D) : Prop := xs.length = ys.length ∧ ∀ j (h : j < xs.length) (h' : j < ys.length), WkM xs[j] ys[j]
def WkRM (xs ys : List (List D)) : Prop := xs.length = ys.length ∧ ∀ i (h : i < xs.length) (h' : i < ys.length), WkLM xs[i] ys[i]
theorem Wk.sound {x y : D} (h : Wk x y) : WkM x y := by
 refine Wk.rec (motive_1 := fun x y _ => WkM x y) (motive_2 := fun x y _ => WkLM x y) (motive_3 := fun x y _ => WkRM x y) ?_ ?_ ?_ ?_ ?_ ?_ ?_ h
 ·intro x H v h; exact h
 ·intro es H v h
  cases h with
  | raw v h => exact DR.nil _ _ _ (fun _ => rfl) (Nat.zero_le _)
 ·intro es a b _ ih H v h
  cases h with
  | nil es ao c h hc =>
   have : b = [] := List.length_eq_zero_iff.1 ih.1.symm
   subst this
   exact DR.nil _ _ _ h hc
  | sl es rows bb o c arr ty fz vs hp hb hl hc hes hv hr =>
   rw [ih.1] at hp hl ⊢
   refine DR.sl es b bb o c arr ty fz vs hp hb hl hc (fun i hi => ?_) (fun i hi => ?_) (fun i hi j hj => ?_)
   ·have h0 : i < a.length := by rw [ih.1]; exact hi
    rw [← (ih.2 i h0 hi).1]; exact hes i h0
   ·exact hv i (by rw [ih.1]; exact hi)
   ·have h0 : i < a.length := by rw [ih.1]; exact hi
    have hj0 : j < a[i].length := by rw [(ih.2 i h0 hi).1]; exact hj
    exact (ih.2 i h0 hi).2 j hj0 hj _ _ (hr i h0 j hj0)
 ·exact ⟨rfl, fun j h => absurd h (Nat.not_lt_zero j)⟩
 ·intro x y xs ys _ _ h hs
  refine ⟨by simp [hs.1], fun j hj hj' => ?_⟩
  cases j with
  | zero => exact h
  | succ j => exact hs.2 j (by simpa using hj) (by simpa using hj')
 ·exact ⟨rfl, fun j h => absurd h (Nat.not_lt_zero j)⟩
 ·intro x y xs ys _ _ h hs
  refine ⟨by simp [hs.1], fun j hj hj' => ?_⟩
  cases j with
  | zero => exact h
  | succ j => exact hs.2 j (by simpa using hj) (by simpa using hj')
inductive WkC : List C → List C → Prop
  | nil : WkC [] []
  | same (x : C) (xs ys : List C) (hs : WkC xs ys) : WkC (x :: xs) (x :: ys)
  | d (x y : D) (xs ys : List C) (h : Wk x y) (hs : WkC xs ys) : WkC (.d x :: xs) (.d y :: ys)
theorem WkC.sound {H : Im} {B : Bl} {xs ys : List C} (h : WkC xs ys) : ∀ {vs : List Value}, All2 (CR H B) xs vs → All2 (CR H B) ys vs := by
 induction h with
 | nil => exact fun h => h
 | same x xs ys _ ih =>
  intro vs k
  cases vs with
  | nil => exact k.elim
  | cons v vs => exact ⟨k.1, ih k.2⟩
 | d x y xs ys h _ ih =>
  intro vs k
  cases vs with
  | nil => exact k.elim
  | cons v vs => exact ⟨h.sound H v k.1, ih k.2⟩
inductive WkV : V → V → Prop
  | refl (x : V) : WkV x x
  | c (x y : D) (h : Wk x y) : WkV (.t (.c (.d x))) (.t (.c (.d y)))
  | agg (xs ys : List C) (h : WkC xs ys) : WkV (.t (.agg xs)) (.t (.agg ys))
theorem WkV.sound {H : Im} {B : Bl} {x y : V} (h : WkV x y) {v : Value} (k : VR H B x v) : VR H B y v := by
 cases h with
 | refl => exact k
 | c x y h => exact h.sound H v k
 | agg xs ys h => obtain ⟨vs, e, k⟩ := k; exact ⟨vs, e, h.sound k⟩
inductive WkA : List V → List V → Prop
  | nil : WkA [] []
  | cons (x y : V) (xs ys : List V) (h : WkV x y) (hs : WkA xs ys) : WkA (x :: xs) (y :: ys)
theorem WkA.sound {H : Im} {B : Bl} {xs ys : List V} (h : WkA xs ys) : ∀ {vs : List Value}, All2 (VR H B) xs vs → All2 (VR H B) ys vs := by
 induction h with
 | nil => exact fun h => h
 | cons x y xs ys h _ ih =>
  intro vs k
  cases vs with
  | nil => exact k.elim
  | cons v vs => exact ⟨h.sound k.1, ih k.2⟩
theorem Fn.argw {P : Program} {k : FuncId} {ps qs : List (Nat × L)} {args args' : List V} {res : V} (h : Fn P k ps args' res qs) (hw : WkA args args') : Fn P k ps args res qs :=
 fun w H B vals pre => h w H B vals ⟨pre.sat, pre.loc, pre.priv, pre.inj, hw.sound pre.arg⟩
theorem Fn.resw {P : Program} {k : FuncId} {ps qs : List (Nat × L)} {args : List V} {res res' : V} (h : Fn P k ps args res qs) (hw : WkV res res') : Fn P k ps args res' qs :=
 fun w H B vals pre => (h w H B vals pre).mono fun _en _w' ⟨v, H', B', e, p⟩ => ⟨v, H', B', e, { p with res := hw.sound p.res }⟩
end Go.Proofs.Ytmohlifepfjmdaa.S
end
section
namespace Go.Proofs.Ytmohlifepfjmdaa.S
open Go.RowKit

theorem kw_2 : ElZ Try.prog 22 9 1 := ElZ.mk' Try.underlying22 _ _ rfl rfl (by kernel_rfl) (by kernel_rfl) (by kernel_rfl) (by decide)
theorem kw_3 : ElZ Try.prog 23 53 5 := ElZ.mk' Try.underlying23 _ _ rfl rfl (by kernel_rfl) (by kernel_rfl) (by kernel_rfl) (by decide)
theorem kw_4 : ElZ Try.prog 36 89 3 := ElZ.mk' Try.underlying36 _ _ rfl rfl (by kernel_rfl) (by kernel_rfl) (by kernel_rfl) (by decide)
theorem kw_5 : ElZ Try.prog 47 51 5 := ElZ.mk' Try.underlying47 _ _ rfl rfl (by kernel_rfl) (by kernel_rfl) (by kernel_rfl) (by decide)
theorem kw_6 : ElZ Try.prog 37 49 10 := ElZ.mk' Try.underlying37 _ _ rfl rfl (by kernel_rfl) (by kernel_rfl) (by kernel_rfl) (by decide)
theorem kw_7 : Sz Try.prog 39 10 true := Sz.mk' (by kernel_rfl) Try.underlying39 _ rfl
def sysE : SysD := ⟨[⟨#[120]⟩], [⟨true, zero0, ZI.of 3⟩], form0, [⟨⟨#[112]⟩, [⟨#[97]⟩, ⟨#[98]⟩], .raw nilV⟩], [⟨0, 0, 1, form0, [⟨0, false, ⟨[⟨0, ZI.of 1⟩], ZI.of 1⟩⟩]⟩]⟩
set_option maxHeartbeats 4000000 in
theorem SSys0  : Fn Try.prog 17 [] [] (.t (.agg [.d (.sl 1 ([(⟨#[120]⟩ : ByteArray)].map strD)), .d (.sl 5 ([(BoundD.mk true (ZI.mk false []) (ZI.of 3))].map BoundD.d)), .d (.raw (.int .i64 0)), .d (.sl 3 ([].map Part.d)), .d (.raw (.bool false)), .d (nsl []), .d (.raw (.bool false)), .d (.sl 6 ([].map FormD.d)), .d (.sl 3 ([(ProcD.mk (⟨#[112]⟩ : ByteArray) [(⟨#[97]⟩ : ByteArray), (⟨#[98]⟩ : ByteArray)] (.raw nilV))].map ProcD.d)), .d (.sl 10 [[.raw (.int .i64 0), .raw (.int .i64 0), .raw (.int .i64 1), .raw (.int .i64 0), .raw nilV, .raw (.bool false), nsl [], .raw (.bool false), .raw nilV, .sl 5 ([(MoveD.mk 0 false (Term.mk [(Part.mk 0 (ZI.of 1))] (ZI.of 1)))].map MoveD.d)]])])) [] := by
 refine Fn.body Try.func17 rfl 20 rfl fun w H B a h => ?_
 refine rSeq fam0ok 0 [] [(0, vp 0 0)] [(0, .box [.d (.raw nilV), .d (.raw nilV), .d (.raw (.int .i64 0)), .d (.raw nilV), .d (.raw (.bool false)), .d (nsl []), .d (.raw (.bool false)), .d (.raw nilV), .d (.raw nilV), .d (.raw nilV)])] (by kernel_rfl) h ?_; clear h; intro a w h
 refine rSeq fam0ok 1 [(0, .call (SROf 1 ⟨by decide, by decide⟩) tc_0), (2, .gen _ _ _ fun _ _ _ _ => Op.buildD (d := 4) (len := 1) (rows := [(Part.mk 0 (ZI.of 1))].map Part.d) (rs := [(3, .t (.agg ([.d (.raw (.int .i64 0))] ++ zi (ZI.of 1))))]) tb_9 (.cons (i := 0) (OV.tmp 3 _) (.nil)) (by kernel_rfl) rfl (by simp [Part.d]) (by decide) (by decide)), (3, .call (SROf 1 ⟨by decide, by decide⟩) tc_0)] [(0, vp 0 0), (1, vp 1 0)] [(0, .box [.d (.raw nilV), .d (.raw nilV), .d (.raw (.int .i64 0)), .d (.raw nilV), .d (.raw (.bool false)), .d (nsl []), .d (.raw (.bool false)), .d (.raw nilV), .d (.raw nilV), .d (.raw nilV)]), (1, .box ([.d (.sl 3 ([(Part.mk 0 (ZI.of 1))].map Part.d))] ++ zi (ZI.of 1)))] (by kernel_rfl) h ?_; clear h; intro a w h
 refine rSeq fam0ok 2 [(0, .gen _ _ _ fun _ _ _ _ => Op.buildD (d := 7) (len := 1) (rows := [(⟨#[120]⟩ : ByteArray)].map strD) (rs := []) kw_2 (.cons (i := 0) (OV.const (.string (⟨#[120]⟩ : ByteArray)) rfl) (.nil)) (by kernel_rfl) rfl (by simp [strD]) (by decide) (by decide)), (1, .call (SROf 3 ⟨by decide, by decide⟩) tc_0), (3, .gen _ _ _ fun _ _ _ _ => Op.buildD (d := 10) (len := 1) (rows := [(BoundD.mk true (ZI.mk false []) (ZI.of 3))].map BoundD.d) (rs := [(9, .t (.agg ([.d (.raw (.bool true)), .d (.raw (.bool false)), .d (nsl [])] ++ zi (ZI.of 3))))]) kw_3 (.cons (i := 0) (OV.tmp 9 _) (.nil)) (by kernel_rfl) rfl (by simp [BoundD.d]) (by decide) (by decide)), (4, .gen _ _ _ fun _ _ _ _ => Op.buildD (d := 11) (len := 2) (rows := [(⟨#[97]⟩ : ByteArray), (⟨#[98]⟩ : ByteArray)].map strD) (rs := []) kw_2 (.cons (i := 0) (OV.const (.string (⟨#[97]⟩ : ByteArray)) rfl) (.cons (i := 1) (OV.const (.string (⟨#[98]⟩ : ByteArray)) rfl) (.nil))) (by kernel_rfl) rfl (by simp [strD]) (by decide) (by decide)), (6, .gen _ _ _ fun _ _ _ _ => Op.buildD (d := 13) (len := 1) (rows := [(ProcD.mk (⟨#[112]⟩ : ByteArray) [(⟨#[97]⟩ : ByteArray), (⟨#[98]⟩ : ByteArray)] (.raw nilV))].map ProcD.d) (rs := [(12, .t (.agg [.d (.raw (.string (⟨#[112]⟩ : ByteArray))), .d (.sl 1 ([(⟨#[97]⟩ : ByteArray), (⟨#[98]⟩ : ByteArray)].map strD)), .d (.raw nilV)]))]) kw_4 (.cons (i := 0) (OV.tmp 12 _) (.nil)) (by kernel_rfl) rfl (by simp [ProcD.d]) (by decide) (by decide)), (9, .gen _ _ _ fun _ _ _ _ => Op.buildD (d := 16) (len := 1) (rows := [(MoveD.mk 0 false (Term.mk [(Part.mk 0 (ZI.of 1))] (ZI.of 1)))].map MoveD.d) (rs := [(15, .t (.agg ([.d (.raw (.int .i64 0)), .d (.raw (.bool false)), .d (.sl 3 ([(Part.mk 0 (ZI.of 1))].map Part.d))] ++ zi (ZI.of 1))))]) kw_5 (.cons (i := 0) (OV.tmp 15 _) (.nil)) (by kernel_rfl) rfl (by simp [MoveD.d]) (by decide) (by decide)), (11, .gen _ _ _ fun _ _ _ _ => Op.buildD (d := 18) (len := 1) (rows := [[.raw (.int .i64 0), .raw (.int .i64 0), .raw (.int .i64 1), .raw (.int .i64 0), .raw nilV, .raw (.bool false), nsl [], .raw (.bool false), .raw nilV, .sl 5 ([(MoveD.mk 0 false (Term.mk [(Part.mk 0 (ZI.of 1))] (ZI.of 1)))].map MoveD.d)]]) (rs := [(17, .t (.agg [.d (.raw (.int .i64 0)), .d (.raw (.int .i64 0)), .d (.raw (.int .i64 1)), .d (.raw (.int .i64 0)), .d (.raw nilV), .d (.raw (.bool false)), .d (nsl []), .d (.raw (.bool false)), .d (.raw nilV), .d (.sl 5 ([(MoveD.mk 0 false (Term.mk [(Part.mk 0 (ZI.of 1))] (ZI.of 1)))].map MoveD.d))]))]) kw_6 (.cons (i := 0) (OV.tmp 17 _) (.nil)) (by kernel_rfl) rfl (by simp) (by decide) (by decide))] [(0, vp 0 0)] [(0, .box [.d (.sl 1 ([(⟨#[120]⟩ : ByteArray)].map strD)), .d (.sl 5 ([(BoundD.mk true (ZI.mk false []) (ZI.of 3))].map BoundD.d)), .d (.raw (.int .i64 0)), .d (.raw nilV), .d (.raw (.bool false)), .d (nsl []), .d (.raw (.bool false)), .d (.raw nilV), .d (.sl 3 ([(ProcD.mk (⟨#[112]⟩ : ByteArray) [(⟨#[97]⟩ : ByteArray), (⟨#[98]⟩ : ByteArray)] (.raw nilV))].map ProcD.d)), .d (.sl 10 [[.raw (.int .i64 0), .raw (.int .i64 0), .raw (.int .i64 1), .raw (.int .i64 0), .raw nilV, .raw (.bool false), nsl [], .raw (.bool false), .raw nilV, .sl 5 ([(MoveD.mk 0 false (Term.mk [(Part.mk 0 (ZI.of 1))] (ZI.of 1)))].map MoveD.d)]])])] (by kernel_rfl) h ?_; clear h; intro a w h
 refine wp_ret ?_
 replace h := nilDLs 0 3 3 [.d (.sl 1 ([(⟨#[120]⟩ : ByteArray)].map strD)), .d (.sl 5 ([(BoundD.mk true (ZI.mk false []) (ZI.of 3))].map BoundD.d)), .d (.raw (.int .i64 0)), .d (.raw nilV), .d (.raw (.bool false)), .d (nsl []), .d (.raw (.bool false)), .d (.raw nilV), .d (.sl 3 ([(ProcD.mk (⟨#[112]⟩ : ByteArray) [(⟨#[97]⟩ : ByteArray), (⟨#[98]⟩ : ByteArray)] (.raw nilV))].map ProcD.d)), .d (.sl 10 [[.raw (.int .i64 0), .raw (.int .i64 0), .raw (.int .i64 1), .raw (.int .i64 0), .raw nilV, .raw (.bool false), nsl [], .raw (.bool false), .raw nilV, .sl 5 ([(MoveD.mk 0 false (Term.mk [(Part.mk 0 (ZI.of 1))] (ZI.of 1)))].map MoveD.d)]])] [(0, vp 0 0)] [(0, .box [.d (.sl 1 ([(⟨#[120]⟩ : ByteArray)].map strD)), .d (.sl 5 ([(BoundD.mk true (ZI.mk false []) (ZI.of 3))].map BoundD.d)), .d (.raw (.int .i64 0)), .d (.sl 3 ([].map Part.d)), .d (.raw (.bool false)), .d (nsl []), .d (.raw (.bool false)), .d (.raw nilV), .d (.sl 3 ([(ProcD.mk (⟨#[112]⟩ : ByteArray) [(⟨#[97]⟩ : ByteArray), (⟨#[98]⟩ : ByteArray)] (.raw nilV))].map ProcD.d)), .d (.sl 10 [[.raw (.int .i64 0), .raw (.int .i64 0), .raw (.int .i64 1), .raw (.int .i64 0), .raw nilV, .raw (.bool false), nsl [], .raw (.bool false), .raw nilV, .sl 5 ([(MoveD.mk 0 false (Term.mk [(Part.mk 0 (ZI.of 1))] (ZI.of 1)))].map MoveD.d)]])])] h rfl rfl (by kernel_rfl) (by kernel_rfl)
 replace h := nilDLs 0 7 6 [.d (.sl 1 ([(⟨#[120]⟩ : ByteArray)].map strD)), .d (.sl 5 ([(BoundD.mk true (ZI.mk false []) (ZI.of 3))].map BoundD.d)), .d (.raw (.int .i64 0)), .d (.sl 3 ([].map Part.d)), .d (.raw (.bool false)), .d (nsl []), .d (.raw (.bool false)), .d (.raw nilV), .d (.sl 3 ([(ProcD.mk (⟨#[112]⟩ : ByteArray) [(⟨#[97]⟩ : ByteArray), (⟨#[98]⟩ : ByteArray)] (.raw nilV))].map ProcD.d)), .d (.sl 10 [[.raw (.int .i64 0), .raw (.int .i64 0), .raw (.int .i64 1), .raw (.int .i64 0), .raw nilV, .raw (.bool false), nsl [], .raw (.bool false), .raw nilV, .sl 5 ([(MoveD.mk 0 false (Term.mk [(Part.mk 0 (ZI.of 1))] (ZI.of 1)))].map MoveD.d)]])] [(0, vp 0 0)] [(0, .box [.d (.sl 1 ([(⟨#[120]⟩ : ByteArray)].map strD)), .d (.sl 5 ([(BoundD.mk true (ZI.mk false []) (ZI.of 3))].map BoundD.d)), .d (.raw (.int .i64 0)), .d (.sl 3 ([].map Part.d)), .d (.raw (.bool false)), .d (nsl []), .d (.raw (.bool false)), .d (.sl 6 ([].map FormD.d)), .d (.sl 3 ([(ProcD.mk (⟨#[112]⟩ : ByteArray) [(⟨#[97]⟩ : ByteArray), (⟨#[98]⟩ : ByteArray)] (.raw nilV))].map ProcD.d)), .d (.sl 10 [[.raw (.int .i64 0), .raw (.int .i64 0), .raw (.int .i64 1), .raw (.int .i64 0), .raw nilV, .raw (.bool false), nsl [], .raw (.bool false), .raw nilV, .sl 5 ([(MoveD.mk 0 false (Term.mk [(Part.mk 0 (ZI.of 1))] (ZI.of 1)))].map MoveD.d)]])])] h rfl rfl (by kernel_rfl) (by kernel_rfl)
 refine retS [.agg [.d (.sl 1 ([(⟨#[120]⟩ : ByteArray)].map strD)), .d (.sl 5 ([(BoundD.mk true (ZI.mk false []) (ZI.of 3))].map BoundD.d)), .d (.raw (.int .i64 0)), .d (.sl 3 ([].map Part.d)), .d (.raw (.bool false)), .d (nsl []), .d (.raw (.bool false)), .d (.sl 6 ([].map FormD.d)), .d (.sl 3 ([(ProcD.mk (⟨#[112]⟩ : ByteArray) [(⟨#[97]⟩ : ByteArray), (⟨#[98]⟩ : ByteArray)] (.raw nilV))].map ProcD.d)), .d (.sl 10 [[.raw (.int .i64 0), .raw (.int .i64 0), .raw (.int .i64 1), .raw (.int .i64 0), .raw nilV, .raw (.bool false), nsl [], .raw (.bool false), .raw nilV, .sl 5 ([(MoveD.mk 0 false (Term.mk [(Part.mk 0 (ZI.of 1))] (ZI.of 1)))].map MoveD.d)]])]] h Exit.ret (.inl rfl)  rfl ⟨RV.agg _ 0 0 _ _ _ _ kw_7 rfl rfl rfl rfl, trivial⟩ ?_ (by kernel_rfl) (by kernel_rfl)
 rfl
theorem SSys : Fn Try.prog 17 [] [] (.t (.agg (sysC sysE))) [] := by
 refine Fn.resw SSys0 (WkV.agg _ _ ?_)
 refine .same _ _ _ (.same _ _ _ (.same _ _ _ (.same _ _ _ (.same _ _ _ (.same _ _ _ (.same _ _ _ (.same _ _ _ (.same _ _ _ (.d _ _ _ _ ?_ .nil)))))))))
 refine Wk.sl _ _ _ (.cons _ _ _ _ ?_ .nil)
 refine .cons _ _ _ _ (.refl _) (.cons _ _ _ _ (.refl _) (.cons _ _ _ _ (.refl _) (.cons _ _ _ _ (.refl _) (.cons _ _ _ _ (.nil _) (.cons _ _ _ _ (.refl _) (.cons _ _ _ _ (.refl _) (.cons _ _ _ _ (.refl _) (.cons _ _ _ _ (.nil _) (.cons _ _ _ _ (.refl _) .nil)))))))))
end Go.Proofs.Ytmohlifepfjmdaa.S
end
section
namespace Go.Proofs.Ytmohlifepfjmdaa.S
open Go.RowKit

theorem kx_0 : Bodied Try.prog 17 := Bodied.mk' (by kernel_rfl)
theorem kx_1 : Bodied Try.prog 18 := Bodied.mk' (by kernel_rfl)
theorem kx_3 : ElZ Try.prog 60 43 2 := ElZ.mk' Try.underlying60 _ _ rfl rfl (by kernel_rfl) (by kernel_rfl) (by kernel_rfl) (by decide)
theorem kx_5 : ElZ Try.prog 73 72 9 := ElZ.mk' Try.underlying73 _ _ rfl rfl (by kernel_rfl) (by kernel_rfl) (by kernel_rfl) (by decide)
theorem kx_6 : Bodied Try.prog 15 := Bodied.mk' (by kernel_rfl)
theorem kx_13 : Bodied Try.prog 16 := Bodied.mk' (by kernel_rfl)
def runE : RunD := ⟨[atD 0 2], [atD 1 3], [0, -1]⟩
def propE : PropD := ⟨true, 0, 1, form0⟩
def wE : WordD := ⟨[[false]], [[true]]⟩
theorem e1 : goS sysE (atD 0 2) 0 [] = (atD 1 3, true) := by kernel_rfl
theorem e2 : (goS sysE (atD 0 3) 0 []).2 = false := by kernel_rfl
theorem e3 : stuck sysE (atD 0 3) = true := by kernel_rfl
theorem e4 : can sysE (atD 0 0) 0 = true := by kernel_rfl
theorem e5 : leads sysE (atD 0 1) 0 (atD 1 2) = true := by kernel_rfl
theorem e6 : leads sysE (atD 0 1) 0 (atD 1 3) = false := by kernel_rfl
theorem e7 : fits sysE (atD 1 0) = true := by kernel_rfl
theorem e8 : first sysE (atD 0 1) = true := by kernel_rfl
theorem e9 : first sysE (atD 1 1) = false := by kernel_rfl
theorem e10 : right sysE runE = true := by kernel_rfl
theorem e11 : spell [propE] runE = wE := by kernel_rfl
theorem e12 : letter [propE] (atD 1 0) = [true] := by kernel_rfl
theorem form0_lb : form0.lb := (FormD.lb_eq _).2 ⟨⟨⟨Lb_nil, fun p hp => (by cases hp)⟩, Nat.zero_le _⟩, fun g hg => (by cases hg)⟩
theorem fewE : fewSys 3 sysE = true := by kernel_rfl
theorem mem1 {α : Type} {x y : α} (h : x ∈ [y]) : x = y := by simpa using h
theorem sysRdE : SysRd sysE := ⟨form0_lb, fun b hb => by rw [mem1 hb]; exact ⟨Lb_nil, ZI.lb_of 3⟩, fun c hc => by
 rw [mem1 hc]
 exact ⟨form0_lb, fun m hm => by rw [mem1 hm]; exact ⟨ZI.lb_of 1, fun p hp => by rw [mem1 hp]; exact ZI.lb_of 1⟩⟩, by decide, fun c hc => by rw [mem1 hc]; decide⟩
theorem sysE_ok : SysOk 3 sysE := few_sys fewE sysRdE
theorem runE_ok : RunOk 3 runE := ⟨by decide, fun x hx => by rw [mem1 hx]; exact atD_ok _ _ (by decide) (by decide), fun x hx => by rw [mem1 hx]; exact atD_ok _ _ (by decide) (by decide)⟩
theorem propE_ok : ∀ p ∈ [propE], PropOk 3 p := fun p hp => by rw [mem1 hp]; exact ⟨form0_lb, fewF_ok (most := 20) (by kernel_rfl) form0_lb⟩
theorem wkP : Wk (.sl 9 [[.raw (.bool true), .raw (.int .i64 0), .raw (.int .i64 1), .raw (.int .i64 0), .raw nilV, .raw (.bool false), nsl [], .raw (.bool false), .raw nilV]]) (.sl 9 ([propE].map PropD.d)) := by
 refine Wk.sl _ _ _ (.cons _ _ _ _ ?_ .nil)
 repeat (first | exact WkL.nil | refine WkL.cons _ _ _ _ (by first | exact Wk.refl _ | exact Wk.nil _) ?_)
set_option maxHeartbeats 4000000 in
theorem SAlive  : Fn Try.prog 5 [] [] (vb true) [] := by
 refine Fn.body Try.func5 rfl 108 rfl fun w H B a h => ?_
 refine rSeq fam0ok 0 [] [(0, vb false)] [] (by kernel_rfl) h ?_; clear h; intro a w h
 refine rSeq fam0ok 0 [(0, .call (SSys) kx_0)] [(0, vb false), (1, vp 0 0)] [(0, .box (sysC sysE))] (by kernel_rfl) h ?_; clear h; intro a w h
 refine rSeq fam0ok 1 [(1, .call (SAt 0 2 (by decide)) kx_1), (2, .call (Fn.argw (Fn.cast (SGo sysE (atD 0 2) 0 [] (L := 3) (M := 3) (by decide) sysE_ok (atD_ok _ _ (by decide) (by decide)) (fun z hz => by cases hz)) (show (.tup [.agg [.d (.sl 1 ((goS sysE (atD 0 2) 0 []).1.locs.map intD)), .d (.sl 2 ((goS sysE (atD 0 2) 0 []).1.vals.map ziD))], .c (.d (.raw (.bool (goS sysE (atD 0 2) 0 []).2)))] : V) = .tup [.agg [.d (.sl 1 ((atD 1 3).locs.map intD)), .d (.sl 2 ((atD 1 3).vals.map ziD))], .c (.d (.raw (.bool true)))] from by rw [e1])) (.cons _ _ _ _ (.refl _) (.cons _ _ _ _ (.refl _) (.cons _ _ _ _ (.refl _) (.cons _ _ _ _ (.c _ _ (.nil _)) .nil))))) km_9)] [(0, vb false), (1, vp 0 0), (2, vp 1 0), (3, vb true)] [(0, .box (sysC sysE)), (1, .box [.d (.sl 1 ((atD 1 3).locs.map intD)), .d (.sl 2 ((atD 1 3).vals.map ziD))])] (by kernel_rfl) h ?_; clear h; intro a w h
 refine rSeq fam0ok 2 [(1, .call (SAt 0 3 (by decide)) kx_1), (2, .call (Fn.argw (Fn.cast (SGo sysE (atD 0 3) 0 [] (L := 3) (M := 3) (by decide) sysE_ok (atD_ok _ _ (by decide) (by decide)) (fun z hz => by cases hz)) (show (.tup [.agg [.d (.sl 1 ((goS sysE (atD 0 3) 0 []).1.locs.map intD)), .d (.sl 2 ((goS sysE (atD 0 3) 0 []).1.vals.map ziD))], .c (.d (.raw (.bool (goS sysE (atD 0 3) 0 []).2)))] : V) = .tup [.agg [.d (.sl 1 ((goS sysE (atD 0 3) 0 []).1.locs.map intD)), .d (.sl 2 ((goS sysE (atD 0 3) 0 []).1.vals.map ziD))], .c (.d (.raw (.bool false)))] from by rw [e2])) (.cons _ _ _ _ (.refl _) (.cons _ _ _ _ (.refl _) (.cons _ _ _ _ (.refl _) (.cons _ _ _ _ (.c _ _ (.nil _)) .nil))))) km_9)] [(0, vb false), (1, vp 0 0), (2, vp 1 0), (3, vb true), (5, vb false)] [(0, .box (sysC sysE)), (1, .box [.d (.sl 1 ((atD 1 3).locs.map intD)), .d (.sl 2 ((atD 1 3).vals.map ziD))])] (by kernel_rfl) h ?_; clear h; intro a w h
 refine rSeq fam0ok 3 [(0, .call (SAt 0 2 (by decide)) kx_1), (1, .gen _ _ _ fun _ _ _ _ => Op.buildD (d := 23) (len := 1) (rows := [(atD 0 2)].map StD.d) (rs := [(22, .t (.agg [.d (.sl 1 ((atD 0 2).locs.map intD)), .d (.sl 2 ((atD 0 2).vals.map ziD))]))]) kx_3 (.cons (i := 0) (OV.tmp 22 _) (.nil)) (by kernel_rfl) rfl (by simp [StD.d]) (by decide) (by decide)), (2, .call (SAt 1 3 (by decide)) kx_1), (3, .gen _ _ _ fun _ _ _ _ => Op.buildD (d := 25) (len := 1) (rows := [(atD 1 3)].map StD.d) (rs := [(24, .t (.agg [.d (.sl 1 ((atD 1 3).locs.map intD)), .d (.sl 2 ((atD 1 3).vals.map ziD))]))]) kx_3 (.cons (i := 0) (OV.tmp 24 _) (.nil)) (by kernel_rfl) rfl (by simp [StD.d]) (by decide) (by decide)), (4, .gen _ _ _ fun _ _ _ _ => Op.buildD (d := 26) (len := 2) (rows := [0, (-1)].map intD) (rs := []) tb_0 (.cons (i := 0) (OV.const (.int .i64 0) rfl) (.cons (i := 1) (OV.const (.int .i64 (-1)) rfl) (.nil))) (by kernel_rfl) rfl (by simp [intD]) (by decide) (by decide))] [(0, vb false), (1, vp 0 0), (2, vp 1 0), (3, vb true), (5, vb false), (6, vp 3 0)] [(0, .box (sysC sysE)), (1, .box [.d (.sl 1 ((atD 1 3).locs.map intD)), .d (.sl 2 ((atD 1 3).vals.map ziD))]), (3, .box [.d (.sl 2 ([(atD 0 2)].map StD.d)), .d (.sl 2 ([(atD 1 3)].map StD.d)), .d (.sl 1 ([0, (-1)].map intD))])] (by kernel_rfl) h ?_; clear h; intro a w h
 refine rSeq fam0ok 4 [(1, .gen _ _ _ fun _ _ _ _ => Op.buildD (d := 29) (len := 1) (rows := [[.raw (.bool true), .raw (.int .i64 0), .raw (.int .i64 1), .raw (.int .i64 0), .raw nilV, .raw (.bool false), nsl [], .raw (.bool false), .raw nilV]]) (rs := [(28, .t (.agg [.d (.raw (.bool true)), .d (.raw (.int .i64 0)), .d (.raw (.int .i64 1)), .d (.raw (.int .i64 0)), .d (.raw nilV), .d (.raw (.bool false)), .d (nsl []), .d (.raw (.bool false)), .d (.raw nilV)]))]) kx_5 (.cons (i := 0) (OV.tmp 28 _) (.nil)) (by kernel_rfl) rfl (by simp) (by decide) (by decide))] [(0, vb false), (1, vp 0 0), (2, vp 1 0), (3, vb true), (5, vb false), (6, vp 3 0), (7, .t (.c (.d (.sl 9 [[.raw (.bool true), .raw (.int .i64 0), .raw (.int .i64 1), .raw (.int .i64 0), .raw nilV, .raw (.bool false), nsl [], .raw (.bool false), .raw nilV]]))))] [(0, .box (sysC sysE)), (1, .box [.d (.sl 1 ((atD 1 3).locs.map intD)), .d (.sl 2 ((atD 1 3).vals.map ziD))]), (3, .box [.d (.sl 2 ([(atD 0 2)].map StD.d)), .d (.sl 2 ([(atD 1 3)].map StD.d)), .d (.sl 1 ([0, (-1)].map intD))])] (by kernel_rfl) h ?_; clear h; intro a w h
 refine rSeq fam0ok 4 [(2, .call (Fn.argw (Fn.cast (SSpell [propE] runE (L := 3) (M := 3) (by decide) propE_ok (by decide) runE_ok) (show (.t (.agg [.d (.sl 1 ((spell [propE] runE).stem.map (slD 1 boolD))), .d (.sl 1 ((spell [propE] runE).cycle.map (slD 1 boolD)))]) : V) = .t (.agg [.d (.sl 1 (wE.stem.map (slD 1 boolD))), .d (.sl 1 (wE.cycle.map (slD 1 boolD)))]) from by rw [e11])) (.cons _ _ _ _ (.c _ _ wkP) (.cons _ _ _ _ (.refl _) .nil))) kx_6)] [(0, vb false), (1, vp 0 0), (2, vp 1 0), (3, vb true), (5, vb false), (6, vp 3 0), (7, .t (.c (.d (.sl 9 [[.raw (.bool true), .raw (.int .i64 0), .raw (.int .i64 1), .raw (.int .i64 0), .raw nilV, .raw (.bool false), nsl [], .raw (.bool false), .raw nilV]])))), (8, vp 4 0)] [(0, .box (sysC sysE)), (1, .box [.d (.sl 1 ((atD 1 3).locs.map intD)), .d (.sl 2 ((atD 1 3).vals.map ziD))]), (3, .box [.d (.sl 2 ([(atD 0 2)].map StD.d)), .d (.sl 2 ([(atD 1 3)].map StD.d)), .d (.sl 1 ([0, (-1)].map intD))]), (4, .box [.d (.sl 1 (wE.stem.map (slD 1 boolD))), .d (.sl 1 (wE.cycle.map (slD 1 boolD)))])] (by kernel_rfl) h ?_; clear h; intro a w h
 refine rSeq fam0ok 5 [(3, .call (SAt 1 3 (by decide)) kx_1), (4, .call (Fn.cast (SSame (atD 1 3) (atD 1 3) (M := 3) (by decide) (atD_ok _ _ (by decide) (by decide)) (atD_ok _ _ (by decide) (by decide))) (show (vb (sameS (atD 1 3) (atD 1 3)) : V) = vb true from by rw [sameS_refl])) km_1), (12, .call (SAt 0 3 (by decide)) kx_1), (13, .call (Fn.cast (SStuck sysE (atD 0 3) (L := 3) (M := 3) (by decide) sysE_ok (atD_ok _ _ (by decide) (by decide))) (show (vb (stuck sysE (atD 0 3)) : V) = vb true from by rw [e3])) kl_0), (17, .call (SAt 0 0 (by decide)) kx_1), (18, .call (Fn.cast (SCan sysE (atD 0 0) 0 (L := 3) (M := 3) (by decide) sysE_ok (atD_ok _ _ (by decide) (by decide))) (show (vb (can sysE (atD 0 0) 0) : V) = vb true from by rw [e4])) kk_12), (22, .call (SAt 0 1 (by decide)) kx_1), (23, .call (SAt 1 2 (by decide)) kx_1), (24, .call (Fn.cast (SLeads sysE (atD 0 1) 0 (atD 1 2) (L := 3) (M := 3) (by decide) sysE_ok (atD_ok _ _ (by decide) (by decide)) (atD_ok _ _ (by decide) (by decide))) (show (vb (leads sysE (atD 0 1) 0 (atD 1 2)) : V) = vb true from by rw [e5])) kn_8), (28, .call (SAt 0 1 (by decide)) kx_1), (29, .call (SAt 1 3 (by decide)) kx_1), (30, .call (Fn.cast (SLeads sysE (atD 0 1) 0 (atD 1 3) (L := 3) (M := 3) (by decide) sysE_ok (atD_ok _ _ (by decide) (by decide)) (atD_ok _ _ (by decide) (by decide))) (show (vb (leads sysE (atD 0 1) 0 (atD 1 3)) : V) = vb false from by rw [e6])) kn_8), (35, .call (SAt 1 0 (by decide)) kx_1), (36, .call (Fn.cast (SFits sysE (atD 1 0) (L := 3) (M := 3) (by decide) sysE_ok (atD_ok _ _ (by decide) (by decide))) (show (vb (fits sysE (atD 1 0)) : V) = vb true from by rw [e7])) kg_9), (40, .call (SAt 0 1 (by decide)) kx_1), (41, .call (Fn.cast (SFirst sysE (atD 0 1) (L := 3) (M := 3) (by decide) sysE_ok (atD_ok _ _ (by decide) (by decide))) (show (vb (first sysE (atD 0 1)) : V) = vb true from by rw [e8])) kn_6), (45, .call (SAt 1 1 (by decide)) kx_1), (46, .call (Fn.cast (SFirst sysE (atD 1 1) (L := 3) (M := 3) (by decide) sysE_ok (atD_ok _ _ (by decide) (by decide))) (show (vb (first sysE (atD 1 1)) : V) = vb false from by rw [e9])) kn_6), (52, .call (Fn.cast (SRight sysE runE (L := 3) (M := 3) (by decide) sysE_ok runE_ok) (show (vb (right sysE runE) : V) = vb true from by rw [e10])) kx_13), (56, .call (SAt 1 0 (by decide)) kx_1), (57, .call (Fn.argw (Fn.cast (SLetter [propE] (atD 1 0) (L := 3) (M := 3) (by decide) propE_ok (by decide) (atD_ok _ _ (by decide) (by decide))) (show (.t (.c (.d (.sl 1 ((letter [propE] (atD 1 0)).map boolD)))) : V) = .t (.c (.d (.sl 1 ([true].map boolD)))) from by rw [e12])) (.cons _ _ _ _ (.c _ _ wkP) (.cons _ _ _ _ (.refl _) .nil))) kn_14), (58, .len (c := (.d (.sl 1 ([true].map boolD)))) (n := [true].length) (lenC_map _ _ _)), (59, .cmp (op := .eql) (m := ([true].length : Int)) (n := 1) (b := true) .i64 (show (([true].length : Int) == 1) = true from by decide)), (64, .len (c := (.d (.sl 1 (wE.stem.map (slD 1 boolD))))) (n := wE.stem.length) (lenC_map _ _ _)), (65, .cmp (op := .eql) (m := (wE.stem.length : Int)) (n := 1) (b := true) .i64 (show ((wE.stem.length : Int) == 1) = true from by decide)), (70, .gen _ _ _ fun _ _ _ _ => Op.idxD (d := 103) (t := 102) (k := .i64) ks_14 (map_at (show wE.cycle[0]? = some [true] from rfl) (f := (slD 1 boolD))) (OV.const (.int .i64 0) rfl)), (72, .gen _ _ _ fun _ _ _ _ => Op.idxD (d := 105) (t := 104) (k := .i64) ks_15 (map_at (show [true][0]? = some true from rfl) (f := boolD)) (OV.const (.int .i64 0) rfl))] [(0, vb true)] [] (by kernel_rfl) h ?_; clear h; intro a w h
 refine wp_ret ?_
 refine retS [.c (.d (.raw (.bool true)))] h Exit.ret (.inl rfl)  rfl ⟨RV.tmp _ _ rfl, trivial⟩ ?_ (by kernel_rfl) (by kernel_rfl)
 rfl
end Go.Proofs.Ytmohlifepfjmdaa.S
end
section
namespace Go.Proofs.Ytmohlifepfjmdaa.S
open Go.RowKit

theorem ky_0 : Bodied Try.prog 5 := Bodied.mk' (by kernel_rfl)
theorem ky_1 : Bodied Try.prog 6 := Bodied.mk' (by kernel_rfl)
theorem ky_2 : Bodied Try.prog 7 := Bodied.mk' (by kernel_rfl)
theorem cloneS_ok {M : Nat} {x : StD} (hx : StOk M x) : StOk M (cloneS x) := ⟨hx.locs, by show (x.vals.map clZ).length ≤ 10; rw [List.length_map]; exact hx.vals, fun z hz => by
 obtain ⟨u, hu, rfl⟩ := List.mem_map.1 (show z ∈ x.vals.map clZ from hz)
 exact cl_len (hx.val u hu)⟩
theorem goS_ok {L M : Nat} {s : SysD} {x : StD} {i : Int} {picks : List ZI} (hs : SysOk L s) (hx : StOk M x) (hp : ∀ z ∈ picks, ZOk M z) : StOk (L + M + 2) (goS s x i picks).1 := by
 unfold goS
 split
 ·exact (cloneS_ok hx).mono (by omega)
 ·split
  ·exact st0_ok
  ·next c hc =>
   unfold goC
   split
   ·obtain ⟨k, _, hk⟩ := actAt_some hc
    exact outS_ok hs hx (hs.act c (List.mem_of_getElem? hk)) hp
   ·exact st0_ok
theorem same_clone (x : StD) : sameS x (cloneS x) = true := by
 unfold sameS
 rw [decide_eq_true (show x.locs = (cloneS x).locs from rfl), Bool.true_and, decide_eq_true_eq]
 show _ = (x.vals.map clZ).map ZI.val
 rw [List.map_map]
 exact List.map_congr_left fun z _ => (ZI.val_of z.val).symm
theorem allN_of {f : Nat → Bool} : ∀ {n : Nat}, (∀ i, i < n → f i = true) → allN n f = true
 | 0, _ => rfl
 | n + 1, h => allN_step (allN_of fun i hi => h i (by omega)) (h n (by omega))
theorem goS_leads {s : SysD} {x : StD} {i : Int} {picks : List ZI} (h : (goS s x i picks).2 = true) : leads s x i (goS s x i picks).1 = true := by
 unfold goS at h ⊢
 by_cases h0 : i = -1 ∧ stuck s x = true
 ·rw [if_pos h0]
  unfold leads
  rw [if_pos h0.1, h0.2, same_clone]; rfl
 ·rw [if_neg h0] at h ⊢
  cases hc : actAt s i with
  | none => rw [hc] at h; cases h
  | some c =>
   rw [hc] at h
   simp only at h ⊢
   unfold goC at h ⊢
   by_cases h1 : enabled s x c = true ∧ fits s (outS s x c picks) = true
   ·rw [if_pos h1]
    have hi : i ≠ -1 := fun e => by subst e; simp [actAt] at hc
    unfold leads
    rw [if_neg hi, hc]
    show leadsC s x c (outS s x c picks) = true
    rw [← leads_eq]
    unfold leadsRC
    have hl := fits_len (enabled_fits h1.1)
    rw [h1.1, h1.2, allN_of fun p hp => ?_, allN_of fun v hv => ?_]; rfl
    ·unfold vstep; rw [out_val (by omega)]
     cases hf : freeAt c v with
     | true => rfl
     | false => rw [← newV_new (picks := picks) hf]; simp
    ·unfold lstep; rw [out_loc h1.1 hp]; simp
   ·rw [if_neg h1] at h; cases h
end Go.Proofs.Ytmohlifepfjmdaa.S
end
section
namespace Go.Proofs.Ytmohlifepfjmdaa.S
open Go.RowKit

end Go.Proofs.Ytmohlifepfjmdaa.S
end
section
namespace Go.Proofs.Ytmohlifepfjmdaa.S
open Go.RowKit

end Go.Proofs.Ytmohlifepfjmdaa.S
end
section
namespace Go.Proofs.Ytmohlifepfjmdaa.S
open Go.RowKit

theorem mask_mod (m : Int) (k : Nat) (hk : k ≤ 62) : IntKind.i64.wrap ((BitVec.ofInt 64 m &&& BitVec.ofInt 64 (((2 ^ k - 1 : Nat) : Int))).toNat : Int) = m % ((2 ^ k : Nat) : Int) := by
 have hp : 2 ^ k ≤ 2 ^ 62 := Nat.pow_le_pow_right (by decide) hk
 have h0 : 0 < 2 ^ k := Nat.pos_of_ne_zero (by simp)
 have h62 : (2 : Nat) ^ 62 = 4611686018427387904 := by decide
 have h1 : (BitVec.ofInt 64 (((2 ^ k - 1 : Nat) : Int))).toNat = 2 ^ k - 1 := by
  rw [BitVec.toNat_ofInt, Int.emod_eq_of_lt (by omega) (by omega)]; simp
 have hdvd : ((2 ^ k : Nat) : Int) ∣ ((2 ^ 64 : Nat) : Int) := Int.natCast_dvd_natCast.2 (Nat.pow_dvd_pow 2 (by omega))
 have h2 : ((BitVec.ofInt 64 m &&& BitVec.ofInt 64 (((2 ^ k - 1 : Nat) : Int))).toNat : Int) = m % ((2 ^ k : Nat) : Int) := by
  rw [BitVec.toNat_and, h1, Nat.and_two_pow_sub_one_eq_mod, BitVec.toNat_ofInt, Int.natCast_emod, Int.toNat_of_nonneg (Int.emod_nonneg _ (by simp))]
  exact Int.emod_emod_of_dvd m hdvd
 have h3 := Int.emod_nonneg m (show ((2 ^ k : Nat) : Int) ≠ 0 by omega)
 have h4 := Int.emod_lt_of_pos m (show (0 : Int) < ((2 ^ k : Nat) : Int) by omega)
 rw [h2]
 exact i64_id (by omega) (by omega)
section
variable {P : Program}
theorem Op.mask {d : Nat} {x y : Operand} {m r : Int} {n : Int} (k : Nat) {rs rs' : List (Nat × V)} {xt yt ty : TypeId} {pos af gd} (h : OV x (vi .i64 m) rs) (h' : OV y (vi .i64 n) rs') (hk : k ≤ 62) (hn : n = ((2 ^ k - 1 : Nat) : Int)) (he : m % ((2 ^ k : Nat) : Int) = r) :
  OpOk P ⟨some d, .binOp .and xt x y yt, ty, pos, af, gd⟩ { rs := rs ++ rs', ws := [(d, some (vi .i64 r))] } := by
 subst he hn
 refine Op.raw2 rfl h h' rfl fun ρ w h1 h2 => ?_
 have hs : Op.intBits .and .i64 m ((2 ^ k - 1 : Nat) : Int) = pure (.int .i64 (m % ((2 ^ k : Nat) : Int))) := by
  rw [← mask_mod m k hk]; rfl
 generalize ((2 ^ k - 1 : Nat) : Int) = c at h2 hs
 generalize m % ((2 ^ k : Nat) : Int) = q at hs ⊢
 simp [execOp, h1, h2, eqGuard, binOp, hs, go_sem]
theorem Op.sliceDM {d t es h m : Nat} {hi mx : Operand} {k k' : IntKind} {rows rows' : List (List D)} {rs rs' : List (Nat × V)} {xt el ty : TypeId} {pos af gd} (hs : SlT P xt el es) (hh : OV hi (vi k h) rs) (hm : OV mx (vi k' m) rs') (h1 : h ≤ m) (h2 : m ≤ rows.length) (he : rows.take h = rows') :
  OpOk P ⟨some d, .slice xt (.tmp t) none (some hi) (some mx), ty, pos, af, gd⟩ { rs := (t, .t (.c (.d (.sl es rows)))) :: (rs ++ rs'), ws := [(d, some (.t (.c (.d (.sl es rows')))))] } :=
 OpOk.value d _ rfl rfl rfl fun e f H B a w hok hr2 => by
  have g1 := hok.slot t _ (hr2.1 (t, .t (.c (.d (.sl es rows)))) (by simp))
  have g3 : DR H (.sl es rows) (a.eval (.tmp t)) := g1
  have e1 : a.eval hi = .int k h := (hh.eval hok fun p hp => hr2.1 p (by simp [hp])).rawI
  have e2 : a.eval mx = .int k' m := (hm.eval hok fun p hp => hr2.1 p (by simp [hp])).rawI
  have bounds : ∀ cap, rows.length ≤ cap → (Instr.sliceBounds true rows.length cap none (some (a.eval hi)) (some (a.eval mx))).run P w = .ok (0, h, m) w := fun cap hc => by
   rw [e1, e2]
   simp only [Instr.sliceBounds, Sem.run_bind, run_sliceBound (P := P) w _ _ cap _ (show (0 : Int) ≤ (m : Int) by omega) (by omega), Result.andThen_ok, Int.toNat_natCast, run_sliceBound (P := P) w _ _ m _ (show (0 : Int) ≤ (h : Int) by omega) (by omega), Sem.run_pure]
  have srun : ∀ (ao : Option Addr) cap, rows.length ≤ cap → (Instr.sliceAt xt (.slice ao rows.length cap) none (some (a.eval hi)) (some (a.eval mx))).run P w = .ok (.slice (if m = 0 then ao else ao.map (·.add (0 * es))) (h - 0) (m - 0)) w := fun ao cap hc => by
   simp only [Instr.sliceAt, Instr.slice, Sem.run_bind, run_underlying hs.hu, Result.andThen_ok, bounds cap hc, size_run hs.hs, Sem.run_pure]
  generalize hv0 : a.eval (.tmp t) = v at g3
  subst he
  cases g3 with
  | nil _ ao c k1 k2 =>
   obtain rfl : m = 0 := by simpa using h2
   obtain rfl : h = 0 := by omega
   have hrun := srun ao c (Nat.zero_le _)
   refine ⟨.slice ao 0 0, ?_, ?_⟩
   ·generalize a.eval = ρ at hv0 hrun ⊢
    have hrun' : (Instr.sliceAt xt (ρ (.tmp t)) ((none : Option Operand).map ρ) ((some hi).map ρ) ((some mx).map ρ)).run P w = .ok (.slice ao 0 0) w := by rw [hv0]; exact hrun
    simp only [execOp, Sem.run_bind, hrun', Result.andThen_ok, Sem.run_pure]
   ·show DR H _ _
    simp only [List.take_nil]
    exact DR.nil es ao 0 (fun _ => rfl) (Nat.zero_le _)
  | sl _ _ b o c arr ty' fz vs hp hb hlc hc hes hv hx =>
   have hrun := srun (some ⟨b, o, none⟩) c hlc
   refine ⟨.slice (if m = 0 then some ⟨b, o, none⟩ else (some (⟨b, o, none⟩ : Addr)).map (·.add (0 * es))) (h - 0) (m - 0), ?_, ?_⟩
   ·generalize a.eval = ρ at hv0 hrun ⊢
    have hrun' : (Instr.sliceAt xt (ρ (.tmp t)) ((none : Option Operand).map ρ) ((some hi).map ρ) ((some mx).map ρ)).run P w = .ok (.slice (if m = 0 then some ⟨b, o, none⟩ else (some (⟨b, o, none⟩ : Addr)).map (·.add (0 * es))) (h - 0) (m - 0)) w := by rw [hv0]; exact hrun
    simp only [execOp, Sem.run_bind, hrun', Result.andThen_ok, Sem.run_pure]
   ·show DR H _ _
    by_cases h0 : h = 0
    ·subst h0
     rw [List.take_zero]
     refine DR.nil es _ _ (fun hn => ?_) (by omega)
     split at hn <;> cases hn
    ·have hlen : (rows.take h).length = h := by rw [List.length_take]; omega
     rw [if_neg (by omega)]
     simp only [Option.map_some, Addr.add_mid, Nat.sub_zero]
     have := DR.sl (H := H) es (rows.take h) b (o + 0 * es) m arr ty' fz (fun i j => vs i j) (by omega) hb (by omega) (by omega) (fun i hi2 => by
       rw [List.getElem_take]; exact hes _ _)
      (fun i hi2 j hj => by
       have := hv i (by omega) j hj
       rw [← this]; congr 1; omega)
      (fun i hi2 j hj => by
       have e1 : (rows.take h)[i] = rows[i]'(by omega) := by rw [List.getElem_take]
       have hj' : j < (rows[i]'(by omega)).length := by rw [← e1]; exact hj
       have e2 : (rows.take h)[i][j] = (rows[i]'(by omega))[j] := by simp only [e1]
       rw [e2]; exact hx i (by omega) j hj')
     rwa [hlen] at this
end
end Go.Proofs.Ytmohlifepfjmdaa.S
end
