/-
  The proof of the statement KripkeGoes: the walk through the program and the references lifted to the given row. It holds for every input.
-/
import Derived.Test.YtmohlifepfjmdaaVg4
import Derived.Test.YtmohlifepfjmdaaVg2
import Derived.Test.YtmohlifepfjmdaaRows
set_option maxRecDepth 100000
section
namespace Go.Proofs.Ytmohlifepfjmdaa.S
open Go.RowKit

def lowK (s : SysD) (c : ActD) (v k : Nat) : List ZI := freeL (lowAt s) c v ++ (if hit c.moves v k = true then [lowAt s v] else [])
theorem lowK_zero (s : SysD) (c : ActD) (v : Nat) : lowK s c v 0 = freeL (lowAt s) c v := by unfold lowK; rw [hit_zero, if_neg Bool.noConfusion, List.append_nil]
theorem lowK_all (s : SysD) (c : ActD) (v : Nat) : lowK s c v c.moves.length = freeL (lowAt s) c (v + 1) := by
 unfold lowK; rw [hit_all, freeL]
 cases freeAt c v with
 | true => rw [if_pos rfl, if_pos rfl]
 | false => rw [if_neg Bool.noConfusion, if_neg Bool.noConfusion, List.append_nil]
theorem lowK_put {s : SysD} {c : ActD} {v k : Nat} {m : MoveD} (h : c.moves[k]? = some m) (e : ((m.v == (v : Int) && m.any) && firstM c.moves k m) = true) : lowK s c v (k + 1) = lowK s c v k ++ [lowAt s v] := by
 obtain ⟨h1, h2⟩ := hit_step (v := v) h
 unfold lowK
 rw [h1, h2 e, e, Bool.false_or, if_pos rfl, if_neg Bool.noConfusion, List.append_nil]
theorem lowK_keep {s : SysD} {c : ActD} {v k : Nat} {m : MoveD} (h : c.moves[k]? = some m) (e : ((m.v == (v : Int) && m.any) && firstM c.moves k m) = false) : lowK s c v (k + 1) = lowK s c v k := by
 obtain ⟨h1, _⟩ := hit_step (v := v) h
 unfold lowK
 rw [h1, e, Bool.or_false]
theorem freeL_le (f : Nat → ZI) (c : ActD) : ∀ v, (freeL f c v).length ≤ v
 | 0 => Nat.le_refl _
 | v + 1 => by
  rw [freeL]
  have := freeL_le f c v
  split
  ·rw [List.length_append, List.length_singleton]; omega
  ·omega
theorem lowK_len (s : SysD) (c : ActD) (v k : Nat) : (lowK s c v k).length ≤ v + 1 := by
 unfold lowK
 have := freeL_le (lowAt s) c v
 rw [List.length_append]
 split
 ·rw [List.length_singleton]; omega
 ·rw [List.length_nil]; omega
theorem all_snoc {α : Type} {xs : List α} {p : α → Bool} {j : Nat} {a : α} (h : xs[j]? = some a) : (xs.take (j + 1)).all p = ((xs.take j).all p && p a) := by
 rw [List.take_add_one, h]; simp
set_option maxHeartbeats 4000000 in
theorem SKripkeGoes (s : SysD) (x : StD) (hs : SysRd s) (hx : StRd x) : Fn Try.prog 3 [] [.t (.agg (sysC s)), .t (.agg [.d (.sl 1 (x.locs.map intD)), .d (.sl 2 (x.vals.map ziD))])] (vb true) [] := by
 have lr1 := hs.len
 have lr2 := hs.mlen
 refine Fn.body Try.func3 rfl 196 rfl fun w H B a h => ?_
 refine rSeq fam0ok 0 [] [(2, vp 0 0), (3, vp 1 0), (4, vb false)] [(0, .box (sysC s)), (1, .box [.d (.sl 1 (x.locs.map intD)), .d (.sl 2 (x.vals.map ziD))])] (by kernel_rfl) h ?_; clear h; intro a w h
 refine wp_seq ?_
 refine rSeq fam0ok 2 [(0, .call (SAlive) ky_0)] [(2, vp 0 0), (3, vp 1 0), (4, vb false), (20, vb false)] [(0, .box (sysC s)), (1, .box [.d (.sl 1 (x.locs.map intD)), .d (.sl 2 (x.vals.map ziD))])] (by kernel_rfl) h ?_; clear h; intro a w h
 refine condS false h rfl (fun hc => ?_) (fun hc => ?_)
 ·cases hc
 ·clear hc
  refine wp_skip ?_
  refine then_n ?_
  refine wp_seq ?_
  rcases Bool.eq_false_or_eq_true (fewSys 3 s) with hc | hc
  ·have hc1 := hc; clear hc
   refine rSeq fam0ok 2 [(1, .call (Fn.cast (SFewSys s 3 hs) (congrArg vb hc1)) ky_1), (5, .call (SFewSt x 3 hx) ky_2)] [(2, vp 0 0), (3, vp 1 0), (4, vb false), (28, vb (!(fewSt 3 x)))] [(0, .box (sysC s)), (1, .box [.d (.sl 1 (x.locs.map intD)), .d (.sl 2 (x.vals.map ziD))])] (by kernel_rfl) h ?_; clear h; intro a w h
   refine condS (!(fewSt 3 x)) h rfl (fun hc => ?_) (fun hc => ?_)
   ·have hc2 := hc; clear hc
    have hc2' := hc2; (try simp at hc2')
    refine rSeq fam0ok 2 [] [(2, vp 0 0), (3, vp 1 0), (4, vb true)] [(0, .box (sysC s)), (1, .box [.d (.sl 1 (x.locs.map intD)), .d (.sl 2 (x.vals.map ziD))])] (by kernel_rfl) h ?_; clear h; intro a w h
    refine wp_ret ?_
    refine then_r ?_
    refine retS [.c (.d (.raw (.bool true)))] h Exit.ret (.inl rfl)  rfl ⟨RV.tmp _ _ rfl, trivial⟩ ?_ (by kernel_rfl) (by kernel_rfl)
    rfl
   ·have hc3 := hc; clear hc
    have hc3' := hc3; (try simp at hc3')
    refine wp_skip ?_
    refine then_n ?_
    have hsO := few_sys hc1 hs
    have hxO := few_st (show (fewSt 3 x) = true from by simpa using hc3) hx
    have hsb := hsO.bnds
    have lva := hsO.vars
    refine rSeq fam0ok 2 [] [(2, vp 0 0), (3, vp 1 0), (4, vb false), (5, vb false)] [(0, .box (sysC s)), (1, .box [.d (.sl 1 (x.locs.map intD)), .d (.sl 2 (x.vals.map ziD))])] (by kernel_rfl) h ?_; clear h; intro a w h
    refine wp_seq ?_
    refine rSeq fam0ok 2 [(2, .len (c := (.d (.sl 10 (s.acts.map ActD.d)))) (n := s.acts.length) (lenC_map _ _ _))] [(2, vp 0 0), (3, vp 1 0), (4, vb false), (5, vb false), (31, vi .i64 (s.acts.length : Int)), (32, vi .i64 0)] [(0, .box (sysC s)), (1, .box [.d (.sl 1 (x.locs.map intD)), .d (.sl 2 (x.vals.map ziD))])] (by kernel_rfl) h ?_; clear h; intro a w h
    refine wp_block ?_
    refine loopS (ι := (Nat) × (Bool)) (fun (z_ : (Nat) × (Bool)) => match z_ with | (q, b) => q ≤ s.acts.length ∧ b = someCan s x q)
      (fun (z_ : (Nat) × (Bool)) => match z_ with | (q, b) => [(2, vp 0 0), (3, vp 1 0), (5, vb b), (31, vi .i64 (s.acts.length : Int)), (32, vi .i64 (q : Int))])
      (fun (z_ : (Nat) × (Bool)) => match z_ with | (q, b) => [(0, .box (sysC s)), (1, .box [.d (.sl 1 (x.locs.map intD)), .d (.sl 2 (x.vals.map ziD))])])
      (fun (z_ : (Nat) × (Bool)) => match z_ with | (q, b) => s.acts.length - q) (0, false) ?_ h (by kernel_rfl) (by kernel_rfl) ?_
    ·exact ⟨Nat.zero_le _, rfl⟩
    ·clear h; rintro ⟨q, b⟩ a w hI h
     change St _ (F.of [(2, vp 0 0), (3, vp 1 0), (5, vb b), (31, vi .i64 (s.acts.length : Int)), (32, vi .i64 (q : Int))] [(0, .box (sysC s)), (1, .box [.d (.sl 1 (x.locs.map intD)), .d (.sl 2 (x.vals.map ziD))])]) a w at h
     obtain ⟨hQ1, hQ2⟩ := hI
     refine rSeq fam0ok 2 [] [(2, vp 0 0), (3, vp 1 0), (5, vb b), (31, vi .i64 (s.acts.length : Int)), (32, vi .i64 (q : Int)), (33, vb (decide ((q : Int) < (s.acts.length : Int))))] [(0, .box (sysC s)), (1, .box [.d (.sl 1 (x.locs.map intD)), .d (.sl 2 (x.vals.map ziD))])] (by kernel_rfl) h ?_; clear h; intro a w h
     refine wp_seq ?_
     refine condS (decide ((q : Int) < (s.acts.length : Int))) h rfl (fun hc => ?_) (fun hc => ?_)
     ·have hc4 := hc; clear hc
      have hc4' := of_decide_eq_true hc4
      refine wp_skip ?_
      refine then_n ?_
      refine wp_seq ?_
      refine wp_block ?_
      refine rSeq fam0ok 2 [] [(2, vp 0 0), (3, vp 1 0), (5, vb b), (6, vi .i64 (q : Int)), (31, vi .i64 (s.acts.length : Int)), (32, vi .i64 (q : Int))] [(0, .box (sysC s)), (1, .box [.d (.sl 1 (x.locs.map intD)), .d (.sl 2 (x.vals.map ziD))])] (by kernel_rfl) h ?_; clear h; intro a w h
      obtain ⟨x5, hx5⟩ : ∃ z_ : ActD, s.acts[q]? = some z_ := ⟨_, List.getElem?_eq_getElem (by first | omega | (simp at *; omega))⟩
      have lmx5 := (hsO.act x5 (List.mem_of_getElem? hx5)).len
      refine rSeq fam0ok 2 [(0, .gen _ _ _ fun _ _ _ _ => Op.buildE (d := 35) (n := 2) kk_3)] [(2, vp 0 0), (3, vp 1 0), (5, vb b), (6, vi .i64 (q : Int)), (7, .t (.c (.own 2 0))), (31, vi .i64 (s.acts.length : Int)), (32, vi .i64 (q : Int))] [(0, .box (sysC s)), (1, .box [.d (.sl 1 (x.locs.map intD)), .d (.sl 2 (x.vals.map ziD))]), (2, .row 28 2 ([].map ziD))] (by kernel_rfl) h ?_; clear h; intro a w h
      refine wp_seq ?_
      refine rSeq fam0ok 3 [(2, .len (c := (.d (.sl 1 (s.vars.map strD)))) (n := s.vars.length) (lenC_map _ _ _))] [(2, vp 0 0), (3, vp 1 0), (5, vb b), (6, vi .i64 (q : Int)), (7, .t (.c (.own 2 0))), (31, vi .i64 (s.acts.length : Int)), (32, vi .i64 (q : Int)), (38, vi .i64 (s.vars.length : Int)), (39, vi .i64 0)] [(0, .box (sysC s)), (1, .box [.d (.sl 1 (x.locs.map intD)), .d (.sl 2 (x.vals.map ziD))]), (2, .row 28 2 ([].map ziD))] (by kernel_rfl) h ?_; clear h; intro a w h
      refine wp_block ?_
      refine loopS (ι := (Nat)) (fun (z_ : (Nat)) => match z_ with | v => v ≤ s.vars.length)
        (fun (z_ : (Nat)) => match z_ with | v => [(2, vp 0 0), (3, vp 1 0), (5, vb b), (6, vi .i64 (q : Int)), (7, .t (.c (.own 2 (freeL (lowAt s) x5 v).length))), (31, vi .i64 (s.acts.length : Int)), (32, vi .i64 (q : Int)), (38, vi .i64 (s.vars.length : Int)), (39, vi .i64 (v : Int))])
        (fun (z_ : (Nat)) => match z_ with | v => [(0, .box (sysC s)), (1, .box [.d (.sl 1 (x.locs.map intD)), .d (.sl 2 (x.vals.map ziD))]), (2, .row 28 2 ((freeL (lowAt s) x5 v).map ziD))])
        (fun (z_ : (Nat)) => match z_ with | v => s.vars.length - v) 0 ?_ h (by kernel_rfl) (by kernel_rfl) ?_
      ·exact Nat.zero_le _
      ·clear h; rintro v a w hI h
       change St _ (F.of [(2, vp 0 0), (3, vp 1 0), (5, vb b), (6, vi .i64 (q : Int)), (7, .t (.c (.own 2 (freeL (lowAt s) x5 v).length))), (31, vi .i64 (s.acts.length : Int)), (32, vi .i64 (q : Int)), (38, vi .i64 (s.vars.length : Int)), (39, vi .i64 (v : Int))] [(0, .box (sysC s)), (1, .box [.d (.sl 1 (x.locs.map intD)), .d (.sl 2 (x.vals.map ziD))]), (2, .row 28 2 ((freeL (lowAt s) x5 v).map ziD))]) a w at h
       refine rSeq fam0ok 3 [] [(2, vp 0 0), (3, vp 1 0), (5, vb b), (6, vi .i64 (q : Int)), (7, .t (.c (.own 2 (freeL (lowAt s) x5 v).length))), (31, vi .i64 (s.acts.length : Int)), (32, vi .i64 (q : Int)), (38, vi .i64 (s.vars.length : Int)), (39, vi .i64 (v : Int)), (40, vb (decide ((v : Int) < (s.vars.length : Int))))] [(0, .box (sysC s)), (1, .box [.d (.sl 1 (x.locs.map intD)), .d (.sl 2 (x.vals.map ziD))]), (2, .row 28 2 ((freeL (lowAt s) x5 v).map ziD))] (by kernel_rfl) h ?_; clear h; intro a w h
       refine wp_seq ?_
       refine condS (decide ((v : Int) < (s.vars.length : Int))) h rfl (fun hc => ?_) (fun hc => ?_)
       ·have hc5 := hc; clear hc
        have hc5' := of_decide_eq_true hc5
        refine wp_skip ?_
        refine then_n ?_
        refine wp_seq ?_
        refine wp_block ?_
        refine rSeq fam0ok 3 [] [(2, vp 0 0), (3, vp 1 0), (5, vb b), (6, vi .i64 (q : Int)), (7, .t (.c (.own 2 (freeL (lowAt s) x5 v).length))), (8, vi .i64 (v : Int)), (31, vi .i64 (s.acts.length : Int)), (32, vi .i64 (q : Int)), (38, vi .i64 (s.vars.length : Int)), (39, vi .i64 (v : Int))] [(0, .box (sysC s)), (1, .box [.d (.sl 1 (x.locs.map intD)), .d (.sl 2 (x.vals.map ziD))]), (2, .row 28 2 ((freeL (lowAt s) x5 v).map ziD))] (by kernel_rfl) h ?_; clear h; intro a w h
        refine rSeq fam0ok 3 [(3, .gen _ _ _ fun _ _ _ _ => Op.idxD (d := 45) (t := 43) (k := .i64) ki_1 (map_at hx5 (f := ActD.d)) (OV.tmp 44 _)), (6, .len (c := (.d (.sl 5 (x5.moves.map MoveD.d)))) (n := x5.moves.length) (lenC_map _ _ _))] [(2, vp 0 0), (3, vp 1 0), (5, vb b), (6, vi .i64 (q : Int)), (7, .t (.c (.own 2 (freeL (lowAt s) x5 v).length))), (8, vi .i64 (v : Int)), (31, vi .i64 (s.acts.length : Int)), (32, vi .i64 (q : Int)), (38, vi .i64 (s.vars.length : Int)), (39, vi .i64 (v : Int)), (47, .t (.c (.d (.sl 5 (x5.moves.map MoveD.d))))), (48, vi .i64 (x5.moves.length : Int)), (49, vi .i64 0)] [(0, .box (sysC s)), (1, .box [.d (.sl 1 (x.locs.map intD)), .d (.sl 2 (x.vals.map ziD))]), (2, .row 28 2 ((freeL (lowAt s) x5 v).map ziD))] (by kernel_rfl) h ?_; clear h; intro a w h
        refine wp_block ?_
        replace h := h.conv (f' := F.of [(2, vp 0 0), (3, vp 1 0), (5, vb b), (6, vi .i64 (q : Int)), (7, .t (.c (.own 2 (lowK s x5 v 0).length))), (8, vi .i64 (v : Int)), (31, vi .i64 (s.acts.length : Int)), (32, vi .i64 (q : Int)), (38, vi .i64 (s.vars.length : Int)), (39, vi .i64 (v : Int)), (47, .t (.c (.d (.sl 5 (x5.moves.map MoveD.d))))), (48, vi .i64 (x5.moves.length : Int)), (49, vi .i64 0)] [(0, .box (sysC s)), (1, .box [.d (.sl 1 (x.locs.map intD)), .d (.sl 2 (x.vals.map ziD))]), (2, .row 28 2 ((lowK s x5 v 0).map ziD))]) (congrArg (fun (z_ : List ZI) => F.of [(2, vp 0 0), (3, vp 1 0), (5, vb b), (6, vi .i64 (q : Int)), (7, .t (.c (.own 2 z_.length))), (8, vi .i64 (v : Int)), (31, vi .i64 (s.acts.length : Int)), (32, vi .i64 (q : Int)), (38, vi .i64 (s.vars.length : Int)), (39, vi .i64 (v : Int)), (47, .t (.c (.d (.sl 5 (x5.moves.map MoveD.d))))), (48, vi .i64 (x5.moves.length : Int)), (49, vi .i64 0)] [(0, .box (sysC s)), (1, .box [.d (.sl 1 (x.locs.map intD)), .d (.sl 2 (x.vals.map ziD))]), (2, .row 28 2 (z_.map ziD))]) (show ((freeL (lowAt s) x5 v) : List ZI) = (lowK s x5 v 0) from (by rw [lowK_zero])))
        refine loopS (ι := (Nat)) (fun (z_ : (Nat)) => match z_ with | k => k ≤ x5.moves.length)
          (fun (z_ : (Nat)) => match z_ with | k => [(2, vp 0 0), (3, vp 1 0), (5, vb b), (6, vi .i64 (q : Int)), (7, .t (.c (.own 2 (lowK s x5 v k).length))), (8, vi .i64 (v : Int)), (31, vi .i64 (s.acts.length : Int)), (32, vi .i64 (q : Int)), (38, vi .i64 (s.vars.length : Int)), (39, vi .i64 (v : Int)), (47, .t (.c (.d (.sl 5 (x5.moves.map MoveD.d))))), (48, vi .i64 (x5.moves.length : Int)), (49, vi .i64 (k : Int))])
          (fun (z_ : (Nat)) => match z_ with | k => [(0, .box (sysC s)), (1, .box [.d (.sl 1 (x.locs.map intD)), .d (.sl 2 (x.vals.map ziD))]), (2, .row 28 2 ((lowK s x5 v k).map ziD))])
          (fun (z_ : (Nat)) => match z_ with | k => x5.moves.length - k) 0 ?_ h (by kernel_rfl) (by kernel_rfl) ?_
        ·exact Nat.zero_le _
        ·clear h; rintro k a w hI h
         change St _ (F.of [(2, vp 0 0), (3, vp 1 0), (5, vb b), (6, vi .i64 (q : Int)), (7, .t (.c (.own 2 (lowK s x5 v k).length))), (8, vi .i64 (v : Int)), (31, vi .i64 (s.acts.length : Int)), (32, vi .i64 (q : Int)), (38, vi .i64 (s.vars.length : Int)), (39, vi .i64 (v : Int)), (47, .t (.c (.d (.sl 5 (x5.moves.map MoveD.d))))), (48, vi .i64 (x5.moves.length : Int)), (49, vi .i64 (k : Int))] [(0, .box (sysC s)), (1, .box [.d (.sl 1 (x.locs.map intD)), .d (.sl 2 (x.vals.map ziD))]), (2, .row 28 2 ((lowK s x5 v k).map ziD))]) a w at h
         have lkl := lowK_len s x5 v k
         refine rSeq fam0ok 3 [] [(2, vp 0 0), (3, vp 1 0), (5, vb b), (6, vi .i64 (q : Int)), (7, .t (.c (.own 2 (lowK s x5 v k).length))), (8, vi .i64 (v : Int)), (31, vi .i64 (s.acts.length : Int)), (32, vi .i64 (q : Int)), (38, vi .i64 (s.vars.length : Int)), (39, vi .i64 (v : Int)), (47, .t (.c (.d (.sl 5 (x5.moves.map MoveD.d))))), (48, vi .i64 (x5.moves.length : Int)), (49, vi .i64 (k : Int)), (50, vb (decide ((k : Int) < (x5.moves.length : Int))))] [(0, .box (sysC s)), (1, .box [.d (.sl 1 (x.locs.map intD)), .d (.sl 2 (x.vals.map ziD))]), (2, .row 28 2 ((lowK s x5 v k).map ziD))] (by kernel_rfl) h ?_; clear h; intro a w h
         refine wp_seq ?_
         refine condS (decide ((k : Int) < (x5.moves.length : Int))) h rfl (fun hc => ?_) (fun hc => ?_)
         ·have hc6 := hc; clear hc
          have hc6' := of_decide_eq_true hc6
          refine wp_skip ?_
          refine then_n ?_
          refine wp_seq ?_
          refine wp_block ?_
          obtain ⟨x6, hx6⟩ : ∃ z_ : MoveD, x5.moves[k]? = some z_ := ⟨_, List.getElem?_eq_getElem (by first | omega | (simp at *; omega))⟩
          refine rSeq fam0ok 3 [(1, .gen _ _ _ fun _ _ _ _ => Op.idxD (d := 52) (t := 47) (k := .i64) ki_2 (map_at hx6 (f := MoveD.d)) (OV.tmp 49 _))] [(2, vp 0 0), (3, vp 1 0), (5, vb b), (6, vi .i64 (q : Int)), (7, .t (.c (.own 2 (lowK s x5 v k).length))), (8, vi .i64 (v : Int)), (9, vi .i64 (k : Int)), (10, vp 3 0), (31, vi .i64 (s.acts.length : Int)), (32, vi .i64 (q : Int)), (38, vi .i64 (s.vars.length : Int)), (39, vi .i64 (v : Int)), (47, .t (.c (.d (.sl 5 (x5.moves.map MoveD.d))))), (48, vi .i64 (x5.moves.length : Int)), (49, vi .i64 (k : Int))] [(0, .box (sysC s)), (1, .box [.d (.sl 1 (x.locs.map intD)), .d (.sl 2 (x.vals.map ziD))]), (2, .row 28 2 ((lowK s x5 v k).map ziD)), (3, .box ([.d (.raw (.int .i64 x6.v)), .d (.raw (.bool x6.any)), .d (.sl 3 (x6.t.parts.map Part.d))] ++ zi x6.t.k))] (by kernel_rfl) h ?_; clear h; intro a w h
          refine rSeq fam0ok 4 [] [(2, vp 0 0), (3, vp 1 0), (5, vb b), (6, vi .i64 (q : Int)), (7, .t (.c (.own 2 (lowK s x5 v k).length))), (8, vi .i64 (v : Int)), (9, vi .i64 (k : Int)), (10, vp 3 0), (11, vb true), (31, vi .i64 (s.acts.length : Int)), (32, vi .i64 (q : Int)), (38, vi .i64 (s.vars.length : Int)), (39, vi .i64 (v : Int)), (47, .t (.c (.d (.sl 5 (x5.moves.map MoveD.d))))), (48, vi .i64 (x5.moves.length : Int)), (49, vi .i64 (k : Int))] [(0, .box (sysC s)), (1, .box [.d (.sl 1 (x.locs.map intD)), .d (.sl 2 (x.vals.map ziD))]), (2, .row 28 2 ((lowK s x5 v k).map ziD)), (3, .box ([.d (.raw (.int .i64 x6.v)), .d (.raw (.bool x6.any)), .d (.sl 3 (x6.t.parts.map Part.d))] ++ zi x6.t.k))] (by kernel_rfl) h ?_; clear h; intro a w h
          refine wp_seq ?_
          refine rSeq fam0ok 4 [(3, .gen _ _ _ fun _ _ _ _ => Op.idxD (d := 57) (t := 55) (k := .i64) ki_1 (map_at hx5 (f := ActD.d)) (OV.tmp 56 _)), (7, .gen _ _ _ fun _ _ _ _ => Op.sliceD (d := 61) (t := 59) (l := 0) (h := k) (rows := x5.moves.map MoveD.d) (rows' := (x5.moves.take k).map MoveD.d) ki_2 (BO.no _) (BO.yes (k := .i64) (i := k) _ (OV.tmp 60 _)) (by first | omega | (simp at *; omega)) (by first | omega | (simp only [List.length_map]; omega) | (simp at *; omega)) (by simp [List.map_take])), (8, .len (c := (.d (.sl 5 ((x5.moves.take k).map MoveD.d)))) (n := (x5.moves.take k).length) (lenC_map _ _ _))] [(2, vp 0 0), (3, vp 1 0), (5, vb b), (6, vi .i64 (q : Int)), (7, .t (.c (.own 2 (lowK s x5 v k).length))), (8, vi .i64 (v : Int)), (10, vp 3 0), (11, vb true), (31, vi .i64 (s.acts.length : Int)), (32, vi .i64 (q : Int)), (38, vi .i64 (s.vars.length : Int)), (39, vi .i64 (v : Int)), (47, .t (.c (.d (.sl 5 (x5.moves.map MoveD.d))))), (48, vi .i64 (x5.moves.length : Int)), (49, vi .i64 (k : Int)), (61, .t (.c (.d (.sl 5 ((x5.moves.take k).map MoveD.d))))), (62, vi .i64 ((x5.moves.take k).length : Int)), (63, vi .i64 0)] [(0, .box (sysC s)), (1, .box [.d (.sl 1 (x.locs.map intD)), .d (.sl 2 (x.vals.map ziD))]), (2, .row 28 2 ((lowK s x5 v k).map ziD)), (3, .box ([.d (.raw (.int .i64 x6.v)), .d (.raw (.bool x6.any)), .d (.sl 3 (x6.t.parts.map Part.d))] ++ zi x6.t.k))] (by kernel_rfl) h ?_; clear h; intro a w h
          refine wp_block ?_
          refine loopS (ι := (Nat) × (Bool)) (fun (z_ : (Nat) × (Bool)) => match z_ with | (j, d) => j ≤ (x5.moves.take k).length ∧ d = ((x5.moves.take k).take j).all fun n => n.v != x6.v)
            (fun (z_ : (Nat) × (Bool)) => match z_ with | (j, d) => [(2, vp 0 0), (3, vp 1 0), (5, vb b), (6, vi .i64 (q : Int)), (7, .t (.c (.own 2 (lowK s x5 v k).length))), (8, vi .i64 (v : Int)), (10, vp 3 0), (11, vb d), (31, vi .i64 (s.acts.length : Int)), (32, vi .i64 (q : Int)), (38, vi .i64 (s.vars.length : Int)), (39, vi .i64 (v : Int)), (47, .t (.c (.d (.sl 5 (x5.moves.map MoveD.d))))), (48, vi .i64 (x5.moves.length : Int)), (49, vi .i64 (k : Int)), (61, .t (.c (.d (.sl 5 ((x5.moves.take k).map MoveD.d))))), (62, vi .i64 ((x5.moves.take k).length : Int)), (63, vi .i64 (j : Int))])
            (fun (z_ : (Nat) × (Bool)) => match z_ with | (j, d) => [(0, .box (sysC s)), (1, .box [.d (.sl 1 (x.locs.map intD)), .d (.sl 2 (x.vals.map ziD))]), (2, .row 28 2 ((lowK s x5 v k).map ziD)), (3, .box ([.d (.raw (.int .i64 x6.v)), .d (.raw (.bool x6.any)), .d (.sl 3 (x6.t.parts.map Part.d))] ++ zi x6.t.k))])
            (fun (z_ : (Nat) × (Bool)) => match z_ with | (j, d) => (x5.moves.take k).length - j) (0, true) ?_ h (by kernel_rfl) (by kernel_rfl) ?_
          ·exact ⟨Nat.zero_le _, rfl⟩
          ·clear h; rintro ⟨j, d⟩ a w hI h
           change St _ (F.of [(2, vp 0 0), (3, vp 1 0), (5, vb b), (6, vi .i64 (q : Int)), (7, .t (.c (.own 2 (lowK s x5 v k).length))), (8, vi .i64 (v : Int)), (10, vp 3 0), (11, vb d), (31, vi .i64 (s.acts.length : Int)), (32, vi .i64 (q : Int)), (38, vi .i64 (s.vars.length : Int)), (39, vi .i64 (v : Int)), (47, .t (.c (.d (.sl 5 (x5.moves.map MoveD.d))))), (48, vi .i64 (x5.moves.length : Int)), (49, vi .i64 (k : Int)), (61, .t (.c (.d (.sl 5 ((x5.moves.take k).map MoveD.d))))), (62, vi .i64 ((x5.moves.take k).length : Int)), (63, vi .i64 (j : Int))] [(0, .box (sysC s)), (1, .box [.d (.sl 1 (x.locs.map intD)), .d (.sl 2 (x.vals.map ziD))]), (2, .row 28 2 ((lowK s x5 v k).map ziD)), (3, .box ([.d (.raw (.int .i64 x6.v)), .d (.raw (.bool x6.any)), .d (.sl 3 (x6.t.parts.map Part.d))] ++ zi x6.t.k))]) a w at h
           obtain ⟨hF1, hF2⟩ := hI
           have ltk : (x5.moves.take k).length ≤ x5.moves.length := by rw [List.length_take]; omega
           refine rSeq fam0ok 4 [] [(2, vp 0 0), (3, vp 1 0), (5, vb b), (6, vi .i64 (q : Int)), (7, .t (.c (.own 2 (lowK s x5 v k).length))), (8, vi .i64 (v : Int)), (10, vp 3 0), (11, vb d), (31, vi .i64 (s.acts.length : Int)), (32, vi .i64 (q : Int)), (38, vi .i64 (s.vars.length : Int)), (39, vi .i64 (v : Int)), (47, .t (.c (.d (.sl 5 (x5.moves.map MoveD.d))))), (48, vi .i64 (x5.moves.length : Int)), (49, vi .i64 (k : Int)), (61, .t (.c (.d (.sl 5 ((x5.moves.take k).map MoveD.d))))), (62, vi .i64 ((x5.moves.take k).length : Int)), (63, vi .i64 (j : Int)), (64, vb (decide ((j : Int) < ((x5.moves.take k).length : Int))))] [(0, .box (sysC s)), (1, .box [.d (.sl 1 (x.locs.map intD)), .d (.sl 2 (x.vals.map ziD))]), (2, .row 28 2 ((lowK s x5 v k).map ziD)), (3, .box ([.d (.raw (.int .i64 x6.v)), .d (.raw (.bool x6.any)), .d (.sl 3 (x6.t.parts.map Part.d))] ++ zi x6.t.k))] (by kernel_rfl) h ?_; clear h; intro a w h
           refine wp_seq ?_
           refine condS (decide ((j : Int) < ((x5.moves.take k).length : Int))) h rfl (fun hc => ?_) (fun hc => ?_)
           ·have hc7 := hc; clear hc
            have hc7' := of_decide_eq_true hc7
            refine wp_skip ?_
            refine then_n ?_
            refine wp_seq ?_
            refine wp_block ?_
            obtain ⟨x7, hx7⟩ : ∃ z_ : MoveD, (x5.moves.take k)[j]? = some z_ := ⟨_, List.getElem?_eq_getElem (by first | omega | (simp at *; omega))⟩
            refine rSeq fam0ok 4 [(0, .gen _ _ _ fun _ _ _ _ => Op.idxD (d := 65) (t := 61) (k := .i64) ki_2 (map_at hx7 (f := MoveD.d)) (OV.tmp 63 _))] [(2, vp 0 0), (3, vp 1 0), (5, vb b), (6, vi .i64 (q : Int)), (7, .t (.c (.own 2 (lowK s x5 v k).length))), (8, vi .i64 (v : Int)), (10, vp 3 0), (11, vb d), (13, vp 4 0), (31, vi .i64 (s.acts.length : Int)), (32, vi .i64 (q : Int)), (38, vi .i64 (s.vars.length : Int)), (39, vi .i64 (v : Int)), (47, .t (.c (.d (.sl 5 (x5.moves.map MoveD.d))))), (48, vi .i64 (x5.moves.length : Int)), (49, vi .i64 (k : Int)), (61, .t (.c (.d (.sl 5 ((x5.moves.take k).map MoveD.d))))), (62, vi .i64 ((x5.moves.take k).length : Int)), (63, vi .i64 (j : Int))] [(0, .box (sysC s)), (1, .box [.d (.sl 1 (x.locs.map intD)), .d (.sl 2 (x.vals.map ziD))]), (2, .row 28 2 ((lowK s x5 v k).map ziD)), (3, .box ([.d (.raw (.int .i64 x6.v)), .d (.raw (.bool x6.any)), .d (.sl 3 (x6.t.parts.map Part.d))] ++ zi x6.t.k)), (4, .box ([.d (.raw (.int .i64 x7.v)), .d (.raw (.bool x7.any)), .d (.sl 3 (x7.t.parts.map Part.d))] ++ zi x7.t.k))] (by kernel_rfl) h ?_; clear h; intro a w h
            rcases Bool.eq_false_or_eq_true d with hc | hc
            ·have hc8 := hc; clear hc
             rw [hc8] at h
             refine rS fam0ok 5 [] [(2, vp 0 0), (3, vp 1 0), (5, vb b), (6, vi .i64 (q : Int)), (7, .t (.c (.own 2 (lowK s x5 v k).length))), (8, vi .i64 (v : Int)), (10, vp 3 0), (11, vb (x7.v != x6.v)), (31, vi .i64 (s.acts.length : Int)), (32, vi .i64 (q : Int)), (38, vi .i64 (s.vars.length : Int)), (39, vi .i64 (v : Int)), (47, .t (.c (.d (.sl 5 (x5.moves.map MoveD.d))))), (48, vi .i64 (x5.moves.length : Int)), (49, vi .i64 (k : Int)), (61, .t (.c (.d (.sl 5 ((x5.moves.take k).map MoveD.d))))), (62, vi .i64 ((x5.moves.take k).length : Int)), (63, vi .i64 (j : Int))] [(0, .box (sysC s)), (1, .box [.d (.sl 1 (x.locs.map intD)), .d (.sl 2 (x.vals.map ziD))]), (2, .row 28 2 ((lowK s x5 v k).map ziD)), (3, .box ([.d (.raw (.int .i64 x6.v)), .d (.raw (.bool x6.any)), .d (.sl 3 (x6.t.parts.map Part.d))] ++ zi x6.t.k))] (by kernel_rfl) h ?_; clear h; intro a w h
             refine block_n ?_
             refine then_n ?_
             refine rS fam0ok 5 [(0, .add .i64 (m := (j : Int)) (n := 1) (i64_id (by omega) (by omega)))] [(2, vp 0 0), (3, vp 1 0), (5, vb b), (6, vi .i64 (q : Int)), (7, .t (.c (.own 2 (lowK s x5 v k).length))), (8, vi .i64 (v : Int)), (10, vp 3 0), (11, vb (x7.v != x6.v)), (31, vi .i64 (s.acts.length : Int)), (32, vi .i64 (q : Int)), (38, vi .i64 (s.vars.length : Int)), (39, vi .i64 (v : Int)), (47, .t (.c (.d (.sl 5 (x5.moves.map MoveD.d))))), (48, vi .i64 (x5.moves.length : Int)), (49, vi .i64 (k : Int)), (61, .t (.c (.d (.sl 5 ((x5.moves.take k).map MoveD.d))))), (62, vi .i64 ((x5.moves.take k).length : Int)), (63, vi .i64 ((j : Int) + 1))] [(0, .box (sysC s)), (1, .box [.d (.sl 1 (x.locs.map intD)), .d (.sl 2 (x.vals.map ziD))]), (2, .row 28 2 ((lowK s x5 v k).map ziD)), (3, .box ([.d (.raw (.int .i64 x6.v)), .d (.raw (.bool x6.any)), .d (.sl 3 (x6.t.parts.map Part.d))] ++ zi x6.t.k))] (by kernel_rfl) h ?_; clear h; intro a w h
             refine then_n ?_
             refine roundS (x := (j, d)) (y := (j + 1, x7.v != x6.v)) h ?_ ?_ (by kernel_rfl) (by kernel_rfl)
             ·have := at_lt hx7
              exact ⟨by omega, (by rw [all_snoc hx7, ← hF2, hc8]; rfl)⟩
             ·show (x5.moves.take k).length - (j + 1) < (x5.moves.take k).length - j
              have := at_lt hx7; omega
            ·have hc9 := hc; clear hc
             rw [hc9] at h
             refine rS fam0ok 5 [] [(2, vp 0 0), (3, vp 1 0), (5, vb b), (6, vi .i64 (q : Int)), (7, .t (.c (.own 2 (lowK s x5 v k).length))), (8, vi .i64 (v : Int)), (10, vp 3 0), (11, vb false), (31, vi .i64 (s.acts.length : Int)), (32, vi .i64 (q : Int)), (38, vi .i64 (s.vars.length : Int)), (39, vi .i64 (v : Int)), (47, .t (.c (.d (.sl 5 (x5.moves.map MoveD.d))))), (48, vi .i64 (x5.moves.length : Int)), (49, vi .i64 (k : Int)), (61, .t (.c (.d (.sl 5 ((x5.moves.take k).map MoveD.d))))), (62, vi .i64 ((x5.moves.take k).length : Int)), (63, vi .i64 (j : Int))] [(0, .box (sysC s)), (1, .box [.d (.sl 1 (x.locs.map intD)), .d (.sl 2 (x.vals.map ziD))]), (2, .row 28 2 ((lowK s x5 v k).map ziD)), (3, .box ([.d (.raw (.int .i64 x6.v)), .d (.raw (.bool x6.any)), .d (.sl 3 (x6.t.parts.map Part.d))] ++ zi x6.t.k))] (by kernel_rfl) h ?_; clear h; intro a w h
             refine block_n ?_
             refine then_n ?_
             refine rS fam0ok 5 [(0, .add .i64 (m := (j : Int)) (n := 1) (i64_id (by omega) (by omega)))] [(2, vp 0 0), (3, vp 1 0), (5, vb b), (6, vi .i64 (q : Int)), (7, .t (.c (.own 2 (lowK s x5 v k).length))), (8, vi .i64 (v : Int)), (10, vp 3 0), (11, vb false), (31, vi .i64 (s.acts.length : Int)), (32, vi .i64 (q : Int)), (38, vi .i64 (s.vars.length : Int)), (39, vi .i64 (v : Int)), (47, .t (.c (.d (.sl 5 (x5.moves.map MoveD.d))))), (48, vi .i64 (x5.moves.length : Int)), (49, vi .i64 (k : Int)), (61, .t (.c (.d (.sl 5 ((x5.moves.take k).map MoveD.d))))), (62, vi .i64 ((x5.moves.take k).length : Int)), (63, vi .i64 ((j : Int) + 1))] [(0, .box (sysC s)), (1, .box [.d (.sl 1 (x.locs.map intD)), .d (.sl 2 (x.vals.map ziD))]), (2, .row 28 2 ((lowK s x5 v k).map ziD)), (3, .box ([.d (.raw (.int .i64 x6.v)), .d (.raw (.bool x6.any)), .d (.sl 3 (x6.t.parts.map Part.d))] ++ zi x6.t.k))] (by kernel_rfl) h ?_; clear h; intro a w h
             refine then_n ?_
             refine roundS (x := (j, d)) (y := (j + 1, false)) h ?_ ?_ (by kernel_rfl) (by kernel_rfl)
             ·have := at_lt hx7
              exact ⟨by omega, (by rw [all_snoc hx7, ← hF2, hc9]; rfl)⟩
             ·show (x5.moves.take k).length - (j + 1) < (x5.moves.take k).length - j
              have := at_lt hx7; omega
           ·have hc10 := hc; clear hc
            have hc10' := of_decide_eq_false hc10
            refine wp_exit ?_
            refine then_x ?_
            refine then_x ?_
            refine inBlock_exit ?_
            refine then_n ?_
            have hfm : firstM x5.moves k x6 = d := by unfold firstM; rw [hF2, show (x5.moves.take k).take j = x5.moves.take k from List.take_of_length_le (by have := of_decide_eq_false hc10; omega)]
            rcases Bool.eq_false_or_eq_true (x6.v == (v : Int)) with hc | hc
            ·have hc11 := hc; clear hc
             have hc11' := hc11; (try simp at hc11')
             rcases Bool.eq_false_or_eq_true x6.any with hc | hc
             ·have hc12 := hc; clear hc
              rw [hc12] at h
              refine rSeq fam0ok 5 [(3, .cmp (op := .eql) (m := x6.v) (n := (v : Int)) (b := true) .i64 hc11)] [(2, vp 0 0), (3, vp 1 0), (5, vb b), (6, vi .i64 (q : Int)), (7, .t (.c (.own 2 (lowK s x5 v k).length))), (8, vi .i64 (v : Int)), (31, vi .i64 (s.acts.length : Int)), (32, vi .i64 (q : Int)), (38, vi .i64 (s.vars.length : Int)), (39, vi .i64 (v : Int)), (47, .t (.c (.d (.sl 5 (x5.moves.map MoveD.d))))), (48, vi .i64 (x5.moves.length : Int)), (49, vi .i64 (k : Int)), (86, vb d)] [(0, .box (sysC s)), (1, .box [.d (.sl 1 (x.locs.map intD)), .d (.sl 2 (x.vals.map ziD))]), (2, .row 28 2 ((lowK s x5 v k).map ziD))] (by kernel_rfl) h ?_; clear h; intro a w h
              refine condS d h rfl (fun hc => ?_) (fun hc => ?_)
              ·have hc13 := hc; clear hc
               refine rSeq fam0ok 5 [] [(2, vp 0 0), (3, vp 1 0), (5, vb b), (6, vi .i64 (q : Int)), (7, .t (.c (.own 2 (lowK s x5 v k).length))), (8, vi .i64 (v : Int)), (14, vp 5 0), (31, vi .i64 (s.acts.length : Int)), (32, vi .i64 (q : Int)), (38, vi .i64 (s.vars.length : Int)), (39, vi .i64 (v : Int)), (47, .t (.c (.d (.sl 5 (x5.moves.map MoveD.d))))), (48, vi .i64 (x5.moves.length : Int)), (49, vi .i64 (k : Int))] [(0, .box (sysC s)), (1, .box [.d (.sl 1 (x.locs.map intD)), .d (.sl 2 (x.vals.map ziD))]), (2, .row 28 2 ((lowK s x5 v k).map ziD)), (5, .box [.d (.raw (.bool false)), .d (nsl [])])] (by kernel_rfl) h ?_; clear h; intro a w h
               refine wp_seq ?_
               rcases Bool.eq_false_or_eq_true (decide ((v : Int) < (s.bounds.length : Int))) with hc | hc
               ·have hc14 := hc; clear hc
                have hc14' := of_decide_eq_true hc14
                obtain ⟨x8, hx8⟩ : ∃ z_ : BoundD, s.bounds[v]? = some z_ := ⟨_, List.getElem?_eq_getElem (by first | omega | (simp at *; omega))⟩
                refine rSeq fam0ok 6 [(3, .len (c := (.d (.sl 5 (s.bounds.map BoundD.d)))) (n := s.bounds.length) (lenC_map _ _ _)), (4, .cmp (op := .lss) (m := (v : Int)) (n := (s.bounds.length : Int)) (b := true) .i64 hc14), (9, .gen _ _ _ fun _ _ _ _ => Op.idxD (d := 97) (t := 95) (k := .i64) kf_0 (map_at hx8 (f := BoundD.d)) (OV.tmp 96 _))] [(2, vp 0 0), (3, vp 1 0), (5, vb b), (6, vi .i64 (q : Int)), (7, .t (.c (.own 2 (lowK s x5 v k).length))), (8, vi .i64 (v : Int)), (14, vp 5 0), (31, vi .i64 (s.acts.length : Int)), (32, vi .i64 (q : Int)), (38, vi .i64 (s.vars.length : Int)), (39, vi .i64 (v : Int)), (47, .t (.c (.d (.sl 5 (x5.moves.map MoveD.d))))), (48, vi .i64 (x5.moves.length : Int)), (49, vi .i64 (k : Int)), (100, vb x8.is_)] [(0, .box (sysC s)), (1, .box [.d (.sl 1 (x.locs.map intD)), .d (.sl 2 (x.vals.map ziD))]), (2, .row 28 2 ((lowK s x5 v k).map ziD)), (5, .box [.d (.raw (.bool false)), .d (nsl [])])] (by kernel_rfl) h ?_; clear h; intro a w h
                refine condS x8.is_ h rfl (fun hc => ?_) (fun hc => ?_)
                ·have hc15 := hc; clear hc
                 refine rS fam0ok 6 [(3, .gen _ _ _ fun _ _ _ _ => Op.idxD (d := 104) (t := 102) (k := .i64) kf_0 (map_at hx8 (f := BoundD.d)) (OV.tmp 103 _))] [(2, vp 0 0), (3, vp 1 0), (5, vb b), (6, vi .i64 (q : Int)), (7, .t (.c (.own 2 (lowK s x5 v k).length))), (8, vi .i64 (v : Int)), (14, vp 5 0), (31, vi .i64 (s.acts.length : Int)), (32, vi .i64 (q : Int)), (38, vi .i64 (s.vars.length : Int)), (39, vi .i64 (v : Int)), (47, .t (.c (.d (.sl 5 (x5.moves.map MoveD.d))))), (48, vi .i64 (x5.moves.length : Int)), (49, vi .i64 (k : Int))] [(0, .box (sysC s)), (1, .box [.d (.sl 1 (x.locs.map intD)), .d (.sl 2 (x.vals.map ziD))]), (2, .row 28 2 ((lowK s x5 v k).map ziD)), (5, .box (zi x8.lo))] (by kernel_rfl) h ?_; clear h; intro a w h
                 refine then_n ?_
                 refine rS fam0ok 6 [(2, .gen _ _ _ fun _ _ _ _ => Op.buildD (d := 109) (len := 1) (rows := [x8.lo].map ziD) (rs := [(108, vz x8.lo)]) kk_3 (.cons (i := 0) (OV.tmp 108 _) (.nil)) (by kernel_rfl) rfl (by simp [ziD]) (by decide) (by decide)), (3, .gen _ _ _ fun _ _ _ _ => Op.appOD (d := 110) (t := 107) (u := 109) (n := 2) (n' := 6) (len := (lowK s x5 v k).length) (len' := ((lowK s x5 v k) ++ [x8.lo]).length) (rows := (lowK s x5 v k).map ziD) (rows2 := [x8.lo].map ziD) (rows' := ((lowK s x5 v k) ++ [x8.lo]).map ziD) kk_4 (by first | exact (List.length_map _).symm | simp) (by first | (rw [List.length_append, List.length_map]; done) | simp) (by simp) (by simp [ziD]) (by first | omega | (simp at *; done) | (simp at *; omega)))] [(2, vp 0 0), (3, vp 1 0), (5, vb b), (6, vi .i64 (q : Int)), (7, .t (.c (.own 6 ((lowK s x5 v k) ++ [x8.lo]).length))), (8, vi .i64 (v : Int)), (31, vi .i64 (s.acts.length : Int)), (32, vi .i64 (q : Int)), (38, vi .i64 (s.vars.length : Int)), (39, vi .i64 (v : Int)), (47, .t (.c (.d (.sl 5 (x5.moves.map MoveD.d))))), (48, vi .i64 (x5.moves.length : Int)), (49, vi .i64 (k : Int))] [(0, .box (sysC s)), (1, .box [.d (.sl 1 (x.locs.map intD)), .d (.sl 2 (x.vals.map ziD))]), (6, .row 28 2 (((lowK s x5 v k) ++ [x8.lo]).map ziD))] (by kernel_rfl) h ?_; clear h; intro a w h
                 refine block_n ?_
                 refine then_n ?_
                 refine rS fam0ok 7 [(0, .add .i64 (m := (k : Int)) (n := 1) (i64_id (by omega) (by omega)))] [(2, vp 0 0), (3, vp 1 0), (5, vb b), (6, vi .i64 (q : Int)), (7, .t (.c (.own 6 ((lowK s x5 v k) ++ [x8.lo]).length))), (8, vi .i64 (v : Int)), (31, vi .i64 (s.acts.length : Int)), (32, vi .i64 (q : Int)), (38, vi .i64 (s.vars.length : Int)), (39, vi .i64 (v : Int)), (47, .t (.c (.d (.sl 5 (x5.moves.map MoveD.d))))), (48, vi .i64 (x5.moves.length : Int)), (49, vi .i64 ((k : Int) + 1))] [(0, .box (sysC s)), (1, .box [.d (.sl 1 (x.locs.map intD)), .d (.sl 2 (x.vals.map ziD))]), (6, .row 28 2 (((lowK s x5 v k) ++ [x8.lo]).map ziD))] (by kernel_rfl) h ?_; clear h; intro a w h
                 refine then_n ?_
                 replace h := h.conv (f' := F.of [(2, vp 0 0), (3, vp 1 0), (5, vb b), (6, vi .i64 (q : Int)), (7, .t (.c (.own 6 (lowK s x5 v (k + 1)).length))), (8, vi .i64 (v : Int)), (31, vi .i64 (s.acts.length : Int)), (32, vi .i64 (q : Int)), (38, vi .i64 (s.vars.length : Int)), (39, vi .i64 (v : Int)), (47, .t (.c (.d (.sl 5 (x5.moves.map MoveD.d))))), (48, vi .i64 (x5.moves.length : Int)), (49, vi .i64 ((k : Int) + 1))] [(0, .box (sysC s)), (1, .box [.d (.sl 1 (x.locs.map intD)), .d (.sl 2 (x.vals.map ziD))]), (6, .row 28 2 ((lowK s x5 v (k + 1)).map ziD))]) (congrArg (fun (z_ : List ZI) => F.of [(2, vp 0 0), (3, vp 1 0), (5, vb b), (6, vi .i64 (q : Int)), (7, .t (.c (.own 6 z_.length))), (8, vi .i64 (v : Int)), (31, vi .i64 (s.acts.length : Int)), (32, vi .i64 (q : Int)), (38, vi .i64 (s.vars.length : Int)), (39, vi .i64 (v : Int)), (47, .t (.c (.d (.sl 5 (x5.moves.map MoveD.d))))), (48, vi .i64 (x5.moves.length : Int)), (49, vi .i64 ((k : Int) + 1))] [(0, .box (sysC s)), (1, .box [.d (.sl 1 (x.locs.map intD)), .d (.sl 2 (x.vals.map ziD))]), (6, .row 28 2 (z_.map ziD))]) (show (((lowK s x5 v k) ++ [x8.lo]) : List ZI) = (lowK s x5 v (k + 1)) from (by rw [lowK_put hx6 (by rw [hc11, hc12, hfm, hc13]; rfl), (show lowAt s v = x8.lo from by unfold lowAt bndAt; rw [hx8]; simp only [Option.getD_some]; rw [hc15]; rfl)])))
                 replace h := renS 6 2 [(2, vp 0 0), (3, vp 1 0), (5, vb b), (6, vi .i64 (q : Int)), (7, .t (.c (.own 2 (lowK s x5 v (k + 1)).length))), (8, vi .i64 (v : Int)), (31, vi .i64 (s.acts.length : Int)), (32, vi .i64 (q : Int)), (38, vi .i64 (s.vars.length : Int)), (39, vi .i64 (v : Int)), (47, .t (.c (.d (.sl 5 (x5.moves.map MoveD.d))))), (48, vi .i64 (x5.moves.length : Int)), (49, vi .i64 ((k : Int) + 1))] [(0, .box (sysC s)), (1, .box [.d (.sl 1 (x.locs.map intD)), .d (.sl 2 (x.vals.map ziD))]), (2, .row 28 2 ((lowK s x5 v (k + 1)).map ziD))] h (by kernel_rfl) (by kernel_rfl) (by kernel_rfl)
                 refine roundS (x := k) (y := k + 1) h ?_ ?_ (by kernel_rfl) (by kernel_rfl)
                 ·have := at_lt hx6
                  show k + 1 ≤ x5.moves.length
                  omega
                 ·show x5.moves.length - (k + 1) < x5.moves.length - k
                  have := at_lt hx6; omega
                ·have hc16 := hc; clear hc
                 refine wp_skip ?_
                 refine then_n ?_
                 refine rS fam0ok 7 [(2, .gen _ _ _ fun _ _ _ _ => Op.buildD (d := 109) (len := 1) (rows := [(ZI.mk false [])].map ziD) (rs := [(108, .t (.agg [.d (.raw (.bool false)), .d (nsl [])]))]) kk_3 (.cons (i := 0) (OV.tmp 108 _) (.nil)) (by kernel_rfl) rfl (by simp [ziD]) (by decide) (by decide)), (3, .gen _ _ _ fun _ _ _ _ => Op.appOD (d := 110) (t := 107) (u := 109) (n := 2) (n' := 7) (len := (lowK s x5 v k).length) (len' := ((lowK s x5 v k) ++ [(ZI.mk false [])]).length) (rows := (lowK s x5 v k).map ziD) (rows2 := [(ZI.mk false [])].map ziD) (rows' := ((lowK s x5 v k) ++ [(ZI.mk false [])]).map ziD) kk_4 (by first | exact (List.length_map _).symm | simp) (by first | (rw [List.length_append, List.length_map]; done) | simp) (by simp) (by simp [ziD]) (by first | omega | (simp at *; done) | (simp at *; omega)))] [(2, vp 0 0), (3, vp 1 0), (5, vb b), (6, vi .i64 (q : Int)), (7, .t (.c (.own 7 ((lowK s x5 v k) ++ [(ZI.mk false [])]).length))), (8, vi .i64 (v : Int)), (31, vi .i64 (s.acts.length : Int)), (32, vi .i64 (q : Int)), (38, vi .i64 (s.vars.length : Int)), (39, vi .i64 (v : Int)), (47, .t (.c (.d (.sl 5 (x5.moves.map MoveD.d))))), (48, vi .i64 (x5.moves.length : Int)), (49, vi .i64 (k : Int))] [(0, .box (sysC s)), (1, .box [.d (.sl 1 (x.locs.map intD)), .d (.sl 2 (x.vals.map ziD))]), (7, .row 28 2 (((lowK s x5 v k) ++ [(ZI.mk false [])]).map ziD))] (by kernel_rfl) h ?_; clear h; intro a w h
                 refine block_n ?_
                 refine then_n ?_
                 refine rS fam0ok 8 [(0, .add .i64 (m := (k : Int)) (n := 1) (i64_id (by omega) (by omega)))] [(2, vp 0 0), (3, vp 1 0), (5, vb b), (6, vi .i64 (q : Int)), (7, .t (.c (.own 7 ((lowK s x5 v k) ++ [(ZI.mk false [])]).length))), (8, vi .i64 (v : Int)), (31, vi .i64 (s.acts.length : Int)), (32, vi .i64 (q : Int)), (38, vi .i64 (s.vars.length : Int)), (39, vi .i64 (v : Int)), (47, .t (.c (.d (.sl 5 (x5.moves.map MoveD.d))))), (48, vi .i64 (x5.moves.length : Int)), (49, vi .i64 ((k : Int) + 1))] [(0, .box (sysC s)), (1, .box [.d (.sl 1 (x.locs.map intD)), .d (.sl 2 (x.vals.map ziD))]), (7, .row 28 2 (((lowK s x5 v k) ++ [(ZI.mk false [])]).map ziD))] (by kernel_rfl) h ?_; clear h; intro a w h
                 refine then_n ?_
                 replace h := h.conv (f' := F.of [(2, vp 0 0), (3, vp 1 0), (5, vb b), (6, vi .i64 (q : Int)), (7, .t (.c (.own 7 (lowK s x5 v (k + 1)).length))), (8, vi .i64 (v : Int)), (31, vi .i64 (s.acts.length : Int)), (32, vi .i64 (q : Int)), (38, vi .i64 (s.vars.length : Int)), (39, vi .i64 (v : Int)), (47, .t (.c (.d (.sl 5 (x5.moves.map MoveD.d))))), (48, vi .i64 (x5.moves.length : Int)), (49, vi .i64 ((k : Int) + 1))] [(0, .box (sysC s)), (1, .box [.d (.sl 1 (x.locs.map intD)), .d (.sl 2 (x.vals.map ziD))]), (7, .row 28 2 ((lowK s x5 v (k + 1)).map ziD))]) (congrArg (fun (z_ : List ZI) => F.of [(2, vp 0 0), (3, vp 1 0), (5, vb b), (6, vi .i64 (q : Int)), (7, .t (.c (.own 7 z_.length))), (8, vi .i64 (v : Int)), (31, vi .i64 (s.acts.length : Int)), (32, vi .i64 (q : Int)), (38, vi .i64 (s.vars.length : Int)), (39, vi .i64 (v : Int)), (47, .t (.c (.d (.sl 5 (x5.moves.map MoveD.d))))), (48, vi .i64 (x5.moves.length : Int)), (49, vi .i64 ((k : Int) + 1))] [(0, .box (sysC s)), (1, .box [.d (.sl 1 (x.locs.map intD)), .d (.sl 2 (x.vals.map ziD))]), (7, .row 28 2 (z_.map ziD))]) (show (((lowK s x5 v k) ++ [(ZI.mk false [])]) : List ZI) = (lowK s x5 v (k + 1)) from (by rw [lowK_put hx6 (by rw [hc11, hc12, hfm, hc13]; rfl), (show lowAt s v = (ZI.mk false []) from by unfold lowAt bndAt; rw [hx8]; simp only [Option.getD_some]; rw [hc16]; rfl)])))
                 replace h := renS 7 2 [(2, vp 0 0), (3, vp 1 0), (5, vb b), (6, vi .i64 (q : Int)), (7, .t (.c (.own 2 (lowK s x5 v (k + 1)).length))), (8, vi .i64 (v : Int)), (31, vi .i64 (s.acts.length : Int)), (32, vi .i64 (q : Int)), (38, vi .i64 (s.vars.length : Int)), (39, vi .i64 (v : Int)), (47, .t (.c (.d (.sl 5 (x5.moves.map MoveD.d))))), (48, vi .i64 (x5.moves.length : Int)), (49, vi .i64 ((k : Int) + 1))] [(0, .box (sysC s)), (1, .box [.d (.sl 1 (x.locs.map intD)), .d (.sl 2 (x.vals.map ziD))]), (2, .row 28 2 ((lowK s x5 v (k + 1)).map ziD))] h (by kernel_rfl) (by kernel_rfl) (by kernel_rfl)
                 refine roundS (x := k) (y := k + 1) h ?_ ?_ (by kernel_rfl) (by kernel_rfl)
                 ·have := at_lt hx6
                  show k + 1 ≤ x5.moves.length
                  omega
                 ·show x5.moves.length - (k + 1) < x5.moves.length - k
                  have := at_lt hx6; omega
               ·have hc17 := hc; clear hc
                have hc17' := of_decide_eq_false hc17
                refine rSeq fam0ok 8 [(3, .len (c := (.d (.sl 5 (s.bounds.map BoundD.d)))) (n := s.bounds.length) (lenC_map _ _ _)), (4, .cmp (op := .lss) (m := (v : Int)) (n := (s.bounds.length : Int)) (b := false) .i64 hc17)] [(2, vp 0 0), (3, vp 1 0), (5, vb b), (6, vi .i64 (q : Int)), (7, .t (.c (.own 2 (lowK s x5 v k).length))), (8, vi .i64 (v : Int)), (14, vp 5 0), (31, vi .i64 (s.acts.length : Int)), (32, vi .i64 (q : Int)), (38, vi .i64 (s.vars.length : Int)), (39, vi .i64 (v : Int)), (47, .t (.c (.d (.sl 5 (x5.moves.map MoveD.d))))), (48, vi .i64 (x5.moves.length : Int)), (49, vi .i64 (k : Int)), (100, vb false)] [(0, .box (sysC s)), (1, .box [.d (.sl 1 (x.locs.map intD)), .d (.sl 2 (x.vals.map ziD))]), (2, .row 28 2 ((lowK s x5 v k).map ziD)), (5, .box [.d (.raw (.bool false)), .d (nsl [])])] (by kernel_rfl) h ?_; clear h; intro a w h
                refine condS false h rfl (fun hc => ?_) (fun hc => ?_)
                ·cases hc
                ·clear hc
                 refine wp_skip ?_
                 refine then_n ?_
                 refine rS fam0ok 8 [(2, .gen _ _ _ fun _ _ _ _ => Op.buildD (d := 109) (len := 1) (rows := [(ZI.mk false [])].map ziD) (rs := [(108, .t (.agg [.d (.raw (.bool false)), .d (nsl [])]))]) kk_3 (.cons (i := 0) (OV.tmp 108 _) (.nil)) (by kernel_rfl) rfl (by simp [ziD]) (by decide) (by decide)), (3, .gen _ _ _ fun _ _ _ _ => Op.appOD (d := 110) (t := 107) (u := 109) (n := 2) (n' := 8) (len := (lowK s x5 v k).length) (len' := ((lowK s x5 v k) ++ [(ZI.mk false [])]).length) (rows := (lowK s x5 v k).map ziD) (rows2 := [(ZI.mk false [])].map ziD) (rows' := ((lowK s x5 v k) ++ [(ZI.mk false [])]).map ziD) kk_4 (by first | exact (List.length_map _).symm | simp) (by first | (rw [List.length_append, List.length_map]; done) | simp) (by simp) (by simp [ziD]) (by first | omega | (simp at *; done) | (simp at *; omega)))] [(2, vp 0 0), (3, vp 1 0), (5, vb b), (6, vi .i64 (q : Int)), (7, .t (.c (.own 8 ((lowK s x5 v k) ++ [(ZI.mk false [])]).length))), (8, vi .i64 (v : Int)), (31, vi .i64 (s.acts.length : Int)), (32, vi .i64 (q : Int)), (38, vi .i64 (s.vars.length : Int)), (39, vi .i64 (v : Int)), (47, .t (.c (.d (.sl 5 (x5.moves.map MoveD.d))))), (48, vi .i64 (x5.moves.length : Int)), (49, vi .i64 (k : Int))] [(0, .box (sysC s)), (1, .box [.d (.sl 1 (x.locs.map intD)), .d (.sl 2 (x.vals.map ziD))]), (8, .row 28 2 (((lowK s x5 v k) ++ [(ZI.mk false [])]).map ziD))] (by kernel_rfl) h ?_; clear h; intro a w h
                 refine block_n ?_
                 refine then_n ?_
                 refine rS fam0ok 9 [(0, .add .i64 (m := (k : Int)) (n := 1) (i64_id (by omega) (by omega)))] [(2, vp 0 0), (3, vp 1 0), (5, vb b), (6, vi .i64 (q : Int)), (7, .t (.c (.own 8 ((lowK s x5 v k) ++ [(ZI.mk false [])]).length))), (8, vi .i64 (v : Int)), (31, vi .i64 (s.acts.length : Int)), (32, vi .i64 (q : Int)), (38, vi .i64 (s.vars.length : Int)), (39, vi .i64 (v : Int)), (47, .t (.c (.d (.sl 5 (x5.moves.map MoveD.d))))), (48, vi .i64 (x5.moves.length : Int)), (49, vi .i64 ((k : Int) + 1))] [(0, .box (sysC s)), (1, .box [.d (.sl 1 (x.locs.map intD)), .d (.sl 2 (x.vals.map ziD))]), (8, .row 28 2 (((lowK s x5 v k) ++ [(ZI.mk false [])]).map ziD))] (by kernel_rfl) h ?_; clear h; intro a w h
                 refine then_n ?_
                 replace h := h.conv (f' := F.of [(2, vp 0 0), (3, vp 1 0), (5, vb b), (6, vi .i64 (q : Int)), (7, .t (.c (.own 8 (lowK s x5 v (k + 1)).length))), (8, vi .i64 (v : Int)), (31, vi .i64 (s.acts.length : Int)), (32, vi .i64 (q : Int)), (38, vi .i64 (s.vars.length : Int)), (39, vi .i64 (v : Int)), (47, .t (.c (.d (.sl 5 (x5.moves.map MoveD.d))))), (48, vi .i64 (x5.moves.length : Int)), (49, vi .i64 ((k : Int) + 1))] [(0, .box (sysC s)), (1, .box [.d (.sl 1 (x.locs.map intD)), .d (.sl 2 (x.vals.map ziD))]), (8, .row 28 2 ((lowK s x5 v (k + 1)).map ziD))]) (congrArg (fun (z_ : List ZI) => F.of [(2, vp 0 0), (3, vp 1 0), (5, vb b), (6, vi .i64 (q : Int)), (7, .t (.c (.own 8 z_.length))), (8, vi .i64 (v : Int)), (31, vi .i64 (s.acts.length : Int)), (32, vi .i64 (q : Int)), (38, vi .i64 (s.vars.length : Int)), (39, vi .i64 (v : Int)), (47, .t (.c (.d (.sl 5 (x5.moves.map MoveD.d))))), (48, vi .i64 (x5.moves.length : Int)), (49, vi .i64 ((k : Int) + 1))] [(0, .box (sysC s)), (1, .box [.d (.sl 1 (x.locs.map intD)), .d (.sl 2 (x.vals.map ziD))]), (8, .row 28 2 (z_.map ziD))]) (show (((lowK s x5 v k) ++ [(ZI.mk false [])]) : List ZI) = (lowK s x5 v (k + 1)) from (by rw [lowK_put hx6 (by rw [hc11, hc12, hfm, hc13]; rfl), (show lowAt s v = (ZI.mk false []) from by unfold lowAt bndAt; rw [List.getElem?_eq_none (by have := of_decide_eq_false hc17; omega)]; rfl)])))
                 replace h := renS 8 2 [(2, vp 0 0), (3, vp 1 0), (5, vb b), (6, vi .i64 (q : Int)), (7, .t (.c (.own 2 (lowK s x5 v (k + 1)).length))), (8, vi .i64 (v : Int)), (31, vi .i64 (s.acts.length : Int)), (32, vi .i64 (q : Int)), (38, vi .i64 (s.vars.length : Int)), (39, vi .i64 (v : Int)), (47, .t (.c (.d (.sl 5 (x5.moves.map MoveD.d))))), (48, vi .i64 (x5.moves.length : Int)), (49, vi .i64 ((k : Int) + 1))] [(0, .box (sysC s)), (1, .box [.d (.sl 1 (x.locs.map intD)), .d (.sl 2 (x.vals.map ziD))]), (2, .row 28 2 ((lowK s x5 v (k + 1)).map ziD))] h (by kernel_rfl) (by kernel_rfl) (by kernel_rfl)
                 refine roundS (x := k) (y := k + 1) h ?_ ?_ (by kernel_rfl) (by kernel_rfl)
                 ·have := at_lt hx6
                  show k + 1 ≤ x5.moves.length
                  omega
                 ·show x5.moves.length - (k + 1) < x5.moves.length - k
                  have := at_lt hx6; omega
              ·have hc18 := hc; clear hc
               refine wp_skip ?_
               refine block_n ?_
               refine then_n ?_
               refine rS fam0ok 9 [(0, .add .i64 (m := (k : Int)) (n := 1) (i64_id (by omega) (by omega)))] [(2, vp 0 0), (3, vp 1 0), (5, vb b), (6, vi .i64 (q : Int)), (7, .t (.c (.own 2 (lowK s x5 v k).length))), (8, vi .i64 (v : Int)), (31, vi .i64 (s.acts.length : Int)), (32, vi .i64 (q : Int)), (38, vi .i64 (s.vars.length : Int)), (39, vi .i64 (v : Int)), (47, .t (.c (.d (.sl 5 (x5.moves.map MoveD.d))))), (48, vi .i64 (x5.moves.length : Int)), (49, vi .i64 ((k : Int) + 1))] [(0, .box (sysC s)), (1, .box [.d (.sl 1 (x.locs.map intD)), .d (.sl 2 (x.vals.map ziD))]), (2, .row 28 2 ((lowK s x5 v k).map ziD))] (by kernel_rfl) h ?_; clear h; intro a w h
               refine then_n ?_
               replace h := h.conv (f' := F.of [(2, vp 0 0), (3, vp 1 0), (5, vb b), (6, vi .i64 (q : Int)), (7, .t (.c (.own 2 (lowK s x5 v (k + 1)).length))), (8, vi .i64 (v : Int)), (31, vi .i64 (s.acts.length : Int)), (32, vi .i64 (q : Int)), (38, vi .i64 (s.vars.length : Int)), (39, vi .i64 (v : Int)), (47, .t (.c (.d (.sl 5 (x5.moves.map MoveD.d))))), (48, vi .i64 (x5.moves.length : Int)), (49, vi .i64 ((k : Int) + 1))] [(0, .box (sysC s)), (1, .box [.d (.sl 1 (x.locs.map intD)), .d (.sl 2 (x.vals.map ziD))]), (2, .row 28 2 ((lowK s x5 v (k + 1)).map ziD))]) (congrArg (fun (z_ : List ZI) => F.of [(2, vp 0 0), (3, vp 1 0), (5, vb b), (6, vi .i64 (q : Int)), (7, .t (.c (.own 2 z_.length))), (8, vi .i64 (v : Int)), (31, vi .i64 (s.acts.length : Int)), (32, vi .i64 (q : Int)), (38, vi .i64 (s.vars.length : Int)), (39, vi .i64 (v : Int)), (47, .t (.c (.d (.sl 5 (x5.moves.map MoveD.d))))), (48, vi .i64 (x5.moves.length : Int)), (49, vi .i64 ((k : Int) + 1))] [(0, .box (sysC s)), (1, .box [.d (.sl 1 (x.locs.map intD)), .d (.sl 2 (x.vals.map ziD))]), (2, .row 28 2 (z_.map ziD))]) (show ((lowK s x5 v k) : List ZI) = (lowK s x5 v (k + 1)) from (by rw [lowK_keep hx6 (by rw [hc11, hc12, hfm, hc18]; first | done | rfl | simp)])))
               refine roundS (x := k) (y := k + 1) h ?_ ?_ (by kernel_rfl) (by kernel_rfl)
               ·have := at_lt hx6
                show k + 1 ≤ x5.moves.length
                omega
               ·show x5.moves.length - (k + 1) < x5.moves.length - k
                have := at_lt hx6; omega
             ·have hc19 := hc; clear hc
              rw [hc19] at h
              refine rSeq fam0ok 9 [(3, .cmp (op := .eql) (m := x6.v) (n := (v : Int)) (b := true) .i64 hc11)] [(2, vp 0 0), (3, vp 1 0), (5, vb b), (6, vi .i64 (q : Int)), (7, .t (.c (.own 2 (lowK s x5 v k).length))), (8, vi .i64 (v : Int)), (31, vi .i64 (s.acts.length : Int)), (32, vi .i64 (q : Int)), (38, vi .i64 (s.vars.length : Int)), (39, vi .i64 (v : Int)), (47, .t (.c (.d (.sl 5 (x5.moves.map MoveD.d))))), (48, vi .i64 (x5.moves.length : Int)), (49, vi .i64 (k : Int)), (86, vb false)] [(0, .box (sysC s)), (1, .box [.d (.sl 1 (x.locs.map intD)), .d (.sl 2 (x.vals.map ziD))]), (2, .row 28 2 ((lowK s x5 v k).map ziD))] (by kernel_rfl) h ?_; clear h; intro a w h
              refine condS false h rfl (fun hc => ?_) (fun hc => ?_)
              ·cases hc
              ·clear hc
               refine wp_skip ?_
               refine block_n ?_
               refine then_n ?_
               refine rS fam0ok 9 [(0, .add .i64 (m := (k : Int)) (n := 1) (i64_id (by omega) (by omega)))] [(2, vp 0 0), (3, vp 1 0), (5, vb b), (6, vi .i64 (q : Int)), (7, .t (.c (.own 2 (lowK s x5 v k).length))), (8, vi .i64 (v : Int)), (31, vi .i64 (s.acts.length : Int)), (32, vi .i64 (q : Int)), (38, vi .i64 (s.vars.length : Int)), (39, vi .i64 (v : Int)), (47, .t (.c (.d (.sl 5 (x5.moves.map MoveD.d))))), (48, vi .i64 (x5.moves.length : Int)), (49, vi .i64 ((k : Int) + 1))] [(0, .box (sysC s)), (1, .box [.d (.sl 1 (x.locs.map intD)), .d (.sl 2 (x.vals.map ziD))]), (2, .row 28 2 ((lowK s x5 v k).map ziD))] (by kernel_rfl) h ?_; clear h; intro a w h
               refine then_n ?_
               replace h := h.conv (f' := F.of [(2, vp 0 0), (3, vp 1 0), (5, vb b), (6, vi .i64 (q : Int)), (7, .t (.c (.own 2 (lowK s x5 v (k + 1)).length))), (8, vi .i64 (v : Int)), (31, vi .i64 (s.acts.length : Int)), (32, vi .i64 (q : Int)), (38, vi .i64 (s.vars.length : Int)), (39, vi .i64 (v : Int)), (47, .t (.c (.d (.sl 5 (x5.moves.map MoveD.d))))), (48, vi .i64 (x5.moves.length : Int)), (49, vi .i64 ((k : Int) + 1))] [(0, .box (sysC s)), (1, .box [.d (.sl 1 (x.locs.map intD)), .d (.sl 2 (x.vals.map ziD))]), (2, .row 28 2 ((lowK s x5 v (k + 1)).map ziD))]) (congrArg (fun (z_ : List ZI) => F.of [(2, vp 0 0), (3, vp 1 0), (5, vb b), (6, vi .i64 (q : Int)), (7, .t (.c (.own 2 z_.length))), (8, vi .i64 (v : Int)), (31, vi .i64 (s.acts.length : Int)), (32, vi .i64 (q : Int)), (38, vi .i64 (s.vars.length : Int)), (39, vi .i64 (v : Int)), (47, .t (.c (.d (.sl 5 (x5.moves.map MoveD.d))))), (48, vi .i64 (x5.moves.length : Int)), (49, vi .i64 ((k : Int) + 1))] [(0, .box (sysC s)), (1, .box [.d (.sl 1 (x.locs.map intD)), .d (.sl 2 (x.vals.map ziD))]), (2, .row 28 2 (z_.map ziD))]) (show ((lowK s x5 v k) : List ZI) = (lowK s x5 v (k + 1)) from (by rw [lowK_keep hx6 (by rw [hc11, hc19]; first | done | rfl | simp)])))
               refine roundS (x := k) (y := k + 1) h ?_ ?_ (by kernel_rfl) (by kernel_rfl)
               ·have := at_lt hx6
                show k + 1 ≤ x5.moves.length
                omega
               ·show x5.moves.length - (k + 1) < x5.moves.length - k
                have := at_lt hx6; omega
            ·have hc20 := hc; clear hc
             have hc20' := hc20; (try simp at hc20')
             refine rSeq fam0ok 9 [(3, .cmp (op := .eql) (m := x6.v) (n := (v : Int)) (b := false) .i64 hc20)] [(2, vp 0 0), (3, vp 1 0), (5, vb b), (6, vi .i64 (q : Int)), (7, .t (.c (.own 2 (lowK s x5 v k).length))), (8, vi .i64 (v : Int)), (31, vi .i64 (s.acts.length : Int)), (32, vi .i64 (q : Int)), (38, vi .i64 (s.vars.length : Int)), (39, vi .i64 (v : Int)), (47, .t (.c (.d (.sl 5 (x5.moves.map MoveD.d))))), (48, vi .i64 (x5.moves.length : Int)), (49, vi .i64 (k : Int)), (86, vb false)] [(0, .box (sysC s)), (1, .box [.d (.sl 1 (x.locs.map intD)), .d (.sl 2 (x.vals.map ziD))]), (2, .row 28 2 ((lowK s x5 v k).map ziD))] (by kernel_rfl) h ?_; clear h; intro a w h
             refine condS false h rfl (fun hc => ?_) (fun hc => ?_)
             ·cases hc
             ·clear hc
              refine wp_skip ?_
              refine block_n ?_
              refine then_n ?_
              refine rS fam0ok 9 [(0, .add .i64 (m := (k : Int)) (n := 1) (i64_id (by omega) (by omega)))] [(2, vp 0 0), (3, vp 1 0), (5, vb b), (6, vi .i64 (q : Int)), (7, .t (.c (.own 2 (lowK s x5 v k).length))), (8, vi .i64 (v : Int)), (31, vi .i64 (s.acts.length : Int)), (32, vi .i64 (q : Int)), (38, vi .i64 (s.vars.length : Int)), (39, vi .i64 (v : Int)), (47, .t (.c (.d (.sl 5 (x5.moves.map MoveD.d))))), (48, vi .i64 (x5.moves.length : Int)), (49, vi .i64 ((k : Int) + 1))] [(0, .box (sysC s)), (1, .box [.d (.sl 1 (x.locs.map intD)), .d (.sl 2 (x.vals.map ziD))]), (2, .row 28 2 ((lowK s x5 v k).map ziD))] (by kernel_rfl) h ?_; clear h; intro a w h
              refine then_n ?_
              replace h := h.conv (f' := F.of [(2, vp 0 0), (3, vp 1 0), (5, vb b), (6, vi .i64 (q : Int)), (7, .t (.c (.own 2 (lowK s x5 v (k + 1)).length))), (8, vi .i64 (v : Int)), (31, vi .i64 (s.acts.length : Int)), (32, vi .i64 (q : Int)), (38, vi .i64 (s.vars.length : Int)), (39, vi .i64 (v : Int)), (47, .t (.c (.d (.sl 5 (x5.moves.map MoveD.d))))), (48, vi .i64 (x5.moves.length : Int)), (49, vi .i64 ((k : Int) + 1))] [(0, .box (sysC s)), (1, .box [.d (.sl 1 (x.locs.map intD)), .d (.sl 2 (x.vals.map ziD))]), (2, .row 28 2 ((lowK s x5 v (k + 1)).map ziD))]) (congrArg (fun (z_ : List ZI) => F.of [(2, vp 0 0), (3, vp 1 0), (5, vb b), (6, vi .i64 (q : Int)), (7, .t (.c (.own 2 z_.length))), (8, vi .i64 (v : Int)), (31, vi .i64 (s.acts.length : Int)), (32, vi .i64 (q : Int)), (38, vi .i64 (s.vars.length : Int)), (39, vi .i64 (v : Int)), (47, .t (.c (.d (.sl 5 (x5.moves.map MoveD.d))))), (48, vi .i64 (x5.moves.length : Int)), (49, vi .i64 ((k : Int) + 1))] [(0, .box (sysC s)), (1, .box [.d (.sl 1 (x.locs.map intD)), .d (.sl 2 (x.vals.map ziD))]), (2, .row 28 2 (z_.map ziD))]) (show ((lowK s x5 v k) : List ZI) = (lowK s x5 v (k + 1)) from (by rw [lowK_keep hx6 (by rw [hc20]; first | done | rfl | simp)])))
              refine roundS (x := k) (y := k + 1) h ?_ ?_ (by kernel_rfl) (by kernel_rfl)
              ·have := at_lt hx6
               show k + 1 ≤ x5.moves.length
               omega
              ·show x5.moves.length - (k + 1) < x5.moves.length - k
               have := at_lt hx6; omega
         ·have hc21 := hc; clear hc
          have hc21' := of_decide_eq_false hc21
          refine wp_exit ?_
          refine then_x ?_
          refine then_x ?_
          refine inBlock_exit ?_
          refine block_n ?_
          refine then_n ?_
          refine rS fam0ok 9 [(0, .add .i64 (m := (v : Int)) (n := 1) (i64_id (by omega) (by omega)))] [(2, vp 0 0), (3, vp 1 0), (5, vb b), (6, vi .i64 (q : Int)), (7, .t (.c (.own 2 (lowK s x5 v k).length))), (31, vi .i64 (s.acts.length : Int)), (32, vi .i64 (q : Int)), (38, vi .i64 (s.vars.length : Int)), (39, vi .i64 ((v : Int) + 1))] [(0, .box (sysC s)), (1, .box [.d (.sl 1 (x.locs.map intD)), .d (.sl 2 (x.vals.map ziD))]), (2, .row 28 2 ((lowK s x5 v k).map ziD))] (by kernel_rfl) h ?_; clear h; intro a w h
          refine then_n ?_
          replace h := h.conv (f' := F.of [(2, vp 0 0), (3, vp 1 0), (5, vb b), (6, vi .i64 (q : Int)), (7, .t (.c (.own 2 (freeL (lowAt s) x5 (v + 1)).length))), (31, vi .i64 (s.acts.length : Int)), (32, vi .i64 (q : Int)), (38, vi .i64 (s.vars.length : Int)), (39, vi .i64 ((v : Int) + 1))] [(0, .box (sysC s)), (1, .box [.d (.sl 1 (x.locs.map intD)), .d (.sl 2 (x.vals.map ziD))]), (2, .row 28 2 ((freeL (lowAt s) x5 (v + 1)).map ziD))]) (congrArg (fun (z_ : List ZI) => F.of [(2, vp 0 0), (3, vp 1 0), (5, vb b), (6, vi .i64 (q : Int)), (7, .t (.c (.own 2 z_.length))), (31, vi .i64 (s.acts.length : Int)), (32, vi .i64 (q : Int)), (38, vi .i64 (s.vars.length : Int)), (39, vi .i64 ((v : Int) + 1))] [(0, .box (sysC s)), (1, .box [.d (.sl 1 (x.locs.map intD)), .d (.sl 2 (x.vals.map ziD))]), (2, .row 28 2 (z_.map ziD))]) (show ((lowK s x5 v k) : List ZI) = (freeL (lowAt s) x5 (v + 1)) from (by rw [← lowK_all, show x5.moves.length = k by have := of_decide_eq_false hc21; omega])))
          refine roundS (x := v) (y := v + 1) h ?_ ?_ (by kernel_rfl) (by kernel_rfl)
          ·show v + 1 ≤ s.vars.length
           omega
          ·show s.vars.length - (v + 1) < s.vars.length - v
           omega
       ·have hc22 := hc; clear hc
        have hc22' := of_decide_eq_false hc22
        refine wp_exit ?_
        refine then_x ?_
        refine then_x ?_
        refine inBlock_exit ?_
        refine then_n ?_
        replace h := h.conv (f' := F.of [(2, vp 0 0), (3, vp 1 0), (5, vb b), (6, vi .i64 (q : Int)), (7, .t (.c (.own 2 (lowsC s x5).length))), (31, vi .i64 (s.acts.length : Int)), (32, vi .i64 (q : Int)), (38, vi .i64 (s.vars.length : Int)), (39, vi .i64 (v : Int)), (40, vb (decide ((v : Int) < (s.vars.length : Int))))] [(0, .box (sysC s)), (1, .box [.d (.sl 1 (x.locs.map intD)), .d (.sl 2 (x.vals.map ziD))]), (2, .row 28 2 ((lowsC s x5).map ziD))]) (congrArg (fun (z_ : List ZI) => F.of [(2, vp 0 0), (3, vp 1 0), (5, vb b), (6, vi .i64 (q : Int)), (7, .t (.c (.own 2 z_.length))), (31, vi .i64 (s.acts.length : Int)), (32, vi .i64 (q : Int)), (38, vi .i64 (s.vars.length : Int)), (39, vi .i64 (v : Int)), (40, vb (decide ((v : Int) < (s.vars.length : Int))))] [(0, .box (sysC s)), (1, .box [.d (.sl 1 (x.locs.map intD)), .d (.sl 2 (x.vals.map ziD))]), (2, .row 28 2 (z_.map ziD))]) (show ((freeL (lowAt s) x5 v) : List ZI) = (lowsC s x5) from (by unfold lowsC; rw [show s.vars.length = v by have := of_decide_eq_false hc22; omega])))
        replace h := pubS 2 2 28 ((lowsC s x5).map ziD) [(2, vp 0 0), (3, vp 1 0), (5, vb b), (6, vi .i64 (q : Int)), (7, .t (.c (.d (.sl 2 ((lowsC s x5).map ziD))))), (31, vi .i64 (s.acts.length : Int)), (32, vi .i64 (q : Int)), (38, vi .i64 (s.vars.length : Int)), (39, vi .i64 (v : Int)), (40, vb (decide ((v : Int) < (s.vars.length : Int))))] [(0, .box (sysC s)), (1, .box [.d (.sl 1 (x.locs.map intD)), .d (.sl 2 (x.vals.map ziD))])] h rfl (show AllEq _ [(lowsC s x5).length] from ⟨by first | exact (List.length_map _).symm | (simp; done) | (simp; omega), trivial⟩) trivial (by kernel_rfl) (by kernel_rfl)
        refine rSeq fam0ok 9 [(4, .call (Fn.cast (SGo s x (q : Int) (lowsC s x5) (L := 3) (M := 3) (by decide) hsO hxO (freeL_ok (low_ok hsO) x5 _)) (show (.tup [.agg [.d (.sl 1 ((goS s x (q : Int) (lowsC s x5)).1.locs.map intD)), .d (.sl 2 ((goS s x (q : Int) (lowsC s x5)).1.vals.map ziD))], .c (.d (.raw (.bool (goS s x (q : Int) (lowsC s x5)).2)))] : V) = .tup [.agg [.d (.sl 1 ((goS s x (q : Int) (lowsC s x5)).1.locs.map intD)), .d (.sl 2 ((goS s x (q : Int) (lowsC s x5)).1.vals.map ziD))], .c (.d (.raw (.bool (can s x (q : Int)))))] from by rw [go_can hx5])) km_9)] [(2, vp 0 0), (3, vp 1 0), (5, vb b), (6, vi .i64 (q : Int)), (15, vp 9 0), (16, vb (can s x (q : Int))), (31, vi .i64 (s.acts.length : Int)), (32, vi .i64 (q : Int))] [(0, .box (sysC s)), (1, .box [.d (.sl 1 (x.locs.map intD)), .d (.sl 2 (x.vals.map ziD))]), (9, .box [.d (.sl 1 ((goS s x (q : Int) (lowsC s x5)).1.locs.map intD)), .d (.sl 2 ((goS s x (q : Int) (lowsC s x5)).1.vals.map ziD))])] (by kernel_rfl) h ?_; clear h; intro a w h
        refine wp_seq ?_
        rcases Bool.eq_false_or_eq_true (can s x (q : Int)) with hc | hc
        ·have hc23 := hc; clear hc
         rw [hc23] at h
         refine rSeq fam0ok 10 [(4, .call (Fn.cast (SCan s x (q : Int) (L := 3) (M := 3) (by decide) hsO hxO) (congrArg vb hc23)) kk_12), (5, .cmpb .neq (m := true) (n := true) (b := false) (.inr ⟨rfl, (show (true != true) = false from by simp).symm⟩)), (11, .call (Fn.cast (SFits s (goS s x (q : Int) (lowsC s x5)).1 (L := 3) (M := 8) (by decide) hsO (goS_ok (i := (q : Int)) hsO hxO (freeL_ok (low_ok hsO) x5 _))) (congrArg vb (go_fits (by omega) ((go_can hx5).trans hc23)))) kg_9), (18, .call (Fn.cast (SLeads s x (q : Int) (goS s x (q : Int) (lowsC s x5)).1 (L := 3) (M := 8) (by decide) hsO (hxO.mono (by decide)) (goS_ok (i := (q : Int)) hsO hxO (freeL_ok (low_ok hsO) x5 _))) (congrArg vb (goS_leads ((go_can hx5).trans hc23)))) kn_8)] [(2, vp 0 0), (3, vp 1 0), (5, vb b), (16, vb true), (31, vi .i64 (s.acts.length : Int)), (32, vi .i64 (q : Int)), (143, vb false)] [(0, .box (sysC s)), (1, .box [.d (.sl 1 (x.locs.map intD)), .d (.sl 2 (x.vals.map ziD))])] (by kernel_rfl) h ?_; clear h; intro a w h
         refine condS false h rfl (fun hc => ?_) (fun hc => ?_)
         ·cases hc
         ·clear hc
          refine wp_skip ?_
          refine then_n ?_
          rcases Bool.eq_false_or_eq_true b with hc | hc
          ·have hc24 := hc; clear hc
           rw [hc24] at h
           refine rS fam0ok 10 [] [(2, vp 0 0), (3, vp 1 0), (5, vb true), (31, vi .i64 (s.acts.length : Int)), (32, vi .i64 (q : Int))] [(0, .box (sysC s)), (1, .box [.d (.sl 1 (x.locs.map intD)), .d (.sl 2 (x.vals.map ziD))])] (by kernel_rfl) h ?_; clear h; intro a w h
           refine block_n ?_
           refine then_n ?_
           refine rS fam0ok 10 [(0, .add .i64 (m := (q : Int)) (n := 1) (i64_id (by omega) (by omega)))] [(2, vp 0 0), (3, vp 1 0), (5, vb true), (31, vi .i64 (s.acts.length : Int)), (32, vi .i64 ((q : Int) + 1))] [(0, .box (sysC s)), (1, .box [.d (.sl 1 (x.locs.map intD)), .d (.sl 2 (x.vals.map ziD))])] (by kernel_rfl) h ?_; clear h; intro a w h
           refine then_n ?_
           refine roundS (x := (q, b)) (y := (q + 1, true)) h ?_ ?_ (by kernel_rfl) (by kernel_rfl)
           ·have := at_lt hx5
            exact ⟨by omega, (by rw [some_step, ← hQ2, hc24, hc23]; first | done | rfl)⟩
           ·show s.acts.length - (q + 1) < s.acts.length - q
            have := at_lt hx5; omega
          ·have hc25 := hc; clear hc
           rw [hc25] at h
           refine rS fam0ok 10 [] [(2, vp 0 0), (3, vp 1 0), (5, vb true), (31, vi .i64 (s.acts.length : Int)), (32, vi .i64 (q : Int))] [(0, .box (sysC s)), (1, .box [.d (.sl 1 (x.locs.map intD)), .d (.sl 2 (x.vals.map ziD))])] (by kernel_rfl) h ?_; clear h; intro a w h
           refine block_n ?_
           refine then_n ?_
           refine rS fam0ok 10 [(0, .add .i64 (m := (q : Int)) (n := 1) (i64_id (by omega) (by omega)))] [(2, vp 0 0), (3, vp 1 0), (5, vb true), (31, vi .i64 (s.acts.length : Int)), (32, vi .i64 ((q : Int) + 1))] [(0, .box (sysC s)), (1, .box [.d (.sl 1 (x.locs.map intD)), .d (.sl 2 (x.vals.map ziD))])] (by kernel_rfl) h ?_; clear h; intro a w h
           refine then_n ?_
           refine roundS (x := (q, b)) (y := (q + 1, true)) h ?_ ?_ (by kernel_rfl) (by kernel_rfl)
           ·have := at_lt hx5
            exact ⟨by omega, (by rw [some_step, ← hQ2, hc25, hc23]; first | done | rfl)⟩
           ·show s.acts.length - (q + 1) < s.acts.length - q
            have := at_lt hx5; omega
        ·have hc26 := hc; clear hc
         rw [hc26] at h
         refine rSeq fam0ok 10 [(4, .call (Fn.cast (SCan s x (q : Int) (L := 3) (M := 3) (by decide) hsO hxO) (congrArg vb hc26)) kk_12), (5, .cmpb .neq (m := false) (n := false) (b := false) (.inr ⟨rfl, (show (false != false) = false from by simp).symm⟩))] [(2, vp 0 0), (3, vp 1 0), (5, vb b), (16, vb false), (31, vi .i64 (s.acts.length : Int)), (32, vi .i64 (q : Int)), (143, vb false)] [(0, .box (sysC s)), (1, .box [.d (.sl 1 (x.locs.map intD)), .d (.sl 2 (x.vals.map ziD))])] (by kernel_rfl) h ?_; clear h; intro a w h
         refine condS false h rfl (fun hc => ?_) (fun hc => ?_)
         ·cases hc
         ·clear hc
          refine wp_skip ?_
          refine then_n ?_
          rcases Bool.eq_false_or_eq_true b with hc | hc
          ·have hc27 := hc; clear hc
           rw [hc27] at h
           refine rS fam0ok 10 [] [(2, vp 0 0), (3, vp 1 0), (5, vb true), (31, vi .i64 (s.acts.length : Int)), (32, vi .i64 (q : Int))] [(0, .box (sysC s)), (1, .box [.d (.sl 1 (x.locs.map intD)), .d (.sl 2 (x.vals.map ziD))])] (by kernel_rfl) h ?_; clear h; intro a w h
           refine block_n ?_
           refine then_n ?_
           refine rS fam0ok 10 [(0, .add .i64 (m := (q : Int)) (n := 1) (i64_id (by omega) (by omega)))] [(2, vp 0 0), (3, vp 1 0), (5, vb true), (31, vi .i64 (s.acts.length : Int)), (32, vi .i64 ((q : Int) + 1))] [(0, .box (sysC s)), (1, .box [.d (.sl 1 (x.locs.map intD)), .d (.sl 2 (x.vals.map ziD))])] (by kernel_rfl) h ?_; clear h; intro a w h
           refine then_n ?_
           refine roundS (x := (q, b)) (y := (q + 1, true)) h ?_ ?_ (by kernel_rfl) (by kernel_rfl)
           ·have := at_lt hx5
            exact ⟨by omega, (by rw [some_step, ← hQ2, hc27, hc26]; first | done | rfl)⟩
           ·show s.acts.length - (q + 1) < s.acts.length - q
            have := at_lt hx5; omega
          ·have hc28 := hc; clear hc
           rw [hc28] at h
           refine rS fam0ok 10 [] [(2, vp 0 0), (3, vp 1 0), (5, vb false), (31, vi .i64 (s.acts.length : Int)), (32, vi .i64 (q : Int))] [(0, .box (sysC s)), (1, .box [.d (.sl 1 (x.locs.map intD)), .d (.sl 2 (x.vals.map ziD))])] (by kernel_rfl) h ?_; clear h; intro a w h
           refine block_n ?_
           refine then_n ?_
           refine rS fam0ok 10 [(0, .add .i64 (m := (q : Int)) (n := 1) (i64_id (by omega) (by omega)))] [(2, vp 0 0), (3, vp 1 0), (5, vb false), (31, vi .i64 (s.acts.length : Int)), (32, vi .i64 ((q : Int) + 1))] [(0, .box (sysC s)), (1, .box [.d (.sl 1 (x.locs.map intD)), .d (.sl 2 (x.vals.map ziD))])] (by kernel_rfl) h ?_; clear h; intro a w h
           refine then_n ?_
           refine roundS (x := (q, b)) (y := (q + 1, false)) h ?_ ?_ (by kernel_rfl) (by kernel_rfl)
           ·have := at_lt hx5
            exact ⟨by omega, (by rw [some_step, ← hQ2, hc28, hc26]; first | done | rfl)⟩
           ·show s.acts.length - (q + 1) < s.acts.length - q
            have := at_lt hx5; omega
     ·have hc29 := hc; clear hc
      have hc29' := of_decide_eq_false hc29
      refine wp_exit ?_
      refine then_x ?_
      refine then_x ?_
      refine inBlock_exit ?_
      refine then_n ?_
      have hbe : b = someCan s x s.acts.length := by rw [hQ2, show s.acts.length = q by have := of_decide_eq_false hc29; omega]
      refine rSeq fam0ok 10 [(2, .call (Fn.argw (Fn.cast (SGo s x (-1) [] (L := 3) (M := 3) (by decide) hsO hxO (fun z hz => by cases hz)) (show (.tup [.agg [.d (.sl 1 ((goS s x (-1) []).1.locs.map intD)), .d (.sl 2 ((goS s x (-1) []).1.vals.map ziD))], .c (.d (.raw (.bool (goS s x (-1) []).2)))] : V) = .tup [.agg [.d (.sl 1 ((goS s x (-1) []).1.locs.map intD)), .d (.sl 2 ((goS s x (-1) []).1.vals.map ziD))], .c (.d (.raw (.bool (stuck s x))))] from by rw [go_stuck])) (.cons _ _ _ _ (.refl _) (.cons _ _ _ _ (.refl _) (.cons _ _ _ _ (.refl _) (.cons _ _ _ _ (.c _ _ (.nil _)) .nil))))) km_9)] [(2, vp 0 0), (3, vp 1 0), (5, vb b), (17, vp 10 0), (18, vb (stuck s x))] [(0, .box (sysC s)), (1, .box [.d (.sl 1 (x.locs.map intD)), .d (.sl 2 (x.vals.map ziD))]), (10, .box [.d (.sl 1 ((goS s x (-1) []).1.locs.map intD)), .d (.sl 2 ((goS s x (-1) []).1.vals.map ziD))])] (by kernel_rfl) h ?_; clear h; intro a w h
      refine wp_seq ?_
      refine rSeq fam0ok 11 [(2, .call (SFits s x (L := 3) (M := 3) (by decide) hsO hxO) kg_9)] [(2, vp 0 0), (3, vp 1 0), (5, vb b), (17, vp 10 0), (18, vb (stuck s x)), (158, vb (!(fits s x)))] [(0, .box (sysC s)), (1, .box [.d (.sl 1 (x.locs.map intD)), .d (.sl 2 (x.vals.map ziD))]), (10, .box [.d (.sl 1 ((goS s x (-1) []).1.locs.map intD)), .d (.sl 2 ((goS s x (-1) []).1.vals.map ziD))])] (by kernel_rfl) h ?_; clear h; intro a w h
      refine condS (!(fits s x)) h rfl (fun hc => ?_) (fun hc => ?_)
      ·have hc30 := hc; clear hc
       have hc30' := hc30; (try simp at hc30')
       rcases Bool.eq_false_or_eq_true b with hc | hc
       ·have hc31 := hc; clear hc
        have hz := (some_none (show (fits s x) = false from by simpa using hc30)).1; rw [← hbe, hc31] at hz; cases hz
       ·have hc32 := hc; clear hc
        rw [hc32] at h
        rcases Bool.eq_false_or_eq_true (stuck s x) with hc | hc
        ·have hc33 := hc; clear hc
         have hz := (some_none (show (fits s x) = false from by simpa using hc30)).2; rw [hc33] at hz; cases hz
        ·have hc34 := hc; clear hc
         rw [hc34] at h
         refine rSeq fam0ok 11 [(9, .call (Fn.cast (SStuck s x (L := 3) (M := 3) (by decide) hsO hxO) (congrArg vb hc34)) kl_0)] [(2, vp 0 0), (3, vp 1 0), (4, vb true), (5, vb false), (17, vp 10 0), (18, vb false)] [(0, .box (sysC s)), (1, .box [.d (.sl 1 (x.locs.map intD)), .d (.sl 2 (x.vals.map ziD))]), (10, .box [.d (.sl 1 ((goS s x (-1) []).1.locs.map intD)), .d (.sl 2 ((goS s x (-1) []).1.vals.map ziD))])] (by kernel_rfl) h ?_; clear h; intro a w h
         refine wp_ret ?_
         refine then_r ?_
         refine retS [.c (.d (.raw (.bool true)))] h Exit.ret (.inl rfl)  rfl ⟨RV.tmp _ _ rfl, trivial⟩ ?_ (by kernel_rfl) (by kernel_rfl)
         rfl
      ·have hc35 := hc; clear hc
       have hc35' := hc35; (try simp at hc35')
       refine wp_skip ?_
       refine then_n ?_
       rcases Bool.eq_false_or_eq_true (stuck s x) with hc | hc
       ·have hc36 := hc; clear hc
        rw [hc36] at h
        rcases Bool.eq_false_or_eq_true (b != true) with hc | hc
        ·have hc37 := hc; clear hc
         have hc37' := hc37; (try simp at hc37')
         refine rSeq fam0ok 11 [(2, .cmpb .neq (m := b) (n := true) (b := true) (.inr ⟨rfl, hc37.symm⟩)), (7, .call (Fn.cast (SStuck s x (L := 3) (M := 3) (by decide) hsO hxO) (congrArg vb hc36)) kl_0), (8, .cmpb .eql (m := true) (n := true) (b := true) (.inl ⟨rfl, (show (true == true) = true from by simp).symm⟩)), (16, .call (Fn.cast (SSame x (goS s x (-1) []).1 (M := 8) (by decide) (hxO.mono (by decide)) (goS_ok (i := -1) hsO hxO (fun z hz => by cases hz))) (congrArg vb (show sameS x (goS s x (-1) []).1 = true from by rw [show (goS s x (-1) []).1 = cloneS x from by unfold goS; rw [if_pos ⟨rfl, hc36⟩]]; exact same_clone x))) km_1), (21, .call (Fn.cast (SLeads s x (-1) x (L := 3) (M := 3) (by decide) hsO hxO hxO) (congrArg vb (show leads s x (-1) x = true from by unfold leads; rw [if_pos rfl, hc36, sameS_refl]; rfl))) kn_8)] [(4, vb true)] [] (by kernel_rfl) h ?_; clear h; intro a w h
         refine wp_ret ?_
         refine retS [.c (.d (.raw (.bool true)))] h Exit.ret (.inl rfl)  rfl ⟨RV.tmp _ _ rfl, trivial⟩ ?_ (by kernel_rfl) (by kernel_rfl)
         rfl
        ·have hc38 := hc; clear hc
         have hc38' := hc38; (try simp at hc38')
         rw [show (b != true) = (b != stuck s x) from by rw [hc36], hbe, some_stuck (show (fits s x) = true from by simpa using hc35)] at hc38; cases hc38
       ·have hc39 := hc; clear hc
        rw [hc39] at h
        rcases Bool.eq_false_or_eq_true (b != false) with hc | hc
        ·have hc40 := hc; clear hc
         have hc40' := hc40; (try simp at hc40')
         refine rSeq fam0ok 11 [(2, .cmpb .neq (m := b) (n := false) (b := true) (.inr ⟨rfl, hc40.symm⟩)), (7, .call (Fn.cast (SStuck s x (L := 3) (M := 3) (by decide) hsO hxO) (congrArg vb hc39)) kl_0), (8, .cmpb .eql (m := false) (n := false) (b := true) (.inl ⟨rfl, (show (false == false) = true from by simp).symm⟩))] [(4, vb true)] [] (by kernel_rfl) h ?_; clear h; intro a w h
         refine wp_ret ?_
         refine retS [.c (.d (.raw (.bool true)))] h Exit.ret (.inl rfl)  rfl ⟨RV.tmp _ _ rfl, trivial⟩ ?_ (by kernel_rfl) (by kernel_rfl)
         rfl
        ·have hc41 := hc; clear hc
         have hc41' := hc41; (try simp at hc41')
         rw [show (b != false) = (b != stuck s x) from by rw [hc39], hbe, some_stuck (show (fits s x) = true from by simpa using hc35)] at hc41; cases hc41
  ·have hc42 := hc; clear hc
   refine rSeq fam0ok 11 [(1, .call (Fn.cast (SFewSys s 3 hs) (congrArg vb hc42)) ky_1)] [(2, vp 0 0), (3, vp 1 0), (4, vb false), (28, vb true)] [(0, .box (sysC s)), (1, .box [.d (.sl 1 (x.locs.map intD)), .d (.sl 2 (x.vals.map ziD))])] (by kernel_rfl) h ?_; clear h; intro a w h
   refine condS true h rfl (fun hc => ?_) (fun hc => ?_)
   ·clear hc
    refine rSeq fam0ok 11 [] [(2, vp 0 0), (3, vp 1 0), (4, vb true)] [(0, .box (sysC s)), (1, .box [.d (.sl 1 (x.locs.map intD)), .d (.sl 2 (x.vals.map ziD))])] (by kernel_rfl) h ?_; clear h; intro a w h
    refine wp_ret ?_
    refine then_r ?_
    refine retS [.c (.d (.raw (.bool true)))] h Exit.ret (.inl rfl)  rfl ⟨RV.tmp _ _ rfl, trivial⟩ ?_ (by kernel_rfl) (by kernel_rfl)
    rfl
   ·cases hc
end Go.Proofs.Ytmohlifepfjmdaa.S
end
section
namespace Go.Proofs.Ytmohlifepfjmdaa.S
open Go.RowKit

end Go.Proofs.Ytmohlifepfjmdaa.S
end
section
namespace Go.Proofs.Ytmohlifepfjmdaa.S
open Go.RowKit

/-- a walk so far -/
structure WInv (s : SysD) (x : StD) (all : List StD) (acts : List Int) (j : Nat) : Prop where
  len : all.length = acts.length + 1
  le : acts.length ≤ j
  hd : all[0]? = some x
  ok : ∀ z ∈ all, StOk (2 + 4 * j) z
  step : ∀ k, k < acts.length → leads s ((all[k]?).getD st0) ((acts[k]?).getD 0) ((all[k + 1]?).getD st0) = true
end Go.Proofs.Ytmohlifepfjmdaa.S
end
section
namespace Go.Proofs.Ytmohlifepfjmdaa.S
open Go.RowKit

section
variable {w : World} {n : Nat}
theorem rep_raw {t e : TypeId} (hu : Try.prog.underlying t = some (.slice e)) : RepN w n t rawD (fun _ => True) := fun H enc base spare held fuel cs x hn hx => by
 rcases DataW.trod_slice hu hx with ⟨rfl, _⟩ | ⟨a, len, cap, elems, rest, m, rfl, rfl, _⟩
 ·exact ⟨.raw _, trivial, DR.raw _ rfl, trivial⟩
 ·exact ⟨.raw _, trivial, DR.raw _ rfl, trivial⟩
theorem rep_ZIl : RepN w n 41 (slD 2 ziD) (fun xs => xs.length ≤ maxLen ∧ ∀ x ∈ xs, Lb x.abs) :=
 rep_slice (k := 2) Try.underlying41 (by kernel_rfl) (by decide) (fun _ => rfl) rep_ZI
theorem rep_strs : RepN w n 22 (slD 1 strD) (fun xs => xs.length ≤ maxLen ∧ ∀ x ∈ xs, x.size ≤ maxLen) :=
 rep_slice (k := 1) Try.underlying22 (by kernel_rfl) (by decide) (fun _ => rfl) (rep_str Try.underlying9)
theorem rep_Rel : RepN w n 32 RelD.d (fun r => TLb r.t) :=
 ((rep_struct (n := n) Try.underlying32 (by kernel_rfl) (.cons (k0 := 3) rfl (by kernel_rfl) rep_Term (.cons (k0 := 1) rfl (by kernel_rfl) (rep_bool Try.underlying4) .nil))).map (fun p => ⟨p.1, p.2.1⟩) (fun _ => rfl) fun _ h => h.1).mono (Nat.le_succ n)
theorem rep_Form : ∀ {n : Nat}, RepN w n 35 FormD.d FormD.lb
 | 0 => RepN.zero
 | n + 1 => (rep_struct (n := n) Try.underlying35 (by kernel_rfl) (.cons (k0 := 1) rfl (by kernel_rfl) (rep_i64 Try.underlying3) (.cons (k0 := 4) rfl (by kernel_rfl) rep_Rel (.cons (k0 := 1) rfl (by kernel_rfl) (rep_slice (k := 6) Try.underlying33 (by kernel_rfl) (by decide) FormD.d_len rep_Form) .nil)))).map (fun p => ⟨p.1, p.2.1, p.2.2.1⟩) (fun _ => (FormD.d_eq _).trans rfl) fun _ h => (FormD.lb_eq _).2 ⟨⟨h.2.1, Nat.le_trans h.2.2.1.1 (by decide)⟩, h.2.2.1.2⟩
theorem rep_Bound : RepN w n 53 BoundD.d (fun b => Lb b.lo.abs ∧ Lb b.hi.abs) :=
 ((rep_struct (n := n) Try.underlying53 (by kernel_rfl) (.cons (k0 := 1) rfl (by kernel_rfl) (rep_bool Try.underlying4) (.cons (k0 := 2) rfl (by kernel_rfl) rep_ZI (.cons (k0 := 2) rfl (by kernel_rfl) rep_ZI .nil)))).map (fun p => ⟨p.1, p.2.1, p.2.2.1⟩) (fun _ => rfl) fun _ h => ⟨h.2.1, h.2.2.1⟩).mono (Nat.le_succ n)
theorem rep_Move : RepN w n 51 MoveD.d (fun m => TLb m.t) :=
 ((rep_struct (n := n) Try.underlying51 (by kernel_rfl) (.cons (k0 := 1) rfl (by kernel_rfl) (rep_i64 Try.underlying3) (.cons (k0 := 1) rfl (by kernel_rfl) (rep_bool Try.underlying4) (.cons (k0 := 3) rfl (by kernel_rfl) rep_Term .nil)))).map (fun p => ⟨p.1, p.2.1, p.2.2.1⟩) (fun _ => rfl) fun _ h => h.2.2.1).mono (Nat.le_succ n)
theorem rep_Moves : RepN w n 47 (slD 5 MoveD.d) (fun xs => xs.length ≤ maxLen ∧ ∀ x ∈ xs, TLb x.t) :=
 rep_slice (k := 5) Try.underlying47 (by kernel_rfl) (by decide) (fun _ => rfl) rep_Move
theorem rep_Bounds : RepN w n 23 (slD 5 BoundD.d) (fun xs => xs.length ≤ maxLen ∧ ∀ x ∈ xs, Lb x.lo.abs ∧ Lb x.hi.abs) :=
 rep_slice (k := 5) Try.underlying23 (by kernel_rfl) (by decide) (fun _ => rfl) rep_Bound
theorem rep_Act : RepN w n 49 ActD.d (fun c => c.guard.lb ∧ c.moves.length ≤ maxLen ∧ ∀ m ∈ c.moves, TLb m.t) :=
 ((rep_struct (n := n) Try.underlying49 (by kernel_rfl) (.cons (k0 := 1) rfl (by kernel_rfl) (rep_i64 Try.underlying3) (.cons (k0 := 1) rfl (by kernel_rfl) (rep_i64 Try.underlying3) (.cons (k0 := 1) rfl (by kernel_rfl) (rep_i64 Try.underlying3) (.cons (k0 := 6) rfl (by kernel_rfl) rep_Form (.cons (k0 := 1) rfl (by kernel_rfl) rep_Moves .nil)))))).map (fun p => ⟨p.1, p.2.1, p.2.2.1, p.2.2.2.1, p.2.2.2.2.1⟩) (fun _ => by rw [FormD.d_eq]; rfl) fun _ h => ⟨h.2.2.2.1, h.2.2.2.2.1⟩).mono (Nat.le_succ n)
theorem rep_Proc : RepN w n 89 ProcD.d (fun _ => True) :=
 ((rep_struct (n := n) Try.underlying89 (by kernel_rfl) (.cons (k0 := 1) rfl (by kernel_rfl) (rep_str Try.underlying9) (.cons (k0 := 1) rfl (by kernel_rfl) rep_strs (.cons (k0 := 1) rfl (by kernel_rfl) (rep_raw Try.underlying87) .nil)))).map (fun p => ⟨p.1, p.2.1, p.2.2.1⟩) (fun _ => rfl) fun _ _ => trivial).mono (Nat.le_succ n)
theorem rep_Procs : RepN w n 36 (slD 3 ProcD.d) (fun xs => xs.length ≤ maxLen ∧ ∀ x ∈ xs, True) :=
 rep_slice (k := 3) Try.underlying36 (by kernel_rfl) (by decide) (fun _ => rfl) rep_Proc
theorem rep_Acts : RepN w n 37 (slD 10 ActD.d) (fun xs => xs.length ≤ maxLen ∧ ∀ x ∈ xs, x.guard.lb ∧ x.moves.length ≤ maxLen ∧ ∀ m ∈ x.moves, TLb m.t) :=
 rep_slice (k := 10) Try.underlying37 (by kernel_rfl) (by decide) (fun _ => rfl) rep_Act
theorem rep_Sys : RepN w n 39 SysD.d SysRd :=
 ((rep_struct (n := n) Try.underlying39 (by kernel_rfl) (.cons (k0 := 1) rfl (by kernel_rfl) rep_strs (.cons (k0 := 1) rfl (by kernel_rfl) rep_Bounds (.cons (k0 := 6) rfl (by kernel_rfl) rep_Form (.cons (k0 := 1) rfl (by kernel_rfl) rep_Procs (.cons (k0 := 1) rfl (by kernel_rfl) rep_Acts .nil)))))).map (fun p => ⟨p.1, p.2.1, p.2.2.1, p.2.2.2.1, p.2.2.2.2.1⟩) (fun _ => by rw [FormD.d_eq]; rfl) fun _ h => ⟨h.2.2.1, h.2.1.2, fun c hc => ⟨(h.2.2.2.2.1.2 c hc).1, (h.2.2.2.2.1.2 c hc).2.2⟩, ⟨Nat.le_trans h.2.1.1 (by decide), Nat.le_trans h.2.2.2.2.1.1 (by decide)⟩, fun c hc => Nat.le_trans (h.2.2.2.2.1.2 c hc).2.1 (by decide)⟩).mono (Nat.le_succ n)
theorem rep_State : RepN w n 43 StD.d StRd :=
 ((rep_struct (n := n) Try.underlying43 (by kernel_rfl) (.cons (k0 := 1) rfl (by kernel_rfl) rep_ints (.cons (k0 := 1) rfl (by kernel_rfl) rep_ZIl .nil))).map (fun p => ⟨p.1, p.2.1⟩) (fun _ => rfl) fun _ h => ⟨h.2.1.2, Nat.le_trans h.2.1.1 (by decide)⟩).mono (Nat.le_succ n)
end
end Go.Proofs.Ytmohlifepfjmdaa.S
end
section
namespace Go.Proofs.Ytmohlifepfjmdaa.S
open Go.RowKit

theorem SKripkeGoesW (s : SysD) (x : StD) (hs : SysRd s) (hx : StRd x) : Fn Try.prog 3 [] [vd (SysD.d s), vd (StD.d x)] (vb true) [] :=
 SKripkeGoes s x hs hx
end Go.Proofs.Ytmohlifepfjmdaa.S
end
section
namespace Go.Proofs.Ytmohlifepfjmdaa.kripkeGoesDone
open Go.ChangeShapes Go.WideShapes Go.ChangeAt Go.RowKit
open Go.ChangeMaps (open_string shut_string)
open Go.Proofs.Ytmohlifepfjmdaa.S

theorem own : ownKnob Try.prog.godebug = none := by kernel_rfl
theorem laidOut : laidOutB Try.prog = true := by kernel_rfl

theorem lifted (os : Os) (started : os.Started) (H : Type) (enc : TypeId × Value → H) :
  ReturnsInHanded {} Try.checked os 3 .any (Rows.kripkeGoesSpec.pre6 enc Try.prog Try.f3 Rows.kripkeGoesRow.domain false) (Rows.kripkeGoesSpec.post enc Try.prog Try.f3 false true false false) := by
 refine returnsInHanded_of_change (C := Try.checked) own started (by kernel_rfl) Try.func3
  (ChangeSpec.witness6 (enc := enc) (C := Try.checked) false ⟨#[], #[.agg #[.slice none 0 0, .slice none 0 0, .int .i64 0, .slice none 0 0, .bool false, .slice none 0 0, .bool false, .slice none 0 0, .slice none 0 0, .slice none 0 0], .agg #[.slice none 0 0, .slice none 0 0]], []⟩ 12 (by kernel_rfl) (by kernel_rfl) (by kernel_rfl) (by kernel_rfl)) ?_
 intro W base args ds gs before hval0 hW hcnd _
 have hval : ∀ (j : Nat) t v, Try.f3.params[j]? = some t → args[j]? = some v → Value.okWide Try.prog W .any base t v := hval0
 have hW' := hW
 obtain ⟨p, q, hA0, hV, rfl, hfz, hnd⟩ := hW
 have hA : DataW.TrodAll enc Try.prog W 0 (fun _ => true) true Try.f3.params.toList args.toList ds p := hA0
 rw [Try.params3] at hA hval
 obtain ⟨v0, vs0, d0, ds0, p0, q0, hargs, rfl, rfl, h0, r0⟩ := trodAll_cons hA
 obtain ⟨v1, vs1, d1, ds1, p1, q1, rfl, rfl, rfl, h1, r1⟩ := trodAll_cons r0
 obtain ⟨rfl, rfl, rfl⟩ := trodAll_nil r1
 obtain rfl : args = #[v0, v1] := by cases args; simp_all
 obtain ⟨rfl, rfl⟩ := trodVars_none hV
 have k0 := h0
 have lt0 : ∀ x ∈ p0, x.block < W.heap.size := by obtain ⟨m, hm⟩ := k0; exact DataW.trod_lt m _ _ _ hm
 obtain ⟨a0, cs0, g0, rfl, dr0⟩ := rep_agg Try.underlying39 (fun _ => rep_Sys) (hval 0 39 v0 rfl rfl) h0
 have k1 := h1
 have lt1 : ∀ x ∈ p1, x.block < W.heap.size := by obtain ⟨m, hm⟩ := k1; exact DataW.trod_lt m _ _ _ hm
 obtain ⟨a1, cs1, g1, rfl, dr1⟩ := rep_agg Try.underlying43 (fun _ => rep_State) (hval 1 43 v1 rfl rfl) h1
 clear hA0 hval0
 refine ((SKripkeGoesW a0 a1 g0 g1).calls (w := W) (vals := [.agg ⟨cs0⟩, .agg ⟨cs1⟩]) fun B => ⟨dr_vd dr0 B, dr_vd dr1 B, trivial⟩).mono fun e W' ⟨he, bel⟩ => ?_
 subst he
 exact ⟨_, rfl, _, _, _, [], _, [], hW', trodAll_mk1 (shut_bool Try.underlying4 _), (trodAll_cons_mk (Below.trod laidOut (by kernel_rfl) (of_decide_eq_true (by kernel_rfl)) k0 bel lt0) (trodAll_cons_mk (Below.trod laidOut (by kernel_rfl) (of_decide_eq_true (by kernel_rfl)) k1 bel lt1) trodAll_mk0)), rfl, bel.below.frame _, fun h => by cases h⟩

theorem over : Rows.kripkeGoesRow.holds Try.pinned (OpenSpec.ofChange Rows.kripkeGoesSpec) :=
 OpenClaim.holds_of_wide 3 Try.f3 rfl rfl rfl rfl rfl rfl rfl ⟨rfl, rfl, rfl, rfl, rfl⟩ rfl rfl rfl rfl rfl (by kernel_rfl) Try.func3 (by kernel_rfl)
  (of_decide_eq_true (by kernel_rfl)) (by unfold Func.isWrapper; first | (rw [if_pos (by decide +kernel)]; kernel_rfl) | (rw [if_neg (by decide +kernel)]; exact ⟨rfl, rfl⟩))
  (fun os started H enc _ => lifted os started H enc)

theorem proved : Rows.KripkeGoesSaid := over
end Go.Proofs.Ytmohlifepfjmdaa.kripkeGoesDone
end
