/-
  The proof of the statement KripkeRuns: the walk through the program and the references lifted to the given row. It holds for every input.
-/
import Derived.Test.YtmohlifepfjmdaaGreatVr5
import Derived.Test.YtmohlifepfjmdaaGreatVr2
import Derived.SizedLaws
import Derived.Test.YtmohlifepfjmdaaGreatRows
set_option maxRecDepth 100000
section
namespace Go.Proofs.YtmohlifepfjmdaaGreat.S
open Go.RowKit

theorem ks_2 : Bodied Tryz.prog 23 := Bodied.mk' (by kernel_rfl)
theorem ks_3 : Bodied Tryz.prog 16 := Bodied.mk' (by kernel_rfl)
theorem ks_5 : Bodied Tryz.prog 12 := Bodied.mk' (by kernel_rfl)
theorem ks_10 : Bodied Tryz.prog 58 := Bodied.mk' (by kernel_rfl)
theorem ks_13 : Sz Tryz.prog 66 2 true := Sz.mk' (by kernel_rfl) Tryz.underlying66 _ rfl
theorem ks_14 : SlT Tryz.prog 62 73 1 := SlT.mk' Tryz.underlying62 (by kernel_rfl)
theorem ks_15 : SlT Tryz.prog 73 4 1 := SlT.mk' Tryz.underlying73 (by kernel_rfl)
def runAt (r : RunD) (i : Nat) : StD := ((r.stem ++ r.cycle)[i]?).getD st0
theorem runAt_ok {M : Nat} {r : RunD} (h : RunOk M r) (i : Nat) : StOk M (runAt r i) := by
 unfold runAt
 cases hx : (r.stem ++ r.cycle)[i]? with
 | none => exact st0_ok
 | some x => exact h.all x (List.mem_of_getElem? hx)
theorem step_at (s : SysD) (r : RunD) (i : Nat) : stepOk s r i = leads s (runAt r i) ((r.acts[i]?).getD 0) (nxt r i) := rfl
theorem nxt_lt {r : RunD} {i : Nat} (h : i + 1 < (r.stem ++ r.cycle).length) : nxt r i = runAt r (i + 1) := by unfold nxt; rw [if_pos h]; rfl
set_option maxHeartbeats 4000000 in
theorem SRAt0 (r : RunD) (i : Nat) (hl : r.stem.length + r.cycle.length ≤ 10) (hi : i ≤ 1000) : Fn Tryz.prog 23 [] [.t (.agg [.d (.sl 2 (r.stem.map StD.d)), .d (.sl 2 (r.cycle.map StD.d)), .d (.sl 1 (r.acts.map intD))]), vi .i64 (i : Int)] (.t (.agg [.d (.sl 1 ((runAt r i).locs.map intD)), .d (.sl 2 ((runAt r i).vals.map ziD))])) [] := by
 have lall : (r.stem ++ r.cycle).length = r.stem.length + r.cycle.length := List.length_append
 refine Fn.body Tryz.func23 rfl 34 rfl fun w H B a h => ?_
 refine rSeq fam0ok 0 [] [(1, vi .i64 (i : Int)), (2, vp 0 0), (4, vp 1 0)] [(0, .box [.d (.sl 2 (r.stem.map StD.d)), .d (.sl 2 (r.cycle.map StD.d)), .d (.sl 1 (r.acts.map intD))]), (1, .box [.d (.raw nilV), .d (.raw nilV)])] (by kernel_rfl) h ?_; clear h; intro a w h
 refine wp_seq ?_
 refine rSeq fam0ok 2 [(3, .len (c := (.d (.sl 2 (r.stem.map StD.d)))) (n := r.stem.length) (lenC_map _ _ _))] [(1, vi .i64 (i : Int)), (2, vp 0 0), (4, vp 1 0), (9, vb (decide ((i : Int) < (r.stem.length : Int))))] [(0, .box [.d (.sl 2 (r.stem.map StD.d)), .d (.sl 2 (r.cycle.map StD.d)), .d (.sl 1 (r.acts.map intD))]), (1, .box [.d (.raw nilV), .d (.raw nilV)])] (by kernel_rfl) h ?_; clear h; intro a w h
 refine condS (decide ((i : Int) < (r.stem.length : Int))) h rfl (fun hc => ?_) (fun hc => ?_)
 ·have hc1 := hc; clear hc
  have hc1' := of_decide_eq_true hc1
  obtain ⟨x1, hx1⟩ : ∃ z_ : StD, r.stem[i]? = some z_ := ⟨_, List.getElem?_eq_getElem (by first | omega | (simp at *; omega))⟩
  refine rSeq fam0ok 2 [(3, .gen _ _ _ fun _ _ _ _ => Op.idxD (d := 13) (t := 11) (k := .i64) kn_0 (map_at hx1 (f := StD.d)) (OV.tmp 12 _))] [(1, vi .i64 (i : Int)), (2, vp 0 0), (4, vp 1 0)] [(0, .box [.d (.sl 2 (r.stem.map StD.d)), .d (.sl 2 (r.cycle.map StD.d)), .d (.sl 1 (r.acts.map intD))]), (1, .box [.d (.sl 1 (x1.locs.map intD)), .d (.sl 2 (x1.vals.map ziD))])] (by kernel_rfl) h ?_; clear h; intro a w h
  refine wp_ret ?_
  refine then_r ?_
  refine retS [.agg [.d (.sl 1 (x1.locs.map intD)), .d (.sl 2 (x1.vals.map ziD))]] h Exit.ret (.inl rfl)  rfl ⟨RV.agg _ 1 0 _ _ _ _ kk_5 rfl rfl rfl rfl, trivial⟩ ?_ (by kernel_rfl) (by kernel_rfl)
  have hz : runAt r i = x1 := by unfold runAt; rw [List.getElem?_append_left (by have := of_decide_eq_true hc1; omega), hx1]; rfl
  rw [hz]; first | done | rfl
 ·have hc2 := hc; clear hc
  have hc2' := of_decide_eq_false hc2
  refine wp_skip ?_
  refine then_n ?_
  refine wp_seq ?_
  refine rSeq fam0ok 2 [(3, .len (c := (.d (.sl 2 (r.stem.map StD.d)))) (n := r.stem.length) (lenC_map _ _ _)), (6, .len (c := (.d (.sl 2 (r.cycle.map StD.d)))) (n := r.cycle.length) (lenC_map _ _ _)), (7, .gen _ _ _ fun _ _ _ _ => Op.arith (op := .add) (d := 22) (xt := 3) (yt := 3) (k := .i64) (m := (r.stem.length : Int)) (n := (r.cycle.length : Int)) (r := ((r.stem ++ r.cycle).length : Int)) (OV.tmp 18 _) (OV.tmp 21 _) (.inl ⟨rfl, (by rw [List.length_append]; omega)⟩) (i64_id (by omega) (by omega)))] [(1, vi .i64 (i : Int)), (2, vp 0 0), (4, vp 1 0), (23, vb (decide ((i : Int) < ((r.stem ++ r.cycle).length : Int))))] [(0, .box [.d (.sl 2 (r.stem.map StD.d)), .d (.sl 2 (r.cycle.map StD.d)), .d (.sl 1 (r.acts.map intD))]), (1, .box [.d (.raw nilV), .d (.raw nilV)])] (by kernel_rfl) h ?_; clear h; intro a w h
  refine condS (decide ((i : Int) < ((r.stem ++ r.cycle).length : Int))) h rfl (fun hc => ?_) (fun hc => ?_)
  ·have hc3 := hc; clear hc
   have hc3' := of_decide_eq_true hc3
   obtain ⟨x2, hx2⟩ : ∃ z_ : StD, r.cycle[i - r.stem.length]? = some z_ := ⟨_, List.getElem?_eq_getElem (by have : (r.stem ++ r.cycle).length = r.stem.length + r.cycle.length := List.length_append; omega)⟩
   refine rSeq fam0ok 2 [(5, .len (c := (.d (.sl 2 (r.stem.map StD.d)))) (n := r.stem.length) (lenC_map _ _ _)), (6, .gen _ _ _ fun _ _ _ _ => Op.arith (op := .sub) (d := 30) (xt := 3) (yt := 3) (k := .i64) (m := (i : Int)) (n := (r.stem.length : Int)) (r := ((i - r.stem.length : Nat) : Int)) (OV.tmp 26 _) (OV.tmp 29 _) (.inr (.inl ⟨rfl, (by omega)⟩)) (i64_id (by omega) (by omega))), (7, .gen _ _ _ fun _ _ _ _ => Op.idxD (d := 31) (t := 25) (k := .i64) kn_0 (map_at hx2 (f := StD.d)) (OV.tmp 30 _))] [(4, vp 1 0)] [(1, .box [.d (.sl 1 (x2.locs.map intD)), .d (.sl 2 (x2.vals.map ziD))])] (by kernel_rfl) h ?_; clear h; intro a w h
   refine wp_ret ?_
   refine then_r ?_
   refine retS [.agg [.d (.sl 1 (x2.locs.map intD)), .d (.sl 2 (x2.vals.map ziD))]] h Exit.ret (.inl rfl)  rfl ⟨RV.agg _ 1 0 _ _ _ _ kk_5 rfl rfl rfl rfl, trivial⟩ ?_ (by kernel_rfl) (by kernel_rfl)
   have hz : runAt r i = x2 := by unfold runAt; rw [List.getElem?_append_right (by have := of_decide_eq_false hc2; omega), hx2]; rfl
   rw [hz]; first | done | rfl
  ·have hc4 := hc; clear hc
   have hc4' := of_decide_eq_false hc4
   refine wp_skip ?_
   refine then_n ?_
   refine rSeq fam0ok 2 [] [(4, vp 1 0)] [(1, .box [.d (.raw nilV), .d (.raw nilV)])] (by kernel_rfl) h ?_; clear h; intro a w h
   refine wp_ret ?_
   replace h := nilDLs 1 0 1 [.d (.raw nilV), .d (.raw nilV)] [(4, vp 1 0)] [(1, .box [.d (.sl 1 ([].map intD)), .d (.raw nilV)])] h rfl rfl (by kernel_rfl) (by kernel_rfl)
   replace h := nilDLs 1 1 2 [.d (.sl 1 ([].map intD)), .d (.raw nilV)] [(4, vp 1 0)] [(1, .box [.d (.sl 1 ([].map intD)), .d (.sl 2 ([].map ziD))])] h rfl rfl (by kernel_rfl) (by kernel_rfl)
   refine retS [.agg [.d (.sl 1 ([].map intD)), .d (.sl 2 ([].map ziD))]] h Exit.ret (.inl rfl)  rfl ⟨RV.agg _ 1 0 _ _ _ _ kk_5 rfl rfl rfl rfl, trivial⟩ ?_ (by kernel_rfl) (by kernel_rfl)
   have hz : runAt r i = st0 := by unfold runAt; rw [List.getElem?_eq_none (by have := of_decide_eq_false hc4; omega)]; rfl
   rw [hz]; first | done | rfl
theorem SRAt (r : RunD) (z : Int) (i : Nat) (hz : z = (i : Int)) (hl : r.stem.length + r.cycle.length ≤ 10) (hi : i ≤ 1000) : Fn Tryz.prog 23 [] [.t (.agg [.d (.sl 2 (r.stem.map StD.d)), .d (.sl 2 (r.cycle.map StD.d)), .d (.sl 1 (r.acts.map intD))]), vi .i64 z] (.t (.agg [.d (.sl 1 ((runAt r i).locs.map intD)), .d (.sl 2 ((runAt r i).vals.map ziD))])) [] := by subst hz; exact SRAt0 r i hl hi
set_option maxHeartbeats 4000000 in
theorem SRRight (s : SysD) (r : RunD) {L M : Nat} (hL : L + M ≤ 1900) (hs : SysOk L s) (hr : RunOk M r) : Fn Tryz.prog 28 [] [.t (.agg (sysC s)), .t (.agg [.d (.sl 2 (r.stem.map StD.d)), .d (.sl 2 (r.cycle.map StD.d)), .d (.sl 1 (r.acts.map intD))])] (vb (right s r)) [] := by
 have lr := hr.len
 have lall : (r.stem ++ r.cycle).length = r.stem.length + r.cycle.length := List.length_append
 refine Fn.body Tryz.func28 rfl 64 rfl fun w H B a h => ?_
 refine rSeq fam0ok 0 [] [(2, vp 0 0), (3, vp 1 0), (4, vb false)] [(0, .box (sysC s)), (1, .box [.d (.sl 2 (r.stem.map StD.d)), .d (.sl 2 (r.cycle.map StD.d)), .d (.sl 1 (r.acts.map intD))])] (by kernel_rfl) h ?_; clear h; intro a w h
 refine rSeq fam0ok 2 [(2, .len (c := (.d (.sl 2 (r.stem.map StD.d)))) (n := r.stem.length) (lenC_map _ _ _)), (5, .len (c := (.d (.sl 2 (r.cycle.map StD.d)))) (n := r.cycle.length) (lenC_map _ _ _)), (6, .gen _ _ _ fun _ _ _ _ => Op.arith (op := .add) (d := 14) (xt := 3) (yt := 3) (k := .i64) (m := (r.stem.length : Int)) (n := (r.cycle.length : Int)) (r := ((r.stem ++ r.cycle).length : Int)) (OV.tmp 10 _) (OV.tmp 13 _) (.inl ⟨rfl, (by rw [List.length_append]; omega)⟩) (i64_id (by omega) (by omega)))] [(2, vp 0 0), (3, vp 1 0), (4, vb false), (5, vi .i64 ((r.stem ++ r.cycle).length : Int))] [(0, .box (sysC s)), (1, .box [.d (.sl 2 (r.stem.map StD.d)), .d (.sl 2 (r.cycle.map StD.d)), .d (.sl 1 (r.acts.map intD))])] (by kernel_rfl) h ?_; clear h; intro a w h
 refine wp_seq ?_
 rcases Bool.eq_false_or_eq_true ((r.cycle.length : Int) == 0) with hc | hc
 ·have hc1 := hc; clear hc
  have hc1' := hc1; (try simp at hc1')
  refine rSeq fam0ok 2 [(2, .len (c := (.d (.sl 2 (r.cycle.map StD.d)))) (n := r.cycle.length) (lenC_map _ _ _)), (3, .cmp (op := .eql) (m := (r.cycle.length : Int)) (n := 0) (b := true) .i64 hc1)] [(2, vp 0 0), (3, vp 1 0), (4, vb false), (5, vi .i64 ((r.stem ++ r.cycle).length : Int)), (25, vb true)] [(0, .box (sysC s)), (1, .box [.d (.sl 2 (r.stem.map StD.d)), .d (.sl 2 (r.cycle.map StD.d)), .d (.sl 1 (r.acts.map intD))])] (by kernel_rfl) h ?_; clear h; intro a w h
  refine condS true h rfl (fun hc => ?_) (fun hc => ?_)
  ·clear hc
   refine rSeq fam0ok 2 [] [(2, vp 0 0), (3, vp 1 0), (4, vb false), (5, vi .i64 ((r.stem ++ r.cycle).length : Int))] [(0, .box (sysC s)), (1, .box [.d (.sl 2 (r.stem.map StD.d)), .d (.sl 2 (r.cycle.map StD.d)), .d (.sl 1 (r.acts.map intD))])] (by kernel_rfl) h ?_; clear h; intro a w h
   refine wp_ret ?_
   refine then_r ?_
   refine retS [.c (.d (.raw (.bool false)))] h Exit.ret (.inl rfl)  rfl ⟨RV.tmp _ _ rfl, trivial⟩ ?_ (by kernel_rfl) (by kernel_rfl)
   have hz : right s r = false := by unfold right; rw [decide_eq_false (by have := hc1; simp at this; intro h; exact h.1 (by simp [this]))]; rfl
   rw [hz]; first | done | rfl
  ·cases hc
 ·have hc2 := hc; clear hc
  have hc2' := hc2; (try simp at hc2')
  have hcl : 0 < r.cycle.length := by have := beq_eq_false_iff_ne.1 hc2; omega
  refine rSeq fam0ok 2 [(2, .len (c := (.d (.sl 2 (r.cycle.map StD.d)))) (n := r.cycle.length) (lenC_map _ _ _)), (3, .cmp (op := .eql) (m := (r.cycle.length : Int)) (n := 0) (b := false) .i64 hc2), (7, .len (c := (.d (.sl 1 (r.acts.map intD)))) (n := r.acts.length) (lenC_map _ _ _))] [(2, vp 0 0), (3, vp 1 0), (4, vb false), (5, vi .i64 ((r.stem ++ r.cycle).length : Int)), (25, vb ((r.acts.length : Int) != ((r.stem ++ r.cycle).length : Int)))] [(0, .box (sysC s)), (1, .box [.d (.sl 2 (r.stem.map StD.d)), .d (.sl 2 (r.cycle.map StD.d)), .d (.sl 1 (r.acts.map intD))])] (by kernel_rfl) h ?_; clear h; intro a w h
  refine condS ((r.acts.length : Int) != ((r.stem ++ r.cycle).length : Int)) h rfl (fun hc => ?_) (fun hc => ?_)
  ·have hc3 := hc; clear hc
   have hc3' := hc3; (try simp at hc3')
   refine rSeq fam0ok 2 [] [(2, vp 0 0), (3, vp 1 0), (4, vb false), (5, vi .i64 ((r.stem ++ r.cycle).length : Int))] [(0, .box (sysC s)), (1, .box [.d (.sl 2 (r.stem.map StD.d)), .d (.sl 2 (r.cycle.map StD.d)), .d (.sl 1 (r.acts.map intD))])] (by kernel_rfl) h ?_; clear h; intro a w h
   refine wp_ret ?_
   refine then_r ?_
   refine retS [.c (.d (.raw (.bool false)))] h Exit.ret (.inl rfl)  rfl ⟨RV.tmp _ _ rfl, trivial⟩ ?_ (by kernel_rfl) (by kernel_rfl)
   have hz : right s r = false := by unfold right; rw [decide_eq_false (by have := hc3; simp at this; intro h; have := h.2; simp at this; omega)]; rfl
   rw [hz]; first | done | rfl
  ·have hc4 := hc; clear hc
   have hc4' := hc4; (try simp at hc4')
   have hla : r.acts.length = (r.stem ++ r.cycle).length := by have := hc4; simp only [bne_eq_false_iff_eq] at this; omega
   refine wp_skip ?_
   refine then_n ?_
   refine wp_seq ?_
   refine rSeq fam0ok 2 [] [(2, vp 0 0), (3, vp 1 0), (4, vb false), (5, vi .i64 ((r.stem ++ r.cycle).length : Int)), (6, vi .i64 0)] [(0, .box (sysC s)), (1, .box [.d (.sl 2 (r.stem.map StD.d)), .d (.sl 2 (r.cycle.map StD.d)), .d (.sl 1 (r.acts.map intD))])] (by kernel_rfl) h ?_; clear h; intro a w h
   refine wp_block ?_
   refine loopS (ι := (Nat)) (fun (z_ : (Nat)) => match z_ with | j => j ≤ (r.stem ++ r.cycle).length ∧ allN j (stepOk s r) = true ∧ (0 < j → first s (runAt r 0) = true))
     (fun (z_ : (Nat)) => match z_ with | j => [(2, vp 0 0), (3, vp 1 0), (5, vi .i64 ((r.stem ++ r.cycle).length : Int)), (6, vi .i64 (j : Int))])
     (fun (z_ : (Nat)) => match z_ with | j => [(0, .box (sysC s)), (1, .box [.d (.sl 2 (r.stem.map StD.d)), .d (.sl 2 (r.cycle.map StD.d)), .d (.sl 1 (r.acts.map intD))])])
     (fun (z_ : (Nat)) => match z_ with | j => (r.stem ++ r.cycle).length - j) 0 ?_ h (by kernel_rfl) (by kernel_rfl) ?_
   ·exact ⟨Nat.zero_le _, rfl, fun h => absurd h (Nat.lt_irrefl 0)⟩
   ·clear h; rintro j a w hI h
    change St _ (F.of [(2, vp 0 0), (3, vp 1 0), (5, vi .i64 ((r.stem ++ r.cycle).length : Int)), (6, vi .i64 (j : Int))] [(0, .box (sysC s)), (1, .box [.d (.sl 2 (r.stem.map StD.d)), .d (.sl 2 (r.cycle.map StD.d)), .d (.sl 1 (r.acts.map intD))])]) a w at h
    obtain ⟨hI1, hI2, hI3⟩ := hI
    refine wp_seq ?_
    refine rSeq fam0ok 2 [] [(2, vp 0 0), (3, vp 1 0), (5, vi .i64 ((r.stem ++ r.cycle).length : Int)), (6, vi .i64 (j : Int)), (28, vb (decide ((j : Int) < ((r.stem ++ r.cycle).length : Int))))] [(0, .box (sysC s)), (1, .box [.d (.sl 2 (r.stem.map StD.d)), .d (.sl 2 (r.cycle.map StD.d)), .d (.sl 1 (r.acts.map intD))])] (by kernel_rfl) h ?_; clear h; intro a w h
    refine condS (decide ((j : Int) < ((r.stem ++ r.cycle).length : Int))) h rfl (fun hc => ?_) (fun hc => ?_)
    ·have hc5 := hc; clear hc
     have hc5' := of_decide_eq_true hc5
     refine wp_skip ?_
     refine then_n ?_
     refine wp_seq ?_
     refine wp_block ?_
     refine wp_seq ?_
     rcases Bool.eq_false_or_eq_true ((j : Int) == 0) with hc | hc
     ·have hc6 := hc; clear hc
      have hc6' := hc6; (try simp at hc6')
      refine rSeq fam0ok 2 [(1, .cmp (op := .eql) (m := (j : Int)) (n := 0) (b := true) .i64 hc6), (5, .call (SRAt r 0 0 (by omega) (by omega) (by omega)) ks_2), (6, .call (SRFirst s (runAt r 0) (L := L) (M := M) (by omega) hs (runAt_ok hr _)) ks_3)] [(2, vp 0 0), (3, vp 1 0), (5, vi .i64 ((r.stem ++ r.cycle).length : Int)), (6, vi .i64 (j : Int)), (39, vb (!(first s (runAt r 0))))] [(0, .box (sysC s)), (1, .box [.d (.sl 2 (r.stem.map StD.d)), .d (.sl 2 (r.cycle.map StD.d)), .d (.sl 1 (r.acts.map intD))])] (by kernel_rfl) h ?_; clear h; intro a w h
      refine condS (!(first s (runAt r 0))) h rfl (fun hc => ?_) (fun hc => ?_)
      ·have hc7 := hc; clear hc
       have hc7' := hc7; (try simp at hc7')
       refine rSeq fam0ok 2 [] [(2, vp 0 0), (3, vp 1 0), (4, vb false), (5, vi .i64 ((r.stem ++ r.cycle).length : Int)), (6, vi .i64 (j : Int))] [(0, .box (sysC s)), (1, .box [.d (.sl 2 (r.stem.map StD.d)), .d (.sl 2 (r.cycle.map StD.d)), .d (.sl 1 (r.acts.map intD))])] (by kernel_rfl) h ?_; clear h; intro a w h
       refine wp_ret ?_
       refine then_r ?_
       refine block_r ?_
       refine then_r ?_
       refine then_r ?_
       refine block_r ?_
       refine then_r ?_
       refine retS [.c (.d (.raw (.bool false)))] h Exit.ret (.inl rfl)  rfl ⟨RV.tmp _ _ rfl, trivial⟩ ?_ (by kernel_rfl) (by kernel_rfl)
       have hz : right s r = false := by unfold right; rw [decide_eq_true ⟨by have := hc2; simp at this; intro h; exact this (List.length_eq_zero_iff.1 h), by have := hc4; simp at this; simp; omega⟩, Bool.true_and]; rw [show first s (((r.stem ++ r.cycle)[0]?).getD st0) = false from (show (first s (runAt r 0)) = false from by simpa using hc7)]; rfl
       rw [hz]; first | done | rfl
      ·have hc8 := hc; clear hc
       have hc8' := hc8; (try simp at hc8')
       refine wp_skip ?_
       refine then_n ?_
       refine rSeq fam0ok 2 [(2, .add .i64 (m := (j : Int)) (n := 1) (i64_id (by omega) (by omega))), (3, .call (SRAt r ((j : Int) + 1) (j + 1) (by omega) (by omega) (by omega)) ks_2)] [(2, vp 0 0), (3, vp 1 0), (5, vi .i64 ((r.stem ++ r.cycle).length : Int)), (6, vi .i64 (j : Int)), (7, vp 2 0)] [(0, .box (sysC s)), (1, .box [.d (.sl 2 (r.stem.map StD.d)), .d (.sl 2 (r.cycle.map StD.d)), .d (.sl 1 (r.acts.map intD))]), (2, .box [.d (.sl 1 ((runAt r (j + 1)).locs.map intD)), .d (.sl 2 ((runAt r (j + 1)).vals.map ziD))])] (by kernel_rfl) h ?_; clear h; intro a w h
       refine wp_seq ?_
       refine rSeq fam0ok 3 [(1, .add .i64 (m := (j : Int)) (n := 1) (i64_id (by omega) (by omega)))] [(2, vp 0 0), (3, vp 1 0), (5, vi .i64 ((r.stem ++ r.cycle).length : Int)), (6, vi .i64 (j : Int)), (7, vp 2 0), (47, vb (((j : Int) + 1) == ((r.stem ++ r.cycle).length : Int)))] [(0, .box (sysC s)), (1, .box [.d (.sl 2 (r.stem.map StD.d)), .d (.sl 2 (r.cycle.map StD.d)), .d (.sl 1 (r.acts.map intD))]), (2, .box [.d (.sl 1 ((runAt r (j + 1)).locs.map intD)), .d (.sl 2 ((runAt r (j + 1)).vals.map ziD))])] (by kernel_rfl) h ?_; clear h; intro a w h
       refine condS (((j : Int) + 1) == ((r.stem ++ r.cycle).length : Int)) h rfl (fun hc => ?_) (fun hc => ?_)
       ·have hc9 := hc; clear hc
        have hc9' := hc9; (try simp at hc9')
        obtain ⟨x4, hx4⟩ : ∃ z_ : StD, r.cycle[0]? = some z_ := ⟨_, List.getElem?_eq_getElem (by first | omega | (simp at *; omega))⟩
        have gx4 := hr.cycle x4 (List.mem_of_getElem? hx4)
        refine rS fam0ok 3 [(2, .gen _ _ _ fun _ _ _ _ => Op.idxD (d := 50) (t := 49) (k := .i64) kn_0 (map_at hx4 (f := StD.d)) (OV.const (.int .i64 0) rfl))] [(2, vp 0 0), (3, vp 1 0), (5, vi .i64 ((r.stem ++ r.cycle).length : Int)), (6, vi .i64 (j : Int)), (7, vp 2 0)] [(0, .box (sysC s)), (1, .box [.d (.sl 2 (r.stem.map StD.d)), .d (.sl 2 (r.cycle.map StD.d)), .d (.sl 1 (r.acts.map intD))]), (2, .box [.d (.sl 1 (x4.locs.map intD)), .d (.sl 2 (x4.vals.map ziD))])] (by kernel_rfl) h ?_; clear h; intro a w h
        refine then_n ?_
        obtain ⟨x6, hx6⟩ : ∃ z_ : Int, r.acts[j]? = some z_ := ⟨_, List.getElem?_eq_getElem (by first | omega | (simp at *; omega))⟩
        refine rSeq fam0ok 3 [(3, .call (SRAt r (j : Int) j (by omega) (by omega) (by omega)) ks_2), (7, .gen _ _ _ fun _ _ _ _ => Op.idxD (d := 59) (t := 57) (k := .i64) tb_1 (map_at hx6 (f := intD)) (OV.tmp 58 _)), (10, .call (SRLeads s (runAt r j) x6 x4 hL hs (runAt_ok hr _) gx4) ks_5)] [(2, vp 0 0), (3, vp 1 0), (5, vi .i64 ((r.stem ++ r.cycle).length : Int)), (6, vi .i64 (j : Int)), (63, vb (!(leads s (runAt r j) x6 x4)))] [(0, .box (sysC s)), (1, .box [.d (.sl 2 (r.stem.map StD.d)), .d (.sl 2 (r.cycle.map StD.d)), .d (.sl 1 (r.acts.map intD))])] (by kernel_rfl) h ?_; clear h; intro a w h
        refine condS (!(leads s (runAt r j) x6 x4)) h rfl (fun hc => ?_) (fun hc => ?_)
        ·have hc10 := hc; clear hc
         have hc10' := hc10; (try simp at hc10')
         refine rSeq fam0ok 3 [] [(2, vp 0 0), (3, vp 1 0), (4, vb false), (5, vi .i64 ((r.stem ++ r.cycle).length : Int)), (6, vi .i64 (j : Int))] [(0, .box (sysC s)), (1, .box [.d (.sl 2 (r.stem.map StD.d)), .d (.sl 2 (r.cycle.map StD.d)), .d (.sl 1 (r.acts.map intD))])] (by kernel_rfl) h ?_; clear h; intro a w h
         refine wp_ret ?_
         refine block_r ?_
         refine then_r ?_
         refine then_r ?_
         refine block_r ?_
         refine then_r ?_
         refine retS [.c (.d (.raw (.bool false)))] h Exit.ret (.inl rfl)  rfl ⟨RV.tmp _ _ rfl, trivial⟩ ?_ (by kernel_rfl) (by kernel_rfl)
         have hz : right s r = false := by unfold right; rw [decide_eq_true ⟨by have := hc2; simp at this; intro h; exact this (List.length_eq_zero_iff.1 h), by have := hc4; simp at this; simp; omega⟩, Bool.true_and]; rw [allN_fail (j := j) (by have := of_decide_eq_true hc5; omega) (show stepOk s r j = false from (by rw [step_at, hx6, show nxt r j = x4 by unfold nxt; rw [if_neg (by have := hc9; simp only [beq_iff_eq] at this; omega), hx4]; rfl]; exact (show (leads s (runAt r j) x6 x4) = false from by simpa using hc10))), Bool.and_false]
         rw [hz]; first | done | rfl
        ·have hc11 := hc; clear hc
         have hc11' := hc11; (try simp at hc11')
         refine wp_skip ?_
         refine block_n ?_
         refine then_n ?_
         refine rS fam0ok 3 [(1, .add .i64 (m := (j : Int)) (n := 1) (i64_id (by omega) (by omega)))] [(2, vp 0 0), (3, vp 1 0), (5, vi .i64 ((r.stem ++ r.cycle).length : Int)), (6, vi .i64 ((j : Int) + 1))] [(0, .box (sysC s)), (1, .box [.d (.sl 2 (r.stem.map StD.d)), .d (.sl 2 (r.cycle.map StD.d)), .d (.sl 1 (r.acts.map intD))])] (by kernel_rfl) h ?_; clear h; intro a w h
         refine then_n ?_
         refine roundS (x := j) (y := j + 1) h ?_ ?_ (by kernel_rfl) (by kernel_rfl)
         ·exact ⟨by omega, allN_step hI2 (by rw [step_at, hx6, show nxt r j = x4 by unfold nxt; rw [if_neg (by have := hc9; simp only [beq_iff_eq] at this; omega), hx4]; rfl]; exact (show (leads s (runAt r j) x6 x4) = true from by simpa using hc11)), (fun _ => (show (first s (runAt r 0)) = true from by simpa using hc8))⟩
         ·show (r.stem ++ r.cycle).length - (j + 1) < (r.stem ++ r.cycle).length - j
          omega
       ·have hc12 := hc; clear hc
        have hc12' := hc12; (try simp at hc12')
        refine wp_skip ?_
        refine then_n ?_
        obtain ⟨x9, hx9⟩ : ∃ z_ : Int, r.acts[j]? = some z_ := ⟨_, List.getElem?_eq_getElem (by first | omega | (simp at *; omega))⟩
        refine rSeq fam0ok 3 [(3, .call (SRAt r (j : Int) j (by omega) (by omega) (by omega)) ks_2), (7, .gen _ _ _ fun _ _ _ _ => Op.idxD (d := 59) (t := 57) (k := .i64) tb_1 (map_at hx9 (f := intD)) (OV.tmp 58 _)), (10, .call (SRLeads s (runAt r j) x9 (runAt r (j + 1)) hL hs (runAt_ok hr _) (runAt_ok hr _)) ks_5)] [(2, vp 0 0), (3, vp 1 0), (5, vi .i64 ((r.stem ++ r.cycle).length : Int)), (6, vi .i64 (j : Int)), (63, vb (!(leads s (runAt r j) x9 (runAt r (j + 1)))))] [(0, .box (sysC s)), (1, .box [.d (.sl 2 (r.stem.map StD.d)), .d (.sl 2 (r.cycle.map StD.d)), .d (.sl 1 (r.acts.map intD))])] (by kernel_rfl) h ?_; clear h; intro a w h
        refine condS (!(leads s (runAt r j) x9 (runAt r (j + 1)))) h rfl (fun hc => ?_) (fun hc => ?_)
        ·have hc13 := hc; clear hc
         have hc13' := hc13; (try simp at hc13')
         refine rSeq fam0ok 3 [] [(2, vp 0 0), (3, vp 1 0), (4, vb false), (5, vi .i64 ((r.stem ++ r.cycle).length : Int)), (6, vi .i64 (j : Int))] [(0, .box (sysC s)), (1, .box [.d (.sl 2 (r.stem.map StD.d)), .d (.sl 2 (r.cycle.map StD.d)), .d (.sl 1 (r.acts.map intD))])] (by kernel_rfl) h ?_; clear h; intro a w h
         refine wp_ret ?_
         refine block_r ?_
         refine then_r ?_
         refine then_r ?_
         refine block_r ?_
         refine then_r ?_
         refine retS [.c (.d (.raw (.bool false)))] h Exit.ret (.inl rfl)  rfl ⟨RV.tmp _ _ rfl, trivial⟩ ?_ (by kernel_rfl) (by kernel_rfl)
         have hz : right s r = false := by unfold right; rw [decide_eq_true ⟨by have := hc2; simp at this; intro h; exact this (List.length_eq_zero_iff.1 h), by have := hc4; simp at this; simp; omega⟩, Bool.true_and]; rw [allN_fail (j := j) (by have := of_decide_eq_true hc5; omega) (show stepOk s r j = false from (by rw [step_at, hx9, nxt_lt (show j + 1 < (r.stem ++ r.cycle).length by have := hc12; simp only [beq_eq_false_iff_ne] at this; omega)]; exact (show (leads s (runAt r j) x9 (runAt r (j + 1))) = false from by simpa using hc13))), Bool.and_false]
         rw [hz]; first | done | rfl
        ·have hc14 := hc; clear hc
         have hc14' := hc14; (try simp at hc14')
         refine wp_skip ?_
         refine block_n ?_
         refine then_n ?_
         refine rS fam0ok 3 [(1, .add .i64 (m := (j : Int)) (n := 1) (i64_id (by omega) (by omega)))] [(2, vp 0 0), (3, vp 1 0), (5, vi .i64 ((r.stem ++ r.cycle).length : Int)), (6, vi .i64 ((j : Int) + 1))] [(0, .box (sysC s)), (1, .box [.d (.sl 2 (r.stem.map StD.d)), .d (.sl 2 (r.cycle.map StD.d)), .d (.sl 1 (r.acts.map intD))])] (by kernel_rfl) h ?_; clear h; intro a w h
         refine then_n ?_
         refine roundS (x := j) (y := j + 1) h ?_ ?_ (by kernel_rfl) (by kernel_rfl)
         ·exact ⟨by omega, allN_step hI2 (by rw [step_at, hx9, nxt_lt (show j + 1 < (r.stem ++ r.cycle).length by have := hc12; simp only [beq_eq_false_iff_ne] at this; omega)]; exact (show (leads s (runAt r j) x9 (runAt r (j + 1))) = true from by simpa using hc14)), (fun _ => (show (first s (runAt r 0)) = true from by simpa using hc8))⟩
         ·show (r.stem ++ r.cycle).length - (j + 1) < (r.stem ++ r.cycle).length - j
          omega
     ·have hc15 := hc; clear hc
      have hc15' := hc15; (try simp at hc15')
      refine rSeq fam0ok 3 [(1, .cmp (op := .eql) (m := (j : Int)) (n := 0) (b := false) .i64 hc15)] [(2, vp 0 0), (3, vp 1 0), (5, vi .i64 ((r.stem ++ r.cycle).length : Int)), (6, vi .i64 (j : Int)), (39, vb false)] [(0, .box (sysC s)), (1, .box [.d (.sl 2 (r.stem.map StD.d)), .d (.sl 2 (r.cycle.map StD.d)), .d (.sl 1 (r.acts.map intD))])] (by kernel_rfl) h ?_; clear h; intro a w h
      refine condS false h rfl (fun hc => ?_) (fun hc => ?_)
      ·cases hc
      ·clear hc
       refine wp_skip ?_
       refine then_n ?_
       refine rSeq fam0ok 3 [(2, .add .i64 (m := (j : Int)) (n := 1) (i64_id (by omega) (by omega))), (3, .call (SRAt r ((j : Int) + 1) (j + 1) (by omega) (by omega) (by omega)) ks_2)] [(2, vp 0 0), (3, vp 1 0), (5, vi .i64 ((r.stem ++ r.cycle).length : Int)), (6, vi .i64 (j : Int)), (7, vp 3 0)] [(0, .box (sysC s)), (1, .box [.d (.sl 2 (r.stem.map StD.d)), .d (.sl 2 (r.cycle.map StD.d)), .d (.sl 1 (r.acts.map intD))]), (3, .box [.d (.sl 1 ((runAt r (j + 1)).locs.map intD)), .d (.sl 2 ((runAt r (j + 1)).vals.map ziD))])] (by kernel_rfl) h ?_; clear h; intro a w h
       refine wp_seq ?_
       refine rSeq fam0ok 4 [(1, .add .i64 (m := (j : Int)) (n := 1) (i64_id (by omega) (by omega)))] [(2, vp 0 0), (3, vp 1 0), (5, vi .i64 ((r.stem ++ r.cycle).length : Int)), (6, vi .i64 (j : Int)), (7, vp 3 0), (47, vb (((j : Int) + 1) == ((r.stem ++ r.cycle).length : Int)))] [(0, .box (sysC s)), (1, .box [.d (.sl 2 (r.stem.map StD.d)), .d (.sl 2 (r.cycle.map StD.d)), .d (.sl 1 (r.acts.map intD))]), (3, .box [.d (.sl 1 ((runAt r (j + 1)).locs.map intD)), .d (.sl 2 ((runAt r (j + 1)).vals.map ziD))])] (by kernel_rfl) h ?_; clear h; intro a w h
       refine condS (((j : Int) + 1) == ((r.stem ++ r.cycle).length : Int)) h rfl (fun hc => ?_) (fun hc => ?_)
       ·have hc16 := hc; clear hc
        have hc16' := hc16; (try simp at hc16')
        obtain ⟨x12, hx12⟩ : ∃ z_ : StD, r.cycle[0]? = some z_ := ⟨_, List.getElem?_eq_getElem (by first | omega | (simp at *; omega))⟩
        have gx12 := hr.cycle x12 (List.mem_of_getElem? hx12)
        refine rS fam0ok 4 [(2, .gen _ _ _ fun _ _ _ _ => Op.idxD (d := 50) (t := 49) (k := .i64) kn_0 (map_at hx12 (f := StD.d)) (OV.const (.int .i64 0) rfl))] [(2, vp 0 0), (3, vp 1 0), (5, vi .i64 ((r.stem ++ r.cycle).length : Int)), (6, vi .i64 (j : Int)), (7, vp 3 0)] [(0, .box (sysC s)), (1, .box [.d (.sl 2 (r.stem.map StD.d)), .d (.sl 2 (r.cycle.map StD.d)), .d (.sl 1 (r.acts.map intD))]), (3, .box [.d (.sl 1 (x12.locs.map intD)), .d (.sl 2 (x12.vals.map ziD))])] (by kernel_rfl) h ?_; clear h; intro a w h
        refine then_n ?_
        obtain ⟨x14, hx14⟩ : ∃ z_ : Int, r.acts[j]? = some z_ := ⟨_, List.getElem?_eq_getElem (by first | omega | (simp at *; omega))⟩
        refine rSeq fam0ok 4 [(3, .call (SRAt r (j : Int) j (by omega) (by omega) (by omega)) ks_2), (7, .gen _ _ _ fun _ _ _ _ => Op.idxD (d := 59) (t := 57) (k := .i64) tb_1 (map_at hx14 (f := intD)) (OV.tmp 58 _)), (10, .call (SRLeads s (runAt r j) x14 x12 hL hs (runAt_ok hr _) gx12) ks_5)] [(2, vp 0 0), (3, vp 1 0), (5, vi .i64 ((r.stem ++ r.cycle).length : Int)), (6, vi .i64 (j : Int)), (63, vb (!(leads s (runAt r j) x14 x12)))] [(0, .box (sysC s)), (1, .box [.d (.sl 2 (r.stem.map StD.d)), .d (.sl 2 (r.cycle.map StD.d)), .d (.sl 1 (r.acts.map intD))])] (by kernel_rfl) h ?_; clear h; intro a w h
        refine condS (!(leads s (runAt r j) x14 x12)) h rfl (fun hc => ?_) (fun hc => ?_)
        ·have hc17 := hc; clear hc
         have hc17' := hc17; (try simp at hc17')
         refine rSeq fam0ok 4 [] [(2, vp 0 0), (3, vp 1 0), (4, vb false), (5, vi .i64 ((r.stem ++ r.cycle).length : Int)), (6, vi .i64 (j : Int))] [(0, .box (sysC s)), (1, .box [.d (.sl 2 (r.stem.map StD.d)), .d (.sl 2 (r.cycle.map StD.d)), .d (.sl 1 (r.acts.map intD))])] (by kernel_rfl) h ?_; clear h; intro a w h
         refine wp_ret ?_
         refine block_r ?_
         refine then_r ?_
         refine then_r ?_
         refine block_r ?_
         refine then_r ?_
         refine retS [.c (.d (.raw (.bool false)))] h Exit.ret (.inl rfl)  rfl ⟨RV.tmp _ _ rfl, trivial⟩ ?_ (by kernel_rfl) (by kernel_rfl)
         have hz : right s r = false := by unfold right; rw [decide_eq_true ⟨by have := hc2; simp at this; intro h; exact this (List.length_eq_zero_iff.1 h), by have := hc4; simp at this; simp; omega⟩, Bool.true_and]; rw [allN_fail (j := j) (by have := of_decide_eq_true hc5; omega) (show stepOk s r j = false from (by rw [step_at, hx14, show nxt r j = x12 by unfold nxt; rw [if_neg (by have := hc16; simp only [beq_iff_eq] at this; omega), hx12]; rfl]; exact (show (leads s (runAt r j) x14 x12) = false from by simpa using hc17))), Bool.and_false]
         rw [hz]; first | done | rfl
        ·have hc18 := hc; clear hc
         have hc18' := hc18; (try simp at hc18')
         refine wp_skip ?_
         refine block_n ?_
         refine then_n ?_
         refine rS fam0ok 4 [(1, .add .i64 (m := (j : Int)) (n := 1) (i64_id (by omega) (by omega)))] [(2, vp 0 0), (3, vp 1 0), (5, vi .i64 ((r.stem ++ r.cycle).length : Int)), (6, vi .i64 ((j : Int) + 1))] [(0, .box (sysC s)), (1, .box [.d (.sl 2 (r.stem.map StD.d)), .d (.sl 2 (r.cycle.map StD.d)), .d (.sl 1 (r.acts.map intD))])] (by kernel_rfl) h ?_; clear h; intro a w h
         refine then_n ?_
         refine roundS (x := j) (y := j + 1) h ?_ ?_ (by kernel_rfl) (by kernel_rfl)
         ·exact ⟨by omega, allN_step hI2 (by rw [step_at, hx14, show nxt r j = x12 by unfold nxt; rw [if_neg (by have := hc16; simp only [beq_iff_eq] at this; omega), hx12]; rfl]; exact (show (leads s (runAt r j) x14 x12) = true from by simpa using hc18)), (fun _ => hI3 (by have := hc15; simp only [beq_eq_false_iff_ne] at this; omega))⟩
         ·show (r.stem ++ r.cycle).length - (j + 1) < (r.stem ++ r.cycle).length - j
          omega
       ·have hc19 := hc; clear hc
        have hc19' := hc19; (try simp at hc19')
        refine wp_skip ?_
        refine then_n ?_
        obtain ⟨x17, hx17⟩ : ∃ z_ : Int, r.acts[j]? = some z_ := ⟨_, List.getElem?_eq_getElem (by first | omega | (simp at *; omega))⟩
        refine rSeq fam0ok 4 [(3, .call (SRAt r (j : Int) j (by omega) (by omega) (by omega)) ks_2), (7, .gen _ _ _ fun _ _ _ _ => Op.idxD (d := 59) (t := 57) (k := .i64) tb_1 (map_at hx17 (f := intD)) (OV.tmp 58 _)), (10, .call (SRLeads s (runAt r j) x17 (runAt r (j + 1)) hL hs (runAt_ok hr _) (runAt_ok hr _)) ks_5)] [(2, vp 0 0), (3, vp 1 0), (5, vi .i64 ((r.stem ++ r.cycle).length : Int)), (6, vi .i64 (j : Int)), (63, vb (!(leads s (runAt r j) x17 (runAt r (j + 1)))))] [(0, .box (sysC s)), (1, .box [.d (.sl 2 (r.stem.map StD.d)), .d (.sl 2 (r.cycle.map StD.d)), .d (.sl 1 (r.acts.map intD))])] (by kernel_rfl) h ?_; clear h; intro a w h
        refine condS (!(leads s (runAt r j) x17 (runAt r (j + 1)))) h rfl (fun hc => ?_) (fun hc => ?_)
        ·have hc20 := hc; clear hc
         have hc20' := hc20; (try simp at hc20')
         refine rSeq fam0ok 4 [] [(2, vp 0 0), (3, vp 1 0), (4, vb false), (5, vi .i64 ((r.stem ++ r.cycle).length : Int)), (6, vi .i64 (j : Int))] [(0, .box (sysC s)), (1, .box [.d (.sl 2 (r.stem.map StD.d)), .d (.sl 2 (r.cycle.map StD.d)), .d (.sl 1 (r.acts.map intD))])] (by kernel_rfl) h ?_; clear h; intro a w h
         refine wp_ret ?_
         refine block_r ?_
         refine then_r ?_
         refine then_r ?_
         refine block_r ?_
         refine then_r ?_
         refine retS [.c (.d (.raw (.bool false)))] h Exit.ret (.inl rfl)  rfl ⟨RV.tmp _ _ rfl, trivial⟩ ?_ (by kernel_rfl) (by kernel_rfl)
         have hz : right s r = false := by unfold right; rw [decide_eq_true ⟨by have := hc2; simp at this; intro h; exact this (List.length_eq_zero_iff.1 h), by have := hc4; simp at this; simp; omega⟩, Bool.true_and]; rw [allN_fail (j := j) (by have := of_decide_eq_true hc5; omega) (show stepOk s r j = false from (by rw [step_at, hx17, nxt_lt (show j + 1 < (r.stem ++ r.cycle).length by have := hc19; simp only [beq_eq_false_iff_ne] at this; omega)]; exact (show (leads s (runAt r j) x17 (runAt r (j + 1))) = false from by simpa using hc20))), Bool.and_false]
         rw [hz]; first | done | rfl
        ·have hc21 := hc; clear hc
         have hc21' := hc21; (try simp at hc21')
         refine wp_skip ?_
         refine block_n ?_
         refine then_n ?_
         refine rS fam0ok 4 [(1, .add .i64 (m := (j : Int)) (n := 1) (i64_id (by omega) (by omega)))] [(2, vp 0 0), (3, vp 1 0), (5, vi .i64 ((r.stem ++ r.cycle).length : Int)), (6, vi .i64 ((j : Int) + 1))] [(0, .box (sysC s)), (1, .box [.d (.sl 2 (r.stem.map StD.d)), .d (.sl 2 (r.cycle.map StD.d)), .d (.sl 1 (r.acts.map intD))])] (by kernel_rfl) h ?_; clear h; intro a w h
         refine then_n ?_
         refine roundS (x := j) (y := j + 1) h ?_ ?_ (by kernel_rfl) (by kernel_rfl)
         ·exact ⟨by omega, allN_step hI2 (by rw [step_at, hx17, nxt_lt (show j + 1 < (r.stem ++ r.cycle).length by have := hc19; simp only [beq_eq_false_iff_ne] at this; omega)]; exact (show (leads s (runAt r j) x17 (runAt r (j + 1))) = true from by simpa using hc21)), (fun _ => hI3 (by have := hc15; simp only [beq_eq_false_iff_ne] at this; omega))⟩
         ·show (r.stem ++ r.cycle).length - (j + 1) < (r.stem ++ r.cycle).length - j
          omega
    ·have hc22 := hc; clear hc
     have hc22' := of_decide_eq_false hc22
     refine wp_exit ?_
     refine then_x ?_
     refine then_x ?_
     refine inBlock_exit ?_
     refine then_n ?_
     refine rSeq fam0ok 4 [] [(4, vb true)] [] (by kernel_rfl) h ?_; clear h; intro a w h
     refine wp_ret ?_
     refine retS [.c (.d (.raw (.bool true)))] h Exit.ret (.inl rfl)  rfl ⟨RV.tmp _ _ rfl, trivial⟩ ?_ (by kernel_rfl) (by kernel_rfl)
     have hz : right s r = true := by unfold right; rw [decide_eq_true ⟨by have := hc2; simp at this; intro h; exact this (List.length_eq_zero_iff.1 h), by have := hc4; simp at this; simp; omega⟩, Bool.true_and]; rw [show first s (((r.stem ++ r.cycle)[0]?).getD st0) = true from hI3 (by have := of_decide_eq_false hc22; omega), show (r.stem ++ r.cycle).length = j by have := of_decide_eq_false hc22; omega, hI2]; rfl
     rw [hz]; first | done | rfl
set_option maxHeartbeats 4000000 in
theorem SRLetter (ps : List PropD) (x : StD) {L M : Nat} (hL : L + M ≤ 4000) (hps : ∀ p ∈ ps, PropOk L p) (hpl : ps.length ≤ 1000) (hx : StOk M x) : Fn Tryz.prog 58 [] [.t (.c (.d (.sl 9 (ps.map PropD.d)))), .t (.agg [.d (.sl 1 (x.locs.map intD)), .d (.sl 2 (x.vals.map ziD))])] (.t (.c (.d (.sl 1 ((letter ps x).map boolD))))) [] := by
 have lx1 := hx.locs
 refine Fn.body Tryz.func58 rfl 55 rfl fun w H B a h => ?_
 refine rSeq fam0ok 0 [] [(0, .t (.c (.d (.sl 9 (ps.map PropD.d))))), (3, vp 0 0), (4, .t (.c (.d (.raw nilV))))] [(0, .box [.d (.sl 1 (x.locs.map intD)), .d (.sl 2 (x.vals.map ziD))])] (by kernel_rfl) h ?_; clear h; intro a w h
 refine rSeq fam0ok 1 [(0, .gen _ _ _ fun _ _ _ _ => Op.buildE (d := 8) (n := 1) kn_12)] [(0, .t (.c (.d (.sl 9 (ps.map PropD.d))))), (3, vp 0 0), (4, .t (.c (.d (.raw nilV)))), (5, .t (.c (.own 1 0)))] [(0, .box [.d (.sl 1 (x.locs.map intD)), .d (.sl 2 (x.vals.map ziD))]), (1, .row 4 1 ([].map boolD))] (by kernel_rfl) h ?_; clear h; intro a w h
 refine wp_seq ?_
 refine rSeq fam0ok 2 [] [(0, .t (.c (.d (.sl 9 (ps.map PropD.d))))), (3, vp 0 0), (4, .t (.c (.d (.raw nilV)))), (5, .t (.c (.own 1 0))), (6, vi .i64 0)] [(0, .box [.d (.sl 1 (x.locs.map intD)), .d (.sl 2 (x.vals.map ziD))]), (1, .row 4 1 ([].map boolD))] (by kernel_rfl) h ?_; clear h; intro a w h
 refine wp_block ?_
 refine loopS (ι := (Nat)) (fun (z_ : (Nat)) => match z_ with | j => j ≤ ps.length)
   (fun (z_ : (Nat)) => match z_ with | j => [(0, .t (.c (.d (.sl 9 (ps.map PropD.d))))), (3, vp 0 0), (4, .t (.c (.d (.raw nilV)))), (5, .t (.c (.own 1 ((ps.take j).map (fun p => holdsP p x)).length))), (6, vi .i64 (j : Int))])
   (fun (z_ : (Nat)) => match z_ with | j => [(0, .box [.d (.sl 1 (x.locs.map intD)), .d (.sl 2 (x.vals.map ziD))]), (1, .row 4 1 (((ps.take j).map (fun p => holdsP p x)).map boolD))])
   (fun (z_ : (Nat)) => match z_ with | j => ps.length - j) 0 ?_ h (by kernel_rfl) (by kernel_rfl) ?_
 ·exact Nat.zero_le _
 ·clear h; rintro j a w hI h
  change St _ (F.of [(0, .t (.c (.d (.sl 9 (ps.map PropD.d))))), (3, vp 0 0), (4, .t (.c (.d (.raw nilV)))), (5, .t (.c (.own 1 ((ps.take j).map (fun p => holdsP p x)).length))), (6, vi .i64 (j : Int))] [(0, .box [.d (.sl 1 (x.locs.map intD)), .d (.sl 2 (x.vals.map ziD))]), (1, .row 4 1 (((ps.take j).map (fun p => holdsP p x)).map boolD))]) a w at h
  have hfl : ((ps.take j).map (fun p => holdsP p x)).length ≤ j := by rw [List.length_map, List.length_take]; omega
  refine wp_seq ?_
  refine rSeq fam0ok 2 [(2, .len (c := (.d (.sl 9 (ps.map PropD.d)))) (n := ps.length) (lenC_map _ _ _))] [(0, .t (.c (.d (.sl 9 (ps.map PropD.d))))), (3, vp 0 0), (4, .t (.c (.d (.raw nilV)))), (5, .t (.c (.own 1 ((ps.take j).map (fun p => holdsP p x)).length))), (6, vi .i64 (j : Int)), (12, vb (decide ((j : Int) < (ps.length : Int))))] [(0, .box [.d (.sl 1 (x.locs.map intD)), .d (.sl 2 (x.vals.map ziD))]), (1, .row 4 1 (((ps.take j).map (fun p => holdsP p x)).map boolD))] (by kernel_rfl) h ?_; clear h; intro a w h
  refine condS (decide ((j : Int) < (ps.length : Int))) h rfl (fun hc => ?_) (fun hc => ?_)
  ·have hc1 := hc; clear hc
   have hc1' := of_decide_eq_true hc1
   refine wp_skip ?_
   refine then_n ?_
   refine wp_seq ?_
   refine wp_block ?_
   obtain ⟨x1, hx1⟩ : ∃ z_ : PropD, ps[j]? = some z_ := ⟨_, List.getElem?_eq_getElem (by first | omega | (simp at *; omega))⟩
   refine rSeq fam0ok 2 [(2, .gen _ _ _ fun _ _ _ _ => Op.idxD (d := 17) (t := 15) (k := .i64) kn_10 (map_at hx1 (f := PropD.d)) (OV.tmp 16 _))] [(0, .t (.c (.d (.sl 9 (ps.map PropD.d))))), (3, vp 0 0), (4, .t (.c (.d (.raw nilV)))), (5, .t (.c (.own 1 ((ps.take j).map (fun p => holdsP p x)).length))), (6, vi .i64 (j : Int)), (7, vp 2 0)] [(0, .box [.d (.sl 1 (x.locs.map intD)), .d (.sl 2 (x.vals.map ziD))]), (1, .row 4 1 (((ps.take j).map (fun p => holdsP p x)).map boolD)), (2, .box ([.d (.raw (.bool x1.at_)), .d (.raw (.int .i64 x1.proc)), .d (.raw (.int .i64 x1.loc)), .d (.raw (.int .i64 x1.f.kind)), .d (.sl 3 (x1.f.r.t.parts.map Part.d))] ++ zi x1.f.r.t.k ++ [.d (.raw (.bool x1.f.r.eq)), .d (.sl 6 (x1.f.kids.map FormD.d))]))] (by kernel_rfl) h ?_; clear h; intro a w h
   refine rSeq fam0ok 3 [] [(0, .t (.c (.d (.sl 9 (ps.map PropD.d))))), (3, vp 0 0), (4, .t (.c (.d (.raw nilV)))), (5, .t (.c (.own 1 ((ps.take j).map (fun p => holdsP p x)).length))), (6, vi .i64 (j : Int)), (7, vp 2 0), (20, vb x1.at_)] [(0, .box [.d (.sl 1 (x.locs.map intD)), .d (.sl 2 (x.vals.map ziD))]), (1, .row 4 1 (((ps.take j).map (fun p => holdsP p x)).map boolD)), (2, .box ([.d (.raw (.bool x1.at_)), .d (.raw (.int .i64 x1.proc)), .d (.raw (.int .i64 x1.loc)), .d (.raw (.int .i64 x1.f.kind)), .d (.sl 3 (x1.f.r.t.parts.map Part.d))] ++ zi x1.f.r.t.k ++ [.d (.raw (.bool x1.f.r.eq)), .d (.sl 6 (x1.f.kids.map FormD.d))]))] (by kernel_rfl) h ?_; clear h; intro a w h
   refine condS x1.at_ h rfl (fun hc => ?_) (fun hc => ?_)
   ·have hc2 := hc; clear hc
    rcases Bool.eq_false_or_eq_true (decide (x1.proc ≥ 0)) with hc | hc
    ·have hc3 := hc; clear hc
     have hc3' := of_decide_eq_true hc3
     rcases Bool.eq_false_or_eq_true (decide (x1.proc < (x.locs.length : Int))) with hc | hc
     ·have hc4 := hc; clear hc
      have hc4' := of_decide_eq_true hc4
      obtain ⟨k, hkk⟩ : ∃ k_ : Nat, x1.proc = (k_ : Int) := ⟨_, (Int.toNat_of_nonneg (by have := of_decide_eq_true hc3; omega)).symm⟩
      replace h := h.conv (f' := F.of [(0, .t (.c (.d (.sl 9 (ps.map PropD.d))))), (3, vp 0 0), (4, .t (.c (.d (.raw nilV)))), (5, .t (.c (.own 1 ((ps.take j).map (fun p => holdsP p x)).length))), (6, vi .i64 (j : Int)), (7, vp 2 0), (20, vb x1.at_)] [(0, .box [.d (.sl 1 (x.locs.map intD)), .d (.sl 2 (x.vals.map ziD))]), (1, .row 4 1 (((ps.take j).map (fun p => holdsP p x)).map boolD)), (2, .box ([.d (.raw (.bool x1.at_)), .d (.raw (.int .i64 (k : Int))), .d (.raw (.int .i64 x1.loc)), .d (.raw (.int .i64 x1.f.kind)), .d (.sl 3 (x1.f.r.t.parts.map Part.d))] ++ zi x1.f.r.t.k ++ [.d (.raw (.bool x1.f.r.eq)), .d (.sl 6 (x1.f.kids.map FormD.d))]))]) (by rw [hkk])
      obtain ⟨x2, hx2⟩ : ∃ z_ : Int, x.locs[k]? = some z_ := ⟨_, List.getElem?_eq_getElem (by first | omega | (simp at *; omega))⟩
      refine rS fam0ok 3 [(3, .cmp (op := .geq) (m := (k : Int)) (n := 0) (b := true) .i64 (show (decide ((k : Int) ≥ 0)) = true from by rw [← hkk]; exact hc3)), (9, .len (c := (.d (.sl 1 (x.locs.map intD)))) (n := x.locs.length) (lenC_map _ _ _)), (10, .cmp (op := .lss) (m := (k : Int)) (n := (x.locs.length : Int)) (b := true) .i64 (show (decide ((k : Int) < (x.locs.length : Int))) = true from by rw [← hkk]; exact hc4)), (17, .gen _ _ _ fun _ _ _ _ => Op.idxD (d := 38) (t := 35) (k := .i64) tb_1 (map_at hx2 (f := intD)) (OV.tmp 37 _)), (23, .gen _ _ _ fun _ _ _ _ => Op.buildD (d := 44) (len := 1) (rows := [x2 == x1.loc].map boolD) (rs := [(43, vb (x2 == x1.loc))]) kn_12 (.cons (i := 0) (OV.tmp 43 _) (.nil)) (by kernel_rfl) rfl (by simp [boolD]) (by decide) (by decide)), (24, .gen _ _ _ fun _ _ _ _ => Op.appOD (d := 45) (t := 21) (u := 44) (n := 1) (n' := 3) (len := ((ps.take j).map (fun p => holdsP p x)).length) (len' := (((ps.take j).map (fun p => holdsP p x)) ++ [x2 == x1.loc]).length) (rows := ((ps.take j).map (fun p => holdsP p x)).map boolD) (rows2 := [x2 == x1.loc].map boolD) (rows' := (((ps.take j).map (fun p => holdsP p x)) ++ [x2 == x1.loc]).map boolD) kn_13 (by first | exact (List.length_map _).symm | simp) (by first | (rw [List.length_append, List.length_map]; done) | simp) (by simp) (by simp [boolD]) (by first | omega | (simp at *; done) | (simp at *; omega)))] [(0, .t (.c (.d (.sl 9 (ps.map PropD.d))))), (3, vp 0 0), (4, .t (.c (.d (.raw nilV)))), (5, .t (.c (.own 3 (((ps.take j).map (fun p => holdsP p x)) ++ [x2 == x1.loc]).length))), (6, vi .i64 (j : Int))] [(0, .box [.d (.sl 1 (x.locs.map intD)), .d (.sl 2 (x.vals.map ziD))]), (3, .row 4 1 ((((ps.take j).map (fun p => holdsP p x)) ++ [x2 == x1.loc]).map boolD))] (by kernel_rfl) h ?_; clear h; intro a w h
      refine block_n ?_
      refine then_n ?_
      refine rS fam0ok 4 [(1, .add .i64 (m := (j : Int)) (n := 1) (i64_id (by omega) (by omega)))] [(0, .t (.c (.d (.sl 9 (ps.map PropD.d))))), (3, vp 0 0), (4, .t (.c (.d (.raw nilV)))), (5, .t (.c (.own 3 (((ps.take j).map (fun p => holdsP p x)) ++ [x2 == x1.loc]).length))), (6, vi .i64 ((j : Int) + 1))] [(0, .box [.d (.sl 1 (x.locs.map intD)), .d (.sl 2 (x.vals.map ziD))]), (3, .row 4 1 ((((ps.take j).map (fun p => holdsP p x)) ++ [x2 == x1.loc]).map boolD))] (by kernel_rfl) h ?_; clear h; intro a w h
      refine then_n ?_
      replace h := h.conv (f' := F.of [(0, .t (.c (.d (.sl 9 (ps.map PropD.d))))), (3, vp 0 0), (4, .t (.c (.d (.raw nilV)))), (5, .t (.c (.own 3 ((ps.take (j + 1)).map (fun p => holdsP p x)).length))), (6, vi .i64 ((j : Int) + 1))] [(0, .box [.d (.sl 1 (x.locs.map intD)), .d (.sl 2 (x.vals.map ziD))]), (3, .row 4 1 (((ps.take (j + 1)).map (fun p => holdsP p x)).map boolD))]) (congrArg (fun (z_ : List Bool) => F.of [(0, .t (.c (.d (.sl 9 (ps.map PropD.d))))), (3, vp 0 0), (4, .t (.c (.d (.raw nilV)))), (5, .t (.c (.own 3 z_.length))), (6, vi .i64 ((j : Int) + 1))] [(0, .box [.d (.sl 1 (x.locs.map intD)), .d (.sl 2 (x.vals.map ziD))]), (3, .row 4 1 (z_.map boolD))]) (show ((((ps.take j).map (fun p => holdsP p x)) ++ [x2 == x1.loc]) : List Bool) = ((ps.take (j + 1)).map (fun p => holdsP p x)) from (by rw [← map_snoc hx1]; show _ ++ [x2 == x1.loc] = _ ++ [holdsP x1 x]; rw [show holdsP x1 x = (x2 == x1.loc) from by unfold holdsP; rw [if_pos hc2]; rw [decide_eq_true (p := 0 ≤ x1.proc ∧ x1.proc < (x.locs.length : Int)) (by have := of_decide_eq_true hc3; have := of_decide_eq_true hc4; omega), show x1.proc.toNat = k by omega, hx2]; rfl])))
      replace h := renS 3 1 [(0, .t (.c (.d (.sl 9 (ps.map PropD.d))))), (3, vp 0 0), (4, .t (.c (.d (.raw nilV)))), (5, .t (.c (.own 1 ((ps.take (j + 1)).map (fun p => holdsP p x)).length))), (6, vi .i64 ((j : Int) + 1))] [(0, .box [.d (.sl 1 (x.locs.map intD)), .d (.sl 2 (x.vals.map ziD))]), (1, .row 4 1 (((ps.take (j + 1)).map (fun p => holdsP p x)).map boolD))] h (by kernel_rfl) (by kernel_rfl) (by kernel_rfl)
      refine roundS (x := j) (y := j + 1) h ?_ ?_ (by kernel_rfl) (by kernel_rfl)
      ·have := at_lt hx1
       show j + 1 ≤ ps.length
       omega
      ·show ps.length - (j + 1) < ps.length - j
       have := at_lt hx1; omega
     ·have hc5 := hc; clear hc
      have hc5' := of_decide_eq_false hc5
      refine rS fam0ok 4 [(3, .cmp (op := .geq) (m := x1.proc) (n := 0) (b := true) .i64 hc3), (9, .len (c := (.d (.sl 1 (x.locs.map intD)))) (n := x.locs.length) (lenC_map _ _ _)), (10, .cmp (op := .lss) (m := x1.proc) (n := (x.locs.length : Int)) (b := false) .i64 hc5), (23, .gen _ _ _ fun _ _ _ _ => Op.buildD (d := 44) (len := 1) (rows := [false].map boolD) (rs := [(43, vb false)]) kn_12 (.cons (i := 0) (OV.tmp 43 _) (.nil)) (by kernel_rfl) rfl (by simp [boolD]) (by decide) (by decide)), (24, .gen _ _ _ fun _ _ _ _ => Op.appOD (d := 45) (t := 21) (u := 44) (n := 1) (n' := 4) (len := ((ps.take j).map (fun p => holdsP p x)).length) (len' := (((ps.take j).map (fun p => holdsP p x)) ++ [false]).length) (rows := ((ps.take j).map (fun p => holdsP p x)).map boolD) (rows2 := [false].map boolD) (rows' := (((ps.take j).map (fun p => holdsP p x)) ++ [false]).map boolD) kn_13 (by first | exact (List.length_map _).symm | simp) (by first | (rw [List.length_append, List.length_map]; done) | simp) (by simp) (by simp [boolD]) (by first | omega | (simp at *; done) | (simp at *; omega)))] [(0, .t (.c (.d (.sl 9 (ps.map PropD.d))))), (3, vp 0 0), (4, .t (.c (.d (.raw nilV)))), (5, .t (.c (.own 4 (((ps.take j).map (fun p => holdsP p x)) ++ [false]).length))), (6, vi .i64 (j : Int))] [(0, .box [.d (.sl 1 (x.locs.map intD)), .d (.sl 2 (x.vals.map ziD))]), (4, .row 4 1 ((((ps.take j).map (fun p => holdsP p x)) ++ [false]).map boolD))] (by kernel_rfl) h ?_; clear h; intro a w h
      refine block_n ?_
      refine then_n ?_
      refine rS fam0ok 5 [(1, .add .i64 (m := (j : Int)) (n := 1) (i64_id (by omega) (by omega)))] [(0, .t (.c (.d (.sl 9 (ps.map PropD.d))))), (3, vp 0 0), (4, .t (.c (.d (.raw nilV)))), (5, .t (.c (.own 4 (((ps.take j).map (fun p => holdsP p x)) ++ [false]).length))), (6, vi .i64 ((j : Int) + 1))] [(0, .box [.d (.sl 1 (x.locs.map intD)), .d (.sl 2 (x.vals.map ziD))]), (4, .row 4 1 ((((ps.take j).map (fun p => holdsP p x)) ++ [false]).map boolD))] (by kernel_rfl) h ?_; clear h; intro a w h
      refine then_n ?_
      replace h := h.conv (f' := F.of [(0, .t (.c (.d (.sl 9 (ps.map PropD.d))))), (3, vp 0 0), (4, .t (.c (.d (.raw nilV)))), (5, .t (.c (.own 4 ((ps.take (j + 1)).map (fun p => holdsP p x)).length))), (6, vi .i64 ((j : Int) + 1))] [(0, .box [.d (.sl 1 (x.locs.map intD)), .d (.sl 2 (x.vals.map ziD))]), (4, .row 4 1 (((ps.take (j + 1)).map (fun p => holdsP p x)).map boolD))]) (congrArg (fun (z_ : List Bool) => F.of [(0, .t (.c (.d (.sl 9 (ps.map PropD.d))))), (3, vp 0 0), (4, .t (.c (.d (.raw nilV)))), (5, .t (.c (.own 4 z_.length))), (6, vi .i64 ((j : Int) + 1))] [(0, .box [.d (.sl 1 (x.locs.map intD)), .d (.sl 2 (x.vals.map ziD))]), (4, .row 4 1 (z_.map boolD))]) (show ((((ps.take j).map (fun p => holdsP p x)) ++ [false]) : List Bool) = ((ps.take (j + 1)).map (fun p => holdsP p x)) from (by rw [← map_snoc hx1]; show _ ++ [false] = _ ++ [holdsP x1 x]; rw [show holdsP x1 x = (false) from by unfold holdsP; rw [if_pos hc2]; rw [decide_eq_false (by have := of_decide_eq_false hc5; omega)]; rfl])))
      replace h := renS 4 1 [(0, .t (.c (.d (.sl 9 (ps.map PropD.d))))), (3, vp 0 0), (4, .t (.c (.d (.raw nilV)))), (5, .t (.c (.own 1 ((ps.take (j + 1)).map (fun p => holdsP p x)).length))), (6, vi .i64 ((j : Int) + 1))] [(0, .box [.d (.sl 1 (x.locs.map intD)), .d (.sl 2 (x.vals.map ziD))]), (1, .row 4 1 (((ps.take (j + 1)).map (fun p => holdsP p x)).map boolD))] h (by kernel_rfl) (by kernel_rfl) (by kernel_rfl)
      refine roundS (x := j) (y := j + 1) h ?_ ?_ (by kernel_rfl) (by kernel_rfl)
      ·have := at_lt hx1
       show j + 1 ≤ ps.length
       omega
      ·show ps.length - (j + 1) < ps.length - j
       have := at_lt hx1; omega
    ·have hc6 := hc; clear hc
     have hc6' := of_decide_eq_false hc6
     refine rS fam0ok 5 [(3, .cmp (op := .geq) (m := x1.proc) (n := 0) (b := false) .i64 hc6), (23, .gen _ _ _ fun _ _ _ _ => Op.buildD (d := 44) (len := 1) (rows := [false].map boolD) (rs := [(43, vb false)]) kn_12 (.cons (i := 0) (OV.tmp 43 _) (.nil)) (by kernel_rfl) rfl (by simp [boolD]) (by decide) (by decide)), (24, .gen _ _ _ fun _ _ _ _ => Op.appOD (d := 45) (t := 21) (u := 44) (n := 1) (n' := 5) (len := ((ps.take j).map (fun p => holdsP p x)).length) (len' := (((ps.take j).map (fun p => holdsP p x)) ++ [false]).length) (rows := ((ps.take j).map (fun p => holdsP p x)).map boolD) (rows2 := [false].map boolD) (rows' := (((ps.take j).map (fun p => holdsP p x)) ++ [false]).map boolD) kn_13 (by first | exact (List.length_map _).symm | simp) (by first | (rw [List.length_append, List.length_map]; done) | simp) (by simp) (by simp [boolD]) (by first | omega | (simp at *; done) | (simp at *; omega)))] [(0, .t (.c (.d (.sl 9 (ps.map PropD.d))))), (3, vp 0 0), (4, .t (.c (.d (.raw nilV)))), (5, .t (.c (.own 5 (((ps.take j).map (fun p => holdsP p x)) ++ [false]).length))), (6, vi .i64 (j : Int))] [(0, .box [.d (.sl 1 (x.locs.map intD)), .d (.sl 2 (x.vals.map ziD))]), (5, .row 4 1 ((((ps.take j).map (fun p => holdsP p x)) ++ [false]).map boolD))] (by kernel_rfl) h ?_; clear h; intro a w h
     refine block_n ?_
     refine then_n ?_
     refine rS fam0ok 6 [(1, .add .i64 (m := (j : Int)) (n := 1) (i64_id (by omega) (by omega)))] [(0, .t (.c (.d (.sl 9 (ps.map PropD.d))))), (3, vp 0 0), (4, .t (.c (.d (.raw nilV)))), (5, .t (.c (.own 5 (((ps.take j).map (fun p => holdsP p x)) ++ [false]).length))), (6, vi .i64 ((j : Int) + 1))] [(0, .box [.d (.sl 1 (x.locs.map intD)), .d (.sl 2 (x.vals.map ziD))]), (5, .row 4 1 ((((ps.take j).map (fun p => holdsP p x)) ++ [false]).map boolD))] (by kernel_rfl) h ?_; clear h; intro a w h
     refine then_n ?_
     replace h := h.conv (f' := F.of [(0, .t (.c (.d (.sl 9 (ps.map PropD.d))))), (3, vp 0 0), (4, .t (.c (.d (.raw nilV)))), (5, .t (.c (.own 5 ((ps.take (j + 1)).map (fun p => holdsP p x)).length))), (6, vi .i64 ((j : Int) + 1))] [(0, .box [.d (.sl 1 (x.locs.map intD)), .d (.sl 2 (x.vals.map ziD))]), (5, .row 4 1 (((ps.take (j + 1)).map (fun p => holdsP p x)).map boolD))]) (congrArg (fun (z_ : List Bool) => F.of [(0, .t (.c (.d (.sl 9 (ps.map PropD.d))))), (3, vp 0 0), (4, .t (.c (.d (.raw nilV)))), (5, .t (.c (.own 5 z_.length))), (6, vi .i64 ((j : Int) + 1))] [(0, .box [.d (.sl 1 (x.locs.map intD)), .d (.sl 2 (x.vals.map ziD))]), (5, .row 4 1 (z_.map boolD))]) (show ((((ps.take j).map (fun p => holdsP p x)) ++ [false]) : List Bool) = ((ps.take (j + 1)).map (fun p => holdsP p x)) from (by rw [← map_snoc hx1]; show _ ++ [false] = _ ++ [holdsP x1 x]; rw [show holdsP x1 x = (false) from by unfold holdsP; rw [if_pos hc2]; rw [decide_eq_false (by have := of_decide_eq_false hc6; omega)]; rfl])))
     replace h := renS 5 1 [(0, .t (.c (.d (.sl 9 (ps.map PropD.d))))), (3, vp 0 0), (4, .t (.c (.d (.raw nilV)))), (5, .t (.c (.own 1 ((ps.take (j + 1)).map (fun p => holdsP p x)).length))), (6, vi .i64 ((j : Int) + 1))] [(0, .box [.d (.sl 1 (x.locs.map intD)), .d (.sl 2 (x.vals.map ziD))]), (1, .row 4 1 (((ps.take (j + 1)).map (fun p => holdsP p x)).map boolD))] h (by kernel_rfl) (by kernel_rfl) (by kernel_rfl)
     refine roundS (x := j) (y := j + 1) h ?_ ?_ (by kernel_rfl) (by kernel_rfl)
     ·have := at_lt hx1
      show j + 1 ≤ ps.length
      omega
     ·show ps.length - (j + 1) < ps.length - j
      have := at_lt hx1; omega
   ·have hc7 := hc; clear hc
    refine rS fam0ok 6 [(5, .call (SRHolds x.vals (L := L) (M := M) (by omega) hx.vok x1.f (hps x1 (List.mem_of_getElem? hx1)).1 (hps x1 (List.mem_of_getElem? hx1)).2) ke_10), (6, .gen _ _ _ fun _ _ _ _ => Op.buildD (d := 52) (len := 1) (rows := [FormD.holds x.vals x1.f].map boolD) (rs := [(51, vb (FormD.holds x.vals x1.f))]) kn_12 (.cons (i := 0) (OV.tmp 51 _) (.nil)) (by kernel_rfl) rfl (by simp [boolD]) (by decide) (by decide)), (7, .gen _ _ _ fun _ _ _ _ => Op.appOD (d := 53) (t := 46) (u := 52) (n := 1) (n' := 6) (len := ((ps.take j).map (fun p => holdsP p x)).length) (len' := (((ps.take j).map (fun p => holdsP p x)) ++ [FormD.holds x.vals x1.f]).length) (rows := ((ps.take j).map (fun p => holdsP p x)).map boolD) (rows2 := [FormD.holds x.vals x1.f].map boolD) (rows' := (((ps.take j).map (fun p => holdsP p x)) ++ [FormD.holds x.vals x1.f]).map boolD) kn_13 (by first | exact (List.length_map _).symm | simp) (by first | (rw [List.length_append, List.length_map]; done) | simp) (by simp) (by simp [boolD]) (by first | omega | (simp at *; done) | (simp at *; omega)))] [(0, .t (.c (.d (.sl 9 (ps.map PropD.d))))), (3, vp 0 0), (4, .t (.c (.d (.raw nilV)))), (5, .t (.c (.own 6 (((ps.take j).map (fun p => holdsP p x)) ++ [FormD.holds x.vals x1.f]).length))), (6, vi .i64 (j : Int))] [(0, .box [.d (.sl 1 (x.locs.map intD)), .d (.sl 2 (x.vals.map ziD))]), (6, .row 4 1 ((((ps.take j).map (fun p => holdsP p x)) ++ [FormD.holds x.vals x1.f]).map boolD))] (by kernel_rfl) h ?_; clear h; intro a w h
    refine block_n ?_
    refine then_n ?_
    refine rS fam0ok 7 [(1, .add .i64 (m := (j : Int)) (n := 1) (i64_id (by omega) (by omega)))] [(0, .t (.c (.d (.sl 9 (ps.map PropD.d))))), (3, vp 0 0), (4, .t (.c (.d (.raw nilV)))), (5, .t (.c (.own 6 (((ps.take j).map (fun p => holdsP p x)) ++ [FormD.holds x.vals x1.f]).length))), (6, vi .i64 ((j : Int) + 1))] [(0, .box [.d (.sl 1 (x.locs.map intD)), .d (.sl 2 (x.vals.map ziD))]), (6, .row 4 1 ((((ps.take j).map (fun p => holdsP p x)) ++ [FormD.holds x.vals x1.f]).map boolD))] (by kernel_rfl) h ?_; clear h; intro a w h
    refine then_n ?_
    replace h := h.conv (f' := F.of [(0, .t (.c (.d (.sl 9 (ps.map PropD.d))))), (3, vp 0 0), (4, .t (.c (.d (.raw nilV)))), (5, .t (.c (.own 6 ((ps.take (j + 1)).map (fun p => holdsP p x)).length))), (6, vi .i64 ((j : Int) + 1))] [(0, .box [.d (.sl 1 (x.locs.map intD)), .d (.sl 2 (x.vals.map ziD))]), (6, .row 4 1 (((ps.take (j + 1)).map (fun p => holdsP p x)).map boolD))]) (congrArg (fun (z_ : List Bool) => F.of [(0, .t (.c (.d (.sl 9 (ps.map PropD.d))))), (3, vp 0 0), (4, .t (.c (.d (.raw nilV)))), (5, .t (.c (.own 6 z_.length))), (6, vi .i64 ((j : Int) + 1))] [(0, .box [.d (.sl 1 (x.locs.map intD)), .d (.sl 2 (x.vals.map ziD))]), (6, .row 4 1 (z_.map boolD))]) (show ((((ps.take j).map (fun p => holdsP p x)) ++ [FormD.holds x.vals x1.f]) : List Bool) = ((ps.take (j + 1)).map (fun p => holdsP p x)) from (by rw [← map_snoc hx1]; show _ ++ [FormD.holds x.vals x1.f] = _ ++ [holdsP x1 x]; rw [show holdsP x1 x = (FormD.holds x.vals x1.f) from by unfold holdsP; rw [if_neg (by rw [hc7]; exact Bool.noConfusion)]])))
    replace h := renS 6 1 [(0, .t (.c (.d (.sl 9 (ps.map PropD.d))))), (3, vp 0 0), (4, .t (.c (.d (.raw nilV)))), (5, .t (.c (.own 1 ((ps.take (j + 1)).map (fun p => holdsP p x)).length))), (6, vi .i64 ((j : Int) + 1))] [(0, .box [.d (.sl 1 (x.locs.map intD)), .d (.sl 2 (x.vals.map ziD))]), (1, .row 4 1 (((ps.take (j + 1)).map (fun p => holdsP p x)).map boolD))] h (by kernel_rfl) (by kernel_rfl) (by kernel_rfl)
    refine roundS (x := j) (y := j + 1) h ?_ ?_ (by kernel_rfl) (by kernel_rfl)
    ·have := at_lt hx1
     show j + 1 ≤ ps.length
     omega
    ·show ps.length - (j + 1) < ps.length - j
     have := at_lt hx1; omega
  ·have hc8 := hc; clear hc
   have hc8' := of_decide_eq_false hc8
   refine wp_exit ?_
   refine then_x ?_
   refine then_x ?_
   refine inBlock_exit ?_
   refine then_n ?_
   refine rSeq fam0ok 7 [] [(4, .t (.c (.own 1 ((ps.take j).map (fun p => holdsP p x)).length)))] [(1, .row 4 1 (((ps.take j).map (fun p => holdsP p x)).map boolD))] (by kernel_rfl) h ?_; clear h; intro a w h
   refine wp_ret ?_
   replace h := h.conv (f' := F.of [(4, .t (.c (.own 1 (ps.map (fun p => holdsP p x)).length)))] [(1, .row 4 1 ((ps.map (fun p => holdsP p x)).map boolD))]) (congrArg (fun (z_ : List Bool) => F.of [(4, .t (.c (.own 1 z_.length)))] [(1, .row 4 1 (z_.map boolD))]) (show (((ps.take j).map (fun p => holdsP p x)) : List Bool) = (ps.map (fun p => holdsP p x)) from (by rw [List.take_of_length_le (by omega)])))
   replace h := pubS 1 1 4 ((ps.map (fun p => holdsP p x)).map boolD) [(4, .t (.c (.d (.sl 1 ((ps.map (fun p => holdsP p x)).map boolD)))))] [] h rfl (show AllEq _ [(ps.map (fun p => holdsP p x)).length] from ⟨by first | exact (List.length_map _).symm | (simp; done) | (simp; omega), trivial⟩) trivial (by kernel_rfl) (by kernel_rfl)
   refine retS [.c (.d (.sl 1 ((ps.map (fun p => holdsP p x)).map boolD)))] h Exit.ret (.inl rfl)  rfl ⟨RV.tmp _ _ rfl, trivial⟩ ?_ (by kernel_rfl) (by kernel_rfl)
   rfl
set_option maxHeartbeats 4000000 in
theorem SRSpell (ps : List PropD) (r : RunD) {L M : Nat} (hL : L + M ≤ 4000) (hps : ∀ p ∈ ps, PropOk L p) (hpl : ps.length ≤ 1000) (hr : RunOk M r) : Fn Tryz.prog 26 [] [.t (.c (.d (.sl 9 (ps.map PropD.d)))), .t (.agg [.d (.sl 2 (r.stem.map StD.d)), .d (.sl 2 (r.cycle.map StD.d)), .d (.sl 1 (r.acts.map intD))])] (.t (.agg [.d (.sl 1 ((spell ps r).stem.map (slD 1 boolD))), .d (.sl 1 ((spell ps r).cycle.map (slD 1 boolD)))])) [] := by
 have lr := hr.len
 refine Fn.body Tryz.func26 rfl 48 rfl fun w H B a h => ?_
 refine rSeq fam0ok 0 [] [(0, .t (.c (.d (.sl 9 (ps.map PropD.d))))), (3, vp 0 0), (4, vp 1 0)] [(0, .box [.d (.sl 2 (r.stem.map StD.d)), .d (.sl 2 (r.cycle.map StD.d)), .d (.sl 1 (r.acts.map intD))]), (1, .box [.d (.raw nilV), .d (.raw nilV)])] (by kernel_rfl) h ?_; clear h; intro a w h
 refine rSeq fam0ok 2 [] [(0, .t (.c (.d (.sl 9 (ps.map PropD.d))))), (3, vp 0 0), (4, vp 1 0), (5, vp 2 0)] [(0, .box [.d (.sl 2 (r.stem.map StD.d)), .d (.sl 2 (r.cycle.map StD.d)), .d (.sl 1 (r.acts.map intD))]), (1, .box [.d (.raw nilV), .d (.raw nilV)]), (2, .box [.d (.raw nilV), .d (.raw nilV)])] (by kernel_rfl) h ?_; clear h; intro a w h
 refine wp_seq ?_
 replace h := nilOLs 2 0 3 1 73 [.d (.raw nilV), .d (.raw nilV)] [(0, .t (.c (.d (.sl 9 (ps.map PropD.d))))), (3, vp 0 0), (4, vp 1 0), (5, vp 2 0)] [(0, .box [.d (.sl 2 (r.stem.map StD.d)), .d (.sl 2 (r.cycle.map StD.d)), .d (.sl 1 (r.acts.map intD))]), (1, .box [.d (.raw nilV), .d (.raw nilV)]), (2, .box [.own 3 0, .d (.raw nilV)]), (3, .row 73 1 ([].map (slD 1 boolD)))] h (by kernel_rfl) rfl rfl (by kernel_rfl) (by kernel_rfl)
 replace h := nilOLs 2 1 4 1 73 [.own 3 0, .d (.raw nilV)] [(0, .t (.c (.d (.sl 9 (ps.map PropD.d))))), (3, vp 0 0), (4, vp 1 0), (5, vp 2 0)] [(0, .box [.d (.sl 2 (r.stem.map StD.d)), .d (.sl 2 (r.cycle.map StD.d)), .d (.sl 1 (r.acts.map intD))]), (1, .box [.d (.raw nilV), .d (.raw nilV)]), (2, .box [.own 3 0, .own 4 0]), (3, .row 73 1 ([].map (slD 1 boolD))), (4, .row 73 1 ([].map (slD 1 boolD)))] h (by kernel_rfl) rfl rfl (by kernel_rfl) (by kernel_rfl)
 refine rSeq fam0ok 5 [] [(0, .t (.c (.d (.sl 9 (ps.map PropD.d))))), (3, vp 0 0), (4, vp 1 0), (5, vp 2 0), (6, vi .i64 0)] [(0, .box [.d (.sl 2 (r.stem.map StD.d)), .d (.sl 2 (r.cycle.map StD.d)), .d (.sl 1 (r.acts.map intD))]), (1, .box [.d (.raw nilV), .d (.raw nilV)]), (2, .box [.own 3 0, .own 4 0]), (3, .row 73 1 ([].map (slD 1 boolD))), (4, .row 73 1 ([].map (slD 1 boolD)))] (by kernel_rfl) h ?_; clear h; intro a w h
 refine wp_block ?_
 refine loopS (ι := (Nat)) (fun (z_ : (Nat)) => match z_ with | j => j ≤ r.stem.length)
   (fun (z_ : (Nat)) => match z_ with | j => [(0, .t (.c (.d (.sl 9 (ps.map PropD.d))))), (3, vp 0 0), (4, vp 1 0), (5, vp 2 0), (6, vi .i64 (j : Int))])
   (fun (z_ : (Nat)) => match z_ with | j => [(0, .box [.d (.sl 2 (r.stem.map StD.d)), .d (.sl 2 (r.cycle.map StD.d)), .d (.sl 1 (r.acts.map intD))]), (1, .box [.d (.raw nilV), .d (.raw nilV)]), (2, .box [.own 3 ((r.stem.take j).map (letter ps)).length, .own 4 0]), (3, .row 73 1 (((r.stem.take j).map (letter ps)).map (slD 1 boolD))), (4, .row 73 1 ([].map (slD 1 boolD)))])
   (fun (z_ : (Nat)) => match z_ with | j => r.stem.length - j) 0 ?_ h (by kernel_rfl) (by kernel_rfl) ?_
 ·exact Nat.zero_le _
 ·clear h; rintro j a w hI h
  change St _ (F.of [(0, .t (.c (.d (.sl 9 (ps.map PropD.d))))), (3, vp 0 0), (4, vp 1 0), (5, vp 2 0), (6, vi .i64 (j : Int))] [(0, .box [.d (.sl 2 (r.stem.map StD.d)), .d (.sl 2 (r.cycle.map StD.d)), .d (.sl 1 (r.acts.map intD))]), (1, .box [.d (.raw nilV), .d (.raw nilV)]), (2, .box [.own 3 ((r.stem.take j).map (letter ps)).length, .own 4 0]), (3, .row 73 1 (((r.stem.take j).map (letter ps)).map (slD 1 boolD))), (4, .row 73 1 ([].map (slD 1 boolD)))]) a w at h
  refine wp_seq ?_
  refine rSeq fam0ok 5 [(3, .len (c := (.d (.sl 2 (r.stem.map StD.d)))) (n := r.stem.length) (lenC_map _ _ _))] [(0, .t (.c (.d (.sl 9 (ps.map PropD.d))))), (3, vp 0 0), (4, vp 1 0), (5, vp 2 0), (6, vi .i64 (j : Int)), (13, vb (decide ((j : Int) < (r.stem.length : Int))))] [(0, .box [.d (.sl 2 (r.stem.map StD.d)), .d (.sl 2 (r.cycle.map StD.d)), .d (.sl 1 (r.acts.map intD))]), (1, .box [.d (.raw nilV), .d (.raw nilV)]), (2, .box [.own 3 ((r.stem.take j).map (letter ps)).length, .own 4 0]), (3, .row 73 1 (((r.stem.take j).map (letter ps)).map (slD 1 boolD))), (4, .row 73 1 ([].map (slD 1 boolD)))] (by kernel_rfl) h ?_; clear h; intro a w h
  refine condS (decide ((j : Int) < (r.stem.length : Int))) h rfl (fun hc => ?_) (fun hc => ?_)
  ·have hc1 := hc; clear hc
   have hc1' := of_decide_eq_true hc1
   refine wp_skip ?_
   refine then_n ?_
   refine wp_seq ?_
   refine wp_block ?_
   obtain ⟨x1, hx1⟩ : ∃ z_ : StD, r.stem[j]? = some z_ := ⟨_, List.getElem?_eq_getElem (by first | omega | (simp at *; omega))⟩
   refine rS fam0ok 5 [(6, .gen _ _ _ fun _ _ _ _ => Op.idxD (d := 22) (t := 20) (k := .i64) kn_0 (map_at hx1 (f := StD.d)) (OV.tmp 21 _)), (8, .call (SRLetter ps x1 hL hps hpl (hr.stem x1 (List.mem_of_getElem? hx1))) ks_10), (9, .gen _ _ _ fun _ _ _ _ => Op.buildD (d := 25) (len := 1) (rows := [(letter ps x1)].map (slD 1 boolD)) (rs := [(24, .t (.c (.d (.sl 1 ((letter ps x1).map boolD)))))]) kn_15 (.cons (i := 0) (OV.tmp 24 _) (.nil)) (by kernel_rfl) rfl (by simp [slD]) (by decide) (by decide)), (10, .gen _ _ _ fun _ _ _ _ => Op.appOD (d := 26) (t := 17) (u := 25) (n := 3) (n' := 5) (len := ((r.stem.take j).map (letter ps)).length) (len' := (((r.stem.take j).map (letter ps)) ++ [(letter ps x1)]).length) (rows := ((r.stem.take j).map (letter ps)).map (slD 1 boolD)) (rows2 := [(letter ps x1)].map (slD 1 boolD)) (rows' := (((r.stem.take j).map (letter ps)) ++ [(letter ps x1)]).map (slD 1 boolD)) kn_16 (by first | exact (List.length_map _).symm | simp) (by first | (rw [List.length_append, List.length_map]; done) | simp) (by simp) (by simp [slD]) (by first | omega | (simp at *; done) | (simp at *; omega)))] [(0, .t (.c (.d (.sl 9 (ps.map PropD.d))))), (3, vp 0 0), (4, vp 1 0), (5, vp 2 0), (6, vi .i64 (j : Int))] [(0, .box [.d (.sl 2 (r.stem.map StD.d)), .d (.sl 2 (r.cycle.map StD.d)), .d (.sl 1 (r.acts.map intD))]), (1, .box [.d (.raw nilV), .d (.raw nilV)]), (2, .box ([.own 5 (((r.stem.take j).map (letter ps)) ++ [(letter ps x1)]).length, .own 4 0])), (4, .row 73 1 ([].map (slD 1 boolD))), (5, .row 73 1 ((((r.stem.take j).map (letter ps)) ++ [(letter ps x1)]).map (slD 1 boolD)))] (by kernel_rfl) h ?_; clear h; intro a w h
   refine block_n ?_
   refine then_n ?_
   refine rS fam0ok 6 [(1, .add .i64 (m := (j : Int)) (n := 1) (i64_id (by omega) (by omega)))] [(0, .t (.c (.d (.sl 9 (ps.map PropD.d))))), (3, vp 0 0), (4, vp 1 0), (5, vp 2 0), (6, vi .i64 ((j : Int) + 1))] [(0, .box [.d (.sl 2 (r.stem.map StD.d)), .d (.sl 2 (r.cycle.map StD.d)), .d (.sl 1 (r.acts.map intD))]), (1, .box [.d (.raw nilV), .d (.raw nilV)]), (2, .box ([.own 5 (((r.stem.take j).map (letter ps)) ++ [(letter ps x1)]).length, .own 4 0])), (4, .row 73 1 ([].map (slD 1 boolD))), (5, .row 73 1 ((((r.stem.take j).map (letter ps)) ++ [(letter ps x1)]).map (slD 1 boolD)))] (by kernel_rfl) h ?_; clear h; intro a w h
   refine then_n ?_
   replace h := h.conv (f' := F.of [(0, .t (.c (.d (.sl 9 (ps.map PropD.d))))), (3, vp 0 0), (4, vp 1 0), (5, vp 2 0), (6, vi .i64 ((j : Int) + 1))] [(0, .box [.d (.sl 2 (r.stem.map StD.d)), .d (.sl 2 (r.cycle.map StD.d)), .d (.sl 1 (r.acts.map intD))]), (1, .box [.d (.raw nilV), .d (.raw nilV)]), (2, .box [.own 5 ((r.stem.take (j + 1)).map (letter ps)).length, .own 4 0]), (4, .row 73 1 ([].map (slD 1 boolD))), (5, .row 73 1 (((r.stem.take (j + 1)).map (letter ps)).map (slD 1 boolD)))]) (congrArg (fun (z_ : List (List Bool)) => F.of [(0, .t (.c (.d (.sl 9 (ps.map PropD.d))))), (3, vp 0 0), (4, vp 1 0), (5, vp 2 0), (6, vi .i64 ((j : Int) + 1))] [(0, .box [.d (.sl 2 (r.stem.map StD.d)), .d (.sl 2 (r.cycle.map StD.d)), .d (.sl 1 (r.acts.map intD))]), (1, .box [.d (.raw nilV), .d (.raw nilV)]), (2, .box [.own 5 z_.length, .own 4 0]), (4, .row 73 1 ([].map (slD 1 boolD))), (5, .row 73 1 (z_.map (slD 1 boolD)))]) (show ((((r.stem.take j).map (letter ps)) ++ [(letter ps x1)]) : List (List Bool)) = ((r.stem.take (j + 1)).map (letter ps)) from (by rw [← map_snoc hx1])))
   replace h := renS 5 3 [(0, .t (.c (.d (.sl 9 (ps.map PropD.d))))), (3, vp 0 0), (4, vp 1 0), (5, vp 2 0), (6, vi .i64 ((j : Int) + 1))] [(0, .box [.d (.sl 2 (r.stem.map StD.d)), .d (.sl 2 (r.cycle.map StD.d)), .d (.sl 1 (r.acts.map intD))]), (1, .box [.d (.raw nilV), .d (.raw nilV)]), (2, .box [.own 3 ((r.stem.take (j + 1)).map (letter ps)).length, .own 4 0]), (4, .row 73 1 ([].map (slD 1 boolD))), (3, .row 73 1 (((r.stem.take (j + 1)).map (letter ps)).map (slD 1 boolD)))] h (by kernel_rfl) (by kernel_rfl) (by kernel_rfl)
   refine roundS (x := j) (y := j + 1) h ?_ ?_ (by kernel_rfl) (by kernel_rfl)
   ·have := at_lt hx1
    show j + 1 ≤ r.stem.length
    omega
   ·show r.stem.length - (j + 1) < r.stem.length - j
    have := at_lt hx1; omega
  ·have hc2 := hc; clear hc
   have hc2' := of_decide_eq_false hc2
   refine wp_exit ?_
   refine then_x ?_
   refine then_x ?_
   refine inBlock_exit ?_
   refine then_n ?_
   refine wp_seq ?_
   refine rSeq fam0ok 6 [] [(0, .t (.c (.d (.sl 9 (ps.map PropD.d))))), (3, vp 0 0), (4, vp 1 0), (5, vp 2 0), (7, vi .i64 0)] [(0, .box [.d (.sl 2 (r.stem.map StD.d)), .d (.sl 2 (r.cycle.map StD.d)), .d (.sl 1 (r.acts.map intD))]), (1, .box [.d (.raw nilV), .d (.raw nilV)]), (2, .box [.own 3 ((r.stem.take j).map (letter ps)).length, .own 4 0]), (3, .row 73 1 (((r.stem.take j).map (letter ps)).map (slD 1 boolD))), (4, .row 73 1 ([].map (slD 1 boolD)))] (by kernel_rfl) h ?_; clear h; intro a w h
   refine wp_block ?_
   refine loopS (ι := (Nat)) (fun (z_ : (Nat)) => match z_ with | i => i ≤ r.cycle.length)
     (fun (z_ : (Nat)) => match z_ with | i => [(0, .t (.c (.d (.sl 9 (ps.map PropD.d))))), (3, vp 0 0), (4, vp 1 0), (5, vp 2 0), (7, vi .i64 (i : Int))])
     (fun (z_ : (Nat)) => match z_ with | i => [(0, .box [.d (.sl 2 (r.stem.map StD.d)), .d (.sl 2 (r.cycle.map StD.d)), .d (.sl 1 (r.acts.map intD))]), (1, .box [.d (.raw nilV), .d (.raw nilV)]), (2, .box [.own 3 ((r.stem.take j).map (letter ps)).length, .own 4 ((r.cycle.take i).map (letter ps)).length]), (3, .row 73 1 (((r.stem.take j).map (letter ps)).map (slD 1 boolD))), (4, .row 73 1 (((r.cycle.take i).map (letter ps)).map (slD 1 boolD)))])
     (fun (z_ : (Nat)) => match z_ with | i => r.cycle.length - i) 0 ?_ h (by kernel_rfl) (by kernel_rfl) ?_
   ·exact Nat.zero_le _
   ·clear h; rintro i a w hI h
    change St _ (F.of [(0, .t (.c (.d (.sl 9 (ps.map PropD.d))))), (3, vp 0 0), (4, vp 1 0), (5, vp 2 0), (7, vi .i64 (i : Int))] [(0, .box [.d (.sl 2 (r.stem.map StD.d)), .d (.sl 2 (r.cycle.map StD.d)), .d (.sl 1 (r.acts.map intD))]), (1, .box [.d (.raw nilV), .d (.raw nilV)]), (2, .box [.own 3 ((r.stem.take j).map (letter ps)).length, .own 4 ((r.cycle.take i).map (letter ps)).length]), (3, .row 73 1 (((r.stem.take j).map (letter ps)).map (slD 1 boolD))), (4, .row 73 1 (((r.cycle.take i).map (letter ps)).map (slD 1 boolD)))]) a w at h
    refine wp_seq ?_
    refine rSeq fam0ok 6 [(3, .len (c := (.d (.sl 2 (r.cycle.map StD.d)))) (n := r.cycle.length) (lenC_map _ _ _))] [(0, .t (.c (.d (.sl 9 (ps.map PropD.d))))), (3, vp 0 0), (4, vp 1 0), (5, vp 2 0), (7, vi .i64 (i : Int)), (32, vb (decide ((i : Int) < (r.cycle.length : Int))))] [(0, .box [.d (.sl 2 (r.stem.map StD.d)), .d (.sl 2 (r.cycle.map StD.d)), .d (.sl 1 (r.acts.map intD))]), (1, .box [.d (.raw nilV), .d (.raw nilV)]), (2, .box [.own 3 ((r.stem.take j).map (letter ps)).length, .own 4 ((r.cycle.take i).map (letter ps)).length]), (3, .row 73 1 (((r.stem.take j).map (letter ps)).map (slD 1 boolD))), (4, .row 73 1 (((r.cycle.take i).map (letter ps)).map (slD 1 boolD)))] (by kernel_rfl) h ?_; clear h; intro a w h
    refine condS (decide ((i : Int) < (r.cycle.length : Int))) h rfl (fun hc => ?_) (fun hc => ?_)
    ·have hc3 := hc; clear hc
     have hc3' := of_decide_eq_true hc3
     refine wp_skip ?_
     refine then_n ?_
     refine wp_seq ?_
     refine wp_block ?_
     obtain ⟨x3, hx3⟩ : ∃ z_ : StD, r.cycle[i]? = some z_ := ⟨_, List.getElem?_eq_getElem (by first | omega | (simp at *; omega))⟩
     refine rS fam0ok 6 [(6, .gen _ _ _ fun _ _ _ _ => Op.idxD (d := 41) (t := 39) (k := .i64) kn_0 (map_at hx3 (f := StD.d)) (OV.tmp 40 _)), (8, .call (SRLetter ps x3 hL hps hpl (hr.cycle x3 (List.mem_of_getElem? hx3))) ks_10), (9, .gen _ _ _ fun _ _ _ _ => Op.buildD (d := 44) (len := 1) (rows := [(letter ps x3)].map (slD 1 boolD)) (rs := [(43, .t (.c (.d (.sl 1 ((letter ps x3).map boolD)))))]) kn_15 (.cons (i := 0) (OV.tmp 43 _) (.nil)) (by kernel_rfl) rfl (by simp [slD]) (by decide) (by decide)), (10, .gen _ _ _ fun _ _ _ _ => Op.appOD (d := 45) (t := 36) (u := 44) (n := 4) (n' := 6) (len := ((r.cycle.take i).map (letter ps)).length) (len' := (((r.cycle.take i).map (letter ps)) ++ [(letter ps x3)]).length) (rows := ((r.cycle.take i).map (letter ps)).map (slD 1 boolD)) (rows2 := [(letter ps x3)].map (slD 1 boolD)) (rows' := (((r.cycle.take i).map (letter ps)) ++ [(letter ps x3)]).map (slD 1 boolD)) kn_16 (by first | exact (List.length_map _).symm | simp) (by first | (rw [List.length_append, List.length_map]; done) | simp) (by simp) (by simp [slD]) (by first | omega | (simp at *; done) | (simp at *; omega)))] [(0, .t (.c (.d (.sl 9 (ps.map PropD.d))))), (3, vp 0 0), (4, vp 1 0), (5, vp 2 0), (7, vi .i64 (i : Int))] [(0, .box [.d (.sl 2 (r.stem.map StD.d)), .d (.sl 2 (r.cycle.map StD.d)), .d (.sl 1 (r.acts.map intD))]), (1, .box [.d (.raw nilV), .d (.raw nilV)]), (2, .box ([.own 3 ((r.stem.take j).map (letter ps)).length, .own 6 (((r.cycle.take i).map (letter ps)) ++ [(letter ps x3)]).length])), (3, .row 73 1 (((r.stem.take j).map (letter ps)).map (slD 1 boolD))), (6, .row 73 1 ((((r.cycle.take i).map (letter ps)) ++ [(letter ps x3)]).map (slD 1 boolD)))] (by kernel_rfl) h ?_; clear h; intro a w h
     refine block_n ?_
     refine then_n ?_
     refine rS fam0ok 7 [(1, .add .i64 (m := (i : Int)) (n := 1) (i64_id (by omega) (by omega)))] [(0, .t (.c (.d (.sl 9 (ps.map PropD.d))))), (3, vp 0 0), (4, vp 1 0), (5, vp 2 0), (7, vi .i64 ((i : Int) + 1))] [(0, .box [.d (.sl 2 (r.stem.map StD.d)), .d (.sl 2 (r.cycle.map StD.d)), .d (.sl 1 (r.acts.map intD))]), (1, .box [.d (.raw nilV), .d (.raw nilV)]), (2, .box ([.own 3 ((r.stem.take j).map (letter ps)).length, .own 6 (((r.cycle.take i).map (letter ps)) ++ [(letter ps x3)]).length])), (3, .row 73 1 (((r.stem.take j).map (letter ps)).map (slD 1 boolD))), (6, .row 73 1 ((((r.cycle.take i).map (letter ps)) ++ [(letter ps x3)]).map (slD 1 boolD)))] (by kernel_rfl) h ?_; clear h; intro a w h
     refine then_n ?_
     replace h := h.conv (f' := F.of [(0, .t (.c (.d (.sl 9 (ps.map PropD.d))))), (3, vp 0 0), (4, vp 1 0), (5, vp 2 0), (7, vi .i64 ((i : Int) + 1))] [(0, .box [.d (.sl 2 (r.stem.map StD.d)), .d (.sl 2 (r.cycle.map StD.d)), .d (.sl 1 (r.acts.map intD))]), (1, .box [.d (.raw nilV), .d (.raw nilV)]), (2, .box [.own 3 ((r.stem.take j).map (letter ps)).length, .own 6 ((r.cycle.take (i + 1)).map (letter ps)).length]), (3, .row 73 1 (((r.stem.take j).map (letter ps)).map (slD 1 boolD))), (6, .row 73 1 (((r.cycle.take (i + 1)).map (letter ps)).map (slD 1 boolD)))]) (congrArg (fun (z_ : List (List Bool)) => F.of [(0, .t (.c (.d (.sl 9 (ps.map PropD.d))))), (3, vp 0 0), (4, vp 1 0), (5, vp 2 0), (7, vi .i64 ((i : Int) + 1))] [(0, .box [.d (.sl 2 (r.stem.map StD.d)), .d (.sl 2 (r.cycle.map StD.d)), .d (.sl 1 (r.acts.map intD))]), (1, .box [.d (.raw nilV), .d (.raw nilV)]), (2, .box [.own 3 ((r.stem.take j).map (letter ps)).length, .own 6 z_.length]), (3, .row 73 1 (((r.stem.take j).map (letter ps)).map (slD 1 boolD))), (6, .row 73 1 (z_.map (slD 1 boolD)))]) (show ((((r.cycle.take i).map (letter ps)) ++ [(letter ps x3)]) : List (List Bool)) = ((r.cycle.take (i + 1)).map (letter ps)) from (by rw [← map_snoc hx3])))
     replace h := renS 6 4 [(0, .t (.c (.d (.sl 9 (ps.map PropD.d))))), (3, vp 0 0), (4, vp 1 0), (5, vp 2 0), (7, vi .i64 ((i : Int) + 1))] [(0, .box [.d (.sl 2 (r.stem.map StD.d)), .d (.sl 2 (r.cycle.map StD.d)), .d (.sl 1 (r.acts.map intD))]), (1, .box [.d (.raw nilV), .d (.raw nilV)]), (2, .box [.own 3 ((r.stem.take j).map (letter ps)).length, .own 4 ((r.cycle.take (i + 1)).map (letter ps)).length]), (3, .row 73 1 (((r.stem.take j).map (letter ps)).map (slD 1 boolD))), (4, .row 73 1 (((r.cycle.take (i + 1)).map (letter ps)).map (slD 1 boolD)))] h (by kernel_rfl) (by kernel_rfl) (by kernel_rfl)
     refine roundS (x := i) (y := i + 1) h ?_ ?_ (by kernel_rfl) (by kernel_rfl)
     ·have := at_lt hx3
      show i + 1 ≤ r.cycle.length
      omega
     ·show r.cycle.length - (i + 1) < r.cycle.length - i
      have := at_lt hx3; omega
    ·have hc4 := hc; clear hc
     have hc4' := of_decide_eq_false hc4
     refine wp_exit ?_
     refine then_x ?_
     refine then_x ?_
     refine inBlock_exit ?_
     refine then_n ?_
     refine rSeq fam0ok 7 [] [(4, vp 1 0)] [(1, .box [.own 3 ((r.stem.take j).map (letter ps)).length, .own 4 ((r.cycle.take i).map (letter ps)).length]), (3, .row 73 1 (((r.stem.take j).map (letter ps)).map (slD 1 boolD))), (4, .row 73 1 (((r.cycle.take i).map (letter ps)).map (slD 1 boolD)))] (by kernel_rfl) h ?_; clear h; intro a w h
     refine wp_ret ?_
     replace h := h.conv (f' := F.of [(4, vp 1 0)] [(1, .box [.own 3 (r.stem.map (letter ps)).length, .own 4 ((r.cycle.take i).map (letter ps)).length]), (3, .row 73 1 ((r.stem.map (letter ps)).map (slD 1 boolD))), (4, .row 73 1 (((r.cycle.take i).map (letter ps)).map (slD 1 boolD)))]) (congrArg (fun (z_ : List (List Bool)) => F.of [(4, vp 1 0)] [(1, .box [.own 3 z_.length, .own 4 ((r.cycle.take i).map (letter ps)).length]), (3, .row 73 1 (z_.map (slD 1 boolD))), (4, .row 73 1 (((r.cycle.take i).map (letter ps)).map (slD 1 boolD)))]) (show (((r.stem.take j).map (letter ps)) : List (List Bool)) = (r.stem.map (letter ps)) from (by rw [List.take_of_length_le (by omega)])))
     replace h := h.conv (f' := F.of [(4, vp 1 0)] [(1, .box [.own 3 (r.stem.map (letter ps)).length, .own 4 (r.cycle.map (letter ps)).length]), (3, .row 73 1 ((r.stem.map (letter ps)).map (slD 1 boolD))), (4, .row 73 1 ((r.cycle.map (letter ps)).map (slD 1 boolD)))]) (congrArg (fun (z_ : List (List Bool)) => F.of [(4, vp 1 0)] [(1, .box [.own 3 (r.stem.map (letter ps)).length, .own 4 z_.length]), (3, .row 73 1 ((r.stem.map (letter ps)).map (slD 1 boolD))), (4, .row 73 1 (z_.map (slD 1 boolD)))]) (show (((r.cycle.take i).map (letter ps)) : List (List Bool)) = (r.cycle.map (letter ps)) from (by rw [List.take_of_length_le (by omega)])))
     replace h := pubS 3 1 73 ((r.stem.map (letter ps)).map (slD 1 boolD)) [(4, vp 1 0)] [(1, .box [.d (.sl 1 ((r.stem.map (letter ps)).map (slD 1 boolD))), .own 4 (r.cycle.map (letter ps)).length]), (4, .row 73 1 ((r.cycle.map (letter ps)).map (slD 1 boolD)))] h rfl trivial (show AllEq _ [(r.stem.map (letter ps)).length] from ⟨by first | exact (List.length_map _).symm | (simp; done) | (simp; omega), trivial⟩) (by kernel_rfl) (by kernel_rfl)
     replace h := pubS 4 1 73 ((r.cycle.map (letter ps)).map (slD 1 boolD)) [(4, vp 1 0)] [(1, .box [.d (.sl 1 ((r.stem.map (letter ps)).map (slD 1 boolD))), .d (.sl 1 ((r.cycle.map (letter ps)).map (slD 1 boolD)))])] h rfl trivial (show AllEq _ [(r.cycle.map (letter ps)).length] from ⟨by first | exact (List.length_map _).symm | (simp; done) | (simp; omega), trivial⟩) (by kernel_rfl) (by kernel_rfl)
     refine retS [.agg [.d (.sl 1 ((r.stem.map (letter ps)).map (slD 1 boolD))), .d (.sl 1 ((r.cycle.map (letter ps)).map (slD 1 boolD)))]] h Exit.ret (.inl rfl)  rfl ⟨RV.agg _ 1 0 _ _ _ _ ks_13 rfl rfl rfl rfl, trivial⟩ ?_ (by kernel_rfl) (by kernel_rfl)
     rfl
set_option maxHeartbeats 4000000 in
theorem SR15Same (ws : List (List Bool)) (hl : ws.length ≤ 1000) (hl2 : ∀ x ∈ ws, x.length ≤ 1000) : Fn Tryz.prog 29 [] [.t (.c (.d (.sl 1 (ws.map (slD 1 boolD))))), .t (.c (.d (.sl 1 (ws.map (slD 1 boolD)))))] (vb true) [] := by
 refine Fn.body Tryz.func29 rfl 53 rfl fun w H B a h => ?_
 refine rSeq fam0ok 0 [] [(0, .t (.c (.d (.sl 1 (ws.map (slD 1 boolD)))))), (1, .t (.c (.d (.sl 1 (ws.map (slD 1 boolD)))))), (4, vb false)] [] (by kernel_rfl) h ?_; clear h; intro a w h
 refine wp_seq ?_
 refine rSeq fam0ok 0 [(1, .len (c := (.d (.sl 1 (ws.map (slD 1 boolD))))) (n := ws.length) (lenC_map _ _ _)), (3, .len (c := (.d (.sl 1 (ws.map (slD 1 boolD))))) (n := ws.length) (lenC_map _ _ _)), (4, .cmp (op := .neq) (m := (ws.length : Int)) (n := (ws.length : Int)) (b := false) .i64 (show ((ws.length : Int) != (ws.length : Int)) = false from by simp))] [(0, .t (.c (.d (.sl 1 (ws.map (slD 1 boolD)))))), (1, .t (.c (.d (.sl 1 (ws.map (slD 1 boolD)))))), (4, vb false), (11, vb false)] [] (by kernel_rfl) h ?_; clear h; intro a w h
 refine condS false h rfl (fun hc => ?_) (fun hc => ?_)
 ·cases hc
 ·clear hc
  refine wp_skip ?_
  refine then_n ?_
  refine wp_seq ?_
  refine rSeq fam0ok 0 [] [(0, .t (.c (.d (.sl 1 (ws.map (slD 1 boolD)))))), (1, .t (.c (.d (.sl 1 (ws.map (slD 1 boolD)))))), (4, vb false), (5, vi .i64 0)] [] (by kernel_rfl) h ?_; clear h; intro a w h
  refine wp_block ?_
  refine loopS (ι := (Nat)) (fun (z_ : (Nat)) => match z_ with | j => j ≤ ws.length)
    (fun (z_ : (Nat)) => match z_ with | j => [(0, .t (.c (.d (.sl 1 (ws.map (slD 1 boolD)))))), (1, .t (.c (.d (.sl 1 (ws.map (slD 1 boolD)))))), (5, vi .i64 (j : Int))])
    (fun (z_ : (Nat)) => match z_ with | j => [])
    (fun (z_ : (Nat)) => match z_ with | j => ws.length - j) 0 ?_ h (by kernel_rfl) (by kernel_rfl) ?_
  ·exact Nat.zero_le _
  ·clear h; rintro j a w hI h
   change St _ (F.of [(0, .t (.c (.d (.sl 1 (ws.map (slD 1 boolD)))))), (1, .t (.c (.d (.sl 1 (ws.map (slD 1 boolD)))))), (5, vi .i64 (j : Int))] []) a w at h
   refine wp_seq ?_
   refine rSeq fam0ok 0 [(2, .len (c := (.d (.sl 1 (ws.map (slD 1 boolD))))) (n := ws.length) (lenC_map _ _ _))] [(0, .t (.c (.d (.sl 1 (ws.map (slD 1 boolD)))))), (1, .t (.c (.d (.sl 1 (ws.map (slD 1 boolD)))))), (5, vi .i64 (j : Int)), (15, vb (decide ((j : Int) < (ws.length : Int))))] [] (by kernel_rfl) h ?_; clear h; intro a w h
   refine condS (decide ((j : Int) < (ws.length : Int))) h rfl (fun hc => ?_) (fun hc => ?_)
   ·have hc1 := hc; clear hc
    have hc1' := of_decide_eq_true hc1
    refine wp_skip ?_
    refine then_n ?_
    refine wp_seq ?_
    refine wp_block ?_
    refine wp_seq ?_
    obtain ⟨x1, hx1⟩ : ∃ z_ : List Bool, ws[j]? = some z_ := ⟨_, List.getElem?_eq_getElem (by first | omega | (simp at *; omega))⟩
    have lnx1 := hl2 x1 (List.mem_of_getElem? hx1)
    refine rSeq fam0ok 0 [(2, .gen _ _ _ fun _ _ _ _ => Op.idxD (d := 20) (t := 18) (k := .i64) ks_14 (map_at hx1 (f := (slD 1 boolD))) (OV.tmp 19 _)), (4, .len (c := (.d (.sl 1 (x1.map boolD)))) (n := x1.length) (lenC_map _ _ _)), (7, .gen _ _ _ fun _ _ _ _ => Op.idxD (d := 25) (t := 23) (k := .i64) ks_14 (map_at hx1 (f := (slD 1 boolD))) (OV.tmp 24 _)), (9, .len (c := (.d (.sl 1 (x1.map boolD)))) (n := x1.length) (lenC_map _ _ _)), (10, .cmp (op := .neq) (m := (x1.length : Int)) (n := (x1.length : Int)) (b := false) .i64 (show ((x1.length : Int) != (x1.length : Int)) = false from by simp))] [(0, .t (.c (.d (.sl 1 (ws.map (slD 1 boolD)))))), (1, .t (.c (.d (.sl 1 (ws.map (slD 1 boolD)))))), (5, vi .i64 (j : Int)), (28, vb false)] [] (by kernel_rfl) h ?_; clear h; intro a w h
    refine condS false h rfl (fun hc => ?_) (fun hc => ?_)
    ·cases hc
    ·clear hc
     refine wp_skip ?_
     refine then_n ?_
     refine rSeq fam0ok 0 [] [(0, .t (.c (.d (.sl 1 (ws.map (slD 1 boolD)))))), (1, .t (.c (.d (.sl 1 (ws.map (slD 1 boolD)))))), (5, vi .i64 (j : Int)), (6, vi .i64 0)] [] (by kernel_rfl) h ?_; clear h; intro a w h
     refine wp_block ?_
     refine loopS (ι := (Nat)) (fun (z_ : (Nat)) => match z_ with | i => i ≤ x1.length)
       (fun (z_ : (Nat)) => match z_ with | i => [(0, .t (.c (.d (.sl 1 (ws.map (slD 1 boolD)))))), (1, .t (.c (.d (.sl 1 (ws.map (slD 1 boolD)))))), (5, vi .i64 (j : Int)), (6, vi .i64 (i : Int))])
       (fun (z_ : (Nat)) => match z_ with | i => [])
       (fun (z_ : (Nat)) => match z_ with | i => x1.length - i) 0 ?_ h (by kernel_rfl) (by kernel_rfl) ?_
     ·exact Nat.zero_le _
     ·clear h; rintro i a w hI h
      change St _ (F.of [(0, .t (.c (.d (.sl 1 (ws.map (slD 1 boolD)))))), (1, .t (.c (.d (.sl 1 (ws.map (slD 1 boolD)))))), (5, vi .i64 (j : Int)), (6, vi .i64 (i : Int))] []) a w at h
      refine wp_seq ?_
      refine rSeq fam0ok 0 [(3, .gen _ _ _ fun _ _ _ _ => Op.idxD (d := 32) (t := 30) (k := .i64) ks_14 (map_at hx1 (f := (slD 1 boolD))) (OV.tmp 31 _)), (5, .len (c := (.d (.sl 1 (x1.map boolD)))) (n := x1.length) (lenC_map _ _ _))] [(0, .t (.c (.d (.sl 1 (ws.map (slD 1 boolD)))))), (1, .t (.c (.d (.sl 1 (ws.map (slD 1 boolD)))))), (5, vi .i64 (j : Int)), (6, vi .i64 (i : Int)), (35, vb (decide ((i : Int) < (x1.length : Int))))] [] (by kernel_rfl) h ?_; clear h; intro a w h
      refine condS (decide ((i : Int) < (x1.length : Int))) h rfl (fun hc => ?_) (fun hc => ?_)
      ·have hc2 := hc; clear hc
       have hc2' := of_decide_eq_true hc2
       refine wp_skip ?_
       refine then_n ?_
       refine wp_seq ?_
       refine wp_block ?_
       obtain ⟨x2, hx2⟩ : ∃ z_ : Bool, x1[i]? = some z_ := ⟨_, List.getElem?_eq_getElem (by first | omega | (simp at *; omega))⟩
       refine rSeq fam0ok 0 [(2, .gen _ _ _ fun _ _ _ _ => Op.idxD (d := 40) (t := 38) (k := .i64) ks_14 (map_at hx1 (f := (slD 1 boolD))) (OV.tmp 39 _)), (5, .gen _ _ _ fun _ _ _ _ => Op.idxD (d := 43) (t := 41) (k := .i64) ks_15 (map_at hx2 (f := boolD)) (OV.tmp 42 _)), (9, .gen _ _ _ fun _ _ _ _ => Op.idxD (d := 47) (t := 45) (k := .i64) ks_14 (map_at hx1 (f := (slD 1 boolD))) (OV.tmp 46 _)), (12, .gen _ _ _ fun _ _ _ _ => Op.idxD (d := 50) (t := 48) (k := .i64) ks_15 (map_at hx2 (f := boolD)) (OV.tmp 49 _)), (14, .cmpb .neq (m := x2) (n := x2) (b := false) (.inr ⟨rfl, (show (x2 != x2) = false from by simp).symm⟩))] [(0, .t (.c (.d (.sl 1 (ws.map (slD 1 boolD)))))), (1, .t (.c (.d (.sl 1 (ws.map (slD 1 boolD)))))), (5, vi .i64 (j : Int)), (6, vi .i64 (i : Int)), (52, vb false)] [] (by kernel_rfl) h ?_; clear h; intro a w h
       refine condS false h rfl (fun hc => ?_) (fun hc => ?_)
       ·cases hc
       ·clear hc
        refine wp_skip ?_
        refine block_n ?_
        refine then_n ?_
        refine rS fam0ok 0 [(1, .add .i64 (m := (i : Int)) (n := 1) (i64_id (by omega) (by omega)))] [(0, .t (.c (.d (.sl 1 (ws.map (slD 1 boolD)))))), (1, .t (.c (.d (.sl 1 (ws.map (slD 1 boolD)))))), (5, vi .i64 (j : Int)), (6, vi .i64 ((i : Int) + 1))] [] (by kernel_rfl) h ?_; clear h; intro a w h
        refine then_n ?_
        refine roundS (x := i) (y := i + 1) h ?_ ?_ (by kernel_rfl) (by kernel_rfl)
        ·show i + 1 ≤ x1.length
         omega
        ·show x1.length - (i + 1) < x1.length - i
         omega
      ·have hc3 := hc; clear hc
       have hc3' := of_decide_eq_false hc3
       refine wp_exit ?_
       refine then_x ?_
       refine then_x ?_
       refine inBlock_exit ?_
       refine block_n ?_
       refine then_n ?_
       refine rS fam0ok 0 [(1, .add .i64 (m := (j : Int)) (n := 1) (i64_id (by omega) (by omega)))] [(0, .t (.c (.d (.sl 1 (ws.map (slD 1 boolD)))))), (1, .t (.c (.d (.sl 1 (ws.map (slD 1 boolD)))))), (5, vi .i64 ((j : Int) + 1))] [] (by kernel_rfl) h ?_; clear h; intro a w h
       refine then_n ?_
       refine roundS (x := j) (y := j + 1) h ?_ ?_ (by kernel_rfl) (by kernel_rfl)
       ·show j + 1 ≤ ws.length
        omega
       ·show ws.length - (j + 1) < ws.length - j
        omega
   ·have hc4 := hc; clear hc
    have hc4' := of_decide_eq_false hc4
    refine wp_exit ?_
    refine then_x ?_
    refine then_x ?_
    refine inBlock_exit ?_
    refine then_n ?_
    refine rSeq fam0ok 0 [] [(4, vb true)] [] (by kernel_rfl) h ?_; clear h; intro a w h
    refine wp_ret ?_
    refine retS [.c (.d (.raw (.bool true)))] h Exit.ret (.inl rfl)  rfl ⟨RV.tmp _ _ rfl, trivial⟩ ?_ (by kernel_rfl) (by kernel_rfl)
    rfl
end Go.Proofs.YtmohlifepfjmdaaGreat.S
end
section
namespace Go.Proofs.YtmohlifepfjmdaaGreat.S
open Go.RowKit

theorem kt_1 : Bodied Tryz.prog 24 := Bodied.mk' (by kernel_rfl)
theorem all2c {α β : Type} {R : α → β → Prop} {x : α} {xs : List α} {us : List β} (h : All2 R (x :: xs) us) : ∃ u vs, us = u :: vs ∧ R x u ∧ All2 R xs vs := by
 cases us with
 | nil => exact h.elim
 | cons u us => exact ⟨u, us, rfl, h⟩
theorem Fn.agg6 {P : Program} {k : FuncId} {ps qs : List (Nat × L)} {es : Nat} {c1 c2 c3 c4 c5 : C} {x y res : V} (h : Fn P k ps [.t (.agg [c1, c2, c3, c4, c5, .d (.sl es [])]), x, y] res qs) : Fn P k ps [.t (.agg [c1, c2, c3, c4, c5, .d (.raw nilV)]), x, y] res qs := by
 intro w H B vals pre
 obtain ⟨h1, h2, h3, h4, h5⟩ := pre
 cases vals with
 | nil => exact h5.elim
 | cons v vs =>
  obtain ⟨⟨us, rfl, ha⟩, ht⟩ := h5
  obtain ⟨u1, us, rfl, a1, ha⟩ := all2c ha
  obtain ⟨u2, us, rfl, a2, ha⟩ := all2c ha
  obtain ⟨u3, us, rfl, a3, ha⟩ := all2c ha
  obtain ⟨u4, us, rfl, a4, ha⟩ := all2c ha
  obtain ⟨u5, us, rfl, a5, ha⟩ := all2c ha
  obtain ⟨u6, us, rfl, a6, hz⟩ := all2c ha
  have h6 : u6 = nilV := VR.rawI (B := B) a6
  subst h6
  exact h w H B _ ⟨h1, h2, h3, h4, ⟨_, rfl, a1, a2, a3, a4, a5, DR.nil _ _ _ (fun _ => rfl) (Nat.zero_le _), hz⟩, ht⟩
def fewB (L : Nat) (b : BoundD) : Bool := decide ((b.lo.abs.length : Int) ≤ (L : Int)) && decide ((b.hi.abs.length : Int) ≤ (L : Int))
def formT (t : Term) : FormD := ⟨2, ⟨t, false⟩, []⟩
def fewM (L : Nat) (m : MoveD) : Bool := fewF (formT m.t) 5 L
def fewA (L : Nat) (c : ActD) : Bool := (fewF c.guard 30 L && decide ((c.moves.length : Int) ≤ 20)) && c.moves.all (fewM L)
def fewSys (L : Nat) (s : SysD) : Bool := (decide ((s.vars.length : Int) ≤ 8 ∧ (s.bounds.length : Int) ≤ 20 ∧ (s.procs.length : Int) ≤ 6 ∧ (s.acts.length : Int) ≤ 20) && fewF s.init 30 L) && (s.bounds.all (fewB L) && s.acts.all (fewA L))
def fewSt (L : Nat) (x : StD) : Bool := decide ((x.locs.length : Int) ≤ 10 ∧ (x.vals.length : Int) ≤ 10) && x.vals.all fun z => decide ((z.abs.length : Int) ≤ (L : Int))
/-- limbs that are limbs -/
structure SysRd (s : SysD) : Prop where
  init : s.init.lb
  bnd : ∀ b ∈ s.bounds, Lb b.lo.abs ∧ Lb b.hi.abs
  act : ∀ c ∈ s.acts, c.guard.lb ∧ ∀ m ∈ c.moves, TLb m.t
  len : s.bounds.length ≤ 9223372036854775807 ∧ s.acts.length ≤ 9223372036854775807
  mlen : ∀ c ∈ s.acts, c.moves.length ≤ 9223372036854775807
def StRd (x : StD) : Prop := (∀ z ∈ x.vals, Lb z.abs) ∧ x.vals.length ≤ 9223372036854775807
theorem fewF_ok {f : FormD} {most : Int} {L : Nat} (h : fewF f most L = true) (hl : f.lb) : f.ok L := by unfold fewF at h; rw [Bool.and_eq_true] at h; exact FormD.few_ok f h.2 hl
theorem formT_lb {t : Term} (h : TLb t) : (formT t).lb := (FormD.lb_eq _).2 ⟨⟨h, Nat.zero_le _⟩, fun g hg => (by cases hg)⟩
theorem formT_ok {t : Term} {L : Nat} (h : (formT t).ok L) : TOk 20 L t := ((FormD.ok_eq L _).1 h).1 rfl
theorem few_sys {L : Nat} {s : SysD} (h : fewSys L s = true) (hr : SysRd s) : SysOk L s := by
 unfold fewSys at h
 simp only [Bool.and_eq_true, decide_eq_true_eq, List.all_eq_true] at h
 obtain ⟨⟨⟨h1, h2, h3, h4⟩, h5⟩, h6, h7⟩ := h
 refine ⟨by omega, by omega, by omega, by omega, fun b hb => ?_, ⟨hr.init, fewF_ok h5 hr.init⟩, fun c hc => ?_⟩
 ·have := h6 b hb; unfold fewB at this; simp only [Bool.and_eq_true, decide_eq_true_eq] at this
  exact ⟨⟨(hr.bnd b hb).1, by omega⟩, (hr.bnd b hb).2, by omega⟩
 ·have := h7 c hc; unfold fewA at this; simp only [Bool.and_eq_true, decide_eq_true_eq, List.all_eq_true] at this
  exact ⟨⟨(hr.act c hc).1, fewF_ok this.1.1 (hr.act c hc).1⟩, by omega, fun m hm => formT_ok (fewF_ok (this.2 m hm) (formT_lb ((hr.act c hc).2 m hm)))⟩
theorem few_st {L : Nat} {x : StD} (h : fewSt L x = true) (hr : StRd x) : StOk L x := by
 unfold fewSt at h
 simp only [Bool.and_eq_true, decide_eq_true_eq, List.all_eq_true] at h
 exact ⟨by omega, by omega, fun z hz => ⟨hr.1 z hz, by have := h.2 z hz; omega⟩⟩
set_option maxHeartbeats 4000000 in
theorem SFewSt (x : StD) (L : Nat) (hr : StRd x) : Fn Tryz.prog 7 [] [.t (.agg [.d (.sl 1 (x.locs.map intD)), .d (.sl 2 (x.vals.map ziD))]), vi .i64 (L : Int)] (vb (fewSt L x)) [] := by
 have lv := hr.2
 refine Fn.body Tryz.func7 rfl 32 rfl fun w H B a h => ?_
 refine rSeq fam0ok 0 [] [(1, vi .i64 (L : Int)), (2, vp 0 0), (4, vb false)] [(0, .box [.d (.sl 1 (x.locs.map intD)), .d (.sl 2 (x.vals.map ziD))])] (by kernel_rfl) h ?_; clear h; intro a w h
 refine wp_seq ?_
 rcases Bool.eq_false_or_eq_true (decide ((x.locs.length : Int) > 10)) with hc | hc
 ·have hc1 := hc; clear hc
  have hc1' := of_decide_eq_true hc1
  refine rSeq fam0ok 1 [(2, .len (c := (.d (.sl 1 (x.locs.map intD)))) (n := x.locs.length) (lenC_map _ _ _)), (3, .cmp (op := .gtr) (m := (x.locs.length : Int)) (n := 10) (b := true) .i64 hc1)] [(1, vi .i64 (L : Int)), (2, vp 0 0), (4, vb false), (15, vb true)] [(0, .box [.d (.sl 1 (x.locs.map intD)), .d (.sl 2 (x.vals.map ziD))])] (by kernel_rfl) h ?_; clear h; intro a w h
  refine condS true h rfl (fun hc => ?_) (fun hc => ?_)
  ·clear hc
   refine rSeq fam0ok 1 [] [(1, vi .i64 (L : Int)), (2, vp 0 0), (4, vb false)] [(0, .box [.d (.sl 1 (x.locs.map intD)), .d (.sl 2 (x.vals.map ziD))])] (by kernel_rfl) h ?_; clear h; intro a w h
   refine wp_ret ?_
   refine then_r ?_
   refine retS [.c (.d (.raw (.bool false)))] h Exit.ret (.inl rfl)  rfl ⟨RV.tmp _ _ rfl, trivial⟩ ?_ (by kernel_rfl) (by kernel_rfl)
   have hz : fewSt L x = false := by unfold fewSt; rw [decide_eq_false (p := (x.locs.length : Int) ≤ 10 ∧ (x.vals.length : Int) ≤ 10) (by have := of_decide_eq_true hc1; omega)]; rfl
   rw [hz]; first | done | rfl
  ·cases hc
 ·have hc2 := hc; clear hc
  have hc2' := of_decide_eq_false hc2
  refine rSeq fam0ok 1 [(2, .len (c := (.d (.sl 1 (x.locs.map intD)))) (n := x.locs.length) (lenC_map _ _ _)), (3, .cmp (op := .gtr) (m := (x.locs.length : Int)) (n := 10) (b := false) .i64 hc2), (7, .len (c := (.d (.sl 2 (x.vals.map ziD)))) (n := x.vals.length) (lenC_map _ _ _))] [(1, vi .i64 (L : Int)), (2, vp 0 0), (4, vb false), (15, vb (decide ((x.vals.length : Int) > 10)))] [(0, .box [.d (.sl 1 (x.locs.map intD)), .d (.sl 2 (x.vals.map ziD))])] (by kernel_rfl) h ?_; clear h; intro a w h
  refine condS (decide ((x.vals.length : Int) > 10)) h rfl (fun hc => ?_) (fun hc => ?_)
  ·have hc3 := hc; clear hc
   have hc3' := of_decide_eq_true hc3
   refine rSeq fam0ok 1 [] [(1, vi .i64 (L : Int)), (2, vp 0 0), (4, vb false)] [(0, .box [.d (.sl 1 (x.locs.map intD)), .d (.sl 2 (x.vals.map ziD))])] (by kernel_rfl) h ?_; clear h; intro a w h
   refine wp_ret ?_
   refine then_r ?_
   refine retS [.c (.d (.raw (.bool false)))] h Exit.ret (.inl rfl)  rfl ⟨RV.tmp _ _ rfl, trivial⟩ ?_ (by kernel_rfl) (by kernel_rfl)
   have hz : fewSt L x = false := by unfold fewSt; rw [decide_eq_false (p := (x.locs.length : Int) ≤ 10 ∧ (x.vals.length : Int) ≤ 10) (by have := of_decide_eq_true hc3; omega)]; rfl
   rw [hz]; first | done | rfl
  ·have hc4 := hc; clear hc
   have hc4' := of_decide_eq_false hc4
   refine wp_skip ?_
   refine then_n ?_
   refine wp_seq ?_
   refine rSeq fam0ok 1 [] [(1, vi .i64 (L : Int)), (2, vp 0 0), (4, vb false), (5, vi .i64 0)] [(0, .box [.d (.sl 1 (x.locs.map intD)), .d (.sl 2 (x.vals.map ziD))])] (by kernel_rfl) h ?_; clear h; intro a w h
   refine wp_block ?_
   refine loopS (ι := (Nat)) (fun (z_ : (Nat)) => match z_ with | j => j ≤ x.vals.length ∧ (x.vals.take j).all (fun z => decide ((z.abs.length : Int) ≤ (L : Int))) = true)
     (fun (z_ : (Nat)) => match z_ with | j => [(1, vi .i64 (L : Int)), (2, vp 0 0), (5, vi .i64 (j : Int))])
     (fun (z_ : (Nat)) => match z_ with | j => [(0, .box [.d (.sl 1 (x.locs.map intD)), .d (.sl 2 (x.vals.map ziD))])])
     (fun (z_ : (Nat)) => match z_ with | j => x.vals.length - j) 0 ?_ h (by kernel_rfl) (by kernel_rfl) ?_
   ·exact ⟨Nat.zero_le _, rfl⟩
   ·clear h; rintro j a w hI h
    change St _ (F.of [(1, vi .i64 (L : Int)), (2, vp 0 0), (5, vi .i64 (j : Int))] [(0, .box [.d (.sl 1 (x.locs.map intD)), .d (.sl 2 (x.vals.map ziD))])]) a w at h
    obtain ⟨hI1, hI2⟩ := hI
    refine wp_seq ?_
    refine rSeq fam0ok 1 [(3, .len (c := (.d (.sl 2 (x.vals.map ziD)))) (n := x.vals.length) (lenC_map _ _ _))] [(1, vi .i64 (L : Int)), (2, vp 0 0), (5, vi .i64 (j : Int)), (20, vb (decide ((j : Int) < (x.vals.length : Int))))] [(0, .box [.d (.sl 1 (x.locs.map intD)), .d (.sl 2 (x.vals.map ziD))])] (by kernel_rfl) h ?_; clear h; intro a w h
    refine condS (decide ((j : Int) < (x.vals.length : Int))) h rfl (fun hc => ?_) (fun hc => ?_)
    ·have hc5 := hc; clear hc
     have hc5' := of_decide_eq_true hc5
     refine wp_skip ?_
     refine then_n ?_
     refine wp_seq ?_
     refine wp_block ?_
     obtain ⟨x1, hx1⟩ : ∃ z_ : ZI, x.vals[j]? = some z_ := ⟨_, List.getElem?_eq_getElem (by first | omega | (simp at *; omega))⟩
     refine rSeq fam0ok 1 [(3, .gen _ _ _ fun _ _ _ _ => Op.idxD (d := 26) (t := 24) (k := .i64) tt_6 (map_at hx1 (f := ziD)) (OV.tmp 25 _)), (6, .len (nsl_len x1.abs))] [(1, vi .i64 (L : Int)), (2, vp 0 0), (5, vi .i64 (j : Int)), (31, vb (decide ((x1.abs.length : Int) > (L : Int))))] [(0, .box [.d (.sl 1 (x.locs.map intD)), .d (.sl 2 (x.vals.map ziD))])] (by kernel_rfl) h ?_; clear h; intro a w h
     refine condS (decide ((x1.abs.length : Int) > (L : Int))) h rfl (fun hc => ?_) (fun hc => ?_)
     ·have hc6 := hc; clear hc
      have hc6' := of_decide_eq_true hc6
      refine rSeq fam0ok 1 [] [(1, vi .i64 (L : Int)), (2, vp 0 0), (4, vb false), (5, vi .i64 (j : Int))] [(0, .box [.d (.sl 1 (x.locs.map intD)), .d (.sl 2 (x.vals.map ziD))])] (by kernel_rfl) h ?_; clear h; intro a w h
      refine wp_ret ?_
      refine block_r ?_
      refine then_r ?_
      refine then_r ?_
      refine block_r ?_
      refine then_r ?_
      refine retS [.c (.d (.raw (.bool false)))] h Exit.ret (.inl rfl)  rfl ⟨RV.tmp _ _ rfl, trivial⟩ ?_ (by kernel_rfl) (by kernel_rfl)
      have hz : fewSt L x = false := by unfold fewSt; rw [decide_eq_true (p := (x.locs.length : Int) ≤ 10 ∧ (x.vals.length : Int) ≤ 10) (by have := of_decide_eq_false hc2; have := of_decide_eq_false hc4; omega), Bool.true_and]; exact all_stop hx1 (decide_eq_false (by have := of_decide_eq_true hc6; omega))
      rw [hz]; first | done | rfl
     ·have hc7 := hc; clear hc
      have hc7' := of_decide_eq_false hc7
      refine wp_skip ?_
      refine block_n ?_
      refine then_n ?_
      refine rS fam0ok 1 [(1, .add .i64 (m := (j : Int)) (n := 1) (i64_id (by omega) (by omega)))] [(1, vi .i64 (L : Int)), (2, vp 0 0), (5, vi .i64 ((j : Int) + 1))] [(0, .box [.d (.sl 1 (x.locs.map intD)), .d (.sl 2 (x.vals.map ziD))])] (by kernel_rfl) h ?_; clear h; intro a w h
      refine then_n ?_
      refine roundS (x := j) (y := j + 1) h ?_ ?_ (by kernel_rfl) (by kernel_rfl)
      ·exact ⟨by have := at_lt hx1; omega, all_step hx1 hI2 (decide_eq_true (by have := of_decide_eq_false hc7; omega))⟩
      ·show x.vals.length - (j + 1) < x.vals.length - j
       have := at_lt hx1; omega
    ·have hc8 := hc; clear hc
     have hc8' := of_decide_eq_false hc8
     refine wp_exit ?_
     refine then_x ?_
     refine then_x ?_
     refine inBlock_exit ?_
     refine then_n ?_
     refine rSeq fam0ok 1 [] [(4, vb true)] [] (by kernel_rfl) h ?_; clear h; intro a w h
     refine wp_ret ?_
     refine retS [.c (.d (.raw (.bool true)))] h Exit.ret (.inl rfl)  rfl ⟨RV.tmp _ _ rfl, trivial⟩ ?_ (by kernel_rfl) (by kernel_rfl)
     have hz : fewSt L x = true := by unfold fewSt; rw [decide_eq_true (p := (x.locs.length : Int) ≤ 10 ∧ (x.vals.length : Int) ≤ 10) (by have := of_decide_eq_false hc2; have := of_decide_eq_false hc4; omega), Bool.true_and]; exact all_end (of_decide_eq_false hc8) hI2
     rw [hz]; first | done | rfl
set_option maxHeartbeats 4000000 in
theorem SFewSys (s : SysD) (L : Nat) (hr : SysRd s) : Fn Tryz.prog 6 [] [.t (.agg (sysC s)), vi .i64 (L : Int)] (vb (fewSys L s)) [] := by
 have lb1 := hr.len.1
 have lb2 := hr.len.2
 refine Fn.body Tryz.func6 rfl 118 rfl fun w H B a h => ?_
 refine rSeq fam0ok 0 [] [(1, vi .i64 (L : Int)), (2, vp 0 0), (4, vb false)] [(0, .box (sysC s))] (by kernel_rfl) h ?_; clear h; intro a w h
 refine wp_seq ?_
 rcases Bool.eq_false_or_eq_true (decide ((s.vars.length : Int) > 8)) with hc | hc
 ·have hc1 := hc; clear hc
  have hc1' := of_decide_eq_true hc1
  refine rSeq fam0ok 1 [(2, .len (c := (.d (.sl 1 (s.vars.map strD)))) (n := s.vars.length) (lenC_map _ _ _)), (3, .cmp (op := .gtr) (m := (s.vars.length : Int)) (n := 8) (b := true) .i64 hc1)] [(1, vi .i64 (L : Int)), (2, vp 0 0), (4, vb false), (36, vb true)] [(0, .box (sysC s))] (by kernel_rfl) h ?_; clear h; intro a w h
  refine condS true h rfl (fun hc => ?_) (fun hc => ?_)
  ·clear hc
   refine rSeq fam0ok 1 [] [(1, vi .i64 (L : Int)), (2, vp 0 0), (4, vb false)] [(0, .box (sysC s))] (by kernel_rfl) h ?_; clear h; intro a w h
   refine wp_ret ?_
   refine then_r ?_
   refine retS [.c (.d (.raw (.bool false)))] h Exit.ret (.inl rfl)  rfl ⟨RV.tmp _ _ rfl, trivial⟩ ?_ (by kernel_rfl) (by kernel_rfl)
   have hz : fewSys L s = false := by unfold fewSys; rw [decide_eq_false (p := (s.vars.length : Int) ≤ 8 ∧ (s.bounds.length : Int) ≤ 20 ∧ (s.procs.length : Int) ≤ 6 ∧ (s.acts.length : Int) ≤ 20) (by have := of_decide_eq_true hc1; omega)]; rfl
   rw [hz]; first | done | rfl
  ·cases hc
 ·have hc2 := hc; clear hc
  have hc2' := of_decide_eq_false hc2
  rcases Bool.eq_false_or_eq_true (decide ((s.bounds.length : Int) > 20)) with hc | hc
  ·have hc3 := hc; clear hc
   have hc3' := of_decide_eq_true hc3
   refine rSeq fam0ok 1 [(2, .len (c := (.d (.sl 1 (s.vars.map strD)))) (n := s.vars.length) (lenC_map _ _ _)), (3, .cmp (op := .gtr) (m := (s.vars.length : Int)) (n := 8) (b := false) .i64 hc2), (7, .len (c := (.d (.sl 5 (s.bounds.map BoundD.d)))) (n := s.bounds.length) (lenC_map _ _ _)), (8, .cmp (op := .gtr) (m := (s.bounds.length : Int)) (n := 20) (b := true) .i64 hc3)] [(1, vi .i64 (L : Int)), (2, vp 0 0), (4, vb false), (36, vb true)] [(0, .box (sysC s))] (by kernel_rfl) h ?_; clear h; intro a w h
   refine condS true h rfl (fun hc => ?_) (fun hc => ?_)
   ·clear hc
    refine rSeq fam0ok 1 [] [(1, vi .i64 (L : Int)), (2, vp 0 0), (4, vb false)] [(0, .box (sysC s))] (by kernel_rfl) h ?_; clear h; intro a w h
    refine wp_ret ?_
    refine then_r ?_
    refine retS [.c (.d (.raw (.bool false)))] h Exit.ret (.inl rfl)  rfl ⟨RV.tmp _ _ rfl, trivial⟩ ?_ (by kernel_rfl) (by kernel_rfl)
    have hz : fewSys L s = false := by unfold fewSys; rw [decide_eq_false (p := (s.vars.length : Int) ≤ 8 ∧ (s.bounds.length : Int) ≤ 20 ∧ (s.procs.length : Int) ≤ 6 ∧ (s.acts.length : Int) ≤ 20) (by have := of_decide_eq_true hc3; omega)]; rfl
    rw [hz]; first | done | rfl
   ·cases hc
  ·have hc4 := hc; clear hc
   have hc4' := of_decide_eq_false hc4
   rcases Bool.eq_false_or_eq_true (decide ((s.procs.length : Int) > 6)) with hc | hc
   ·have hc5 := hc; clear hc
    have hc5' := of_decide_eq_true hc5
    refine rSeq fam0ok 1 [(2, .len (c := (.d (.sl 1 (s.vars.map strD)))) (n := s.vars.length) (lenC_map _ _ _)), (3, .cmp (op := .gtr) (m := (s.vars.length : Int)) (n := 8) (b := false) .i64 hc2), (7, .len (c := (.d (.sl 5 (s.bounds.map BoundD.d)))) (n := s.bounds.length) (lenC_map _ _ _)), (8, .cmp (op := .gtr) (m := (s.bounds.length : Int)) (n := 20) (b := false) .i64 hc4), (13, .len (c := (.d (.sl 3 (s.procs.map ProcD.d)))) (n := s.procs.length) (lenC_map _ _ _)), (14, .cmp (op := .gtr) (m := (s.procs.length : Int)) (n := 6) (b := true) .i64 hc5)] [(1, vi .i64 (L : Int)), (2, vp 0 0), (4, vb false), (36, vb true)] [(0, .box (sysC s))] (by kernel_rfl) h ?_; clear h; intro a w h
    refine condS true h rfl (fun hc => ?_) (fun hc => ?_)
    ·clear hc
     refine rSeq fam0ok 1 [] [(1, vi .i64 (L : Int)), (2, vp 0 0), (4, vb false)] [(0, .box (sysC s))] (by kernel_rfl) h ?_; clear h; intro a w h
     refine wp_ret ?_
     refine then_r ?_
     refine retS [.c (.d (.raw (.bool false)))] h Exit.ret (.inl rfl)  rfl ⟨RV.tmp _ _ rfl, trivial⟩ ?_ (by kernel_rfl) (by kernel_rfl)
     have hz : fewSys L s = false := by unfold fewSys; rw [decide_eq_false (p := (s.vars.length : Int) ≤ 8 ∧ (s.bounds.length : Int) ≤ 20 ∧ (s.procs.length : Int) ≤ 6 ∧ (s.acts.length : Int) ≤ 20) (by have := of_decide_eq_true hc5; omega)]; rfl
     rw [hz]; first | done | rfl
    ·cases hc
   ·have hc6 := hc; clear hc
    have hc6' := of_decide_eq_false hc6
    rcases Bool.eq_false_or_eq_true (decide ((s.acts.length : Int) > 20)) with hc | hc
    ·have hc7 := hc; clear hc
     have hc7' := of_decide_eq_true hc7
     refine rSeq fam0ok 1 [(2, .len (c := (.d (.sl 1 (s.vars.map strD)))) (n := s.vars.length) (lenC_map _ _ _)), (3, .cmp (op := .gtr) (m := (s.vars.length : Int)) (n := 8) (b := false) .i64 hc2), (7, .len (c := (.d (.sl 5 (s.bounds.map BoundD.d)))) (n := s.bounds.length) (lenC_map _ _ _)), (8, .cmp (op := .gtr) (m := (s.bounds.length : Int)) (n := 20) (b := false) .i64 hc4), (13, .len (c := (.d (.sl 3 (s.procs.map ProcD.d)))) (n := s.procs.length) (lenC_map _ _ _)), (14, .cmp (op := .gtr) (m := (s.procs.length : Int)) (n := 6) (b := false) .i64 hc6), (19, .len (c := (.d (.sl 10 (s.acts.map ActD.d)))) (n := s.acts.length) (lenC_map _ _ _)), (20, .cmp (op := .gtr) (m := (s.acts.length : Int)) (n := 20) (b := true) .i64 hc7)] [(1, vi .i64 (L : Int)), (2, vp 0 0), (4, vb false), (36, vb true)] [(0, .box (sysC s))] (by kernel_rfl) h ?_; clear h; intro a w h
     refine condS true h rfl (fun hc => ?_) (fun hc => ?_)
     ·clear hc
      refine rSeq fam0ok 1 [] [(1, vi .i64 (L : Int)), (2, vp 0 0), (4, vb false)] [(0, .box (sysC s))] (by kernel_rfl) h ?_; clear h; intro a w h
      refine wp_ret ?_
      refine then_r ?_
      refine retS [.c (.d (.raw (.bool false)))] h Exit.ret (.inl rfl)  rfl ⟨RV.tmp _ _ rfl, trivial⟩ ?_ (by kernel_rfl) (by kernel_rfl)
      have hz : fewSys L s = false := by unfold fewSys; rw [decide_eq_false (p := (s.vars.length : Int) ≤ 8 ∧ (s.bounds.length : Int) ≤ 20 ∧ (s.procs.length : Int) ≤ 6 ∧ (s.acts.length : Int) ≤ 20) (by have := of_decide_eq_true hc7; omega)]; rfl
      rw [hz]; first | done | rfl
     ·cases hc
    ·have hc8 := hc; clear hc
     have hc8' := of_decide_eq_false hc8
     refine rSeq fam0ok 1 [(2, .len (c := (.d (.sl 1 (s.vars.map strD)))) (n := s.vars.length) (lenC_map _ _ _)), (3, .cmp (op := .gtr) (m := (s.vars.length : Int)) (n := 8) (b := false) .i64 hc2), (7, .len (c := (.d (.sl 5 (s.bounds.map BoundD.d)))) (n := s.bounds.length) (lenC_map _ _ _)), (8, .cmp (op := .gtr) (m := (s.bounds.length : Int)) (n := 20) (b := false) .i64 hc4), (13, .len (c := (.d (.sl 3 (s.procs.map ProcD.d)))) (n := s.procs.length) (lenC_map _ _ _)), (14, .cmp (op := .gtr) (m := (s.procs.length : Int)) (n := 6) (b := false) .i64 hc6), (19, .len (c := (.d (.sl 10 (s.acts.map ActD.d)))) (n := s.acts.length) (lenC_map _ _ _)), (20, .cmp (op := .gtr) (m := (s.acts.length : Int)) (n := 20) (b := false) .i64 hc8), (26, .call (SFewF s.init 30 (L : Int) hr.init (by decide) (by decide)) kt_1)] [(1, vi .i64 (L : Int)), (2, vp 0 0), (4, vb false), (36, vb (!(fewF s.init 30 L)))] [(0, .box (sysC s))] (by kernel_rfl) h ?_; clear h; intro a w h
     refine condS (!(fewF s.init 30 L)) h rfl (fun hc => ?_) (fun hc => ?_)
     ·have hc9 := hc; clear hc
      have hc9' := hc9; (try simp at hc9')
      refine rSeq fam0ok 1 [] [(1, vi .i64 (L : Int)), (2, vp 0 0), (4, vb false)] [(0, .box (sysC s))] (by kernel_rfl) h ?_; clear h; intro a w h
      refine wp_ret ?_
      refine then_r ?_
      refine retS [.c (.d (.raw (.bool false)))] h Exit.ret (.inl rfl)  rfl ⟨RV.tmp _ _ rfl, trivial⟩ ?_ (by kernel_rfl) (by kernel_rfl)
      have hz : fewSys L s = false := by unfold fewSys; rw [decide_eq_true (p := (s.vars.length : Int) ≤ 8 ∧ (s.bounds.length : Int) ≤ 20 ∧ (s.procs.length : Int) ≤ 6 ∧ (s.acts.length : Int) ≤ 20) (by have := of_decide_eq_false hc2; have := of_decide_eq_false hc4; have := of_decide_eq_false hc6; have := of_decide_eq_false hc8; omega), Bool.true_and]; rw [(show (fewF s.init 30 L) = false from by simpa using hc9)]; rfl
      rw [hz]; first | done | rfl
     ·have hc10 := hc; clear hc
      have hc10' := hc10; (try simp at hc10')
      refine wp_skip ?_
      refine then_n ?_
      refine wp_seq ?_
      refine rSeq fam0ok 1 [] [(1, vi .i64 (L : Int)), (2, vp 0 0), (4, vb false), (5, vi .i64 0)] [(0, .box (sysC s))] (by kernel_rfl) h ?_; clear h; intro a w h
      refine wp_block ?_
      refine loopS (ι := (Nat)) (fun (z_ : (Nat)) => match z_ with | j => j ≤ s.bounds.length ∧ (s.bounds.take j).all (fewB L) = true)
        (fun (z_ : (Nat)) => match z_ with | j => [(1, vi .i64 (L : Int)), (2, vp 0 0), (5, vi .i64 (j : Int))])
        (fun (z_ : (Nat)) => match z_ with | j => [(0, .box (sysC s))])
        (fun (z_ : (Nat)) => match z_ with | j => s.bounds.length - j) 0 ?_ h (by kernel_rfl) (by kernel_rfl) ?_
      ·exact ⟨Nat.zero_le _, rfl⟩
      ·clear h; rintro j a w hI h
       change St _ (F.of [(1, vi .i64 (L : Int)), (2, vp 0 0), (5, vi .i64 (j : Int))] [(0, .box (sysC s))]) a w at h
       obtain ⟨hI1, hI2⟩ := hI
       refine wp_seq ?_
       refine rSeq fam0ok 1 [(3, .len (c := (.d (.sl 5 (s.bounds.map BoundD.d)))) (n := s.bounds.length) (lenC_map _ _ _))] [(1, vi .i64 (L : Int)), (2, vp 0 0), (5, vi .i64 (j : Int)), (41, vb (decide ((j : Int) < (s.bounds.length : Int))))] [(0, .box (sysC s))] (by kernel_rfl) h ?_; clear h; intro a w h
       refine condS (decide ((j : Int) < (s.bounds.length : Int))) h rfl (fun hc => ?_) (fun hc => ?_)
       ·have hc11 := hc; clear hc
        have hc11' := of_decide_eq_true hc11
        refine wp_skip ?_
        refine then_n ?_
        refine wp_seq ?_
        refine wp_block ?_
        obtain ⟨x2, hx2⟩ : ∃ z_ : BoundD, s.bounds[j]? = some z_ := ⟨_, List.getElem?_eq_getElem (by first | omega | (simp at *; omega))⟩
        rcases Bool.eq_false_or_eq_true (decide ((x2.lo.abs.length : Int) > (L : Int))) with hc | hc
        ·have hc12 := hc; clear hc
         have hc12' := of_decide_eq_true hc12
         refine rSeq fam0ok 1 [(3, .gen _ _ _ fun _ _ _ _ => Op.idxD (d := 47) (t := 45) (k := .i64) kf_0 (map_at hx2 (f := BoundD.d)) (OV.tmp 46 _)), (7, .len (nsl_len x2.lo.abs)), (9, .cmp (op := .gtr) (m := (x2.lo.abs.length : Int)) (n := (L : Int)) (b := true) .i64 hc12)] [(1, vi .i64 (L : Int)), (2, vp 0 0), (5, vi .i64 (j : Int)), (65, vb true)] [(0, .box (sysC s))] (by kernel_rfl) h ?_; clear h; intro a w h
         refine condS true h rfl (fun hc => ?_) (fun hc => ?_)
         ·clear hc
          refine rSeq fam0ok 1 [] [(1, vi .i64 (L : Int)), (2, vp 0 0), (4, vb false), (5, vi .i64 (j : Int))] [(0, .box (sysC s))] (by kernel_rfl) h ?_; clear h; intro a w h
          refine wp_ret ?_
          refine block_r ?_
          refine then_r ?_
          refine then_r ?_
          refine block_r ?_
          refine then_r ?_
          refine retS [.c (.d (.raw (.bool false)))] h Exit.ret (.inl rfl)  rfl ⟨RV.tmp _ _ rfl, trivial⟩ ?_ (by kernel_rfl) (by kernel_rfl)
          have hz : fewSys L s = false := by unfold fewSys; rw [decide_eq_true (p := (s.vars.length : Int) ≤ 8 ∧ (s.bounds.length : Int) ≤ 20 ∧ (s.procs.length : Int) ≤ 6 ∧ (s.acts.length : Int) ≤ 20) (by have := of_decide_eq_false hc2; have := of_decide_eq_false hc4; have := of_decide_eq_false hc6; have := of_decide_eq_false hc8; omega), Bool.true_and]; rw [(show (fewF s.init 30 L) = true from by simpa using hc10)]; rw [all_stop hx2 (show fewB L x2 = false from (by unfold fewB; rw [decide_eq_false (by have := of_decide_eq_true hc12; omega)]; rfl))]; rfl
          rw [hz]; first | done | rfl
         ·cases hc
        ·have hc13 := hc; clear hc
         have hc13' := of_decide_eq_false hc13
         refine rSeq fam0ok 1 [(3, .gen _ _ _ fun _ _ _ _ => Op.idxD (d := 47) (t := 45) (k := .i64) kf_0 (map_at hx2 (f := BoundD.d)) (OV.tmp 46 _)), (7, .len (nsl_len x2.lo.abs)), (9, .cmp (op := .gtr) (m := (x2.lo.abs.length : Int)) (n := (L : Int)) (b := false) .i64 hc13), (14, .gen _ _ _ fun _ _ _ _ => Op.idxD (d := 58) (t := 56) (k := .i64) kf_0 (map_at hx2 (f := BoundD.d)) (OV.tmp 57 _)), (18, .len (nsl_len x2.hi.abs))] [(1, vi .i64 (L : Int)), (2, vp 0 0), (5, vi .i64 (j : Int)), (65, vb (decide ((x2.hi.abs.length : Int) > (L : Int))))] [(0, .box (sysC s))] (by kernel_rfl) h ?_; clear h; intro a w h
         refine condS (decide ((x2.hi.abs.length : Int) > (L : Int))) h rfl (fun hc => ?_) (fun hc => ?_)
         ·have hc14 := hc; clear hc
          have hc14' := of_decide_eq_true hc14
          refine rSeq fam0ok 1 [] [(1, vi .i64 (L : Int)), (2, vp 0 0), (4, vb false), (5, vi .i64 (j : Int))] [(0, .box (sysC s))] (by kernel_rfl) h ?_; clear h; intro a w h
          refine wp_ret ?_
          refine block_r ?_
          refine then_r ?_
          refine then_r ?_
          refine block_r ?_
          refine then_r ?_
          refine retS [.c (.d (.raw (.bool false)))] h Exit.ret (.inl rfl)  rfl ⟨RV.tmp _ _ rfl, trivial⟩ ?_ (by kernel_rfl) (by kernel_rfl)
          have hz : fewSys L s = false := by unfold fewSys; rw [decide_eq_true (p := (s.vars.length : Int) ≤ 8 ∧ (s.bounds.length : Int) ≤ 20 ∧ (s.procs.length : Int) ≤ 6 ∧ (s.acts.length : Int) ≤ 20) (by have := of_decide_eq_false hc2; have := of_decide_eq_false hc4; have := of_decide_eq_false hc6; have := of_decide_eq_false hc8; omega), Bool.true_and]; rw [(show (fewF s.init 30 L) = true from by simpa using hc10)]; rw [all_stop hx2 (show fewB L x2 = false from (by unfold fewB; rw [decide_eq_false (p := (x2.hi.abs.length : Int) ≤ (L : Int)) (by have := of_decide_eq_true hc14; omega), Bool.and_false]))]; rfl
          rw [hz]; first | done | rfl
         ·have hc15 := hc; clear hc
          have hc15' := of_decide_eq_false hc15
          refine wp_skip ?_
          refine block_n ?_
          refine then_n ?_
          refine rS fam0ok 1 [(1, .add .i64 (m := (j : Int)) (n := 1) (i64_id (by omega) (by omega)))] [(1, vi .i64 (L : Int)), (2, vp 0 0), (5, vi .i64 ((j : Int) + 1))] [(0, .box (sysC s))] (by kernel_rfl) h ?_; clear h; intro a w h
          refine then_n ?_
          refine roundS (x := j) (y := j + 1) h ?_ ?_ (by kernel_rfl) (by kernel_rfl)
          ·exact ⟨by have := at_lt hx2; omega, all_step hx2 hI2 (by unfold fewB; rw [decide_eq_true (by have := of_decide_eq_false hc13; omega), decide_eq_true (by have := of_decide_eq_false hc15; omega)]; rfl)⟩
          ·show s.bounds.length - (j + 1) < s.bounds.length - j
           have := at_lt hx2; omega
       ·have hc16 := hc; clear hc
        have hc16' := of_decide_eq_false hc16
        refine wp_exit ?_
        refine then_x ?_
        refine then_x ?_
        refine inBlock_exit ?_
        refine then_n ?_
        refine wp_seq ?_
        refine rSeq fam0ok 1 [] [(1, vi .i64 (L : Int)), (2, vp 0 0), (6, vi .i64 0)] [(0, .box (sysC s))] (by kernel_rfl) h ?_; clear h; intro a w h
        refine wp_block ?_
        refine loopS (ι := (Nat)) (fun (z_ : (Nat)) => match z_ with | q => q ≤ s.acts.length ∧ (s.acts.take q).all (fewA L) = true)
          (fun (z_ : (Nat)) => match z_ with | q => [(1, vi .i64 (L : Int)), (2, vp 0 0), (6, vi .i64 (q : Int))])
          (fun (z_ : (Nat)) => match z_ with | q => [(0, .box (sysC s))])
          (fun (z_ : (Nat)) => match z_ with | q => s.acts.length - q) 0 ?_ h (by kernel_rfl) (by kernel_rfl) ?_
        ·exact ⟨Nat.zero_le _, rfl⟩
        ·clear h; rintro q a w hI h
         change St _ (F.of [(1, vi .i64 (L : Int)), (2, vp 0 0), (6, vi .i64 (q : Int))] [(0, .box (sysC s))]) a w at h
         obtain ⟨hQ1, hQ2⟩ := hI
         refine wp_seq ?_
         refine rSeq fam0ok 1 [(3, .len (c := (.d (.sl 10 (s.acts.map ActD.d)))) (n := s.acts.length) (lenC_map _ _ _))] [(1, vi .i64 (L : Int)), (2, vp 0 0), (6, vi .i64 (q : Int)), (70, vb (decide ((q : Int) < (s.acts.length : Int))))] [(0, .box (sysC s))] (by kernel_rfl) h ?_; clear h; intro a w h
         refine condS (decide ((q : Int) < (s.acts.length : Int))) h rfl (fun hc => ?_) (fun hc => ?_)
         ·have hc17 := hc; clear hc
          have hc17' := of_decide_eq_true hc17
          refine wp_skip ?_
          refine then_n ?_
          refine wp_seq ?_
          refine wp_block ?_
          refine wp_seq ?_
          obtain ⟨x3, hx3⟩ : ∃ z_ : ActD, s.acts[q]? = some z_ := ⟨_, List.getElem?_eq_getElem (by first | omega | (simp at *; omega))⟩
          have lmx3 := hr.mlen x3 (List.mem_of_getElem? hx3)
          rcases Bool.eq_false_or_eq_true (fewF x3.guard 30 L) with hc | hc
          ·have hc18 := hc; clear hc
           refine rSeq fam0ok 1 [(3, .gen _ _ _ fun _ _ _ _ => Op.idxD (d := 76) (t := 74) (k := .i64) ki_1 (map_at hx3 (f := ActD.d)) (OV.tmp 75 _)), (7, .call (Fn.cast (SFewF x3.guard 30 (L : Int) (hr.act x3 (List.mem_of_getElem? hx3)).1 (by decide) (by decide)) (congrArg vb hc18)) kt_1), (13, .gen _ _ _ fun _ _ _ _ => Op.idxD (d := 86) (t := 84) (k := .i64) ki_1 (map_at hx3 (f := ActD.d)) (OV.tmp 85 _)), (16, .len (c := (.d (.sl 5 (x3.moves.map MoveD.d)))) (n := x3.moves.length) (lenC_map _ _ _))] [(1, vi .i64 (L : Int)), (2, vp 0 0), (6, vi .i64 (q : Int)), (91, vb (decide ((x3.moves.length : Int) > 20)))] [(0, .box (sysC s))] (by kernel_rfl) h ?_; clear h; intro a w h
           refine condS (decide ((x3.moves.length : Int) > 20)) h rfl (fun hc => ?_) (fun hc => ?_)
           ·have hc19 := hc; clear hc
            have hc19' := of_decide_eq_true hc19
            refine rSeq fam0ok 1 [] [(1, vi .i64 (L : Int)), (2, vp 0 0), (4, vb false), (6, vi .i64 (q : Int))] [(0, .box (sysC s))] (by kernel_rfl) h ?_; clear h; intro a w h
            refine wp_ret ?_
            refine then_r ?_
            refine block_r ?_
            refine then_r ?_
            refine then_r ?_
            refine block_r ?_
            refine then_r ?_
            refine retS [.c (.d (.raw (.bool false)))] h Exit.ret (.inl rfl)  rfl ⟨RV.tmp _ _ rfl, trivial⟩ ?_ (by kernel_rfl) (by kernel_rfl)
            have hz : fewSys L s = false := by unfold fewSys; rw [decide_eq_true (p := (s.vars.length : Int) ≤ 8 ∧ (s.bounds.length : Int) ≤ 20 ∧ (s.procs.length : Int) ≤ 6 ∧ (s.acts.length : Int) ≤ 20) (by have := of_decide_eq_false hc2; have := of_decide_eq_false hc4; have := of_decide_eq_false hc6; have := of_decide_eq_false hc8; omega), Bool.true_and]; rw [(show (fewF s.init 30 L) = true from by simpa using hc10)]; rw [all_end (of_decide_eq_false hc16) hI2]; rw [all_stop hx3 (show fewA L x3 = false from (by unfold fewA; rw [decide_eq_false (p := (x3.moves.length : Int) ≤ 20) (by have := of_decide_eq_true hc19; omega), Bool.and_false]; rfl))]; rfl
            rw [hz]; first | done | rfl
           ·have hc20 := hc; clear hc
            have hc20' := of_decide_eq_false hc20
            refine wp_skip ?_
            refine then_n ?_
            refine rSeq fam0ok 1 [] [(1, vi .i64 (L : Int)), (2, vp 0 0), (6, vi .i64 (q : Int)), (7, vi .i64 0)] [(0, .box (sysC s))] (by kernel_rfl) h ?_; clear h; intro a w h
            refine wp_block ?_
            refine loopS (ι := (Nat)) (fun (z_ : (Nat)) => match z_ with | i => i ≤ x3.moves.length ∧ (x3.moves.take i).all (fewM L) = true)
              (fun (z_ : (Nat)) => match z_ with | i => [(1, vi .i64 (L : Int)), (2, vp 0 0), (6, vi .i64 (q : Int)), (7, vi .i64 (i : Int))])
              (fun (z_ : (Nat)) => match z_ with | i => [(0, .box (sysC s))])
              (fun (z_ : (Nat)) => match z_ with | i => x3.moves.length - i) 0 ?_ h (by kernel_rfl) (by kernel_rfl) ?_
            ·exact ⟨Nat.zero_le _, rfl⟩
            ·clear h; rintro i a w hI h
             change St _ (F.of [(1, vi .i64 (L : Int)), (2, vp 0 0), (6, vi .i64 (q : Int)), (7, vi .i64 (i : Int))] [(0, .box (sysC s))]) a w at h
             obtain ⟨hJ1, hJ2⟩ := hI
             refine wp_seq ?_
             refine rSeq fam0ok 1 [(4, .gen _ _ _ fun _ _ _ _ => Op.idxD (d := 96) (t := 94) (k := .i64) ki_1 (map_at hx3 (f := ActD.d)) (OV.tmp 95 _)), (7, .len (c := (.d (.sl 5 (x3.moves.map MoveD.d)))) (n := x3.moves.length) (lenC_map _ _ _))] [(1, vi .i64 (L : Int)), (2, vp 0 0), (6, vi .i64 (q : Int)), (7, vi .i64 (i : Int)), (100, vb (decide ((i : Int) < (x3.moves.length : Int))))] [(0, .box (sysC s))] (by kernel_rfl) h ?_; clear h; intro a w h
             refine condS (decide ((i : Int) < (x3.moves.length : Int))) h rfl (fun hc => ?_) (fun hc => ?_)
             ·have hc21 := hc; clear hc
              have hc21' := of_decide_eq_true hc21
              refine wp_skip ?_
              refine then_n ?_
              refine wp_seq ?_
              refine wp_block ?_
              obtain ⟨x6, hx6⟩ : ∃ z_ : MoveD, x3.moves[i]? = some z_ := ⟨_, List.getElem?_eq_getElem (by first | omega | (simp at *; omega))⟩
              refine rSeq fam0ok 1 [(3, .gen _ _ _ fun _ _ _ _ => Op.idxD (d := 106) (t := 104) (k := .i64) ki_1 (map_at hx3 (f := ActD.d)) (OV.tmp 105 _)), (7, .gen _ _ _ fun _ _ _ _ => Op.idxD (d := 110) (t := 108) (k := .i64) ki_2 (map_at hx6 (f := MoveD.d)) (OV.tmp 109 _)), (13, .call (Fn.agg6 (SFewF (formT x6.t) 5 (L : Int) (formT_lb ((hr.act x3 (List.mem_of_getElem? hx3)).2 x6 (List.mem_of_getElem? hx6))) (by decide) (by decide))) kt_1)] [(1, vi .i64 (L : Int)), (2, vp 0 0), (6, vi .i64 (q : Int)), (7, vi .i64 (i : Int)), (117, vb (!(fewF (formT x6.t) 5 L)))] [(0, .box (sysC s))] (by kernel_rfl) h ?_; clear h; intro a w h
              refine condS (!(fewF (formT x6.t) 5 L)) h rfl (fun hc => ?_) (fun hc => ?_)
              ·have hc22 := hc; clear hc
               have hc22' := hc22; (try simp at hc22')
               refine rSeq fam0ok 1 [] [(1, vi .i64 (L : Int)), (2, vp 0 0), (4, vb false), (6, vi .i64 (q : Int)), (7, vi .i64 (i : Int))] [(0, .box (sysC s))] (by kernel_rfl) h ?_; clear h; intro a w h
               refine wp_ret ?_
               refine block_r ?_
               refine then_r ?_
               refine then_r ?_
               refine block_r ?_
               refine block_r ?_
               refine then_r ?_
               refine then_r ?_
               refine block_r ?_
               refine then_r ?_
               refine retS [.c (.d (.raw (.bool false)))] h Exit.ret (.inl rfl)  rfl ⟨RV.tmp _ _ rfl, trivial⟩ ?_ (by kernel_rfl) (by kernel_rfl)
               have hz : fewSys L s = false := by unfold fewSys; rw [decide_eq_true (p := (s.vars.length : Int) ≤ 8 ∧ (s.bounds.length : Int) ≤ 20 ∧ (s.procs.length : Int) ≤ 6 ∧ (s.acts.length : Int) ≤ 20) (by have := of_decide_eq_false hc2; have := of_decide_eq_false hc4; have := of_decide_eq_false hc6; have := of_decide_eq_false hc8; omega), Bool.true_and]; rw [(show (fewF s.init 30 L) = true from by simpa using hc10)]; rw [all_end (of_decide_eq_false hc16) hI2]; rw [all_stop hx3 (show fewA L x3 = false from (by unfold fewA; rw [hc18, decide_eq_true (p := (x3.moves.length : Int) ≤ 20) (by have := of_decide_eq_false hc20; omega), Bool.true_and, Bool.true_and]; exact all_stop hx6 (show fewM L x6 = false from (show (fewF (formT x6.t) 5 L) = false from by simpa using hc22))))]; rfl
               rw [hz]; first | done | rfl
              ·have hc23 := hc; clear hc
               have hc23' := hc23; (try simp at hc23')
               refine wp_skip ?_
               refine block_n ?_
               refine then_n ?_
               refine rS fam0ok 1 [(1, .add .i64 (m := (i : Int)) (n := 1) (i64_id (by omega) (by omega)))] [(1, vi .i64 (L : Int)), (2, vp 0 0), (6, vi .i64 (q : Int)), (7, vi .i64 ((i : Int) + 1))] [(0, .box (sysC s))] (by kernel_rfl) h ?_; clear h; intro a w h
               refine then_n ?_
               refine roundS (x := i) (y := i + 1) h ?_ ?_ (by kernel_rfl) (by kernel_rfl)
               ·have := at_lt hx6
                exact ⟨by omega, all_step hx6 hJ2 (show fewM L x6 = true from (show (fewF (formT x6.t) 5 L) = true from by simpa using hc23))⟩
               ·show x3.moves.length - (i + 1) < x3.moves.length - i
                have := at_lt hx6; omega
             ·have hc24 := hc; clear hc
              have hc24' := of_decide_eq_false hc24
              refine wp_exit ?_
              refine then_x ?_
              refine then_x ?_
              refine inBlock_exit ?_
              refine block_n ?_
              refine then_n ?_
              refine rS fam0ok 1 [(1, .add .i64 (m := (q : Int)) (n := 1) (i64_id (by omega) (by omega)))] [(1, vi .i64 (L : Int)), (2, vp 0 0), (6, vi .i64 ((q : Int) + 1))] [(0, .box (sysC s))] (by kernel_rfl) h ?_; clear h; intro a w h
              refine then_n ?_
              refine roundS (x := q) (y := q + 1) h ?_ ?_ (by kernel_rfl) (by kernel_rfl)
              ·have := at_lt hx3
               exact ⟨by omega, all_step hx3 hQ2 (by unfold fewA; rw [hc18, decide_eq_true (p := (x3.moves.length : Int) ≤ 20) (by have := of_decide_eq_false hc20; omega), Bool.true_and, Bool.true_and]; exact all_end (of_decide_eq_false hc24) hJ2)⟩
              ·show s.acts.length - (q + 1) < s.acts.length - q
               have := at_lt hx3; omega
          ·have hc25 := hc; clear hc
           refine rSeq fam0ok 1 [(3, .gen _ _ _ fun _ _ _ _ => Op.idxD (d := 76) (t := 74) (k := .i64) ki_1 (map_at hx3 (f := ActD.d)) (OV.tmp 75 _)), (7, .call (Fn.cast (SFewF x3.guard 30 (L : Int) (hr.act x3 (List.mem_of_getElem? hx3)).1 (by decide) (by decide)) (congrArg vb hc25)) kt_1)] [(1, vi .i64 (L : Int)), (2, vp 0 0), (6, vi .i64 (q : Int)), (91, vb true)] [(0, .box (sysC s))] (by kernel_rfl) h ?_; clear h; intro a w h
           refine condS true h rfl (fun hc => ?_) (fun hc => ?_)
           ·clear hc
            refine rSeq fam0ok 1 [] [(1, vi .i64 (L : Int)), (2, vp 0 0), (4, vb false), (6, vi .i64 (q : Int))] [(0, .box (sysC s))] (by kernel_rfl) h ?_; clear h; intro a w h
            refine wp_ret ?_
            refine then_r ?_
            refine block_r ?_
            refine then_r ?_
            refine then_r ?_
            refine block_r ?_
            refine then_r ?_
            refine retS [.c (.d (.raw (.bool false)))] h Exit.ret (.inl rfl)  rfl ⟨RV.tmp _ _ rfl, trivial⟩ ?_ (by kernel_rfl) (by kernel_rfl)
            have hz : fewSys L s = false := by unfold fewSys; rw [decide_eq_true (p := (s.vars.length : Int) ≤ 8 ∧ (s.bounds.length : Int) ≤ 20 ∧ (s.procs.length : Int) ≤ 6 ∧ (s.acts.length : Int) ≤ 20) (by have := of_decide_eq_false hc2; have := of_decide_eq_false hc4; have := of_decide_eq_false hc6; have := of_decide_eq_false hc8; omega), Bool.true_and]; rw [(show (fewF s.init 30 L) = true from by simpa using hc10)]; rw [all_end (of_decide_eq_false hc16) hI2]; rw [all_stop hx3 (show fewA L x3 = false from (by unfold fewA; rw [hc25]; rfl))]; rfl
            rw [hz]; first | done | rfl
           ·cases hc
         ·have hc26 := hc; clear hc
          have hc26' := of_decide_eq_false hc26
          refine wp_exit ?_
          refine then_x ?_
          refine then_x ?_
          refine inBlock_exit ?_
          refine then_n ?_
          refine rSeq fam0ok 1 [] [(4, vb true)] [] (by kernel_rfl) h ?_; clear h; intro a w h
          refine wp_ret ?_
          refine retS [.c (.d (.raw (.bool true)))] h Exit.ret (.inl rfl)  rfl ⟨RV.tmp _ _ rfl, trivial⟩ ?_ (by kernel_rfl) (by kernel_rfl)
          have hz : fewSys L s = true := by unfold fewSys; rw [decide_eq_true (p := (s.vars.length : Int) ≤ 8 ∧ (s.bounds.length : Int) ≤ 20 ∧ (s.procs.length : Int) ≤ 6 ∧ (s.acts.length : Int) ≤ 20) (by have := of_decide_eq_false hc2; have := of_decide_eq_false hc4; have := of_decide_eq_false hc6; have := of_decide_eq_false hc8; omega), Bool.true_and]; rw [(show (fewF s.init 30 L) = true from by simpa using hc10)]; rw [all_end (of_decide_eq_false hc16) hI2]; rw [all_end (of_decide_eq_false hc26) hQ2]; rfl
          rw [hz]; first | done | rfl
end Go.Proofs.YtmohlifepfjmdaaGreat.S
end
section
namespace Go.Proofs.YtmohlifepfjmdaaGreat.S
open Go.RowKit

theorem sameS_refl (x : StD) : sameS x x = true := by unfold sameS; rw [decide_eq_true rfl, decide_eq_true rfl]; rfl
def atD (loc v : Int) : StD := ⟨[loc], [ZI.of v]⟩
theorem atD_ok (loc v : Int) (hv : -9223372036854775808 ≤ v ∧ v ≤ 9223372036854775807) {M : Nat} (hM : 2 ≤ M) : StOk M (atD loc v) := ⟨by show 1 ≤ 10; decide, by show 1 ≤ 10; decide, fun z hz => by
 obtain rfl : z = ZI.of v := by simpa [atD] using hz
 exact ⟨ZI.lb_of _, Nat.le_trans (ZI.len_of (by have := pw2; omega)) hM⟩⟩
set_option maxHeartbeats 4000000 in
theorem SAt (loc v : Int) (hv : -9223372036854775808 ≤ v ∧ v ≤ 9223372036854775807) : Fn Tryz.prog 31 [] [vi .i64 loc, vi .i64 v] (.t (.agg [.d (.sl 1 ((atD loc v).locs.map intD)), .d (.sl 2 ((atD loc v).vals.map ziD))])) [] := by
 refine Fn.body Tryz.func31 rfl 11 rfl fun w H B a h => ?_
 refine rSeq fam0ok 0 [] [(0, vi .i64 loc), (1, vi .i64 v), (4, vp 0 0)] [(0, .box [.d (.raw nilV), .d (.raw nilV)])] (by kernel_rfl) h ?_; clear h; intro a w h
 refine rSeq fam0ok 1 [(1, .gen _ _ _ fun _ _ _ _ => Op.buildD (d := 6) (len := 1) (rows := [loc].map intD) (rs := [(5, vi .i64 loc)]) tb_0 (.cons (i := 0) (OV.tmp 5 _) (.nil)) (by kernel_rfl) rfl (by simp [intD]) (by decide) (by decide)), (3, .call (SROf v hv) tc_0), (4, .gen _ _ _ fun _ _ _ _ => Op.buildD (d := 9) (len := 1) (rows := [(ZI.of v)].map ziD) (rs := [(8, vz (ZI.of v))]) kk_3 (.cons (i := 0) (OV.tmp 8 _) (.nil)) (by kernel_rfl) rfl (by simp [ziD]) (by decide) (by decide))] [(4, vp 0 0)] [(0, .box [.d (.sl 1 ([loc].map intD)), .d (.sl 2 ([(ZI.of v)].map ziD))])] (by kernel_rfl) h ?_; clear h; intro a w h
 refine wp_ret ?_
 refine retS [.agg [.d (.sl 1 ([loc].map intD)), .d (.sl 2 ([(ZI.of v)].map ziD))]] h Exit.ret (.inl rfl)  rfl ⟨RV.agg _ 0 0 _ _ _ _ kk_5 rfl rfl rfl rfl, trivial⟩ ?_ (by kernel_rfl) (by kernel_rfl)
 rfl
end Go.Proofs.YtmohlifepfjmdaaGreat.S
end
section
namespace Go.Proofs.YtmohlifepfjmdaaGreat.S
open Go.RowKit

mutual
/-- y is x, with nil read as an empty slice here and there -/
inductive Wk : D → D → Prop
  | refl (x : D) : Wk x x
  | nil (es : Nat) : Wk (.raw nilV) (.sl es [])
  | sl (es : Nat) (a b : List (List D)) (h : WkR a b) : Wk (.sl es a) (.sl es b)
inductive WkL : List D → List D → Prop
  | nil : WkL [] []
  | cons (x y : D) (xs ys : List D) (h : Wk x y) (hs : WkL xs ys) : WkL (x :: xs) (y :: ys)
inductive WkR : List (List D) → List (List D) → Prop
  | nil : WkR [] []
  | cons (x y : List D) (xs ys : List (List D)) (h : WkL x y) (hs : WkR xs ys) : WkR (x :: xs) (y :: ys)
end
def WkM (x y : D) : Prop := ∀ (H : Im) (v : Value), DR H x v → DR H y v
def WkLM (xs ys : List D) : Prop := xs.length = ys.length ∧ ∀ j (h : j < xs.length) (h' : j < ys.length), WkM xs[j] ys[j]
def WkRM (xs ys : List (List D)) : Prop := xs.length = ys.length ∧ ∀ i (h : i < xs.length) (h' : i < ys.length), WkLM xs[i] ys[i]
theorem Wk.sound {x y : D} (h : Wk x y) : WkM x y := by
 refine Wk.rec (motive_1 := fun x y _ => WkM x y) (motive_2 := fun x y _ => WkLM x y) (motive_3 := fun x y _ => WkRM x y) ?_ ?_ ?_ ?_ ?_ ?_ ?_ h
 ·intro x H v h; exact h
 ·intro es H v h
  cases h with
  | raw v h => exact DR.nil _ _ _ (fun _ => rfl) (Nat.zero_le _)
 ·intro es a b _ ih H v h
  cases h with
  | nil es ao c h hc =>
   have : b = [] := List.length_eq_zero_iff.1 ih.1.symm
   subst this
   exact DR.nil _ _ _ h hc
  | sl es rows bb o c arr ty fz vs hp hb hl hc hes hv hr =>
   rw [ih.1] at hp hl ⊢
   refine DR.sl es b bb o c arr ty fz vs hp hb hl hc (fun i hi => ?_) (fun i hi => ?_) (fun i hi j hj => ?_)
   ·have h0 : i < a.length := by rw [ih.1]; exact hi
    rw [← (ih.2 i h0 hi).1]; exact hes i h0
   ·exact hv i (by rw [ih.1]; exact hi)
   ·have h0 : i < a.length := by rw [ih.1]; exact hi
    have hj0 : j < a[i].length := by rw [(ih.2 i h0 hi).1]; exact hj
    exact (ih.2 i h0 hi).2 j hj0 hj _ _ (hr i h0 j hj0)
 ·exact ⟨rfl, fun j h => absurd h (Nat.not_lt_zero j)⟩
 ·intro x y xs ys _ _ h hs
  refine ⟨by simp [hs.1], fun j hj hj' => ?_⟩
  cases j with
  | zero => exact h
  | succ j => exact hs.2 j (by simpa using hj) (by simpa using hj')
 ·exact ⟨rfl, fun j h => absurd h (Nat.not_lt_zero j)⟩
 ·intro x y xs ys _ _ h hs
  refine ⟨by simp [hs.1], fun j hj hj' => ?_⟩
  cases j with
  | zero => exact h
  | succ j => exact hs.2 j (by simpa using hj) (by simpa using hj')
inductive WkC : List C → List C → Prop
  | nil : WkC [] []
  | same (x : C) (xs ys : List C) (hs : WkC xs ys) : WkC (x :: xs) (x :: ys)
  | d (x y : D) (xs ys : List C) (h : Wk x y) (hs : WkC xs ys) : WkC (.d x :: xs) (.d y :: ys)
theorem WkC.sound {H : Im} {B : Bl} {xs ys : List C} (h : WkC xs ys) : ∀ {vs : List Value}, All2 (CR H B) xs vs → All2 (CR H B) ys vs := by
 induction h with
 | nil => exact fun h => h
 | same x xs ys _ ih =>
  intro vs k
  cases vs with
  | nil => exact k.elim
  | cons v vs => exact ⟨k.1, ih k.2⟩
 | d x y xs ys h _ ih =>
  intro vs k
  cases vs with
  | nil => exact k.elim
  | cons v vs => exact ⟨h.sound H v k.1, ih k.2⟩
inductive WkV : V → V → Prop
  | refl (x : V) : WkV x x
  | c (x y : D) (h : Wk x y) : WkV (.t (.c (.d x))) (.t (.c (.d y)))
  | agg (xs ys : List C) (h : WkC xs ys) : WkV (.t (.agg xs)) (.t (.agg ys))
theorem WkV.sound {H : Im} {B : Bl} {x y : V} (h : WkV x y) {v : Value} (k : VR H B x v) : VR H B y v := by
 cases h with
 | refl => exact k
 | c x y h => exact h.sound H v k
 | agg xs ys h => obtain ⟨vs, e, k⟩ := k; exact ⟨vs, e, h.sound k⟩
inductive WkA : List V → List V → Prop
  | nil : WkA [] []
  | cons (x y : V) (xs ys : List V) (h : WkV x y) (hs : WkA xs ys) : WkA (x :: xs) (y :: ys)
theorem WkA.sound {H : Im} {B : Bl} {xs ys : List V} (h : WkA xs ys) : ∀ {vs : List Value}, All2 (VR H B) xs vs → All2 (VR H B) ys vs := by
 induction h with
 | nil => exact fun h => h
 | cons x y xs ys h _ ih =>
  intro vs k
  cases vs with
  | nil => exact k.elim
  | cons v vs => exact ⟨h.sound k.1, ih k.2⟩
theorem Fn.argw {P : Program} {k : FuncId} {ps qs : List (Nat × L)} {args args' : List V} {res : V} (h : Fn P k ps args' res qs) (hw : WkA args args') : Fn P k ps args res qs :=
 fun w H B vals pre => h w H B vals ⟨pre.sat, pre.loc, pre.priv, pre.inj, hw.sound pre.arg⟩
theorem Fn.resw {P : Program} {k : FuncId} {ps qs : List (Nat × L)} {args : List V} {res res' : V} (h : Fn P k ps args res qs) (hw : WkV res res') : Fn P k ps args res' qs :=
 fun w H B vals pre => (h w H B vals pre).mono fun _en _w' ⟨v, H', B', e, p⟩ => ⟨v, H', B', e, { p with res := hw.sound p.res }⟩
end Go.Proofs.YtmohlifepfjmdaaGreat.S
end
section
namespace Go.Proofs.YtmohlifepfjmdaaGreat.S
open Go.RowKit

theorem kw_2 : ElZ Tryz.prog 22 9 1 := ElZ.mk' Tryz.underlying22 _ _ rfl rfl (by kernel_rfl) (by kernel_rfl) (by kernel_rfl) (by decide)
theorem kw_3 : ElZ Tryz.prog 23 76 5 := ElZ.mk' Tryz.underlying23 _ _ rfl rfl (by kernel_rfl) (by kernel_rfl) (by kernel_rfl) (by decide)
theorem kw_4 : ElZ Tryz.prog 36 96 3 := ElZ.mk' Tryz.underlying36 _ _ rfl rfl (by kernel_rfl) (by kernel_rfl) (by kernel_rfl) (by decide)
theorem kw_5 : ElZ Tryz.prog 77 81 5 := ElZ.mk' Tryz.underlying77 _ _ rfl rfl (by kernel_rfl) (by kernel_rfl) (by kernel_rfl) (by decide)
theorem kw_6 : ElZ Tryz.prog 37 79 10 := ElZ.mk' Tryz.underlying37 _ _ rfl rfl (by kernel_rfl) (by kernel_rfl) (by kernel_rfl) (by decide)
theorem kw_7 : Sz Tryz.prog 39 10 true := Sz.mk' (by kernel_rfl) Tryz.underlying39 _ rfl
def sysE : SysD := ⟨[⟨#[120]⟩], [⟨true, zero0, ZI.of 3⟩], form0, [⟨⟨#[112]⟩, [⟨#[97]⟩, ⟨#[98]⟩], .raw nilV⟩], [⟨0, 0, 1, form0, [⟨0, false, ⟨[⟨0, ZI.of 1⟩], ZI.of 1⟩⟩]⟩]⟩
set_option maxHeartbeats 4000000 in
theorem SSys0  : Fn Tryz.prog 30 [] [] (.t (.agg [.d (.sl 1 ([(⟨#[120]⟩ : ByteArray)].map strD)), .d (.sl 5 ([(BoundD.mk true (ZI.mk false []) (ZI.of 3))].map BoundD.d)), .d (.raw (.int .i64 0)), .d (.sl 3 ([].map Part.d)), .d (.raw (.bool false)), .d (nsl []), .d (.raw (.bool false)), .d (.sl 6 ([].map FormD.d)), .d (.sl 3 ([(ProcD.mk (⟨#[112]⟩ : ByteArray) [(⟨#[97]⟩ : ByteArray), (⟨#[98]⟩ : ByteArray)] (.raw nilV))].map ProcD.d)), .d (.sl 10 [[.raw (.int .i64 0), .raw (.int .i64 0), .raw (.int .i64 1), .raw (.int .i64 0), .raw nilV, .raw (.bool false), nsl [], .raw (.bool false), .raw nilV, .sl 5 ([(MoveD.mk 0 false (Term.mk [(Part.mk 0 (ZI.of 1))] (ZI.of 1)))].map MoveD.d)]])])) [] := by
 refine Fn.body Tryz.func30 rfl 20 rfl fun w H B a h => ?_
 refine rSeq fam0ok 0 [] [(0, vp 0 0)] [(0, .box [.d (.raw nilV), .d (.raw nilV), .d (.raw (.int .i64 0)), .d (.raw nilV), .d (.raw (.bool false)), .d (nsl []), .d (.raw (.bool false)), .d (.raw nilV), .d (.raw nilV), .d (.raw nilV)])] (by kernel_rfl) h ?_; clear h; intro a w h
 refine rSeq fam0ok 1 [(0, .call (SROf 1 ⟨by decide, by decide⟩) tc_0), (2, .gen _ _ _ fun _ _ _ _ => Op.buildD (d := 4) (len := 1) (rows := [(Part.mk 0 (ZI.of 1))].map Part.d) (rs := [(3, .t (.agg ([.d (.raw (.int .i64 0))] ++ zi (ZI.of 1))))]) tb_9 (.cons (i := 0) (OV.tmp 3 _) (.nil)) (by kernel_rfl) rfl (by simp [Part.d]) (by decide) (by decide)), (3, .call (SROf 1 ⟨by decide, by decide⟩) tc_0)] [(0, vp 0 0), (1, vp 1 0)] [(0, .box [.d (.raw nilV), .d (.raw nilV), .d (.raw (.int .i64 0)), .d (.raw nilV), .d (.raw (.bool false)), .d (nsl []), .d (.raw (.bool false)), .d (.raw nilV), .d (.raw nilV), .d (.raw nilV)]), (1, .box ([.d (.sl 3 ([(Part.mk 0 (ZI.of 1))].map Part.d))] ++ zi (ZI.of 1)))] (by kernel_rfl) h ?_; clear h; intro a w h
 refine rSeq fam0ok 2 [(0, .gen _ _ _ fun _ _ _ _ => Op.buildD (d := 7) (len := 1) (rows := [(⟨#[120]⟩ : ByteArray)].map strD) (rs := []) kw_2 (.cons (i := 0) (OV.const (.string (⟨#[120]⟩ : ByteArray)) rfl) (.nil)) (by kernel_rfl) rfl (by simp [strD]) (by decide) (by decide)), (1, .call (SROf 3 ⟨by decide, by decide⟩) tc_0), (3, .gen _ _ _ fun _ _ _ _ => Op.buildD (d := 10) (len := 1) (rows := [(BoundD.mk true (ZI.mk false []) (ZI.of 3))].map BoundD.d) (rs := [(9, .t (.agg ([.d (.raw (.bool true)), .d (.raw (.bool false)), .d (nsl [])] ++ zi (ZI.of 3))))]) kw_3 (.cons (i := 0) (OV.tmp 9 _) (.nil)) (by kernel_rfl) rfl (by simp [BoundD.d]) (by decide) (by decide)), (4, .gen _ _ _ fun _ _ _ _ => Op.buildD (d := 11) (len := 2) (rows := [(⟨#[97]⟩ : ByteArray), (⟨#[98]⟩ : ByteArray)].map strD) (rs := []) kw_2 (.cons (i := 0) (OV.const (.string (⟨#[97]⟩ : ByteArray)) rfl) (.cons (i := 1) (OV.const (.string (⟨#[98]⟩ : ByteArray)) rfl) (.nil))) (by kernel_rfl) rfl (by simp [strD]) (by decide) (by decide)), (6, .gen _ _ _ fun _ _ _ _ => Op.buildD (d := 13) (len := 1) (rows := [(ProcD.mk (⟨#[112]⟩ : ByteArray) [(⟨#[97]⟩ : ByteArray), (⟨#[98]⟩ : ByteArray)] (.raw nilV))].map ProcD.d) (rs := [(12, .t (.agg [.d (.raw (.string (⟨#[112]⟩ : ByteArray))), .d (.sl 1 ([(⟨#[97]⟩ : ByteArray), (⟨#[98]⟩ : ByteArray)].map strD)), .d (.raw nilV)]))]) kw_4 (.cons (i := 0) (OV.tmp 12 _) (.nil)) (by kernel_rfl) rfl (by simp [ProcD.d]) (by decide) (by decide)), (9, .gen _ _ _ fun _ _ _ _ => Op.buildD (d := 16) (len := 1) (rows := [(MoveD.mk 0 false (Term.mk [(Part.mk 0 (ZI.of 1))] (ZI.of 1)))].map MoveD.d) (rs := [(15, .t (.agg ([.d (.raw (.int .i64 0)), .d (.raw (.bool false)), .d (.sl 3 ([(Part.mk 0 (ZI.of 1))].map Part.d))] ++ zi (ZI.of 1))))]) kw_5 (.cons (i := 0) (OV.tmp 15 _) (.nil)) (by kernel_rfl) rfl (by simp [MoveD.d]) (by decide) (by decide)), (11, .gen _ _ _ fun _ _ _ _ => Op.buildD (d := 18) (len := 1) (rows := [[.raw (.int .i64 0), .raw (.int .i64 0), .raw (.int .i64 1), .raw (.int .i64 0), .raw nilV, .raw (.bool false), nsl [], .raw (.bool false), .raw nilV, .sl 5 ([(MoveD.mk 0 false (Term.mk [(Part.mk 0 (ZI.of 1))] (ZI.of 1)))].map MoveD.d)]]) (rs := [(17, .t (.agg [.d (.raw (.int .i64 0)), .d (.raw (.int .i64 0)), .d (.raw (.int .i64 1)), .d (.raw (.int .i64 0)), .d (.raw nilV), .d (.raw (.bool false)), .d (nsl []), .d (.raw (.bool false)), .d (.raw nilV), .d (.sl 5 ([(MoveD.mk 0 false (Term.mk [(Part.mk 0 (ZI.of 1))] (ZI.of 1)))].map MoveD.d))]))]) kw_6 (.cons (i := 0) (OV.tmp 17 _) (.nil)) (by kernel_rfl) rfl (by simp) (by decide) (by decide))] [(0, vp 0 0)] [(0, .box [.d (.sl 1 ([(⟨#[120]⟩ : ByteArray)].map strD)), .d (.sl 5 ([(BoundD.mk true (ZI.mk false []) (ZI.of 3))].map BoundD.d)), .d (.raw (.int .i64 0)), .d (.raw nilV), .d (.raw (.bool false)), .d (nsl []), .d (.raw (.bool false)), .d (.raw nilV), .d (.sl 3 ([(ProcD.mk (⟨#[112]⟩ : ByteArray) [(⟨#[97]⟩ : ByteArray), (⟨#[98]⟩ : ByteArray)] (.raw nilV))].map ProcD.d)), .d (.sl 10 [[.raw (.int .i64 0), .raw (.int .i64 0), .raw (.int .i64 1), .raw (.int .i64 0), .raw nilV, .raw (.bool false), nsl [], .raw (.bool false), .raw nilV, .sl 5 ([(MoveD.mk 0 false (Term.mk [(Part.mk 0 (ZI.of 1))] (ZI.of 1)))].map MoveD.d)]])])] (by kernel_rfl) h ?_; clear h; intro a w h
 refine wp_ret ?_
 replace h := nilDLs 0 3 3 [.d (.sl 1 ([(⟨#[120]⟩ : ByteArray)].map strD)), .d (.sl 5 ([(BoundD.mk true (ZI.mk false []) (ZI.of 3))].map BoundD.d)), .d (.raw (.int .i64 0)), .d (.raw nilV), .d (.raw (.bool false)), .d (nsl []), .d (.raw (.bool false)), .d (.raw nilV), .d (.sl 3 ([(ProcD.mk (⟨#[112]⟩ : ByteArray) [(⟨#[97]⟩ : ByteArray), (⟨#[98]⟩ : ByteArray)] (.raw nilV))].map ProcD.d)), .d (.sl 10 [[.raw (.int .i64 0), .raw (.int .i64 0), .raw (.int .i64 1), .raw (.int .i64 0), .raw nilV, .raw (.bool false), nsl [], .raw (.bool false), .raw nilV, .sl 5 ([(MoveD.mk 0 false (Term.mk [(Part.mk 0 (ZI.of 1))] (ZI.of 1)))].map MoveD.d)]])] [(0, vp 0 0)] [(0, .box [.d (.sl 1 ([(⟨#[120]⟩ : ByteArray)].map strD)), .d (.sl 5 ([(BoundD.mk true (ZI.mk false []) (ZI.of 3))].map BoundD.d)), .d (.raw (.int .i64 0)), .d (.sl 3 ([].map Part.d)), .d (.raw (.bool false)), .d (nsl []), .d (.raw (.bool false)), .d (.raw nilV), .d (.sl 3 ([(ProcD.mk (⟨#[112]⟩ : ByteArray) [(⟨#[97]⟩ : ByteArray), (⟨#[98]⟩ : ByteArray)] (.raw nilV))].map ProcD.d)), .d (.sl 10 [[.raw (.int .i64 0), .raw (.int .i64 0), .raw (.int .i64 1), .raw (.int .i64 0), .raw nilV, .raw (.bool false), nsl [], .raw (.bool false), .raw nilV, .sl 5 ([(MoveD.mk 0 false (Term.mk [(Part.mk 0 (ZI.of 1))] (ZI.of 1)))].map MoveD.d)]])])] h rfl rfl (by kernel_rfl) (by kernel_rfl)
 replace h := nilDLs 0 7 6 [.d (.sl 1 ([(⟨#[120]⟩ : ByteArray)].map strD)), .d (.sl 5 ([(BoundD.mk true (ZI.mk false []) (ZI.of 3))].map BoundD.d)), .d (.raw (.int .i64 0)), .d (.sl 3 ([].map Part.d)), .d (.raw (.bool false)), .d (nsl []), .d (.raw (.bool false)), .d (.raw nilV), .d (.sl 3 ([(ProcD.mk (⟨#[112]⟩ : ByteArray) [(⟨#[97]⟩ : ByteArray), (⟨#[98]⟩ : ByteArray)] (.raw nilV))].map ProcD.d)), .d (.sl 10 [[.raw (.int .i64 0), .raw (.int .i64 0), .raw (.int .i64 1), .raw (.int .i64 0), .raw nilV, .raw (.bool false), nsl [], .raw (.bool false), .raw nilV, .sl 5 ([(MoveD.mk 0 false (Term.mk [(Part.mk 0 (ZI.of 1))] (ZI.of 1)))].map MoveD.d)]])] [(0, vp 0 0)] [(0, .box [.d (.sl 1 ([(⟨#[120]⟩ : ByteArray)].map strD)), .d (.sl 5 ([(BoundD.mk true (ZI.mk false []) (ZI.of 3))].map BoundD.d)), .d (.raw (.int .i64 0)), .d (.sl 3 ([].map Part.d)), .d (.raw (.bool false)), .d (nsl []), .d (.raw (.bool false)), .d (.sl 6 ([].map FormD.d)), .d (.sl 3 ([(ProcD.mk (⟨#[112]⟩ : ByteArray) [(⟨#[97]⟩ : ByteArray), (⟨#[98]⟩ : ByteArray)] (.raw nilV))].map ProcD.d)), .d (.sl 10 [[.raw (.int .i64 0), .raw (.int .i64 0), .raw (.int .i64 1), .raw (.int .i64 0), .raw nilV, .raw (.bool false), nsl [], .raw (.bool false), .raw nilV, .sl 5 ([(MoveD.mk 0 false (Term.mk [(Part.mk 0 (ZI.of 1))] (ZI.of 1)))].map MoveD.d)]])])] h rfl rfl (by kernel_rfl) (by kernel_rfl)
 refine retS [.agg [.d (.sl 1 ([(⟨#[120]⟩ : ByteArray)].map strD)), .d (.sl 5 ([(BoundD.mk true (ZI.mk false []) (ZI.of 3))].map BoundD.d)), .d (.raw (.int .i64 0)), .d (.sl 3 ([].map Part.d)), .d (.raw (.bool false)), .d (nsl []), .d (.raw (.bool false)), .d (.sl 6 ([].map FormD.d)), .d (.sl 3 ([(ProcD.mk (⟨#[112]⟩ : ByteArray) [(⟨#[97]⟩ : ByteArray), (⟨#[98]⟩ : ByteArray)] (.raw nilV))].map ProcD.d)), .d (.sl 10 [[.raw (.int .i64 0), .raw (.int .i64 0), .raw (.int .i64 1), .raw (.int .i64 0), .raw nilV, .raw (.bool false), nsl [], .raw (.bool false), .raw nilV, .sl 5 ([(MoveD.mk 0 false (Term.mk [(Part.mk 0 (ZI.of 1))] (ZI.of 1)))].map MoveD.d)]])]] h Exit.ret (.inl rfl)  rfl ⟨RV.agg _ 0 0 _ _ _ _ kw_7 rfl rfl rfl rfl, trivial⟩ ?_ (by kernel_rfl) (by kernel_rfl)
 rfl
theorem SSys : Fn Tryz.prog 30 [] [] (.t (.agg (sysC sysE))) [] := by
 refine Fn.resw SSys0 (WkV.agg _ _ ?_)
 refine .same _ _ _ (.same _ _ _ (.same _ _ _ (.same _ _ _ (.same _ _ _ (.same _ _ _ (.same _ _ _ (.same _ _ _ (.same _ _ _ (.d _ _ _ _ ?_ .nil)))))))))
 refine Wk.sl _ _ _ (.cons _ _ _ _ ?_ .nil)
 refine .cons _ _ _ _ (.refl _) (.cons _ _ _ _ (.refl _) (.cons _ _ _ _ (.refl _) (.cons _ _ _ _ (.refl _) (.cons _ _ _ _ (.nil _) (.cons _ _ _ _ (.refl _) (.cons _ _ _ _ (.refl _) (.cons _ _ _ _ (.refl _) (.cons _ _ _ _ (.nil _) (.cons _ _ _ _ (.refl _) .nil)))))))))
end Go.Proofs.YtmohlifepfjmdaaGreat.S
end
section
namespace Go.Proofs.YtmohlifepfjmdaaGreat.S
open Go.RowKit

theorem kx_0 : Bodied Tryz.prog 30 := Bodied.mk' (by kernel_rfl)
theorem kx_1 : Bodied Tryz.prog 31 := Bodied.mk' (by kernel_rfl)
theorem kx_3 : ElZ Tryz.prog 54 43 2 := ElZ.mk' Tryz.underlying54 _ _ rfl rfl (by kernel_rfl) (by kernel_rfl) (by kernel_rfl) (by decide)
theorem kx_5 : ElZ Tryz.prog 57 60 9 := ElZ.mk' Tryz.underlying57 _ _ rfl rfl (by kernel_rfl) (by kernel_rfl) (by kernel_rfl) (by decide)
theorem kx_6 : Bodied Tryz.prog 25 := Bodied.mk' (by kernel_rfl)
theorem kx_13 : Bodied Tryz.prog 27 := Bodied.mk' (by kernel_rfl)
def runE : RunD := ⟨[atD 0 2], [atD 1 3], [0, -1]⟩
def propE : PropD := ⟨true, 0, 1, form0⟩
def wE : WordD := ⟨[[false]], [[true]]⟩
theorem e1 : goS sysE (atD 0 2) 0 [] = (atD 1 3, true) := by kernel_rfl
theorem e2 : (goS sysE (atD 0 3) 0 []).2 = false := by kernel_rfl
theorem e3 : stuck sysE (atD 0 3) = true := by kernel_rfl
theorem e4 : can sysE (atD 0 0) 0 = true := by kernel_rfl
theorem e5 : leads sysE (atD 0 1) 0 (atD 1 2) = true := by kernel_rfl
theorem e6 : leads sysE (atD 0 1) 0 (atD 1 3) = false := by kernel_rfl
theorem e7 : fits sysE (atD 1 0) = true := by kernel_rfl
theorem e8 : first sysE (atD 0 1) = true := by kernel_rfl
theorem e9 : first sysE (atD 1 1) = false := by kernel_rfl
theorem e10 : right sysE runE = true := by kernel_rfl
theorem e11 : spell [propE] runE = wE := by kernel_rfl
theorem e12 : letter [propE] (atD 1 0) = [true] := by kernel_rfl
theorem form0_lb : form0.lb := (FormD.lb_eq _).2 ⟨⟨⟨Lb_nil, fun p hp => (by cases hp)⟩, Nat.zero_le _⟩, fun g hg => (by cases hg)⟩
theorem fewE : fewSys 3 sysE = true := by kernel_rfl
theorem mem1 {α : Type} {x y : α} (h : x ∈ [y]) : x = y := by simpa using h
theorem sysRdE : SysRd sysE := ⟨form0_lb, fun b hb => by rw [mem1 hb]; exact ⟨Lb_nil, ZI.lb_of 3⟩, fun c hc => by
 rw [mem1 hc]
 exact ⟨form0_lb, fun m hm => by rw [mem1 hm]; exact ⟨ZI.lb_of 1, fun p hp => by rw [mem1 hp]; exact ZI.lb_of 1⟩⟩, by decide, fun c hc => by rw [mem1 hc]; decide⟩
theorem sysE_ok : SysOk 3 sysE := few_sys fewE sysRdE
theorem runE_ok : RunOk 3 runE := ⟨by decide, fun x hx => by rw [mem1 hx]; exact atD_ok _ _ (by decide) (by decide), fun x hx => by rw [mem1 hx]; exact atD_ok _ _ (by decide) (by decide)⟩
theorem propE_ok : ∀ p ∈ [propE], PropOk 3 p := fun p hp => by rw [mem1 hp]; exact ⟨form0_lb, fewF_ok (most := 20) (by kernel_rfl) form0_lb⟩
theorem wkP : Wk (.sl 9 [[.raw (.bool true), .raw (.int .i64 0), .raw (.int .i64 1), .raw (.int .i64 0), .raw nilV, .raw (.bool false), nsl [], .raw (.bool false), .raw nilV]]) (.sl 9 ([propE].map PropD.d)) := by
 refine Wk.sl _ _ _ (.cons _ _ _ _ ?_ .nil)
 repeat (first | exact WkL.nil | refine WkL.cons _ _ _ _ (by first | exact Wk.refl _ | exact Wk.nil _) ?_)
set_option maxHeartbeats 4000000 in
theorem SAlive  : Fn Tryz.prog 5 [] [] (vb true) [] := by
 refine Fn.body Tryz.func5 rfl 108 rfl fun w H B a h => ?_
 refine rSeq fam0ok 0 [] [(0, vb false)] [] (by kernel_rfl) h ?_; clear h; intro a w h
 refine rSeq fam0ok 0 [(0, .call (SSys) kx_0)] [(0, vb false), (1, vp 0 0)] [(0, .box (sysC sysE))] (by kernel_rfl) h ?_; clear h; intro a w h
 refine rSeq fam0ok 1 [(1, .call (SAt 0 2 (by decide)) kx_1), (2, .call (Fn.argw (Fn.cast (SGo sysE (atD 0 2) 0 [] (L := 3) (M := 3) (by decide) sysE_ok (atD_ok _ _ (by decide) (by decide)) (fun z hz => by cases hz)) (show (.tup [.agg [.d (.sl 1 ((goS sysE (atD 0 2) 0 []).1.locs.map intD)), .d (.sl 2 ((goS sysE (atD 0 2) 0 []).1.vals.map ziD))], .c (.d (.raw (.bool (goS sysE (atD 0 2) 0 []).2)))] : V) = .tup [.agg [.d (.sl 1 ((atD 1 3).locs.map intD)), .d (.sl 2 ((atD 1 3).vals.map ziD))], .c (.d (.raw (.bool true)))] from by rw [e1])) (.cons _ _ _ _ (.refl _) (.cons _ _ _ _ (.refl _) (.cons _ _ _ _ (.refl _) (.cons _ _ _ _ (.c _ _ (.nil _)) .nil))))) km_9)] [(0, vb false), (1, vp 0 0), (2, vp 1 0), (3, vb true)] [(0, .box (sysC sysE)), (1, .box [.d (.sl 1 ((atD 1 3).locs.map intD)), .d (.sl 2 ((atD 1 3).vals.map ziD))])] (by kernel_rfl) h ?_; clear h; intro a w h
 refine rSeq fam0ok 2 [(1, .call (SAt 0 3 (by decide)) kx_1), (2, .call (Fn.argw (Fn.cast (SGo sysE (atD 0 3) 0 [] (L := 3) (M := 3) (by decide) sysE_ok (atD_ok _ _ (by decide) (by decide)) (fun z hz => by cases hz)) (show (.tup [.agg [.d (.sl 1 ((goS sysE (atD 0 3) 0 []).1.locs.map intD)), .d (.sl 2 ((goS sysE (atD 0 3) 0 []).1.vals.map ziD))], .c (.d (.raw (.bool (goS sysE (atD 0 3) 0 []).2)))] : V) = .tup [.agg [.d (.sl 1 ((goS sysE (atD 0 3) 0 []).1.locs.map intD)), .d (.sl 2 ((goS sysE (atD 0 3) 0 []).1.vals.map ziD))], .c (.d (.raw (.bool false)))] from by rw [e2])) (.cons _ _ _ _ (.refl _) (.cons _ _ _ _ (.refl _) (.cons _ _ _ _ (.refl _) (.cons _ _ _ _ (.c _ _ (.nil _)) .nil))))) km_9)] [(0, vb false), (1, vp 0 0), (2, vp 1 0), (3, vb true), (5, vb false)] [(0, .box (sysC sysE)), (1, .box [.d (.sl 1 ((atD 1 3).locs.map intD)), .d (.sl 2 ((atD 1 3).vals.map ziD))])] (by kernel_rfl) h ?_; clear h; intro a w h
 refine rSeq fam0ok 3 [(0, .call (SAt 0 2 (by decide)) kx_1), (1, .gen _ _ _ fun _ _ _ _ => Op.buildD (d := 23) (len := 1) (rows := [(atD 0 2)].map StD.d) (rs := [(22, .t (.agg [.d (.sl 1 ((atD 0 2).locs.map intD)), .d (.sl 2 ((atD 0 2).vals.map ziD))]))]) kx_3 (.cons (i := 0) (OV.tmp 22 _) (.nil)) (by kernel_rfl) rfl (by simp [StD.d]) (by decide) (by decide)), (2, .call (SAt 1 3 (by decide)) kx_1), (3, .gen _ _ _ fun _ _ _ _ => Op.buildD (d := 25) (len := 1) (rows := [(atD 1 3)].map StD.d) (rs := [(24, .t (.agg [.d (.sl 1 ((atD 1 3).locs.map intD)), .d (.sl 2 ((atD 1 3).vals.map ziD))]))]) kx_3 (.cons (i := 0) (OV.tmp 24 _) (.nil)) (by kernel_rfl) rfl (by simp [StD.d]) (by decide) (by decide)), (4, .gen _ _ _ fun _ _ _ _ => Op.buildD (d := 26) (len := 2) (rows := [0, (-1)].map intD) (rs := []) tb_0 (.cons (i := 0) (OV.const (.int .i64 0) rfl) (.cons (i := 1) (OV.const (.int .i64 (-1)) rfl) (.nil))) (by kernel_rfl) rfl (by simp [intD]) (by decide) (by decide))] [(0, vb false), (1, vp 0 0), (2, vp 1 0), (3, vb true), (5, vb false), (6, vp 3 0)] [(0, .box (sysC sysE)), (1, .box [.d (.sl 1 ((atD 1 3).locs.map intD)), .d (.sl 2 ((atD 1 3).vals.map ziD))]), (3, .box [.d (.sl 2 ([(atD 0 2)].map StD.d)), .d (.sl 2 ([(atD 1 3)].map StD.d)), .d (.sl 1 ([0, (-1)].map intD))])] (by kernel_rfl) h ?_; clear h; intro a w h
 refine rSeq fam0ok 4 [(1, .gen _ _ _ fun _ _ _ _ => Op.buildD (d := 29) (len := 1) (rows := [[.raw (.bool true), .raw (.int .i64 0), .raw (.int .i64 1), .raw (.int .i64 0), .raw nilV, .raw (.bool false), nsl [], .raw (.bool false), .raw nilV]]) (rs := [(28, .t (.agg [.d (.raw (.bool true)), .d (.raw (.int .i64 0)), .d (.raw (.int .i64 1)), .d (.raw (.int .i64 0)), .d (.raw nilV), .d (.raw (.bool false)), .d (nsl []), .d (.raw (.bool false)), .d (.raw nilV)]))]) kx_5 (.cons (i := 0) (OV.tmp 28 _) (.nil)) (by kernel_rfl) rfl (by simp) (by decide) (by decide))] [(0, vb false), (1, vp 0 0), (2, vp 1 0), (3, vb true), (5, vb false), (6, vp 3 0), (7, .t (.c (.d (.sl 9 [[.raw (.bool true), .raw (.int .i64 0), .raw (.int .i64 1), .raw (.int .i64 0), .raw nilV, .raw (.bool false), nsl [], .raw (.bool false), .raw nilV]]))))] [(0, .box (sysC sysE)), (1, .box [.d (.sl 1 ((atD 1 3).locs.map intD)), .d (.sl 2 ((atD 1 3).vals.map ziD))]), (3, .box [.d (.sl 2 ([(atD 0 2)].map StD.d)), .d (.sl 2 ([(atD 1 3)].map StD.d)), .d (.sl 1 ([0, (-1)].map intD))])] (by kernel_rfl) h ?_; clear h; intro a w h
 refine rSeq fam0ok 4 [(2, .call (Fn.argw (Fn.cast (SSpell [propE] runE (L := 3) (M := 3) (by decide) propE_ok (by decide) runE_ok) (show (.t (.agg [.d (.sl 1 ((spell [propE] runE).stem.map (slD 1 boolD))), .d (.sl 1 ((spell [propE] runE).cycle.map (slD 1 boolD)))]) : V) = .t (.agg [.d (.sl 1 (wE.stem.map (slD 1 boolD))), .d (.sl 1 (wE.cycle.map (slD 1 boolD)))]) from by rw [e11])) (.cons _ _ _ _ (.c _ _ wkP) (.cons _ _ _ _ (.refl _) .nil))) kx_6)] [(0, vb false), (1, vp 0 0), (2, vp 1 0), (3, vb true), (5, vb false), (6, vp 3 0), (7, .t (.c (.d (.sl 9 [[.raw (.bool true), .raw (.int .i64 0), .raw (.int .i64 1), .raw (.int .i64 0), .raw nilV, .raw (.bool false), nsl [], .raw (.bool false), .raw nilV]])))), (8, vp 4 0)] [(0, .box (sysC sysE)), (1, .box [.d (.sl 1 ((atD 1 3).locs.map intD)), .d (.sl 2 ((atD 1 3).vals.map ziD))]), (3, .box [.d (.sl 2 ([(atD 0 2)].map StD.d)), .d (.sl 2 ([(atD 1 3)].map StD.d)), .d (.sl 1 ([0, (-1)].map intD))]), (4, .box [.d (.sl 1 (wE.stem.map (slD 1 boolD))), .d (.sl 1 (wE.cycle.map (slD 1 boolD)))])] (by kernel_rfl) h ?_; clear h; intro a w h
 refine rSeq fam0ok 5 [(3, .call (SAt 1 3 (by decide)) kx_1), (4, .call (Fn.cast (SSame (atD 1 3) (atD 1 3) (M := 3) (by decide) (atD_ok _ _ (by decide) (by decide)) (atD_ok _ _ (by decide) (by decide))) (show (vb (sameS (atD 1 3) (atD 1 3)) : V) = vb true from by rw [sameS_refl])) km_1), (12, .call (SAt 0 3 (by decide)) kx_1), (13, .call (Fn.cast (SStuck sysE (atD 0 3) (L := 3) (M := 3) (by decide) sysE_ok (atD_ok _ _ (by decide) (by decide))) (show (vb (stuck sysE (atD 0 3)) : V) = vb true from by rw [e3])) kl_0), (17, .call (SAt 0 0 (by decide)) kx_1), (18, .call (Fn.cast (SCan sysE (atD 0 0) 0 (L := 3) (M := 3) (by decide) sysE_ok (atD_ok _ _ (by decide) (by decide))) (show (vb (can sysE (atD 0 0) 0) : V) = vb true from by rw [e4])) kk_12), (22, .call (SAt 0 1 (by decide)) kx_1), (23, .call (SAt 1 2 (by decide)) kx_1), (24, .call (Fn.cast (SLeads sysE (atD 0 1) 0 (atD 1 2) (L := 3) (M := 3) (by decide) sysE_ok (atD_ok _ _ (by decide) (by decide)) (atD_ok _ _ (by decide) (by decide))) (show (vb (leads sysE (atD 0 1) 0 (atD 1 2)) : V) = vb true from by rw [e5])) kn_8), (28, .call (SAt 0 1 (by decide)) kx_1), (29, .call (SAt 1 3 (by decide)) kx_1), (30, .call (Fn.cast (SLeads sysE (atD 0 1) 0 (atD 1 3) (L := 3) (M := 3) (by decide) sysE_ok (atD_ok _ _ (by decide) (by decide)) (atD_ok _ _ (by decide) (by decide))) (show (vb (leads sysE (atD 0 1) 0 (atD 1 3)) : V) = vb false from by rw [e6])) kn_8), (35, .call (SAt 1 0 (by decide)) kx_1), (36, .call (Fn.cast (SFits sysE (atD 1 0) (L := 3) (M := 3) (by decide) sysE_ok (atD_ok _ _ (by decide) (by decide))) (show (vb (fits sysE (atD 1 0)) : V) = vb true from by rw [e7])) kg_9), (40, .call (SAt 0 1 (by decide)) kx_1), (41, .call (Fn.cast (SFirst sysE (atD 0 1) (L := 3) (M := 3) (by decide) sysE_ok (atD_ok _ _ (by decide) (by decide))) (show (vb (first sysE (atD 0 1)) : V) = vb true from by rw [e8])) kn_6), (45, .call (SAt 1 1 (by decide)) kx_1), (46, .call (Fn.cast (SFirst sysE (atD 1 1) (L := 3) (M := 3) (by decide) sysE_ok (atD_ok _ _ (by decide) (by decide))) (show (vb (first sysE (atD 1 1)) : V) = vb false from by rw [e9])) kn_6), (52, .call (Fn.cast (SRight sysE runE (L := 3) (M := 3) (by decide) sysE_ok runE_ok) (show (vb (right sysE runE) : V) = vb true from by rw [e10])) kx_13), (56, .call (SAt 1 0 (by decide)) kx_1), (57, .call (Fn.argw (Fn.cast (SLetter [propE] (atD 1 0) (L := 3) (M := 3) (by decide) propE_ok (by decide) (atD_ok _ _ (by decide) (by decide))) (show (.t (.c (.d (.sl 1 ((letter [propE] (atD 1 0)).map boolD)))) : V) = .t (.c (.d (.sl 1 ([true].map boolD)))) from by rw [e12])) (.cons _ _ _ _ (.c _ _ wkP) (.cons _ _ _ _ (.refl _) .nil))) kn_14), (58, .len (c := (.d (.sl 1 ([true].map boolD)))) (n := [true].length) (lenC_map _ _ _)), (59, .cmp (op := .eql) (m := ([true].length : Int)) (n := 1) (b := true) .i64 (show (([true].length : Int) == 1) = true from by decide)), (64, .len (c := (.d (.sl 1 (wE.stem.map (slD 1 boolD))))) (n := wE.stem.length) (lenC_map _ _ _)), (65, .cmp (op := .eql) (m := (wE.stem.length : Int)) (n := 1) (b := true) .i64 (show ((wE.stem.length : Int) == 1) = true from by decide)), (70, .gen _ _ _ fun _ _ _ _ => Op.idxD (d := 103) (t := 102) (k := .i64) ks_14 (map_at (show wE.cycle[0]? = some [true] from rfl) (f := (slD 1 boolD))) (OV.const (.int .i64 0) rfl)), (72, .gen _ _ _ fun _ _ _ _ => Op.idxD (d := 105) (t := 104) (k := .i64) ks_15 (map_at (show [true][0]? = some true from rfl) (f := boolD)) (OV.const (.int .i64 0) rfl))] [(0, vb true)] [] (by kernel_rfl) h ?_; clear h; intro a w h
 refine wp_ret ?_
 refine retS [.c (.d (.raw (.bool true)))] h Exit.ret (.inl rfl)  rfl ⟨RV.tmp _ _ rfl, trivial⟩ ?_ (by kernel_rfl) (by kernel_rfl)
 rfl
end Go.Proofs.YtmohlifepfjmdaaGreat.S
end
section
namespace Go.Proofs.YtmohlifepfjmdaaGreat.S
open Go.RowKit

theorem ky_0 : Bodied Tryz.prog 5 := Bodied.mk' (by kernel_rfl)
theorem ky_1 : Bodied Tryz.prog 6 := Bodied.mk' (by kernel_rfl)
theorem ky_2 : Bodied Tryz.prog 7 := Bodied.mk' (by kernel_rfl)
end Go.Proofs.YtmohlifepfjmdaaGreat.S
end
section
namespace Go.Proofs.YtmohlifepfjmdaaGreat.S
open Go.RowKit

section
variable {w : World} {n : Nat}
theorem rep_raw {t e : TypeId} (hu : Tryz.prog.underlying t = some (.slice e)) : RepN w n t rawD (fun _ => True) := fun H enc base spare held fuel cs x hn hx => by
 rcases DataW.trod_slice hu hx with ⟨rfl, _⟩ | ⟨a, len, cap, elems, rest, m, rfl, rfl, _⟩
 ·exact ⟨.raw _, trivial, DR.raw _ rfl, trivial⟩
 ·exact ⟨.raw _, trivial, DR.raw _ rfl, trivial⟩
theorem rep_ZIl : RepN w n 41 (slD 2 ziD) (fun xs => xs.length ≤ maxLen ∧ ∀ x ∈ xs, Lb x.abs) :=
 rep_slice (k := 2) Tryz.underlying41 (by kernel_rfl) (by decide) (fun _ => rfl) rep_ZI
theorem rep_strs : RepN w n 22 (slD 1 strD) (fun xs => xs.length ≤ maxLen ∧ ∀ x ∈ xs, x.size ≤ maxLen) :=
 rep_slice (k := 1) Tryz.underlying22 (by kernel_rfl) (by decide) (fun _ => rfl) (rep_str Tryz.underlying9)
theorem rep_Rel : RepN w n 32 RelD.d (fun r => TLb r.t) :=
 ((rep_struct (n := n) Tryz.underlying32 (by kernel_rfl) (.cons (k0 := 3) rfl (by kernel_rfl) rep_Term (.cons (k0 := 1) rfl (by kernel_rfl) (rep_bool Tryz.underlying4) .nil))).map (fun p => ⟨p.1, p.2.1⟩) (fun _ => rfl) fun _ h => h.1).mono (Nat.le_succ n)
theorem rep_Form : ∀ {n : Nat}, RepN w n 35 FormD.d FormD.lb
 | 0 => RepN.zero
 | n + 1 => (rep_struct (n := n) Tryz.underlying35 (by kernel_rfl) (.cons (k0 := 1) rfl (by kernel_rfl) (rep_i64 Tryz.underlying3) (.cons (k0 := 4) rfl (by kernel_rfl) rep_Rel (.cons (k0 := 1) rfl (by kernel_rfl) (rep_slice (k := 6) Tryz.underlying33 (by kernel_rfl) (by decide) FormD.d_len rep_Form) .nil)))).map (fun p => ⟨p.1, p.2.1, p.2.2.1⟩) (fun _ => (FormD.d_eq _).trans rfl) fun _ h => (FormD.lb_eq _).2 ⟨⟨h.2.1, Nat.le_trans h.2.2.1.1 (by decide)⟩, h.2.2.1.2⟩
theorem rep_Bound : RepN w n 76 BoundD.d (fun b => Lb b.lo.abs ∧ Lb b.hi.abs) :=
 ((rep_struct (n := n) Tryz.underlying76 (by kernel_rfl) (.cons (k0 := 1) rfl (by kernel_rfl) (rep_bool Tryz.underlying4) (.cons (k0 := 2) rfl (by kernel_rfl) rep_ZI (.cons (k0 := 2) rfl (by kernel_rfl) rep_ZI .nil)))).map (fun p => ⟨p.1, p.2.1, p.2.2.1⟩) (fun _ => rfl) fun _ h => ⟨h.2.1, h.2.2.1⟩).mono (Nat.le_succ n)
theorem rep_Move : RepN w n 81 MoveD.d (fun m => TLb m.t) :=
 ((rep_struct (n := n) Tryz.underlying81 (by kernel_rfl) (.cons (k0 := 1) rfl (by kernel_rfl) (rep_i64 Tryz.underlying3) (.cons (k0 := 1) rfl (by kernel_rfl) (rep_bool Tryz.underlying4) (.cons (k0 := 3) rfl (by kernel_rfl) rep_Term .nil)))).map (fun p => ⟨p.1, p.2.1, p.2.2.1⟩) (fun _ => rfl) fun _ h => h.2.2.1).mono (Nat.le_succ n)
theorem rep_Moves : RepN w n 77 (slD 5 MoveD.d) (fun xs => xs.length ≤ maxLen ∧ ∀ x ∈ xs, TLb x.t) :=
 rep_slice (k := 5) Tryz.underlying77 (by kernel_rfl) (by decide) (fun _ => rfl) rep_Move
theorem rep_Bounds : RepN w n 23 (slD 5 BoundD.d) (fun xs => xs.length ≤ maxLen ∧ ∀ x ∈ xs, Lb x.lo.abs ∧ Lb x.hi.abs) :=
 rep_slice (k := 5) Tryz.underlying23 (by kernel_rfl) (by decide) (fun _ => rfl) rep_Bound
theorem rep_Act : RepN w n 79 ActD.d (fun c => c.guard.lb ∧ c.moves.length ≤ maxLen ∧ ∀ m ∈ c.moves, TLb m.t) :=
 ((rep_struct (n := n) Tryz.underlying79 (by kernel_rfl) (.cons (k0 := 1) rfl (by kernel_rfl) (rep_i64 Tryz.underlying3) (.cons (k0 := 1) rfl (by kernel_rfl) (rep_i64 Tryz.underlying3) (.cons (k0 := 1) rfl (by kernel_rfl) (rep_i64 Tryz.underlying3) (.cons (k0 := 6) rfl (by kernel_rfl) rep_Form (.cons (k0 := 1) rfl (by kernel_rfl) rep_Moves .nil)))))).map (fun p => ⟨p.1, p.2.1, p.2.2.1, p.2.2.2.1, p.2.2.2.2.1⟩) (fun _ => by rw [FormD.d_eq]; rfl) fun _ h => ⟨h.2.2.2.1, h.2.2.2.2.1⟩).mono (Nat.le_succ n)
theorem rep_Proc : RepN w n 96 ProcD.d (fun _ => True) :=
 ((rep_struct (n := n) Tryz.underlying96 (by kernel_rfl) (.cons (k0 := 1) rfl (by kernel_rfl) (rep_str Tryz.underlying9) (.cons (k0 := 1) rfl (by kernel_rfl) rep_strs (.cons (k0 := 1) rfl (by kernel_rfl) (rep_raw Tryz.underlying94) .nil)))).map (fun p => ⟨p.1, p.2.1, p.2.2.1⟩) (fun _ => rfl) fun _ _ => trivial).mono (Nat.le_succ n)
theorem rep_Procs : RepN w n 36 (slD 3 ProcD.d) (fun xs => xs.length ≤ maxLen ∧ ∀ x ∈ xs, True) :=
 rep_slice (k := 3) Tryz.underlying36 (by kernel_rfl) (by decide) (fun _ => rfl) rep_Proc
theorem rep_Acts : RepN w n 37 (slD 10 ActD.d) (fun xs => xs.length ≤ maxLen ∧ ∀ x ∈ xs, x.guard.lb ∧ x.moves.length ≤ maxLen ∧ ∀ m ∈ x.moves, TLb m.t) :=
 rep_slice (k := 10) Tryz.underlying37 (by kernel_rfl) (by decide) (fun _ => rfl) rep_Act
theorem rep_Sys : RepN w n 39 SysD.d SysRd :=
 ((rep_struct (n := n) Tryz.underlying39 (by kernel_rfl) (.cons (k0 := 1) rfl (by kernel_rfl) rep_strs (.cons (k0 := 1) rfl (by kernel_rfl) rep_Bounds (.cons (k0 := 6) rfl (by kernel_rfl) rep_Form (.cons (k0 := 1) rfl (by kernel_rfl) rep_Procs (.cons (k0 := 1) rfl (by kernel_rfl) rep_Acts .nil)))))).map (fun p => ⟨p.1, p.2.1, p.2.2.1, p.2.2.2.1, p.2.2.2.2.1⟩) (fun _ => by rw [FormD.d_eq]; rfl) fun _ h => ⟨h.2.2.1, h.2.1.2, fun c hc => ⟨(h.2.2.2.2.1.2 c hc).1, (h.2.2.2.2.1.2 c hc).2.2⟩, ⟨Nat.le_trans h.2.1.1 (by decide), Nat.le_trans h.2.2.2.2.1.1 (by decide)⟩, fun c hc => Nat.le_trans (h.2.2.2.2.1.2 c hc).2.1 (by decide)⟩).mono (Nat.le_succ n)
theorem rep_State : RepN w n 43 StD.d StRd :=
 ((rep_struct (n := n) Tryz.underlying43 (by kernel_rfl) (.cons (k0 := 1) rfl (by kernel_rfl) rep_ints (.cons (k0 := 1) rfl (by kernel_rfl) rep_ZIl .nil))).map (fun p => ⟨p.1, p.2.1⟩) (fun _ => rfl) fun _ h => ⟨h.2.1.2, Nat.le_trans h.2.1.1 (by decide)⟩).mono (Nat.le_succ n)
end
end Go.Proofs.YtmohlifepfjmdaaGreat.S
end
section
namespace Go.Proofs.YtmohlifepfjmdaaGreat.S
open Go.RowKit

theorem kA_7 : Bodied Tryz.prog 26 := Bodied.mk' (by kernel_rfl)
theorem kA_9 : Bodied Tryz.prog 28 := Bodied.mk' (by kernel_rfl)
theorem kA_10 : Bodied Tryz.prog 29 := Bodied.mk' (by kernel_rfl)
structure RunRd (r : RunD) : Prop where
  stem : ∀ x ∈ r.stem, StRd x
  cycle : ∀ x ∈ r.cycle, StRd x
  len : r.stem.length + r.cycle.length ≤ 9223372036854775807
  acts : r.acts.length ≤ 9223372036854775807
theorem st0_rd : StRd st0 := ⟨fun z hz => (by cases hz), Nat.zero_le _⟩
theorem RunRd.at {r : RunD} (h : RunRd r) (i : Nat) : StRd (runAt r i) := by
 unfold runAt
 cases hx : (r.stem ++ r.cycle)[i]? with
 | none => exact st0_rd
 | some x => exact (List.mem_append.1 (List.mem_of_getElem? hx)).elim (h.stem x) (h.cycle x)
theorem run_ok {r : RunD} (hr : RunRd r) (hl : r.stem.length + r.cycle.length ≤ 10) (h : allN (r.stem ++ r.cycle).length (fun i => fewSt 3 (runAt r i)) = true) : RunOk 3 r := by
 have key : ∀ x ∈ r.stem ++ r.cycle, StOk 3 x := fun x hx => by
  obtain ⟨i, hi⟩ := List.mem_iff_getElem?.1 hx
  have e : runAt r i = x := by unfold runAt; rw [hi]; rfl
  have := allN_iff.1 h i (List.getElem?_eq_some_iff.1 hi).1
  simp only [e] at this
  exact few_st this ((List.mem_append.1 hx).elim (hr.stem x) (hr.cycle x))
 exact ⟨hl, fun x hx => key x (List.mem_append.2 (.inl hx)), fun x hx => key x (List.mem_append.2 (.inr hx))⟩
theorem spell_len {ps : List PropD} {r : RunD} (h : ps.length ≤ 1000) (hl : r.stem.length + r.cycle.length ≤ 10) : ((spell ps r).stem.length ≤ 1000 ∧ ∀ x ∈ (spell ps r).stem, x.length ≤ 1000) ∧ ((spell ps r).cycle.length ≤ 1000 ∧ ∀ x ∈ (spell ps r).cycle, x.length ≤ 1000) := by
 have k : ∀ (xs : List StD), xs.length ≤ 10 → (xs.map (letter ps)).length ≤ 1000 ∧ ∀ x ∈ xs.map (letter ps), x.length ≤ 1000 := fun xs hx => ⟨by rw [List.length_map]; omega, fun x hm => by
  obtain ⟨y, _, rfl⟩ := List.mem_map.1 hm
  show (ps.map _).length ≤ 1000
  rw [List.length_map]; exact h⟩
 exact ⟨k r.stem (by omega), k r.cycle (by omega)⟩
set_option maxHeartbeats 4000000 in
theorem SKripkeRuns (s : SysD) (r : RunD) (ps : List PropD) (hs : SysRd s) (hr : RunRd r) (hps : ∀ p ∈ ps, p.f.lb) (hpl : ps.length ≤ 9223372036854775807) : Fn Tryz.prog 4 [] [.t (.agg (sysC s)), .t (.agg [.d (.sl 2 (r.stem.map StD.d)), .d (.sl 2 (r.cycle.map StD.d)), .d (.sl 1 (r.acts.map intD))]), .t (.c (.d (.sl 9 (ps.map PropD.d))))] (vb true) [] := by
 have lr1 := hr.len
 have lr2 := hr.acts
 have lall : (r.stem ++ r.cycle).length = r.stem.length + r.cycle.length := List.length_append
 refine Fn.body Tryz.func4 rfl 92 rfl fun w H B a h => ?_
 refine rSeq fam0ok 0 [] [(2, .t (.c (.d (.sl 9 (ps.map PropD.d))))), (3, vp 0 0), (4, vp 1 0), (6, vb false)] [(0, .box (sysC s)), (1, .box [.d (.sl 2 (r.stem.map StD.d)), .d (.sl 2 (r.cycle.map StD.d)), .d (.sl 1 (r.acts.map intD))])] (by kernel_rfl) h ?_; clear h; intro a w h
 refine wp_seq ?_
 refine rSeq fam0ok 2 [(0, .call (SAlive) ky_0)] [(2, .t (.c (.d (.sl 9 (ps.map PropD.d))))), (3, vp 0 0), (4, vp 1 0), (6, vb false), (13, vb false)] [(0, .box (sysC s)), (1, .box [.d (.sl 2 (r.stem.map StD.d)), .d (.sl 2 (r.cycle.map StD.d)), .d (.sl 1 (r.acts.map intD))])] (by kernel_rfl) h ?_; clear h; intro a w h
 refine condS false h rfl (fun hc => ?_) (fun hc => ?_)
 ·cases hc
 ·clear hc
  refine wp_skip ?_
  refine then_n ?_
  refine wp_seq ?_
  rcases Bool.eq_false_or_eq_true (fewSys 3 s) with hc | hc
  ·have hc1 := hc; clear hc
   rcases Bool.eq_false_or_eq_true (decide (((r.stem ++ r.cycle).length : Int) > 10)) with hc | hc
   ·have hc2 := hc; clear hc
    have hc2' := of_decide_eq_true hc2
    refine rSeq fam0ok 2 [(1, .call (Fn.cast (SFewSys s 3 hs) (congrArg vb hc1)) ky_1), (6, .len (c := (.d (.sl 2 (r.stem.map StD.d)))) (n := r.stem.length) (lenC_map _ _ _)), (9, .len (c := (.d (.sl 2 (r.cycle.map StD.d)))) (n := r.cycle.length) (lenC_map _ _ _)), (10, .gen _ _ _ fun _ _ _ _ => Op.arith (op := .add) (d := 24) (xt := 3) (yt := 3) (k := .i64) (m := (r.stem.length : Int)) (n := (r.cycle.length : Int)) (r := ((r.stem ++ r.cycle).length : Int)) (OV.tmp 20 _) (OV.tmp 23 _) (.inl ⟨rfl, (by rw [List.length_append]; omega)⟩) (i64_id (by omega) (by omega))), (11, .cmp (op := .gtr) (m := ((r.stem ++ r.cycle).length : Int)) (n := 10) (b := true) .i64 hc2)] [(2, .t (.c (.d (.sl 9 (ps.map PropD.d))))), (3, vp 0 0), (4, vp 1 0), (6, vb false), (37, vb true)] [(0, .box (sysC s)), (1, .box [.d (.sl 2 (r.stem.map StD.d)), .d (.sl 2 (r.cycle.map StD.d)), .d (.sl 1 (r.acts.map intD))])] (by kernel_rfl) h ?_; clear h; intro a w h
    refine condS true h rfl (fun hc => ?_) (fun hc => ?_)
    ·clear hc
     refine rSeq fam0ok 2 [] [(2, .t (.c (.d (.sl 9 (ps.map PropD.d))))), (3, vp 0 0), (4, vp 1 0), (6, vb true)] [(0, .box (sysC s)), (1, .box [.d (.sl 2 (r.stem.map StD.d)), .d (.sl 2 (r.cycle.map StD.d)), .d (.sl 1 (r.acts.map intD))])] (by kernel_rfl) h ?_; clear h; intro a w h
     refine wp_ret ?_
     refine then_r ?_
     refine retS [.c (.d (.raw (.bool true)))] h Exit.ret (.inl rfl)  rfl ⟨RV.tmp _ _ rfl, trivial⟩ ?_ (by kernel_rfl) (by kernel_rfl)
     rfl
    ·cases hc
   ·have hc3 := hc; clear hc
    have hc3' := of_decide_eq_false hc3
    rcases Bool.eq_false_or_eq_true (decide ((r.acts.length : Int) > 20)) with hc | hc
    ·have hc4 := hc; clear hc
     have hc4' := of_decide_eq_true hc4
     refine rSeq fam0ok 2 [(1, .call (Fn.cast (SFewSys s 3 hs) (congrArg vb hc1)) ky_1), (6, .len (c := (.d (.sl 2 (r.stem.map StD.d)))) (n := r.stem.length) (lenC_map _ _ _)), (9, .len (c := (.d (.sl 2 (r.cycle.map StD.d)))) (n := r.cycle.length) (lenC_map _ _ _)), (10, .gen _ _ _ fun _ _ _ _ => Op.arith (op := .add) (d := 24) (xt := 3) (yt := 3) (k := .i64) (m := (r.stem.length : Int)) (n := (r.cycle.length : Int)) (r := ((r.stem ++ r.cycle).length : Int)) (OV.tmp 20 _) (OV.tmp 23 _) (.inl ⟨rfl, (by rw [List.length_append]; omega)⟩) (i64_id (by omega) (by omega))), (11, .cmp (op := .gtr) (m := ((r.stem ++ r.cycle).length : Int)) (n := 10) (b := false) .i64 hc3), (16, .len (c := (.d (.sl 1 (r.acts.map intD)))) (n := r.acts.length) (lenC_map _ _ _)), (17, .cmp (op := .gtr) (m := (r.acts.length : Int)) (n := 20) (b := true) .i64 hc4)] [(2, .t (.c (.d (.sl 9 (ps.map PropD.d))))), (3, vp 0 0), (4, vp 1 0), (6, vb false), (37, vb true)] [(0, .box (sysC s)), (1, .box [.d (.sl 2 (r.stem.map StD.d)), .d (.sl 2 (r.cycle.map StD.d)), .d (.sl 1 (r.acts.map intD))])] (by kernel_rfl) h ?_; clear h; intro a w h
     refine condS true h rfl (fun hc => ?_) (fun hc => ?_)
     ·clear hc
      refine rSeq fam0ok 2 [] [(2, .t (.c (.d (.sl 9 (ps.map PropD.d))))), (3, vp 0 0), (4, vp 1 0), (6, vb true)] [(0, .box (sysC s)), (1, .box [.d (.sl 2 (r.stem.map StD.d)), .d (.sl 2 (r.cycle.map StD.d)), .d (.sl 1 (r.acts.map intD))])] (by kernel_rfl) h ?_; clear h; intro a w h
      refine wp_ret ?_
      refine then_r ?_
      refine retS [.c (.d (.raw (.bool true)))] h Exit.ret (.inl rfl)  rfl ⟨RV.tmp _ _ rfl, trivial⟩ ?_ (by kernel_rfl) (by kernel_rfl)
      rfl
     ·cases hc
    ·have hc5 := hc; clear hc
     have hc5' := of_decide_eq_false hc5
     refine rSeq fam0ok 2 [(1, .call (Fn.cast (SFewSys s 3 hs) (congrArg vb hc1)) ky_1), (6, .len (c := (.d (.sl 2 (r.stem.map StD.d)))) (n := r.stem.length) (lenC_map _ _ _)), (9, .len (c := (.d (.sl 2 (r.cycle.map StD.d)))) (n := r.cycle.length) (lenC_map _ _ _)), (10, .gen _ _ _ fun _ _ _ _ => Op.arith (op := .add) (d := 24) (xt := 3) (yt := 3) (k := .i64) (m := (r.stem.length : Int)) (n := (r.cycle.length : Int)) (r := ((r.stem ++ r.cycle).length : Int)) (OV.tmp 20 _) (OV.tmp 23 _) (.inl ⟨rfl, (by rw [List.length_append]; omega)⟩) (i64_id (by omega) (by omega))), (11, .cmp (op := .gtr) (m := ((r.stem ++ r.cycle).length : Int)) (n := 10) (b := false) .i64 hc3), (16, .len (c := (.d (.sl 1 (r.acts.map intD)))) (n := r.acts.length) (lenC_map _ _ _)), (17, .cmp (op := .gtr) (m := (r.acts.length : Int)) (n := 20) (b := false) .i64 hc5), (21, .len (c := (.d (.sl 9 (ps.map PropD.d)))) (n := ps.length) (lenC_map _ _ _))] [(2, .t (.c (.d (.sl 9 (ps.map PropD.d))))), (3, vp 0 0), (4, vp 1 0), (6, vb false), (37, vb (decide ((ps.length : Int) > 6)))] [(0, .box (sysC s)), (1, .box [.d (.sl 2 (r.stem.map StD.d)), .d (.sl 2 (r.cycle.map StD.d)), .d (.sl 1 (r.acts.map intD))])] (by kernel_rfl) h ?_; clear h; intro a w h
     refine condS (decide ((ps.length : Int) > 6)) h rfl (fun hc => ?_) (fun hc => ?_)
     ·have hc6 := hc; clear hc
      have hc6' := of_decide_eq_true hc6
      refine rSeq fam0ok 2 [] [(2, .t (.c (.d (.sl 9 (ps.map PropD.d))))), (3, vp 0 0), (4, vp 1 0), (6, vb true)] [(0, .box (sysC s)), (1, .box [.d (.sl 2 (r.stem.map StD.d)), .d (.sl 2 (r.cycle.map StD.d)), .d (.sl 1 (r.acts.map intD))])] (by kernel_rfl) h ?_; clear h; intro a w h
      refine wp_ret ?_
      refine then_r ?_
      refine retS [.c (.d (.raw (.bool true)))] h Exit.ret (.inl rfl)  rfl ⟨RV.tmp _ _ rfl, trivial⟩ ?_ (by kernel_rfl) (by kernel_rfl)
      rfl
     ·have hc7 := hc; clear hc
      have hc7' := of_decide_eq_false hc7
      refine wp_skip ?_
      refine then_n ?_
      refine wp_seq ?_
      have hl10 : r.stem.length + r.cycle.length ≤ 10 := by have := of_decide_eq_false hc3; omega
      have hp6 : ps.length ≤ 6 := by have := of_decide_eq_false hc7; omega
      have hsO := few_sys hc1 hs
      refine rSeq fam0ok 2 [] [(2, .t (.c (.d (.sl 9 (ps.map PropD.d))))), (3, vp 0 0), (4, vp 1 0), (6, vb false), (7, vi .i64 0)] [(0, .box (sysC s)), (1, .box [.d (.sl 2 (r.stem.map StD.d)), .d (.sl 2 (r.cycle.map StD.d)), .d (.sl 1 (r.acts.map intD))])] (by kernel_rfl) h ?_; clear h; intro a w h
      refine wp_block ?_
      refine loopS (ι := (Nat)) (fun (z_ : (Nat)) => match z_ with | i => i ≤ (r.stem ++ r.cycle).length ∧ allN i (fun i => fewSt 3 (runAt r i)) = true)
        (fun (z_ : (Nat)) => match z_ with | i => [(2, .t (.c (.d (.sl 9 (ps.map PropD.d))))), (3, vp 0 0), (4, vp 1 0), (7, vi .i64 (i : Int))])
        (fun (z_ : (Nat)) => match z_ with | i => [(0, .box (sysC s)), (1, .box [.d (.sl 2 (r.stem.map StD.d)), .d (.sl 2 (r.cycle.map StD.d)), .d (.sl 1 (r.acts.map intD))])])
        (fun (z_ : (Nat)) => match z_ with | i => (r.stem ++ r.cycle).length - i) 0 ?_ h (by kernel_rfl) (by kernel_rfl) ?_
      ·exact ⟨Nat.zero_le _, rfl⟩
      ·clear h; rintro i a w hI h
       change St _ (F.of [(2, .t (.c (.d (.sl 9 (ps.map PropD.d))))), (3, vp 0 0), (4, vp 1 0), (7, vi .i64 (i : Int))] [(0, .box (sysC s)), (1, .box [.d (.sl 2 (r.stem.map StD.d)), .d (.sl 2 (r.cycle.map StD.d)), .d (.sl 1 (r.acts.map intD))])]) a w at h
       obtain ⟨hJ1, hJ2⟩ := hI
       refine wp_seq ?_
       refine rSeq fam0ok 2 [(3, .len (c := (.d (.sl 2 (r.stem.map StD.d)))) (n := r.stem.length) (lenC_map _ _ _)), (6, .len (c := (.d (.sl 2 (r.cycle.map StD.d)))) (n := r.cycle.length) (lenC_map _ _ _)), (7, .gen _ _ _ fun _ _ _ _ => Op.arith (op := .add) (d := 45) (xt := 3) (yt := 3) (k := .i64) (m := (r.stem.length : Int)) (n := (r.cycle.length : Int)) (r := ((r.stem ++ r.cycle).length : Int)) (OV.tmp 41 _) (OV.tmp 44 _) (.inl ⟨rfl, (by rw [List.length_append]; omega)⟩) (i64_id (by omega) (by omega)))] [(2, .t (.c (.d (.sl 9 (ps.map PropD.d))))), (3, vp 0 0), (4, vp 1 0), (7, vi .i64 (i : Int)), (46, vb (decide ((i : Int) < ((r.stem ++ r.cycle).length : Int))))] [(0, .box (sysC s)), (1, .box [.d (.sl 2 (r.stem.map StD.d)), .d (.sl 2 (r.cycle.map StD.d)), .d (.sl 1 (r.acts.map intD))])] (by kernel_rfl) h ?_; clear h; intro a w h
       refine condS (decide ((i : Int) < ((r.stem ++ r.cycle).length : Int))) h rfl (fun hc => ?_) (fun hc => ?_)
       ·have hc8 := hc; clear hc
        have hc8' := of_decide_eq_true hc8
        refine wp_skip ?_
        refine then_n ?_
        refine wp_seq ?_
        refine wp_block ?_
        refine rSeq fam0ok 2 [(2, .call (SRAt r (i : Int) i (by omega) hl10 (by omega)) ks_2), (3, .call (SFewSt (runAt r i) 3 (hr.at i)) ky_2)] [(2, .t (.c (.d (.sl 9 (ps.map PropD.d))))), (3, vp 0 0), (4, vp 1 0), (7, vi .i64 (i : Int)), (53, vb (!(fewSt 3 (runAt r i))))] [(0, .box (sysC s)), (1, .box [.d (.sl 2 (r.stem.map StD.d)), .d (.sl 2 (r.cycle.map StD.d)), .d (.sl 1 (r.acts.map intD))])] (by kernel_rfl) h ?_; clear h; intro a w h
        refine condS (!(fewSt 3 (runAt r i))) h rfl (fun hc => ?_) (fun hc => ?_)
        ·have hc9 := hc; clear hc
         have hc9' := hc9; (try simp at hc9')
         refine rSeq fam0ok 2 [] [(2, .t (.c (.d (.sl 9 (ps.map PropD.d))))), (3, vp 0 0), (4, vp 1 0), (6, vb true), (7, vi .i64 (i : Int))] [(0, .box (sysC s)), (1, .box [.d (.sl 2 (r.stem.map StD.d)), .d (.sl 2 (r.cycle.map StD.d)), .d (.sl 1 (r.acts.map intD))])] (by kernel_rfl) h ?_; clear h; intro a w h
         refine wp_ret ?_
         refine block_r ?_
         refine then_r ?_
         refine then_r ?_
         refine block_r ?_
         refine then_r ?_
         refine retS [.c (.d (.raw (.bool true)))] h Exit.ret (.inl rfl)  rfl ⟨RV.tmp _ _ rfl, trivial⟩ ?_ (by kernel_rfl) (by kernel_rfl)
         rfl
        ·have hc10 := hc; clear hc
         have hc10' := hc10; (try simp at hc10')
         refine wp_skip ?_
         refine block_n ?_
         refine then_n ?_
         refine rS fam0ok 2 [(1, .add .i64 (m := (i : Int)) (n := 1) (i64_id (by omega) (by omega)))] [(2, .t (.c (.d (.sl 9 (ps.map PropD.d))))), (3, vp 0 0), (4, vp 1 0), (7, vi .i64 ((i : Int) + 1))] [(0, .box (sysC s)), (1, .box [.d (.sl 2 (r.stem.map StD.d)), .d (.sl 2 (r.cycle.map StD.d)), .d (.sl 1 (r.acts.map intD))])] (by kernel_rfl) h ?_; clear h; intro a w h
         refine then_n ?_
         refine roundS (x := i) (y := i + 1) h ?_ ?_ (by kernel_rfl) (by kernel_rfl)
         ·exact ⟨by omega, allN_step hJ2 (show (fewSt 3 (runAt r i)) = true from by simpa using hc10)⟩
         ·show (r.stem ++ r.cycle).length - (i + 1) < (r.stem ++ r.cycle).length - i
          omega
       ·have hc11 := hc; clear hc
        have hc11' := of_decide_eq_false hc11
        refine wp_exit ?_
        refine then_x ?_
        refine then_x ?_
        refine inBlock_exit ?_
        refine then_n ?_
        refine wp_seq ?_
        refine rSeq fam0ok 2 [(1, .len (c := (.d (.sl 9 (ps.map PropD.d)))) (n := ps.length) (lenC_map _ _ _))] [(2, .t (.c (.d (.sl 9 (ps.map PropD.d))))), (3, vp 0 0), (4, vp 1 0), (54, .t (.c (.d (.sl 9 (ps.map PropD.d))))), (55, vi .i64 (ps.length : Int)), (56, vi .i64 0)] [(0, .box (sysC s)), (1, .box [.d (.sl 2 (r.stem.map StD.d)), .d (.sl 2 (r.cycle.map StD.d)), .d (.sl 1 (r.acts.map intD))])] (by kernel_rfl) h ?_; clear h; intro a w h
        refine wp_block ?_
        refine loopS (ι := (Nat)) (fun (z_ : (Nat)) => match z_ with | j => j ≤ ps.length ∧ (ps.take j).all (fun p => fewF p.f 20 3) = true)
          (fun (z_ : (Nat)) => match z_ with | j => [(2, .t (.c (.d (.sl 9 (ps.map PropD.d))))), (3, vp 0 0), (4, vp 1 0), (54, .t (.c (.d (.sl 9 (ps.map PropD.d))))), (55, vi .i64 (ps.length : Int)), (56, vi .i64 (j : Int))])
          (fun (z_ : (Nat)) => match z_ with | j => [(0, .box (sysC s)), (1, .box [.d (.sl 2 (r.stem.map StD.d)), .d (.sl 2 (r.cycle.map StD.d)), .d (.sl 1 (r.acts.map intD))])])
          (fun (z_ : (Nat)) => match z_ with | j => ps.length - j) 0 ?_ h (by kernel_rfl) (by kernel_rfl) ?_
        ·exact ⟨Nat.zero_le _, rfl⟩
        ·clear h; rintro j a w hI h
         change St _ (F.of [(2, .t (.c (.d (.sl 9 (ps.map PropD.d))))), (3, vp 0 0), (4, vp 1 0), (54, .t (.c (.d (.sl 9 (ps.map PropD.d))))), (55, vi .i64 (ps.length : Int)), (56, vi .i64 (j : Int))] [(0, .box (sysC s)), (1, .box [.d (.sl 2 (r.stem.map StD.d)), .d (.sl 2 (r.cycle.map StD.d)), .d (.sl 1 (r.acts.map intD))])]) a w at h
         obtain ⟨hI1, hI2⟩ := hI
         refine rSeq fam0ok 2 [] [(2, .t (.c (.d (.sl 9 (ps.map PropD.d))))), (3, vp 0 0), (4, vp 1 0), (54, .t (.c (.d (.sl 9 (ps.map PropD.d))))), (55, vi .i64 (ps.length : Int)), (56, vi .i64 (j : Int)), (57, vb (decide ((j : Int) < (ps.length : Int))))] [(0, .box (sysC s)), (1, .box [.d (.sl 2 (r.stem.map StD.d)), .d (.sl 2 (r.cycle.map StD.d)), .d (.sl 1 (r.acts.map intD))])] (by kernel_rfl) h ?_; clear h; intro a w h
         refine wp_seq ?_
         refine condS (decide ((j : Int) < (ps.length : Int))) h rfl (fun hc => ?_) (fun hc => ?_)
         ·have hc12 := hc; clear hc
          have hc12' := of_decide_eq_true hc12
          refine wp_skip ?_
          refine then_n ?_
          refine wp_seq ?_
          refine wp_block ?_
          obtain ⟨x10, hx10⟩ : ∃ z_ : PropD, ps[j]? = some z_ := ⟨_, List.getElem?_eq_getElem (by first | omega | (simp at *; omega))⟩
          refine rSeq fam0ok 2 [(0, .gen _ _ _ fun _ _ _ _ => Op.idxD (d := 58) (t := 54) (k := .i64) kn_10 (map_at hx10 (f := PropD.d)) (OV.tmp 56 _))] [(2, .t (.c (.d (.sl 9 (ps.map PropD.d))))), (3, vp 0 0), (4, vp 1 0), (9, vp 2 0), (54, .t (.c (.d (.sl 9 (ps.map PropD.d))))), (55, vi .i64 (ps.length : Int)), (56, vi .i64 (j : Int))] [(0, .box (sysC s)), (1, .box [.d (.sl 2 (r.stem.map StD.d)), .d (.sl 2 (r.cycle.map StD.d)), .d (.sl 1 (r.acts.map intD))]), (2, .box ([.d (.raw (.bool x10.at_)), .d (.raw (.int .i64 x10.proc)), .d (.raw (.int .i64 x10.loc)), .d (.raw (.int .i64 x10.f.kind)), .d (.sl 3 (x10.f.r.t.parts.map Part.d))] ++ zi x10.f.r.t.k ++ [.d (.raw (.bool x10.f.r.eq)), .d (.sl 6 (x10.f.kids.map FormD.d))]))] (by kernel_rfl) h ?_; clear h; intro a w h
          refine rSeq fam0ok 3 [(2, .call (SFewF x10.f 20 3 (hps x10 (List.mem_of_getElem? hx10)) (by decide) (by decide)) kt_1)] [(2, .t (.c (.d (.sl 9 (ps.map PropD.d))))), (3, vp 0 0), (4, vp 1 0), (54, .t (.c (.d (.sl 9 (ps.map PropD.d))))), (55, vi .i64 (ps.length : Int)), (56, vi .i64 (j : Int)), (63, vb (!(fewF x10.f 20 3)))] [(0, .box (sysC s)), (1, .box [.d (.sl 2 (r.stem.map StD.d)), .d (.sl 2 (r.cycle.map StD.d)), .d (.sl 1 (r.acts.map intD))])] (by kernel_rfl) h ?_; clear h; intro a w h
          refine condS (!(fewF x10.f 20 3)) h rfl (fun hc => ?_) (fun hc => ?_)
          ·have hc13 := hc; clear hc
           have hc13' := hc13; (try simp at hc13')
           refine rSeq fam0ok 3 [] [(2, .t (.c (.d (.sl 9 (ps.map PropD.d))))), (3, vp 0 0), (4, vp 1 0), (6, vb true), (54, .t (.c (.d (.sl 9 (ps.map PropD.d))))), (55, vi .i64 (ps.length : Int)), (56, vi .i64 (j : Int))] [(0, .box (sysC s)), (1, .box [.d (.sl 2 (r.stem.map StD.d)), .d (.sl 2 (r.cycle.map StD.d)), .d (.sl 1 (r.acts.map intD))])] (by kernel_rfl) h ?_; clear h; intro a w h
           refine wp_ret ?_
           refine block_r ?_
           refine then_r ?_
           refine then_r ?_
           refine block_r ?_
           refine then_r ?_
           refine retS [.c (.d (.raw (.bool true)))] h Exit.ret (.inl rfl)  rfl ⟨RV.tmp _ _ rfl, trivial⟩ ?_ (by kernel_rfl) (by kernel_rfl)
           rfl
          ·have hc14 := hc; clear hc
           have hc14' := hc14; (try simp at hc14')
           refine wp_skip ?_
           refine block_n ?_
           refine then_n ?_
           refine rS fam0ok 3 [(0, .add .i64 (m := (j : Int)) (n := 1) (i64_id (by omega) (by omega)))] [(2, .t (.c (.d (.sl 9 (ps.map PropD.d))))), (3, vp 0 0), (4, vp 1 0), (54, .t (.c (.d (.sl 9 (ps.map PropD.d))))), (55, vi .i64 (ps.length : Int)), (56, vi .i64 ((j : Int) + 1))] [(0, .box (sysC s)), (1, .box [.d (.sl 2 (r.stem.map StD.d)), .d (.sl 2 (r.cycle.map StD.d)), .d (.sl 1 (r.acts.map intD))])] (by kernel_rfl) h ?_; clear h; intro a w h
           refine then_n ?_
           refine roundS (x := j) (y := j + 1) h ?_ ?_ (by kernel_rfl) (by kernel_rfl)
           ·exact ⟨by have := at_lt hx10; omega, all_step hx10 hI2 (show (fun p => fewF p.f 20 3) x10 = true from (show (fewF x10.f 20 3) = true from by simpa using hc14))⟩
           ·show ps.length - (j + 1) < ps.length - j
            have := at_lt hx10; omega
         ·have hc15 := hc; clear hc
          have hc15' := of_decide_eq_false hc15
          refine wp_exit ?_
          refine then_x ?_
          refine then_x ?_
          refine inBlock_exit ?_
          refine then_n ?_
          have hrO : RunOk 3 r := run_ok hr hl10 (by rw [show (r.stem ++ r.cycle).length = i by have := of_decide_eq_false hc11; omega]; exact hJ2)
          have hal := all_end (of_decide_eq_false hc15) hI2
          have hpO : ∀ p ∈ ps, PropOk 3 p := fun p hp => ⟨hps p hp, fewF_ok (List.all_eq_true.1 hal p hp) (hps p hp)⟩
          have hsl := spell_len (r := r) (show ps.length ≤ 1000 by omega) hl10
          refine rSeq fam0ok 3 [(2, .call (SSpell ps r (L := 3) (M := 3) (by decide) hpO (by omega) hrO) kx_6), (5, .call (SRSpell ps r (L := 3) (M := 3) (by decide) hpO (by omega) hrO) kA_7)] [(3, vp 0 0), (4, vp 1 0), (10, vp 3 0), (11, vp 4 0)] [(0, .box (sysC s)), (1, .box [.d (.sl 2 (r.stem.map StD.d)), .d (.sl 2 (r.cycle.map StD.d)), .d (.sl 1 (r.acts.map intD))]), (3, .box [.d (.sl 1 ((spell ps r).stem.map (slD 1 boolD))), .d (.sl 1 ((spell ps r).cycle.map (slD 1 boolD)))]), (4, .box [.d (.sl 1 ((spell ps r).stem.map (slD 1 boolD))), .d (.sl 1 ((spell ps r).cycle.map (slD 1 boolD)))])] (by kernel_rfl) h ?_; clear h; intro a w h
          refine rSeq fam0ok 5 [(2, .call (SRight s r (L := 3) (M := 3) (by decide) hsO hrO) kx_13), (5, .call (SRRight s r (L := 3) (M := 3) (by decide) hsO hrO) kA_9), (6, .cmpb .eql (m := (right s r)) (n := (right s r)) (b := true) (.inl ⟨rfl, (show (right s r == right s r) = true from by simp).symm⟩)), (12, .call (SR15Same (spell ps r).stem hsl.1.1 hsl.1.2) kA_10), (19, .call (SR15Same (spell ps r).cycle hsl.2.1 hsl.2.2) kA_10)] [(6, vb true)] [] (by kernel_rfl) h ?_; clear h; intro a w h
          refine wp_ret ?_
          refine retS [.c (.d (.raw (.bool true)))] h Exit.ret (.inl rfl)  rfl ⟨RV.tmp _ _ rfl, trivial⟩ ?_ (by kernel_rfl) (by kernel_rfl)
          rfl
  ·have hc16 := hc; clear hc
   refine rSeq fam0ok 5 [(1, .call (Fn.cast (SFewSys s 3 hs) (congrArg vb hc16)) ky_1)] [(2, .t (.c (.d (.sl 9 (ps.map PropD.d))))), (3, vp 0 0), (4, vp 1 0), (6, vb false), (37, vb true)] [(0, .box (sysC s)), (1, .box [.d (.sl 2 (r.stem.map StD.d)), .d (.sl 2 (r.cycle.map StD.d)), .d (.sl 1 (r.acts.map intD))])] (by kernel_rfl) h ?_; clear h; intro a w h
   refine condS true h rfl (fun hc => ?_) (fun hc => ?_)
   ·clear hc
    refine rSeq fam0ok 5 [] [(2, .t (.c (.d (.sl 9 (ps.map PropD.d))))), (3, vp 0 0), (4, vp 1 0), (6, vb true)] [(0, .box (sysC s)), (1, .box [.d (.sl 2 (r.stem.map StD.d)), .d (.sl 2 (r.cycle.map StD.d)), .d (.sl 1 (r.acts.map intD))])] (by kernel_rfl) h ?_; clear h; intro a w h
    refine wp_ret ?_
    refine then_r ?_
    refine retS [.c (.d (.raw (.bool true)))] h Exit.ret (.inl rfl)  rfl ⟨RV.tmp _ _ rfl, trivial⟩ ?_ (by kernel_rfl) (by kernel_rfl)
    rfl
   ·cases hc
end Go.Proofs.YtmohlifepfjmdaaGreat.S
end
section
namespace Go.Proofs.YtmohlifepfjmdaaGreat.S
open Go.RowKit

section
variable {w : World} {n : Nat} {H : Type} {enc : TypeId × Value → H} {base fuel : Nat} {spare : Nat → Bool} {held : Bool}
theorem slice_sized {t e : TypeId} {cs : List Value} {x : DataW H × List MemPlace} (hu : Tryz.prog.underlying t = some (.slice e)) (hb : 0 < Tryz.prog.bytesOf e) (hx : DataW.trod enc Tryz.prog w base spare held fuel t cs = some x) (hw : ∀ n ∈ x.1.weights Tryz.prog t, n ≤ reachBytes) {es : Nat} {rows : List (List D)} (hd : All2 (DR (all w)) [.sl es rows] cs) : rows.length ≤ reachBytes := by
 rcases DataW.trod_slice hu hx with ⟨rfl, _⟩ | ⟨a, len, cap, elems, rest, m, rfl, rfl, rfl, _, _, _, h4, _⟩
 ·have h0 := hd.1
  cases h0 with
  | nil => exact Nat.zero_le _
 ·have h1 : (elems.length + rest.length) * Tryz.prog.bytesOf e ≤ reachBytes := hw _ (by simp [DataW.weights, hu])
  have hl : rows.length = len := by
   have h0 := hd.1
   cases h0 with
   | nil => rfl
   | sl => rfl
  exact Nat.le_trans (Nat.le_trans (by omega : rows.length ≤ elems.length + rest.length) (Nat.le_mul_of_pos_right _ hb)) h1
theorem run_sized {r : RunD} {cs : List Value} {x : DataW H × List MemPlace} (hf : DataW.trod enc Tryz.prog w base spare held fuel 56 cs = some x) (hw : ∀ n ∈ x.1.weights Tryz.prog 56, n ≤ reachBytes) (hd : All2 (DR (all w)) (RunD.d r) cs) : r.stem.length ≤ reachBytes ∧ r.cycle.length ≤ reachBytes := by
 obtain ⟨xs, m, rfl, rfl, h2, h3, h4⟩ := DataW.trod_struct Tryz.underlying56 hf
 obtain ⟨c0, cs, rfl, a0, hd⟩ := all2c (show All2 (DR (all w)) [.sl 2 (r.stem.map StD.d), .sl 2 (r.cycle.map StD.d), .sl 1 (r.acts.map intD)] cs from hd)
 obtain ⟨c1, cs, rfl, a1, hd⟩ := all2c hd
 obtain ⟨c2, cs, rfl, a2, hd⟩ := all2c hd
 have e0 : Tryz.prog.cellsOf 54 = 1 := by kernel_rfl
 obtain ⟨d0, hd0⟩ : ∃ d, xs[0]? = some d := ⟨_, List.getElem?_eq_getElem (by rw [h3]; decide)⟩
 obtain ⟨d1, hd1⟩ : ∃ d, xs[1]? = some d := ⟨_, List.getElem?_eq_getElem (by rw [h3]; decide)⟩
 have q0 : DataW.trod enc Tryz.prog w base spare held m 54 (List.take (Tryz.prog.cellsOf 54) (c0 :: c1 :: c2 :: cs)) = some d0 := by rw [← hd0]; exact h4 0 _ rfl
 have q1 : DataW.trod enc Tryz.prog w base spare held m 54 (List.take (Tryz.prog.cellsOf 54) (c1 :: c2 :: cs)) = some d1 := by rw [← hd1]; exact h4 1 _ rfl
 rw [e0] at q0 q1
 have k0 := slice_sized Tryz.underlying54 (by decide +kernel) q0 (fun n hn => hw n (by
  simp only [DataW.weights, Tryz.underlying56]
  exact DataW.weights_mem_each (j := 0) rfl (by rw [List.getElem?_map, hd0]; rfl) n hn)) ⟨a0, trivial⟩
 have k1 := slice_sized Tryz.underlying54 (by decide +kernel) q1 (fun n hn => hw n (by
  simp only [DataW.weights, Tryz.underlying56]
  exact DataW.weights_mem_each (j := 1) rfl (by rw [List.getElem?_map, hd1]; rfl) n hn)) ⟨a1, trivial⟩
 rw [List.length_map] at k0 k1
 exact ⟨k0, k1⟩
theorem rep_States : RepN w n 54 (slD 2 StD.d) (fun xs => xs.length ≤ maxLen ∧ ∀ x ∈ xs, StRd x) :=
 rep_slice (k := 2) Tryz.underlying54 (by kernel_rfl) (by decide) (fun _ => rfl) rep_State
theorem rep_Run : RepN w n 56 RunD.d (fun r => (∀ x ∈ r.stem, StRd x) ∧ (∀ x ∈ r.cycle, StRd x) ∧ r.acts.length ≤ maxLen) :=
 ((rep_struct (n := n) Tryz.underlying56 (by kernel_rfl) (.cons (k0 := 1) rfl (by kernel_rfl) rep_States (.cons (k0 := 1) rfl (by kernel_rfl) rep_States (.cons (k0 := 1) rfl (by kernel_rfl) rep_ints .nil)))).map (fun p => ⟨p.1, p.2.1, p.2.2.1⟩) (fun _ => rfl) fun _ h => ⟨h.1.2, h.2.1.2, h.2.2.1.1⟩).mono (Nat.le_succ n)
theorem rep_Prop : RepN w n 60 PropD.d (fun p => p.f.lb) :=
 ((rep_struct (n := n) Tryz.underlying60 (by kernel_rfl) (.cons (k0 := 1) rfl (by kernel_rfl) (rep_bool Tryz.underlying4) (.cons (k0 := 1) rfl (by kernel_rfl) (rep_i64 Tryz.underlying3) (.cons (k0 := 1) rfl (by kernel_rfl) (rep_i64 Tryz.underlying3) (.cons (k0 := 6) rfl (by kernel_rfl) rep_Form .nil))))).map (fun p => ⟨p.1, p.2.1, p.2.2.1, p.2.2.2.1⟩) (fun _ => by rw [FormD.d_eq]; rfl) fun _ h => h.2.2.2.1).mono (Nat.le_succ n)
theorem rep_Props : RepN w n 57 (slD 9 PropD.d) (fun xs => xs.length ≤ maxLen ∧ ∀ x ∈ xs, x.f.lb) :=
 rep_slice (k := 9) Tryz.underlying57 (by kernel_rfl) (by decide) (fun _ => rfl) rep_Prop
end
theorem SKripkeRunsW (s : SysD) (r : RunD) (ps : List PropD) (hs : SysRd s) (hr : (∀ x ∈ r.stem, StRd x) ∧ (∀ x ∈ r.cycle, StRd x) ∧ r.acts.length ≤ maxLen) (hp : ps.length ≤ maxLen ∧ ∀ p ∈ ps, p.f.lb) (hz : r.stem.length ≤ reachBytes ∧ r.cycle.length ≤ reachBytes) : Fn Tryz.prog 4 [] [vd (SysD.d s), vd (RunD.d r), .t (.c (.d (.sl 9 (ps.map PropD.d))))] (vb true) [] :=
 SKripkeRuns s r ps hs ⟨hr.1, hr.2.1, (by have := reachBytes_lt; omega), Nat.le_trans hr.2.2 (by decide)⟩ hp.2 (Nat.le_trans hp.1 (by decide))
end Go.Proofs.YtmohlifepfjmdaaGreat.S
end
section
namespace Go.Proofs.YtmohlifepfjmdaaGreat.kripkeRunsDone
open Go.ChangeShapes Go.WideShapes Go.ChangeAt Go.RowKit
open Go.ChangeMaps (open_string shut_string)
open Go.Proofs.YtmohlifepfjmdaaGreat.S

theorem own : ownKnob Tryz.prog.godebug = none := by kernel_rfl
theorem laidOut : laidOutB Tryz.prog = true := by kernel_rfl

theorem lifted (os : Os) (started : os.Started) (H : Type) (enc : TypeId × Value → H) :
  ReturnsInHanded {} Tryz.checked os 4 .any (Rows.kripkeRunsSpec.pre6 enc Tryz.prog Tryz.f4 Rows.kripkeRunsRow.domain false) (Rows.kripkeRunsSpec.post enc Tryz.prog Tryz.f4 false true false false) := by
 refine returnsInHanded_of_change_sized (C := Tryz.checked) own started (by kernel_rfl) Tryz.func4
  (ChangeSpec.witness6 (enc := enc) (C := Tryz.checked) false ⟨#[], #[.agg #[.slice none 0 0, .slice none 0 0, .int .i64 0, .slice none 0 0, .bool false, .slice none 0 0, .bool false, .slice none 0 0, .slice none 0 0, .slice none 0 0], .agg #[.slice none 0 0, .slice none 0 0, .slice none 0 0], .slice none 0 0], []⟩ 12 (by kernel_rfl) (by kernel_rfl) (by kernel_rfl) (by kernel_rfl)) ?_
 intro W base args ds gs before hval0 hW hcnd hsz _
 have hval : ∀ (j : Nat) t v, Tryz.f4.params[j]? = some t → args[j]? = some v → Value.okWide Tryz.prog W .any base t v := hval0
 have hW' := hW
 obtain ⟨p, q, hA0, hV, rfl, hfz, hnd⟩ := hW
 have hA : DataW.TrodAll enc Tryz.prog W 0 (fun _ => true) true Tryz.f4.params.toList args.toList ds p := hA0
 rw [Tryz.params4] at hA hval hsz
 obtain ⟨v0, vs0, d0, ds0, p0, q0, hargs, rfl, rfl, h0, r0⟩ := trodAll_cons hA
 obtain ⟨v1, vs1, d1, ds1, p1, q1, rfl, rfl, rfl, h1, r1⟩ := trodAll_cons r0
 obtain ⟨v2, vs2, d2, ds2, p2, q2, rfl, rfl, rfl, h2, r2⟩ := trodAll_cons r1
 obtain ⟨rfl, rfl, rfl⟩ := trodAll_nil r2
 obtain rfl : args = #[v0, v1, v2] := by cases args; simp_all
 obtain ⟨rfl, rfl⟩ := trodVars_none hV
 have k0 := h0
 have lt0 : ∀ x ∈ p0, x.block < W.heap.size := by obtain ⟨m, hm⟩ := k0; exact DataW.trod_lt m _ _ _ hm
 obtain ⟨a0, cs0, g0, rfl, dr0⟩ := rep_agg Tryz.underlying39 (fun _ => rep_Sys) (hval 0 39 v0 rfl rfl) h0
 have k1 := h1
 have lt1 : ∀ x ∈ p1, x.block < W.heap.size := by obtain ⟨m, hm⟩ := k1; exact DataW.trod_lt m _ _ _ hm
 obtain ⟨a1, cs1, g1, rfl, dr1⟩ := rep_agg Tryz.underlying56 (fun _ => rep_Run) (hval 1 56 v1 rfl rfl) h1
 have k2 := h2
 have lt2 : ∀ x ∈ p2, x.block < W.heap.size := by obtain ⟨m, hm⟩ := k2; exact DataW.trod_lt m _ _ _ hm
 obtain ⟨a2, ao2, len2, cap2, g2, rfl, dr2⟩ := rep_one Tryz.underlying57 (fun _ => rep_Props) (hval 2 57 v2 rfl rfl) h2
 have kk := k1
 obtain ⟨fu, hfu⟩ := kk
 have hz1 := run_sized hfu (fun n hn => of_decide_eq_true (List.all_eq_true.1 hsz n (DataW.weights_mem_each (j := 1) rfl rfl n hn))) dr1
 clear hA0 hval0
 refine ((SKripkeRunsW a0 a1 a2 g0 g1 g2 hz1).calls (w := W) (vals := [.agg ⟨cs0⟩, .agg ⟨cs1⟩, .slice ao2 len2 cap2]) fun B => ⟨dr_vd dr0 B, dr_vd dr1 B, dr2, trivial⟩).mono fun e W' ⟨he, bel⟩ => ?_
 subst he
 exact ⟨_, rfl, _, _, _, [], _, [], hW', trodAll_mk1 (shut_bool Tryz.underlying4 _), (trodAll_cons_mk (Below.trod laidOut (by kernel_rfl) (of_decide_eq_true (by kernel_rfl)) k0 bel lt0) (trodAll_cons_mk (Below.trod laidOut (by kernel_rfl) (of_decide_eq_true (by kernel_rfl)) k1 bel lt1) (trodAll_cons_mk (Below.trod laidOut (by kernel_rfl) (of_decide_eq_true (by kernel_rfl)) k2 bel lt2) trodAll_mk0))), rfl, bel.below.frame _, fun h => by cases h⟩

theorem over : Rows.kripkeRunsRow.holds Tryz.pinned (OpenSpec.ofChange Rows.kripkeRunsSpec) :=
 OpenClaim.holds_of_wide 4 Tryz.f4 rfl rfl rfl rfl rfl rfl rfl ⟨rfl, rfl, rfl, rfl, rfl⟩ rfl rfl rfl rfl rfl (by kernel_rfl) Tryz.func4 (by kernel_rfl)
  (of_decide_eq_true (by kernel_rfl)) (by unfold Func.isWrapper; first | (rw [if_pos (by decide +kernel)]; kernel_rfl) | (rw [if_neg (by decide +kernel)]; exact ⟨rfl, rfl⟩))
  (fun os started H enc _ => lifted os started H enc)

theorem proved : Rows.KripkeRunsSaid := over
end Go.Proofs.YtmohlifepfjmdaaGreat.kripkeRunsDone
end
