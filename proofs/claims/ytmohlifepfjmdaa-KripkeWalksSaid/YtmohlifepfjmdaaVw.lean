/-
  The proof of the statement KripkeWalks: the walk through the program and the references lifted to the given row. It holds for every input.
-/
import Derived.Test.YtmohlifepfjmdaaVw4
import Derived.Test.YtmohlifepfjmdaaVw2
import Derived.Test.YtmohlifepfjmdaaRows
set_option maxRecDepth 100000
section
namespace Go.Proofs.Ytmohlifepfjmdaa.S
open Go.RowKit

theorem same_get {a y : StD} (h2 : a.vals.map ZI.val = y.vals.map ZI.val) (v : Nat) : ((a.vals[v]?).getD zero0).val = ((y.vals[v]?).getD zero0).val := by
 have h := congrArg (fun l => l[v]?) h2
 simp only [List.getElem?_map] at h
 cases ha : a.vals[v]? with
 | none => rw [ha] at h; cases hy : y.vals[v]? with
  | none => rfl
  | some q => rw [hy] at h; cases h
 | some p => rw [ha] at h; cases hy : y.vals[v]? with
  | none => rw [hy] at h; cases h
  | some q => rw [hy] at h; simpa using h
theorem same_len {a y : StD} (h2 : a.vals.map ZI.val = y.vals.map ZI.val) : a.vals.length = y.vals.length := by have := congrArg List.length h2; simpa using this
theorem fits_same {s : SysD} {a y : StD} (h1 : a.locs = y.locs) (h2 : a.vals.map ZI.val = y.vals.map ZI.val) : fits s a = fits s y := by
 unfold fits
 rw [h1, same_len h2]
 congr 2
 ·exact allN_congr fun i _ => by unfold locOk; rw [h1]
 ·exact allN_congr fun i _ => by unfold valOk; exact within_val (same_get h2 i)
theorem sameS_iff {a y : StD} : sameS a y = true ↔ a.locs = y.locs ∧ a.vals.map ZI.val = y.vals.map ZI.val := by unfold sameS; rw [Bool.and_eq_true, decide_eq_true_eq, decide_eq_true_eq]
theorem leads_same {s : SysD} {x y a : StD} {i : Int} (h : leads s x i y = true) (hs : sameS a y = true) : leads s x i a = true := by
 obtain ⟨h1, h2⟩ := sameS_iff.1 hs
 unfold leads at h ⊢
 by_cases hi : i = -1
 ·rw [if_pos hi] at h ⊢
  rw [Bool.and_eq_true] at h ⊢
  obtain ⟨k1, k2⟩ := sameS_iff.1 h.2
  exact ⟨h.1, sameS_iff.2 ⟨k1.trans h1.symm, k2.trans h2.symm⟩⟩
 ·rw [if_neg hi] at h ⊢
  cases hc : actAt s i with
  | none => rw [hc] at h; cases h
  | some c =>
   rw [hc] at h
   simp only at h ⊢
   rw [← leads_eq] at h ⊢
   unfold leadsRC at h ⊢
   rw [fits_same h1 h2]
   rw [show allN x.locs.length (lstep x c a) = allN x.locs.length (lstep x c y) from allN_congr fun p _ => by unfold lstep; rw [h1], show allN x.vals.length (vstep x c a) = allN x.vals.length (vstep x c y) from allN_congr fun v _ => by unfold vstep; rw [same_get h2 v]]
   exact h
/-- a walk so far -/
structure WInv (s : SysD) (x : StD) (all : List StD) (acts : List Int) (j : Nat) : Prop where
  len : all.length = acts.length + 1
  le : acts.length ≤ j
  hd : all[0]? = some x
  ok : ∀ z ∈ all, StOk (2 + 4 * j) z
  step : ∀ k, k < acts.length → leads s ((all[k]?).getD st0) ((acts[k]?).getD 0) ((all[k + 1]?).getD st0) = true
theorem WInv.start {s : SysD} {x : StD} (hx : StOk 2 x) : WInv s x [x] [] 0 := ⟨rfl, Nat.le_refl _, rfl, fun z hz => by rw [List.mem_singleton.1 hz]; exact hx, fun k hk => absurd hk (Nat.not_lt_zero k)⟩
theorem WInv.skip {s : SysD} {x : StD} {all : List StD} {acts : List Int} {j : Nat} (h : WInv s x all acts j) : WInv s x all acts (j + 1) := ⟨h.len, Nat.le_succ_of_le h.le, h.hd, fun z hz => (h.ok z hz).mono (by omega), h.step⟩
theorem WInv.more {s : SysD} {x : StD} {all : List StD} {acts : List Int} {j : Nat} (h : WInv s x all acts j) {a : Int} {now y : StD} (hn : all[all.length - 1]? = some now) (hl : leads s now a y = true) (hy : StOk (2 + 4 * (j + 1)) y) : WInv s x (all ++ [y]) (acts ++ [a]) (j + 1) := by
 have hlen := h.len
 refine ⟨by simp [hlen], by rw [List.length_append]; exact Nat.succ_le_succ h.le, ?_, fun z hz => ?_, fun k hk => ?_⟩
 ·rw [List.getElem?_append_left (by omega)]; exact h.hd
 ·rcases List.mem_append.1 hz with hz | hz
  ·exact (h.ok z hz).mono (by omega)
  ·rw [List.mem_singleton.1 hz]; exact hy
 ·rw [List.length_append, List.length_singleton] at hk
  by_cases hk' : k < acts.length
  ·rw [List.getElem?_append_left (by omega), List.getElem?_append_left (by omega), List.getElem?_append_left (by omega)]
   exact h.step k hk'
  ·obtain rfl : k = acts.length := by omega
   rw [show all.length - 1 = acts.length by omega] at hn
   rw [List.getElem?_append_left (by omega), hn, List.getElem?_append_right (by omega), List.getElem?_append_right (by omega), hlen, Nat.sub_self, Nat.sub_self]
   exact hl
theorem WInv.closes {s : SysD} {x : StD} {all : List StD} {acts : List Int} {j : Nat} (h : WInv s x all acts j) (hf : first s x = true) {a : Int} {now y q : StD} {k : Nat} (hn : all[all.length - 1]? = some now) (hl : leads s now a y = true) (hq : all[k]? = some q) (hs : sameS q y = true) : right s ⟨all.take k, all.drop k, acts ++ [a]⟩ = true := by
 have hlen := h.len
 have hk : k < all.length := (List.getElem?_eq_some_iff.1 hq).1
 have hall : (RunD.mk (all.take k) (all.drop k) (acts ++ [a])).stem ++ (RunD.mk (all.take k) (all.drop k) (acts ++ [a])).cycle = all := List.take_append_drop k all
 unfold right
 rw [hall, decide_eq_true ⟨(by show (all.drop k).length ≠ 0; rw [List.length_drop]; omega), (by show (acts ++ [a]).length = _; rw [List.length_append, hlen]; rfl)⟩, Bool.true_and, h.hd]
 show (first s x && _) = true
 rw [hf, Bool.true_and, allN_iff]
 intro i hi
 unfold stepOk nxt
 rw [hall]
 show leads s _ (((acts ++ [a])[i]?).getD 0) _ = true
 by_cases h1 : i + 1 < all.length
 ·rw [if_pos h1, List.getElem?_append_left (by omega)]; exact h.step i (by omega)
 ·obtain rfl : i = acts.length := by omega
  rw [if_neg h1, List.getElem?_append_right (by omega), Nat.sub_self]
  show leads s _ a (((all.drop k)[0]?).getD st0) = true
  rw [List.getElem?_drop, Nat.add_zero, hq, show acts.length = all.length - 1 by omega, hn]
  exact leads_same hl hs
theorem right_nil (s : SysD) (all : List StD) (acts : List Int) : right s ⟨all, [], acts⟩ = false := by
 unfold right; rw [decide_eq_false (fun h => h.1 rfl)]; rfl
theorem drop_ok {M : Nat} {picks : List ZI} (h : ∀ z ∈ picks, ZOk M z) (j : Nat) : ∀ z ∈ picks.drop j, ZOk M z := fun z hz => h z (List.mem_of_mem_drop hz)
theorem tmod_mod (c n : Int) (_hn : 0 < n) : (c % 1024).tmod n = (c % 1024) % n := Int.tmod_eq_emod_of_nonneg (Int.emod_nonneg _ (by decide))
set_option maxHeartbeats 4000000 in
theorem SKripkeWalks (s : SysD) (x : StD) (choices : List Int) (picks : List ZI) (hs : SysRd s) (hx : StRd x) (hpb : ∀ z ∈ picks, Lb z.abs) (hcl : choices.length ≤ 9223372036854775807) (hpl : picks.length ≤ 9223372036854775807) : Fn Try.prog 4 [] [.t (.agg (sysC s)), .t (.agg [.d (.sl 1 (x.locs.map intD)), .d (.sl 2 (x.vals.map ziD))]), .t (.c (.d (.sl 1 (choices.map intD)))), .t (.c (.d (.sl 2 (picks.map ziD))))] (vb true) [] := by
 have lr1 := hs.len
 have lr2 := hs.mlen
 refine Fn.body Try.func4 rfl 171 rfl fun w H B a h => ?_
 refine rSeq fam0ok 5 [] [(2, .t (.c (.d (.sl 1 (choices.map intD))))), (3, .t (.c (.d (.sl 2 (picks.map ziD))))), (4, vp 5 0), (5, vp 6 0), (8, vb false)] [(5, .box (sysC s)), (6, .box [.d (.sl 1 (x.locs.map intD)), .d (.sl 2 (x.vals.map ziD))])] (by kernel_rfl) h ?_; clear h; intro a w h
 refine wp_seq ?_
 refine rSeq fam0ok 7 [(0, .call (SAlive) ky_0)] [(2, .t (.c (.d (.sl 1 (choices.map intD))))), (3, .t (.c (.d (.sl 2 (picks.map ziD))))), (4, vp 5 0), (5, vp 6 0), (8, vb false), (24, vb false)] [(5, .box (sysC s)), (6, .box [.d (.sl 1 (x.locs.map intD)), .d (.sl 2 (x.vals.map ziD))])] (by kernel_rfl) h ?_; clear h; intro a w h
 refine condS false h rfl (fun hc => ?_) (fun hc => ?_)
 ·cases hc
 ·clear hc
  refine wp_skip ?_
  refine then_n ?_
  refine wp_seq ?_
  rcases Bool.eq_false_or_eq_true (fewSys 2 s) with hc | hc
  ·have hc1 := hc; clear hc
   rcases Bool.eq_false_or_eq_true (fewSt 2 x) with hc | hc
   ·have hc2 := hc; clear hc
    rcases Bool.eq_false_or_eq_true (decide ((choices.length : Int) > 12)) with hc | hc
    ·have hc3 := hc; clear hc
     have hc3' := of_decide_eq_true hc3
     refine rSeq fam0ok 7 [(1, .call (Fn.cast (SFewSys s 2 hs) (congrArg vb hc1)) ky_1), (5, .call (Fn.cast (SFewSt x 2 hx) (congrArg vb hc2)) ky_2), (10, .len (c := (.d (.sl 1 (choices.map intD)))) (n := choices.length) (lenC_map _ _ _)), (11, .cmp (op := .gtr) (m := (choices.length : Int)) (n := 12) (b := true) .i64 hc3)] [(2, .t (.c (.d (.sl 1 (choices.map intD))))), (3, .t (.c (.d (.sl 2 (picks.map ziD))))), (4, vp 5 0), (5, vp 6 0), (8, vb false), (48, vb true)] [(5, .box (sysC s)), (6, .box [.d (.sl 1 (x.locs.map intD)), .d (.sl 2 (x.vals.map ziD))])] (by kernel_rfl) h ?_; clear h; intro a w h
     refine condS true h rfl (fun hc => ?_) (fun hc => ?_)
     ·clear hc
      refine rSeq fam0ok 7 [] [(2, .t (.c (.d (.sl 1 (choices.map intD))))), (3, .t (.c (.d (.sl 2 (picks.map ziD))))), (4, vp 5 0), (5, vp 6 0), (8, vb true)] [(5, .box (sysC s)), (6, .box [.d (.sl 1 (x.locs.map intD)), .d (.sl 2 (x.vals.map ziD))])] (by kernel_rfl) h ?_; clear h; intro a w h
      refine wp_ret ?_
      refine then_r ?_
      refine retS [.c (.d (.raw (.bool true)))] h Exit.ret (.inl rfl)  rfl ⟨RV.tmp _ _ rfl, trivial⟩ ?_ (by kernel_rfl) (by kernel_rfl)
      rfl
     ·cases hc
    ·have hc4 := hc; clear hc
     have hc4' := of_decide_eq_false hc4
     rcases Bool.eq_false_or_eq_true (decide ((picks.length : Int) > 12)) with hc | hc
     ·have hc5 := hc; clear hc
      have hc5' := of_decide_eq_true hc5
      refine rSeq fam0ok 7 [(1, .call (Fn.cast (SFewSys s 2 hs) (congrArg vb hc1)) ky_1), (5, .call (Fn.cast (SFewSt x 2 hx) (congrArg vb hc2)) ky_2), (10, .len (c := (.d (.sl 1 (choices.map intD)))) (n := choices.length) (lenC_map _ _ _)), (11, .cmp (op := .gtr) (m := (choices.length : Int)) (n := 12) (b := false) .i64 hc4), (15, .len (c := (.d (.sl 2 (picks.map ziD)))) (n := picks.length) (lenC_map _ _ _)), (16, .cmp (op := .gtr) (m := (picks.length : Int)) (n := 12) (b := true) .i64 hc5)] [(2, .t (.c (.d (.sl 1 (choices.map intD))))), (3, .t (.c (.d (.sl 2 (picks.map ziD))))), (4, vp 5 0), (5, vp 6 0), (8, vb false), (48, vb true)] [(5, .box (sysC s)), (6, .box [.d (.sl 1 (x.locs.map intD)), .d (.sl 2 (x.vals.map ziD))])] (by kernel_rfl) h ?_; clear h; intro a w h
      refine condS true h rfl (fun hc => ?_) (fun hc => ?_)
      ·clear hc
       refine rSeq fam0ok 7 [] [(2, .t (.c (.d (.sl 1 (choices.map intD))))), (3, .t (.c (.d (.sl 2 (picks.map ziD))))), (4, vp 5 0), (5, vp 6 0), (8, vb true)] [(5, .box (sysC s)), (6, .box [.d (.sl 1 (x.locs.map intD)), .d (.sl 2 (x.vals.map ziD))])] (by kernel_rfl) h ?_; clear h; intro a w h
       refine wp_ret ?_
       refine then_r ?_
       refine retS [.c (.d (.raw (.bool true)))] h Exit.ret (.inl rfl)  rfl ⟨RV.tmp _ _ rfl, trivial⟩ ?_ (by kernel_rfl) (by kernel_rfl)
       rfl
      ·cases hc
     ·have hc6 := hc; clear hc
      have hc6' := of_decide_eq_false hc6
      refine rSeq fam0ok 7 [(1, .call (Fn.cast (SFewSys s 2 hs) (congrArg vb hc1)) ky_1), (5, .call (Fn.cast (SFewSt x 2 hx) (congrArg vb hc2)) ky_2), (10, .len (c := (.d (.sl 1 (choices.map intD)))) (n := choices.length) (lenC_map _ _ _)), (11, .cmp (op := .gtr) (m := (choices.length : Int)) (n := 12) (b := false) .i64 hc4), (15, .len (c := (.d (.sl 2 (picks.map ziD)))) (n := picks.length) (lenC_map _ _ _)), (16, .cmp (op := .gtr) (m := (picks.length : Int)) (n := 12) (b := false) .i64 hc6), (21, .call (SFirst s x (L := 2) (M := 2) (by decide) (few_sys hc1 hs) (few_st hc2 hx)) kn_6)] [(2, .t (.c (.d (.sl 1 (choices.map intD))))), (3, .t (.c (.d (.sl 2 (picks.map ziD))))), (4, vp 5 0), (5, vp 6 0), (8, vb false), (48, vb (!(first s x)))] [(5, .box (sysC s)), (6, .box [.d (.sl 1 (x.locs.map intD)), .d (.sl 2 (x.vals.map ziD))])] (by kernel_rfl) h ?_; clear h; intro a w h
      refine condS (!(first s x)) h rfl (fun hc => ?_) (fun hc => ?_)
      ·have hc7 := hc; clear hc
       have hc7' := hc7; (try simp at hc7')
       refine rSeq fam0ok 7 [] [(2, .t (.c (.d (.sl 1 (choices.map intD))))), (3, .t (.c (.d (.sl 2 (picks.map ziD))))), (4, vp 5 0), (5, vp 6 0), (8, vb true)] [(5, .box (sysC s)), (6, .box [.d (.sl 1 (x.locs.map intD)), .d (.sl 2 (x.vals.map ziD))])] (by kernel_rfl) h ?_; clear h; intro a w h
       refine wp_ret ?_
       refine then_r ?_
       refine retS [.c (.d (.raw (.bool true)))] h Exit.ret (.inl rfl)  rfl ⟨RV.tmp _ _ rfl, trivial⟩ ?_ (by kernel_rfl) (by kernel_rfl)
       rfl
      ·have hc8 := hc; clear hc
       have hc8' := hc8; (try simp at hc8')
       refine wp_skip ?_
       refine then_n ?_
       refine wp_seq ?_
       refine rSeq fam0ok 7 [(1, .len (c := (.d (.sl 2 (picks.map ziD)))) (n := picks.length) (lenC_map _ _ _))] [(2, .t (.c (.d (.sl 1 (choices.map intD))))), (3, .t (.c (.d (.sl 2 (picks.map ziD))))), (4, vp 5 0), (5, vp 6 0), (8, vb false), (49, .t (.c (.d (.sl 2 (picks.map ziD))))), (50, vi .i64 (picks.length : Int)), (51, vi .i64 0)] [(5, .box (sysC s)), (6, .box [.d (.sl 1 (x.locs.map intD)), .d (.sl 2 (x.vals.map ziD))])] (by kernel_rfl) h ?_; clear h; intro a w h
       refine wp_block ?_
       refine loopS (ι := (Nat)) (fun (z_ : (Nat)) => match z_ with | j => j ≤ picks.length ∧ (picks.take j).all (fun z => decide ((z.abs.length : Int) ≤ 2)) = true)
         (fun (z_ : (Nat)) => match z_ with | j => [(2, .t (.c (.d (.sl 1 (choices.map intD))))), (3, .t (.c (.d (.sl 2 (picks.map ziD))))), (4, vp 5 0), (5, vp 6 0), (49, .t (.c (.d (.sl 2 (picks.map ziD))))), (50, vi .i64 (picks.length : Int)), (51, vi .i64 (j : Int))])
         (fun (z_ : (Nat)) => match z_ with | j => [(5, .box (sysC s)), (6, .box [.d (.sl 1 (x.locs.map intD)), .d (.sl 2 (x.vals.map ziD))])])
         (fun (z_ : (Nat)) => match z_ with | j => picks.length - j) 0 ?_ h (by kernel_rfl) (by kernel_rfl) ?_
       ·exact ⟨Nat.zero_le _, rfl⟩
       ·clear h; rintro j a w hI h
        change St _ (F.of [(2, .t (.c (.d (.sl 1 (choices.map intD))))), (3, .t (.c (.d (.sl 2 (picks.map ziD))))), (4, vp 5 0), (5, vp 6 0), (49, .t (.c (.d (.sl 2 (picks.map ziD))))), (50, vi .i64 (picks.length : Int)), (51, vi .i64 (j : Int))] [(5, .box (sysC s)), (6, .box [.d (.sl 1 (x.locs.map intD)), .d (.sl 2 (x.vals.map ziD))])]) a w at h
        obtain ⟨hI1, hI2⟩ := hI
        refine rSeq fam0ok 7 [] [(2, .t (.c (.d (.sl 1 (choices.map intD))))), (3, .t (.c (.d (.sl 2 (picks.map ziD))))), (4, vp 5 0), (5, vp 6 0), (49, .t (.c (.d (.sl 2 (picks.map ziD))))), (50, vi .i64 (picks.length : Int)), (51, vi .i64 (j : Int)), (52, vb (decide ((j : Int) < (picks.length : Int))))] [(5, .box (sysC s)), (6, .box [.d (.sl 1 (x.locs.map intD)), .d (.sl 2 (x.vals.map ziD))])] (by kernel_rfl) h ?_; clear h; intro a w h
        refine wp_seq ?_
        refine condS (decide ((j : Int) < (picks.length : Int))) h rfl (fun hc => ?_) (fun hc => ?_)
        ·have hc9 := hc; clear hc
         have hc9' := of_decide_eq_true hc9
         refine wp_skip ?_
         refine then_n ?_
         refine wp_seq ?_
         refine wp_block ?_
         obtain ⟨x16, hx16⟩ : ∃ z_ : ZI, picks[j]? = some z_ := ⟨_, List.getElem?_eq_getElem (by first | omega | (simp at *; omega))⟩
         refine rSeq fam0ok 7 [(0, .gen _ _ _ fun _ _ _ _ => Op.idxD (d := 53) (t := 49) (k := .i64) tt_6 (map_at hx16 (f := ziD)) (OV.tmp 51 _))] [(2, .t (.c (.d (.sl 1 (choices.map intD))))), (3, .t (.c (.d (.sl 2 (picks.map ziD))))), (4, vp 5 0), (5, vp 6 0), (10, vp 7 0), (49, .t (.c (.d (.sl 2 (picks.map ziD))))), (50, vi .i64 (picks.length : Int)), (51, vi .i64 (j : Int))] [(5, .box (sysC s)), (6, .box [.d (.sl 1 (x.locs.map intD)), .d (.sl 2 (x.vals.map ziD))]), (7, .box (zi x16))] (by kernel_rfl) h ?_; clear h; intro a w h
         refine rSeq fam0ok 8 [(2, .len (nsl_len x16.abs))] [(2, .t (.c (.d (.sl 1 (choices.map intD))))), (3, .t (.c (.d (.sl 2 (picks.map ziD))))), (4, vp 5 0), (5, vp 6 0), (49, .t (.c (.d (.sl 2 (picks.map ziD))))), (50, vi .i64 (picks.length : Int)), (51, vi .i64 (j : Int)), (58, vb (decide ((x16.abs.length : Int) > 2)))] [(5, .box (sysC s)), (6, .box [.d (.sl 1 (x.locs.map intD)), .d (.sl 2 (x.vals.map ziD))])] (by kernel_rfl) h ?_; clear h; intro a w h
         refine condS (decide ((x16.abs.length : Int) > 2)) h rfl (fun hc => ?_) (fun hc => ?_)
         ·have hc10 := hc; clear hc
          have hc10' := of_decide_eq_true hc10
          refine rSeq fam0ok 8 [] [(2, .t (.c (.d (.sl 1 (choices.map intD))))), (3, .t (.c (.d (.sl 2 (picks.map ziD))))), (4, vp 5 0), (5, vp 6 0), (8, vb true), (49, .t (.c (.d (.sl 2 (picks.map ziD))))), (50, vi .i64 (picks.length : Int)), (51, vi .i64 (j : Int))] [(5, .box (sysC s)), (6, .box [.d (.sl 1 (x.locs.map intD)), .d (.sl 2 (x.vals.map ziD))])] (by kernel_rfl) h ?_; clear h; intro a w h
          refine wp_ret ?_
          refine block_r ?_
          refine then_r ?_
          refine then_r ?_
          refine block_r ?_
          refine then_r ?_
          refine retS [.c (.d (.raw (.bool true)))] h Exit.ret (.inl rfl)  rfl ⟨RV.tmp _ _ rfl, trivial⟩ ?_ (by kernel_rfl) (by kernel_rfl)
          rfl
         ·have hc11 := hc; clear hc
          have hc11' := of_decide_eq_false hc11
          refine wp_skip ?_
          refine block_n ?_
          refine then_n ?_
          refine rS fam0ok 8 [(0, .add .i64 (m := (j : Int)) (n := 1) (i64_id (by omega) (by omega)))] [(2, .t (.c (.d (.sl 1 (choices.map intD))))), (3, .t (.c (.d (.sl 2 (picks.map ziD))))), (4, vp 5 0), (5, vp 6 0), (49, .t (.c (.d (.sl 2 (picks.map ziD))))), (50, vi .i64 (picks.length : Int)), (51, vi .i64 ((j : Int) + 1))] [(5, .box (sysC s)), (6, .box [.d (.sl 1 (x.locs.map intD)), .d (.sl 2 (x.vals.map ziD))])] (by kernel_rfl) h ?_; clear h; intro a w h
          refine then_n ?_
          refine roundS (x := j) (y := j + 1) h ?_ ?_ (by kernel_rfl) (by kernel_rfl)
          ·exact ⟨by have := at_lt hx16; omega, all_step hx16 hI2 (decide_eq_true (by have := of_decide_eq_false hc11; omega))⟩
          ·show picks.length - (j + 1) < picks.length - j
           have := at_lt hx16; omega
        ·have hc12 := hc; clear hc
         have hc12' := of_decide_eq_false hc12
         refine wp_exit ?_
         refine then_x ?_
         refine then_x ?_
         refine inBlock_exit ?_
         refine then_n ?_
         have hal := all_end (of_decide_eq_false hc12) hI2
         have hpk : ∀ z ∈ picks, ZOk 2 z := fun z hz => ⟨hpb z hz, by have h0 := List.all_eq_true.1 hal z hz; have h1 := of_decide_eq_true h0; omega⟩
         have hsO := few_sys hc1 hs
         have hxO := few_st hc2 hx
         have hfi : first s x = true := by have := (show (first s x) = true from by simpa using hc8); simpa using this
         have hch12 : choices.length ≤ 12 := by have := of_decide_eq_false hc4; omega
         refine rSeq fam0ok 8 [(1, .gen _ _ _ fun _ _ _ _ => Op.buildO (d := 61) (n := 8) (len := 1) (rows := [x].map StD.d) (rs := [(60, .t (.agg [.d (.sl 1 (x.locs.map intD)), .d (.sl 2 (x.vals.map ziD))]))]) kx_3 (.cons (i := 0) (OV.tmp 60 _) (.nil)) (by kernel_rfl) rfl (by simp [StD.d]) (by decide) (by decide))] [(2, .t (.c (.d (.sl 1 (choices.map intD))))), (3, .t (.c (.d (.sl 2 (picks.map ziD))))), (4, vp 5 0), (11, .t (.c (.own 8 1)))] [(5, .box (sysC s)), (8, .row 43 2 ([x].map StD.d))] (by kernel_rfl) h ?_; clear h; intro a w h
         refine rSeq fam0ok 9 [(0, .gen _ _ _ fun _ _ _ _ => Op.buildE (d := 62) (n := 9) tb_0)] [(2, .t (.c (.d (.sl 1 (choices.map intD))))), (3, .t (.c (.d (.sl 2 (picks.map ziD))))), (4, vp 5 0), (11, .t (.c (.own 8 1))), (12, .t (.c (.own 9 0)))] [(5, .box (sysC s)), (8, .row 43 2 ([x].map StD.d)), (9, .row 3 1 ([].map intD))] (by kernel_rfl) h ?_; clear h; intro a w h
         refine wp_seq ?_
         refine rSeq fam0ok 10 [(1, .len (c := (.d (.sl 1 (choices.map intD)))) (n := choices.length) (lenC_map _ _ _))] [(3, .t (.c (.d (.sl 2 (picks.map ziD))))), (4, vp 5 0), (11, .t (.c (.own 8 1))), (12, .t (.c (.own 9 0))), (63, .t (.c (.d (.sl 1 (choices.map intD))))), (64, vi .i64 (choices.length : Int)), (65, vi .i64 0)] [(5, .box (sysC s)), (8, .row 43 2 ([x].map StD.d)), (9, .row 3 1 ([].map intD))] (by kernel_rfl) h ?_; clear h; intro a w h
         refine wp_block ?_
         refine loopS (ι := (Nat) × (List StD) × (List Int)) (fun (z_ : (Nat) × (List StD) × (List Int)) => match z_ with | (q, all, acts) => q ≤ choices.length ∧ WInv s x all acts q)
           (fun (z_ : (Nat) × (List StD) × (List Int)) => match z_ with | (q, all, acts) => [(3, .t (.c (.d (.sl 2 (picks.map ziD))))), (4, vp 5 0), (11, .t (.c (.own 8 all.length))), (12, .t (.c (.own 9 acts.length))), (63, .t (.c (.d (.sl 1 (choices.map intD))))), (64, vi .i64 (choices.length : Int)), (65, vi .i64 (q : Int))])
           (fun (z_ : (Nat) × (List StD) × (List Int)) => match z_ with | (q, all, acts) => [(5, .box (sysC s)), (8, .row 43 2 (all.map StD.d)), (9, .row 3 1 (acts.map intD))])
           (fun (z_ : (Nat) × (List StD) × (List Int)) => match z_ with | (q, all, acts) => choices.length - q) (0, [x], []) ?_ h (by kernel_rfl) (by kernel_rfl) ?_
         ·exact ⟨Nat.zero_le _, WInv.start hxO⟩
         ·clear h; rintro ⟨q, all, acts⟩ a w hI h
          change St _ (F.of [(3, .t (.c (.d (.sl 2 (picks.map ziD))))), (4, vp 5 0), (11, .t (.c (.own 8 all.length))), (12, .t (.c (.own 9 acts.length))), (63, .t (.c (.d (.sl 1 (choices.map intD))))), (64, vi .i64 (choices.length : Int)), (65, vi .i64 (q : Int))] [(5, .box (sysC s)), (8, .row 43 2 (all.map StD.d)), (9, .row 3 1 (acts.map intD))]) a w at h
          obtain ⟨hW1, hW2⟩ := hI
          have wl1 := hW2.len
          have wl2 := hW2.le
          have hj12 : q ≤ 12 := by omega
          refine rSeq fam0ok 10 [] [(3, .t (.c (.d (.sl 2 (picks.map ziD))))), (4, vp 5 0), (11, .t (.c (.own 8 all.length))), (12, .t (.c (.own 9 acts.length))), (63, .t (.c (.d (.sl 1 (choices.map intD))))), (64, vi .i64 (choices.length : Int)), (65, vi .i64 (q : Int)), (66, vb (decide ((q : Int) < (choices.length : Int))))] [(5, .box (sysC s)), (8, .row 43 2 (all.map StD.d)), (9, .row 3 1 (acts.map intD))] (by kernel_rfl) h ?_; clear h; intro a w h
          refine wp_seq ?_
          refine condS (decide ((q : Int) < (choices.length : Int))) h rfl (fun hc => ?_) (fun hc => ?_)
          ·have hc13 := hc; clear hc
           have hc13' := of_decide_eq_true hc13
           refine wp_skip ?_
           refine then_n ?_
           refine wp_seq ?_
           refine wp_block ?_
           obtain ⟨x17, hx17⟩ : ∃ z_ : Int, choices[q]? = some z_ := ⟨_, List.getElem?_eq_getElem (by first | omega | (simp at *; omega))⟩
           refine rSeq fam0ok 10 [(1, .gen _ _ _ fun _ _ _ _ => Op.idxD (d := 68) (t := 63) (k := .i64) tb_1 (map_at hx17 (f := intD)) (OV.tmp 65 _))] [(3, .t (.c (.d (.sl 2 (picks.map ziD))))), (4, vp 5 0), (11, .t (.c (.own 8 all.length))), (12, .t (.c (.own 9 acts.length))), (13, vi .i64 (q : Int)), (14, vi .i64 x17), (63, .t (.c (.d (.sl 1 (choices.map intD))))), (64, vi .i64 (choices.length : Int)), (65, vi .i64 (q : Int))] [(5, .box (sysC s)), (8, .row 43 2 (all.map StD.d)), (9, .row 3 1 (acts.map intD))] (by kernel_rfl) h ?_; clear h; intro a w h
           refine rSeq fam0ok 10 [] [(3, .t (.c (.d (.sl 2 (picks.map ziD))))), (4, vp 5 0), (11, .t (.c (.own 8 all.length))), (12, .t (.c (.own 9 acts.length))), (13, vi .i64 (q : Int)), (14, vi .i64 x17), (15, vi .i64 (-1)), (63, .t (.c (.d (.sl 1 (choices.map intD))))), (64, vi .i64 (choices.length : Int)), (65, vi .i64 (q : Int))] [(5, .box (sysC s)), (8, .row 43 2 (all.map StD.d)), (9, .row 3 1 (acts.map intD))] (by kernel_rfl) h ?_; clear h; intro a w h
           refine wp_seq ?_
           refine rSeq fam0ok 10 [(2, .len (c := (.d (.sl 10 (s.acts.map ActD.d)))) (n := s.acts.length) (lenC_map _ _ _))] [(3, .t (.c (.d (.sl 2 (picks.map ziD))))), (4, vp 5 0), (11, .t (.c (.own 8 all.length))), (12, .t (.c (.own 9 acts.length))), (13, vi .i64 (q : Int)), (14, vi .i64 x17), (15, vi .i64 (-1)), (63, .t (.c (.d (.sl 1 (choices.map intD))))), (64, vi .i64 (choices.length : Int)), (65, vi .i64 (q : Int)), (73, vb (decide ((s.acts.length : Int) > 0)))] [(5, .box (sysC s)), (8, .row 43 2 (all.map StD.d)), (9, .row 3 1 (acts.map intD))] (by kernel_rfl) h ?_; clear h; intro a w h
           refine condS (decide ((s.acts.length : Int) > 0)) h rfl (fun hc => ?_) (fun hc => ?_)
           ·have hc14 := hc; clear hc
            have hc14' := of_decide_eq_true hc14
            refine rS fam0ok 10 [(1, .gen _ _ _ fun _ _ _ _ => Op.mask (d := 75) (xt := 3) (yt := 3) (m := x17) (n := 1023) (r := (x17 % 1024)) 10 (OV.tmp 74 _) (OV.const (.int .i64 1023) rfl) (by decide) (by decide) (by rw [show ((2 ^ 10 : Nat) : Int) = 1024 from rfl])), (4, .len (c := (.d (.sl 10 (s.acts.map ActD.d)))) (n := s.acts.length) (lenC_map _ _ _)), (5, .gen _ _ _ fun _ _ _ _ => Op.rem (d := 79) (xt := 3) (yt := 3) (k := .i64) (m := (x17 % 1024)) (n := (s.acts.length : Int)) (r := (x17 % 1024 % (s.acts.length : Int))) (OV.tmp 75 _) (OV.tmp 78 _) (by omega) (tmod_mod _ _ (by omega)))] [(3, .t (.c (.d (.sl 2 (picks.map ziD))))), (4, vp 5 0), (11, .t (.c (.own 8 all.length))), (12, .t (.c (.own 9 acts.length))), (13, vi .i64 (q : Int)), (15, vi .i64 (x17 % 1024 % (s.acts.length : Int))), (63, .t (.c (.d (.sl 1 (choices.map intD))))), (64, vi .i64 (choices.length : Int)), (65, vi .i64 (q : Int))] [(5, .box (sysC s)), (8, .row 43 2 (all.map StD.d)), (9, .row 3 1 (acts.map intD))] (by kernel_rfl) h ?_; clear h; intro a w h
            refine then_n ?_
            refine rSeq fam0ok 10 [] [(3, .t (.c (.d (.sl 2 (picks.map ziD))))), (4, vp 5 0), (11, .t (.c (.own 8 all.length))), (12, .t (.c (.own 9 acts.length))), (13, vi .i64 (q : Int)), (15, vi .i64 (x17 % 1024 % (s.acts.length : Int))), (16, .t (.c (.d (.sl 2 (picks.map ziD))))), (63, .t (.c (.d (.sl 1 (choices.map intD))))), (64, vi .i64 (choices.length : Int)), (65, vi .i64 (q : Int))] [(5, .box (sysC s)), (8, .row 43 2 (all.map StD.d)), (9, .row 3 1 (acts.map intD))] (by kernel_rfl) h ?_; clear h; intro a w h
            refine wp_seq ?_
            refine rSeq fam0ok 10 [(2, .len (c := (.d (.sl 2 (picks.map ziD)))) (n := picks.length) (lenC_map _ _ _))] [(3, .t (.c (.d (.sl 2 (picks.map ziD))))), (4, vp 5 0), (11, .t (.c (.own 8 all.length))), (12, .t (.c (.own 9 acts.length))), (13, vi .i64 (q : Int)), (15, vi .i64 (x17 % 1024 % (s.acts.length : Int))), (16, .t (.c (.d (.sl 2 (picks.map ziD))))), (63, .t (.c (.d (.sl 1 (choices.map intD))))), (64, vi .i64 (choices.length : Int)), (65, vi .i64 (q : Int)), (84, vb (decide ((q : Int) < (picks.length : Int))))] [(5, .box (sysC s)), (8, .row 43 2 (all.map StD.d)), (9, .row 3 1 (acts.map intD))] (by kernel_rfl) h ?_; clear h; intro a w h
            refine condS (decide ((q : Int) < (picks.length : Int))) h rfl (fun hc => ?_) (fun hc => ?_)
            ·have hc15 := hc; clear hc
             have hc15' := of_decide_eq_true hc15
             refine rS fam0ok 10 [(2, .gen _ _ _ fun _ _ _ _ => Op.sliceD (d := 87) (t := 85) (l := q) (h := picks.length) (rows := picks.map ziD) (rows' := (picks.drop q).map ziD) tt_6 (BO.yes (k := .i64) (i := q) _ (OV.tmp 86 _)) (by rw [List.length_map]; exact BO.no _) (by first | omega | (simp at *; omega)) (by first | omega | (simp only [List.length_map]; omega) | (simp at *; omega)) (by first | (simp [List.map_drop]; done) | (rw [List.take_of_length_le (by simp <;> omega)]; simp [List.map_drop])))] [(3, .t (.c (.d (.sl 2 (picks.map ziD))))), (4, vp 5 0), (11, .t (.c (.own 8 all.length))), (12, .t (.c (.own 9 acts.length))), (15, vi .i64 (x17 % 1024 % (s.acts.length : Int))), (16, .t (.c (.d (.sl 2 ((picks.drop q).map ziD))))), (63, .t (.c (.d (.sl 1 (choices.map intD))))), (64, vi .i64 (choices.length : Int)), (65, vi .i64 (q : Int))] [(5, .box (sysC s)), (8, .row 43 2 (all.map StD.d)), (9, .row 3 1 (acts.map intD))] (by kernel_rfl) h ?_; clear h; intro a w h
             refine then_n ?_
             obtain ⟨x18, hx18⟩ : ∃ z_ : StD, all[all.length - 1]? = some z_ := ⟨_, List.getElem?_eq_getElem (by omega)⟩
             refine rSeq fam0ok 10 [(3, .gen _ _ _ fun _ _ _ _ => Op.arith (op := .sub) (d := 91) (xt := 3) (yt := 3) (k := .i64) (m := (all.length : Int)) (n := 1) (r := ((all.length - 1 : Nat) : Int)) (OV.tmp 90 _) (OV.const (.int .i64 1) rfl) (.inr (.inl ⟨rfl, (by omega)⟩)) (i64_id (by omega) (by omega))), (4, .gen _ _ _ fun _ _ _ _ => Op.idxO (d := 92) (t := 88) (k := .i64) (n := 8) (len := all.length) (i := (all.length - 1)) kn_0 (by first | omega | (simp at *; omega)) (OV.tmp 91 _)), (5, .gen _ _ _ fun _ _ _ _ => Op.loadR_agg (d := 93) (t := 92) (n := 8) (i := (all.length - 1)) (fo := 0) (rty := 43) (es := 2) (xs := [.sl 1 (x18.locs.map intD), .sl 2 (x18.vals.map ziD)]) kk_5 rfl (map_at hx18 (f := StD.d)) rfl rfl)] [(3, .t (.c (.d (.sl 2 (picks.map ziD))))), (4, vp 5 0), (11, .t (.c (.own 8 all.length))), (12, .t (.c (.own 9 acts.length))), (15, vi .i64 (x17 % 1024 % (s.acts.length : Int))), (16, .t (.c (.d (.sl 2 ((picks.drop q).map ziD))))), (17, vp 10 0), (63, .t (.c (.d (.sl 1 (choices.map intD))))), (64, vi .i64 (choices.length : Int)), (65, vi .i64 (q : Int))] [(5, .box (sysC s)), (8, .row 43 2 (all.map StD.d)), (9, .row 3 1 (acts.map intD)), (10, .box [.d (.sl 1 (x18.locs.map intD)), .d (.sl 2 (x18.vals.map ziD))])] (by kernel_rfl) h ?_; clear h; intro a w h
             refine rSeq fam0ok 11 [(4, .call (SGo s x18 (x17 % 1024 % (s.acts.length : Int)) (picks.drop q) (L := 2) (M := 2 + 4 * q) (by omega) hsO (hW2.ok x18 (List.mem_of_getElem? (show all[all.length - 1]? = some x18 from hx18))) (fun z hz => ⟨((drop_ok hpk q) z hz).1, Nat.le_trans ((drop_ok hpk q) z hz).2 (by omega)⟩)) km_9)] [(3, .t (.c (.d (.sl 2 (picks.map ziD))))), (4, vp 5 0), (11, .t (.c (.own 8 all.length))), (12, .t (.c (.own 9 acts.length))), (15, vi .i64 (x17 % 1024 % (s.acts.length : Int))), (17, vp 10 0), (18, vp 11 0), (19, vb (goS s x18 (x17 % 1024 % (s.acts.length : Int)) (picks.drop q)).2), (63, .t (.c (.d (.sl 1 (choices.map intD))))), (64, vi .i64 (choices.length : Int)), (65, vi .i64 (q : Int))] [(5, .box (sysC s)), (8, .row 43 2 (all.map StD.d)), (9, .row 3 1 (acts.map intD)), (10, .box [.d (.sl 1 (x18.locs.map intD)), .d (.sl 2 (x18.vals.map ziD))]), (11, .box [.d (.sl 1 ((goS s x18 (x17 % 1024 % (s.acts.length : Int)) (picks.drop q)).1.locs.map intD)), .d (.sl 2 ((goS s x18 (x17 % 1024 % (s.acts.length : Int)) (picks.drop q)).1.vals.map ziD))])] (by kernel_rfl) h ?_; clear h; intro a w h
             refine wp_seq ?_
             refine rSeq fam0ok 12 [] [(3, .t (.c (.d (.sl 2 (picks.map ziD))))), (4, vp 5 0), (11, .t (.c (.own 8 all.length))), (12, .t (.c (.own 9 acts.length))), (15, vi .i64 (x17 % 1024 % (s.acts.length : Int))), (17, vp 10 0), (18, vp 11 0), (19, vb (goS s x18 (x17 % 1024 % (s.acts.length : Int)) (picks.drop q)).2), (63, .t (.c (.d (.sl 1 (choices.map intD))))), (64, vi .i64 (choices.length : Int)), (65, vi .i64 (q : Int)), (103, vb (!(goS s x18 (x17 % 1024 % (s.acts.length : Int)) (picks.drop q)).2))] [(5, .box (sysC s)), (8, .row 43 2 (all.map StD.d)), (9, .row 3 1 (acts.map intD)), (10, .box [.d (.sl 1 (x18.locs.map intD)), .d (.sl 2 (x18.vals.map ziD))]), (11, .box [.d (.sl 1 ((goS s x18 (x17 % 1024 % (s.acts.length : Int)) (picks.drop q)).1.locs.map intD)), .d (.sl 2 ((goS s x18 (x17 % 1024 % (s.acts.length : Int)) (picks.drop q)).1.vals.map ziD))])] (by kernel_rfl) h ?_; clear h; intro a w h
             refine condS (!(goS s x18 (x17 % 1024 % (s.acts.length : Int)) (picks.drop q)).2) h rfl (fun hc => ?_) (fun hc => ?_)
             ·have hc16 := hc; clear hc
              have hc16' := hc16; (try simp at hc16')
              refine rSeq fam0ok 12 [] [(3, .t (.c (.d (.sl 2 (picks.map ziD))))), (4, vp 5 0), (11, .t (.c (.own 8 all.length))), (12, .t (.c (.own 9 acts.length))), (15, vi .i64 (-1)), (17, vp 10 0), (18, vp 11 0), (19, vb (goS s x18 (x17 % 1024 % (s.acts.length : Int)) (picks.drop q)).2), (63, .t (.c (.d (.sl 1 (choices.map intD))))), (64, vi .i64 (choices.length : Int)), (65, vi .i64 (q : Int))] [(5, .box (sysC s)), (8, .row 43 2 (all.map StD.d)), (9, .row 3 1 (acts.map intD)), (10, .box [.d (.sl 1 (x18.locs.map intD)), .d (.sl 2 (x18.vals.map ziD))]), (11, .box [.d (.sl 1 ((goS s x18 (x17 % 1024 % (s.acts.length : Int)) (picks.drop q)).1.locs.map intD)), .d (.sl 2 ((goS s x18 (x17 % 1024 % (s.acts.length : Int)) (picks.drop q)).1.vals.map ziD))])] (by kernel_rfl) h ?_; clear h; intro a w h
              refine rS fam0ok 12 [(3, .call (Fn.argw (SGo s x18 (-1) [] (L := 2) (M := 2 + 4 * q) (by omega) hsO (hW2.ok x18 (List.mem_of_getElem? (show all[all.length - 1]? = some x18 from hx18))) (fun z hz => by cases hz)) (.cons _ _ _ _ (.refl _) (.cons _ _ _ _ (.refl _) (.cons _ _ _ _ (.refl _) (.cons _ _ _ _ (.c _ _ (.nil _)) .nil))))) km_9)] [(3, .t (.c (.d (.sl 2 (picks.map ziD))))), (4, vp 5 0), (11, .t (.c (.own 8 all.length))), (12, .t (.c (.own 9 acts.length))), (15, vi .i64 (-1)), (18, vp 11 0), (19, vb (goS s x18 (-1) []).2), (63, .t (.c (.d (.sl 1 (choices.map intD))))), (64, vi .i64 (choices.length : Int)), (65, vi .i64 (q : Int))] [(5, .box (sysC s)), (8, .row 43 2 (all.map StD.d)), (9, .row 3 1 (acts.map intD)), (11, .box [.d (.sl 1 ((goS s x18 (-1) []).1.locs.map intD)), .d (.sl 2 ((goS s x18 (-1) []).1.vals.map ziD))])] (by kernel_rfl) h ?_; clear h; intro a w h
              refine then_n ?_
              refine wp_seq ?_
              refine rSeq fam0ok 12 [] [(3, .t (.c (.d (.sl 2 (picks.map ziD))))), (4, vp 5 0), (11, .t (.c (.own 8 all.length))), (12, .t (.c (.own 9 acts.length))), (15, vi .i64 (-1)), (18, vp 11 0), (63, .t (.c (.d (.sl 1 (choices.map intD))))), (64, vi .i64 (choices.length : Int)), (65, vi .i64 (q : Int)), (112, vb (!(goS s x18 (-1) []).2))] [(5, .box (sysC s)), (8, .row 43 2 (all.map StD.d)), (9, .row 3 1 (acts.map intD)), (11, .box [.d (.sl 1 ((goS s x18 (-1) []).1.locs.map intD)), .d (.sl 2 ((goS s x18 (-1) []).1.vals.map ziD))])] (by kernel_rfl) h ?_; clear h; intro a w h
              refine condS (!(goS s x18 (-1) []).2) h rfl (fun hc => ?_) (fun hc => ?_)
              ·have hc17 := hc; clear hc
               have hc17' := hc17; (try simp at hc17')
               refine wp_exit ?_
               refine then_x ?_
               refine inBlock_exit ?_
               refine then_n ?_
               refine rS fam0ok 12 [(0, .add .i64 (m := (q : Int)) (n := 1) (i64_id (by omega) (by omega)))] [(3, .t (.c (.d (.sl 2 (picks.map ziD))))), (4, vp 5 0), (11, .t (.c (.own 8 all.length))), (12, .t (.c (.own 9 acts.length))), (63, .t (.c (.d (.sl 1 (choices.map intD))))), (64, vi .i64 (choices.length : Int)), (65, vi .i64 ((q : Int) + 1))] [(5, .box (sysC s)), (8, .row 43 2 (all.map StD.d)), (9, .row 3 1 (acts.map intD))] (by kernel_rfl) h ?_; clear h; intro a w h
               refine then_n ?_
               refine roundS (x := (q, all, acts)) (y := (q + 1, all, acts)) h ?_ ?_ (by kernel_rfl) (by kernel_rfl)
               ·have := at_lt hx17
                exact ⟨by omega, hW2.skip⟩
               ·show choices.length - (q + 1) < choices.length - q
                have := at_lt hx17; omega
              ·have hc18 := hc; clear hc
               have hc18' := hc18; (try simp at hc18')
               have hle := goS_leads (show (goS s x18 (-1) []).2 = true from by simpa using hc18)
               have hyO : StOk (2 + 4 * (q + 1)) (goS s x18 (-1) []).1 := goS_ok (L := 2) (M := 2 + 4 * q) (i := (-1)) hsO (hW2.ok x18 (List.mem_of_getElem? (show all[all.length - 1]? = some x18 from hx18))) (fun z hz => by cases hz) |>.mono (by omega)
               refine wp_skip ?_
               refine then_n ?_
               refine rSeq fam0ok 12 [(2, .gen _ _ _ fun _ _ _ _ => Op.buildD (d := 115) (len := 1) (rows := [(-1)].map intD) (rs := [(114, vi .i64 (-1))]) tb_0 (.cons (i := 0) (OV.tmp 114 _) (.nil)) (by kernel_rfl) rfl (by simp [intD]) (by decide) (by decide)), (3, .gen _ _ _ fun _ _ _ _ => Op.appOD (d := 116) (t := 113) (u := 115) (n := 9) (n' := 12) (len := acts.length) (len' := (acts ++ [(-1)]).length) (rows := acts.map intD) (rows2 := [(-1)].map intD) (rows' := (acts ++ [(-1)]).map intD) tb_2 (by first | exact (List.length_map _).symm | simp) (by first | (rw [List.length_append, List.length_map]; done) | simp) (by simp) (by simp [intD]) (by first | omega | (simp at *; done) | (simp at *; omega)))] [(3, .t (.c (.d (.sl 2 (picks.map ziD))))), (4, vp 5 0), (11, .t (.c (.own 8 all.length))), (12, .t (.c (.own 12 (acts ++ [(-1)]).length))), (18, vp 11 0), (63, .t (.c (.d (.sl 1 (choices.map intD))))), (64, vi .i64 (choices.length : Int)), (65, vi .i64 (q : Int))] [(5, .box (sysC s)), (8, .row 43 2 (all.map StD.d)), (11, .box [.d (.sl 1 ((goS s x18 (-1) []).1.locs.map intD)), .d (.sl 2 ((goS s x18 (-1) []).1.vals.map ziD))]), (12, .row 3 1 ((acts ++ [(-1)]).map intD))] (by kernel_rfl) h ?_; clear h; intro a w h
               refine wp_seq ?_
               refine rSeq fam0ok 13 [] [(3, .t (.c (.d (.sl 2 (picks.map ziD))))), (4, vp 5 0), (11, .t (.c (.own 8 all.length))), (12, .t (.c (.own 12 (acts ++ [(-1)]).length))), (18, vp 11 0), (63, .t (.c (.d (.sl 1 (choices.map intD))))), (64, vi .i64 (choices.length : Int)), (65, vi .i64 (q : Int)), (118, vi .i64 (all.length : Int)), (119, vi .i64 0)] [(5, .box (sysC s)), (8, .row 43 2 (all.map StD.d)), (11, .box [.d (.sl 1 ((goS s x18 (-1) []).1.locs.map intD)), .d (.sl 2 ((goS s x18 (-1) []).1.vals.map ziD))]), (12, .row 3 1 ((acts ++ [(-1)]).map intD))] (by kernel_rfl) h ?_; clear h; intro a w h
               refine wp_block ?_
               refine loopS (ι := (Nat)) (fun (z_ : (Nat)) => match z_ with | k => k ≤ all.length)
                 (fun (z_ : (Nat)) => match z_ with | k => [(3, .t (.c (.d (.sl 2 (picks.map ziD))))), (4, vp 5 0), (11, .t (.c (.own 8 all.length))), (12, .t (.c (.own 12 (acts ++ [(-1)]).length))), (18, vp 11 0), (63, .t (.c (.d (.sl 1 (choices.map intD))))), (64, vi .i64 (choices.length : Int)), (65, vi .i64 (q : Int)), (118, vi .i64 (all.length : Int)), (119, vi .i64 (k : Int))])
                 (fun (z_ : (Nat)) => match z_ with | k => [(5, .box (sysC s)), (8, .row 43 2 (all.map StD.d)), (11, .box [.d (.sl 1 ((goS s x18 (-1) []).1.locs.map intD)), .d (.sl 2 ((goS s x18 (-1) []).1.vals.map ziD))]), (12, .row 3 1 ((acts ++ [(-1)]).map intD))])
                 (fun (z_ : (Nat)) => match z_ with | k => all.length - k) 0 ?_ h (by kernel_rfl) (by kernel_rfl) ?_
               ·exact Nat.zero_le _
               ·clear h; rintro k a w hI h
                change St _ (F.of [(3, .t (.c (.d (.sl 2 (picks.map ziD))))), (4, vp 5 0), (11, .t (.c (.own 8 all.length))), (12, .t (.c (.own 12 (acts ++ [(-1)]).length))), (18, vp 11 0), (63, .t (.c (.d (.sl 1 (choices.map intD))))), (64, vi .i64 (choices.length : Int)), (65, vi .i64 (q : Int)), (118, vi .i64 (all.length : Int)), (119, vi .i64 (k : Int))] [(5, .box (sysC s)), (8, .row 43 2 (all.map StD.d)), (11, .box [.d (.sl 1 ((goS s x18 (-1) []).1.locs.map intD)), .d (.sl 2 ((goS s x18 (-1) []).1.vals.map ziD))]), (12, .row 3 1 ((acts ++ [(-1)]).map intD))]) a w at h
                refine rSeq fam0ok 13 [] [(3, .t (.c (.d (.sl 2 (picks.map ziD))))), (4, vp 5 0), (11, .t (.c (.own 8 all.length))), (12, .t (.c (.own 12 (acts ++ [(-1)]).length))), (18, vp 11 0), (63, .t (.c (.d (.sl 1 (choices.map intD))))), (64, vi .i64 (choices.length : Int)), (65, vi .i64 (q : Int)), (118, vi .i64 (all.length : Int)), (119, vi .i64 (k : Int)), (120, vb (decide ((k : Int) < (all.length : Int))))] [(5, .box (sysC s)), (8, .row 43 2 (all.map StD.d)), (11, .box [.d (.sl 1 ((goS s x18 (-1) []).1.locs.map intD)), .d (.sl 2 ((goS s x18 (-1) []).1.vals.map ziD))]), (12, .row 3 1 ((acts ++ [(-1)]).map intD))] (by kernel_rfl) h ?_; clear h; intro a w h
                refine wp_seq ?_
                refine condS (decide ((k : Int) < (all.length : Int))) h rfl (fun hc => ?_) (fun hc => ?_)
                ·have hc19 := hc; clear hc
                 have hc19' := of_decide_eq_true hc19
                 refine wp_skip ?_
                 refine then_n ?_
                 refine wp_seq ?_
                 refine wp_block ?_
                 refine rSeq fam0ok 13 [] [(3, .t (.c (.d (.sl 2 (picks.map ziD))))), (4, vp 5 0), (11, .t (.c (.own 8 all.length))), (12, .t (.c (.own 12 (acts ++ [(-1)]).length))), (18, vp 11 0), (20, vi .i64 (k : Int)), (63, .t (.c (.d (.sl 1 (choices.map intD))))), (64, vi .i64 (choices.length : Int)), (65, vi .i64 (q : Int)), (118, vi .i64 (all.length : Int)), (119, vi .i64 (k : Int))] [(5, .box (sysC s)), (8, .row 43 2 (all.map StD.d)), (11, .box [.d (.sl 1 ((goS s x18 (-1) []).1.locs.map intD)), .d (.sl 2 ((goS s x18 (-1) []).1.vals.map ziD))]), (12, .row 3 1 ((acts ++ [(-1)]).map intD))] (by kernel_rfl) h ?_; clear h; intro a w h
                 obtain ⟨x21, hx21⟩ : ∃ z_ : StD, all[k]? = some z_ := ⟨_, List.getElem?_eq_getElem (by first | omega | (simp at *; omega))⟩
                 refine rSeq fam0ok 13 [(2, .gen _ _ _ fun _ _ _ _ => Op.idxO (d := 124) (t := 122) (k := .i64) (n := 8) (len := all.length) (i := k) kn_0 (by first | omega | (simp at *; omega)) (OV.tmp 123 _)), (3, .gen _ _ _ fun _ _ _ _ => Op.loadR_agg (d := 125) (t := 124) (n := 8) (i := k) (fo := 0) (rty := 43) (es := 2) (xs := [.sl 1 (x21.locs.map intD), .sl 2 (x21.vals.map ziD)]) kk_5 rfl (map_at hx21 (f := StD.d)) rfl rfl), (5, .call (SSame x21 (goS s x18 (-1) []).1 (M := 2 + 4 * (q + 1)) (by omega) ((hW2.ok x21 (List.mem_of_getElem? hx21)).mono (by omega)) hyO) km_1)] [(3, .t (.c (.d (.sl 2 (picks.map ziD))))), (4, vp 5 0), (11, .t (.c (.own 8 all.length))), (12, .t (.c (.own 12 (acts ++ [(-1)]).length))), (18, vp 11 0), (20, vi .i64 (k : Int)), (63, .t (.c (.d (.sl 1 (choices.map intD))))), (64, vi .i64 (choices.length : Int)), (65, vi .i64 (q : Int)), (118, vi .i64 (all.length : Int)), (119, vi .i64 (k : Int)), (127, vb (sameS x21 (goS s x18 (-1) []).1))] [(5, .box (sysC s)), (8, .row 43 2 (all.map StD.d)), (11, .box [.d (.sl 1 ((goS s x18 (-1) []).1.locs.map intD)), .d (.sl 2 ((goS s x18 (-1) []).1.vals.map ziD))]), (12, .row 3 1 ((acts ++ [(-1)]).map intD))] (by kernel_rfl) h ?_; clear h; intro a w h
                 refine condS (sameS x21 (goS s x18 (-1) []).1) h rfl (fun hc => ?_) (fun hc => ?_)
                 ·have hc20 := hc; clear hc
                  have hrt := hW2.closes hfi (show all[all.length - 1]? = some x18 from hx18) hle hx21 hc20
                  have hqk := at_lt hx21
                  replace h := pubS 8 2 43 (all.map StD.d) [(3, .t (.c (.d (.sl 2 (picks.map ziD))))), (4, vp 5 0), (11, .t (.c (.d (.sl 2 (all.map StD.d))))), (12, .t (.c (.own 12 (acts ++ [(-1)]).length))), (18, vp 11 0), (20, vi .i64 (k : Int)), (63, .t (.c (.d (.sl 1 (choices.map intD))))), (64, vi .i64 (choices.length : Int)), (65, vi .i64 (q : Int)), (118, vi .i64 (all.length : Int)), (119, vi .i64 (k : Int)), (127, vb (sameS x21 (goS s x18 (-1) []).1))] [(5, .box (sysC s)), (11, .box [.d (.sl 1 ((goS s x18 (-1) []).1.locs.map intD)), .d (.sl 2 ((goS s x18 (-1) []).1.vals.map ziD))]), (12, .row 3 1 ((acts ++ [(-1)]).map intD))] h rfl (show AllEq _ [all.length] from ⟨by first | exact (List.length_map _).symm | (simp; done) | (simp; omega), trivial⟩) trivial (by kernel_rfl) (by kernel_rfl)
                  replace h := pubS 12 1 3 ((acts ++ [(-1)]).map intD) [(3, .t (.c (.d (.sl 2 (picks.map ziD))))), (4, vp 5 0), (11, .t (.c (.d (.sl 2 (all.map StD.d))))), (12, .t (.c (.d (.sl 1 ((acts ++ [(-1)]).map intD))))), (18, vp 11 0), (20, vi .i64 (k : Int)), (63, .t (.c (.d (.sl 1 (choices.map intD))))), (64, vi .i64 (choices.length : Int)), (65, vi .i64 (q : Int)), (118, vi .i64 (all.length : Int)), (119, vi .i64 (k : Int)), (127, vb (sameS x21 (goS s x18 (-1) []).1))] [(5, .box (sysC s)), (11, .box [.d (.sl 1 ((goS s x18 (-1) []).1.locs.map intD)), .d (.sl 2 ((goS s x18 (-1) []).1.vals.map ziD))])] h rfl (show AllEq _ [(acts ++ [(-1)]).length] from ⟨by first | exact (List.length_map _).symm | (simp; done) | (simp; omega), trivial⟩) trivial (by kernel_rfl) (by kernel_rfl)
                  refine rSeq fam0ok 13 [(3, .gen _ _ _ fun _ _ _ _ => Op.sliceDM (d := 131) (t := 128) (h := k) (m := k) (k := .i64) (k' := .i64) (rows := all.map StD.d) (rows' := (all.take k).map StD.d) kn_0 (OV.tmp 129 _) (OV.tmp 130 _) (by omega) (by rw [List.length_map]; omega) (by rw [List.map_take])), (6, .gen _ _ _ fun _ _ _ _ => Op.sliceD (d := 134) (t := 132) (l := k) (h := all.length) (rows := all.map StD.d) (rows' := (all.drop k).map StD.d) kn_0 (BO.yes (k := .i64) (i := k) _ (OV.tmp 133 _)) (by rw [List.length_map]; exact BO.no _) (by first | omega | (simp at *; omega)) (by first | omega | (simp only [List.length_map]; omega) | (simp at *; omega)) (by first | (simp [List.map_drop]; done) | (rw [List.take_of_length_le (by simp <;> omega)]; simp [List.map_drop])))] [(3, .t (.c (.d (.sl 2 (picks.map ziD))))), (4, vp 5 0), (11, .t (.c (.d (.sl 2 (all.map StD.d))))), (12, .t (.c (.d (.sl 1 ((acts ++ [(-1)]).map intD))))), (18, vp 11 0), (20, vi .i64 (k : Int)), (21, vp 13 0), (63, .t (.c (.d (.sl 1 (choices.map intD))))), (64, vi .i64 (choices.length : Int)), (65, vi .i64 (q : Int)), (118, vi .i64 (all.length : Int)), (119, vi .i64 (k : Int))] [(5, .box (sysC s)), (11, .box [.d (.sl 1 ((goS s x18 (-1) []).1.locs.map intD)), .d (.sl 2 ((goS s x18 (-1) []).1.vals.map ziD))]), (13, .box ([.d (.sl 2 ((all.take k).map StD.d)), .d (.sl 2 ((all.drop k).map StD.d)), .d (.sl 1 ((acts ++ [(-1)]).map intD))]))] (by kernel_rfl) h ?_; clear h; intro a w h
                  refine rSeq fam0ok 14 [(1, .call (Fn.argw (SSpell [] (RunD.mk (all.take k) (all.drop k) (acts ++ [(-1)])) (L := 2) (M := 2 + 4 * 12) (by decide) (fun p hp => by cases hp) (by decide) ⟨by show (all.take k).length + (all.drop k).length ≤ 20; rw [List.length_take, List.length_drop]; omega, fun z hz => (hW2.ok z (List.mem_of_mem_take hz)).mono (by omega), fun z hz => (hW2.ok z (List.mem_of_mem_drop hz)).mono (by omega)⟩) (.cons _ _ _ _ (.c _ _ (.nil _)) (.cons _ _ _ _ (.refl _) .nil))) kx_6)] [(3, .t (.c (.d (.sl 2 (picks.map ziD))))), (4, vp 5 0), (11, .t (.c (.d (.sl 2 (all.map StD.d))))), (12, .t (.c (.d (.sl 1 ((acts ++ [(-1)]).map intD))))), (18, vp 11 0), (20, vi .i64 (k : Int)), (21, vp 13 0), (22, vp 14 0), (63, .t (.c (.d (.sl 1 (choices.map intD))))), (64, vi .i64 (choices.length : Int)), (65, vi .i64 (q : Int)), (118, vi .i64 (all.length : Int)), (119, vi .i64 (k : Int))] [(5, .box (sysC s)), (11, .box [.d (.sl 1 ((goS s x18 (-1) []).1.locs.map intD)), .d (.sl 2 ((goS s x18 (-1) []).1.vals.map ziD))]), (13, .box ([.d (.sl 2 ((all.take k).map StD.d)), .d (.sl 2 ((all.drop k).map StD.d)), .d (.sl 1 ((acts ++ [(-1)]).map intD))])), (14, .box ([.d (.sl 1 ((spell [] (RunD.mk (all.take k) (all.drop k) (acts ++ [(-1)]))).stem.map (slD 1 boolD))), .d (.sl 1 ((spell [] (RunD.mk (all.take k) (all.drop k) (acts ++ [(-1)]))).cycle.map (slD 1 boolD)))]))] (by kernel_rfl) h ?_; clear h; intro a w h
                  refine rSeq fam0ok 15 [(2, .call (Fn.cast (SRight s (RunD.mk (all.take k) (all.drop k) (acts ++ [(-1)])) (L := 2) (M := 2 + 4 * 12) (by decide) hsO ⟨by show (all.take k).length + (all.drop k).length ≤ 20; rw [List.length_take, List.length_drop]; omega, fun z hz => (hW2.ok z (List.mem_of_mem_take hz)).mono (by omega), fun z hz => (hW2.ok z (List.mem_of_mem_drop hz)).mono (by omega)⟩) (congrArg vb hrt)) kx_13), (6, .len (c := (.d (.sl 1 ((spell [] (RunD.mk (all.take k) (all.drop k) (acts ++ [(-1)]))).stem.map (slD 1 boolD))))) (n := (spell [] (RunD.mk (all.take k) (all.drop k) (acts ++ [(-1)]))).stem.length) (lenC_map _ _ _)), (8, .cmp (op := .eql) (m := ((spell [] (RunD.mk (all.take k) (all.drop k) (acts ++ [(-1)]))).stem.length : Int)) (n := (k : Int)) (b := true) .i64 (show (((spell [] (RunD.mk (all.take k) (all.drop k) (acts ++ [(-1)]))).stem.length : Int) == (k : Int)) = true from by rw [beq_iff_eq]; simp only [spell, List.length_map, List.length_take]; omega)), (13, .len (c := (.d (.sl 1 ((spell [] (RunD.mk (all.take k) (all.drop k) (acts ++ [(-1)]))).cycle.map (slD 1 boolD))))) (n := (spell [] (RunD.mk (all.take k) (all.drop k) (acts ++ [(-1)]))).cycle.length) (lenC_map _ _ _)), (15, .len (c := (.d (.sl 2 (all.map StD.d)))) (n := all.length) (lenC_map _ _ _)), (17, .sub .i64 (m := (all.length : Int)) (n := (k : Int)) (i64_id (by omega) (by omega))), (18, .cmp (op := .eql) (m := ((spell [] (RunD.mk (all.take k) (all.drop k) (acts ++ [(-1)]))).cycle.length : Int)) (n := ((all.length : Int) - (k : Int))) (b := true) .i64 (show (((spell [] (RunD.mk (all.take k) (all.drop k) (acts ++ [(-1)]))).cycle.length : Int) == ((all.length : Int) - (k : Int))) = true from by rw [beq_iff_eq]; simp only [spell, List.length_map, List.length_drop]; omega))] [(3, .t (.c (.d (.sl 2 (picks.map ziD))))), (4, vp 5 0), (8, vb true), (11, .t (.c (.d (.sl 2 (all.map StD.d))))), (12, .t (.c (.d (.sl 1 ((acts ++ [(-1)]).map intD))))), (18, vp 11 0), (63, .t (.c (.d (.sl 1 (choices.map intD))))), (64, vi .i64 (choices.length : Int)), (65, vi .i64 (q : Int)), (118, vi .i64 (all.length : Int)), (119, vi .i64 (k : Int))] [(5, .box (sysC s)), (11, .box [.d (.sl 1 ((goS s x18 (-1) []).1.locs.map intD)), .d (.sl 2 ((goS s x18 (-1) []).1.vals.map ziD))])] (by kernel_rfl) h ?_; clear h; intro a w h
                  refine wp_ret ?_
                  refine block_r ?_
                  refine then_r ?_
                  refine then_r ?_
                  refine block_r ?_
                  refine then_r ?_
                  refine block_r ?_
                  refine then_r ?_
                  refine then_r ?_
                  refine block_r ?_
                  refine then_r ?_
                  refine retS [.c (.d (.raw (.bool true)))] h Exit.ret (.inl rfl)  rfl ⟨RV.tmp _ _ rfl, trivial⟩ ?_ (by kernel_rfl) (by kernel_rfl)
                  rfl
                 ·have hc21 := hc; clear hc
                  refine wp_skip ?_
                  refine block_n ?_
                  refine then_n ?_
                  refine rS fam0ok 15 [(0, .add .i64 (m := (k : Int)) (n := 1) (i64_id (by omega) (by omega)))] [(3, .t (.c (.d (.sl 2 (picks.map ziD))))), (4, vp 5 0), (11, .t (.c (.own 8 all.length))), (12, .t (.c (.own 12 (acts ++ [(-1)]).length))), (18, vp 11 0), (63, .t (.c (.d (.sl 1 (choices.map intD))))), (64, vi .i64 (choices.length : Int)), (65, vi .i64 (q : Int)), (118, vi .i64 (all.length : Int)), (119, vi .i64 ((k : Int) + 1))] [(5, .box (sysC s)), (8, .row 43 2 (all.map StD.d)), (11, .box [.d (.sl 1 ((goS s x18 (-1) []).1.locs.map intD)), .d (.sl 2 ((goS s x18 (-1) []).1.vals.map ziD))]), (12, .row 3 1 ((acts ++ [(-1)]).map intD))] (by kernel_rfl) h ?_; clear h; intro a w h
                  refine then_n ?_
                  refine roundS (x := k) (y := k + 1) h ?_ ?_ (by kernel_rfl) (by kernel_rfl)
                  ·have := at_lt hx21
                   show k + 1 ≤ all.length
                   omega
                  ·show all.length - (k + 1) < all.length - k
                   have := at_lt hx21; omega
                ·have hc22 := hc; clear hc
                 have hc22' := of_decide_eq_false hc22
                 refine wp_exit ?_
                 refine then_x ?_
                 refine then_x ?_
                 refine inBlock_exit ?_
                 refine then_n ?_
                 refine rS fam0ok 15 [(2, .gen _ _ _ fun _ _ _ _ => Op.buildD (d := 162) (len := 1) (rows := [(goS s x18 (-1) []).1].map StD.d) (rs := [(161, .t (.agg [.d (.sl 1 ((goS s x18 (-1) []).1.locs.map intD)), .d (.sl 2 ((goS s x18 (-1) []).1.vals.map ziD))]))]) kx_3 (.cons (i := 0) (OV.tmp 161 _) (.nil)) (by kernel_rfl) rfl (by simp [StD.d]) (by decide) (by decide)), (3, .gen _ _ _ fun _ _ _ _ => Op.appOD (d := 163) (t := 160) (u := 162) (n := 8) (n' := 15) (len := all.length) (len' := (all ++ [(goS s x18 (-1) []).1]).length) (rows := all.map StD.d) (rows2 := [(goS s x18 (-1) []).1].map StD.d) (rows' := (all ++ [(goS s x18 (-1) []).1]).map StD.d) kn_1 (by first | exact (List.length_map _).symm | simp) (by first | (rw [List.length_append, List.length_map]; done) | simp) (by simp) (by simp [StD.d]) (by first | omega | (simp at *; done) | (simp at *; omega)))] [(3, .t (.c (.d (.sl 2 (picks.map ziD))))), (4, vp 5 0), (11, .t (.c (.own 15 (all ++ [(goS s x18 (-1) []).1]).length))), (12, .t (.c (.own 12 (acts ++ [(-1)]).length))), (63, .t (.c (.d (.sl 1 (choices.map intD))))), (64, vi .i64 (choices.length : Int)), (65, vi .i64 (q : Int))] [(5, .box (sysC s)), (12, .row 3 1 ((acts ++ [(-1)]).map intD)), (15, .row 43 2 ((all ++ [(goS s x18 (-1) []).1]).map StD.d))] (by kernel_rfl) h ?_; clear h; intro a w h
                 refine block_n ?_
                 refine then_n ?_
                 refine rS fam0ok 16 [(0, .add .i64 (m := (q : Int)) (n := 1) (i64_id (by omega) (by omega)))] [(3, .t (.c (.d (.sl 2 (picks.map ziD))))), (4, vp 5 0), (11, .t (.c (.own 15 (all ++ [(goS s x18 (-1) []).1]).length))), (12, .t (.c (.own 12 (acts ++ [(-1)]).length))), (63, .t (.c (.d (.sl 1 (choices.map intD))))), (64, vi .i64 (choices.length : Int)), (65, vi .i64 ((q : Int) + 1))] [(5, .box (sysC s)), (12, .row 3 1 ((acts ++ [(-1)]).map intD)), (15, .row 43 2 ((all ++ [(goS s x18 (-1) []).1]).map StD.d))] (by kernel_rfl) h ?_; clear h; intro a w h
                 refine then_n ?_
                 replace h := renS 15 8 [(3, .t (.c (.d (.sl 2 (picks.map ziD))))), (4, vp 5 0), (11, .t (.c (.own 8 (all ++ [(goS s x18 (-1) []).1]).length))), (12, .t (.c (.own 12 (acts ++ [(-1)]).length))), (63, .t (.c (.d (.sl 1 (choices.map intD))))), (64, vi .i64 (choices.length : Int)), (65, vi .i64 ((q : Int) + 1))] [(5, .box (sysC s)), (12, .row 3 1 ((acts ++ [(-1)]).map intD)), (8, .row 43 2 ((all ++ [(goS s x18 (-1) []).1]).map StD.d))] h (by kernel_rfl) (by kernel_rfl) (by kernel_rfl)
                 replace h := renS 12 9 [(3, .t (.c (.d (.sl 2 (picks.map ziD))))), (4, vp 5 0), (11, .t (.c (.own 8 (all ++ [(goS s x18 (-1) []).1]).length))), (12, .t (.c (.own 9 (acts ++ [(-1)]).length))), (63, .t (.c (.d (.sl 1 (choices.map intD))))), (64, vi .i64 (choices.length : Int)), (65, vi .i64 ((q : Int) + 1))] [(5, .box (sysC s)), (8, .row 43 2 ((all ++ [(goS s x18 (-1) []).1]).map StD.d)), (9, .row 3 1 ((acts ++ [(-1)]).map intD))] h (by kernel_rfl) (by kernel_rfl) (by kernel_rfl)
                 refine roundS (x := (q, all, acts)) (y := (q + 1, (all ++ [(goS s x18 (-1) []).1]), (acts ++ [(-1)]))) h ?_ ?_ (by kernel_rfl) (by kernel_rfl)
                 ·have := at_lt hx17
                  exact ⟨by omega, hW2.more (show all[all.length - 1]? = some x18 from hx18) hle hyO⟩
                 ·show choices.length - (q + 1) < choices.length - q
                  have := at_lt hx17; omega
             ·have hc23 := hc; clear hc
              have hc23' := hc23; (try simp at hc23')
              have hle := goS_leads (show (goS s x18 (x17 % 1024 % (s.acts.length : Int)) (picks.drop q)).2 = true from by simpa using hc23)
              have hyO : StOk (2 + 4 * (q + 1)) (goS s x18 (x17 % 1024 % (s.acts.length : Int)) (picks.drop q)).1 := goS_ok (L := 2) (M := 2 + 4 * q) (i := (x17 % 1024 % (s.acts.length : Int))) hsO (hW2.ok x18 (List.mem_of_getElem? (show all[all.length - 1]? = some x18 from hx18))) (fun z hz => ⟨((drop_ok hpk q) z hz).1, Nat.le_trans ((drop_ok hpk q) z hz).2 (by omega)⟩) |>.mono (by omega)
              refine wp_skip ?_
              refine then_n ?_
              refine wp_seq ?_
              refine rSeq fam0ok 16 [] [(3, .t (.c (.d (.sl 2 (picks.map ziD))))), (4, vp 5 0), (11, .t (.c (.own 8 all.length))), (12, .t (.c (.own 9 acts.length))), (15, vi .i64 (x17 % 1024 % (s.acts.length : Int))), (18, vp 11 0), (63, .t (.c (.d (.sl 1 (choices.map intD))))), (64, vi .i64 (choices.length : Int)), (65, vi .i64 (q : Int)), (112, vb (!(goS s x18 (x17 % 1024 % (s.acts.length : Int)) (picks.drop q)).2))] [(5, .box (sysC s)), (8, .row 43 2 (all.map StD.d)), (9, .row 3 1 (acts.map intD)), (11, .box [.d (.sl 1 ((goS s x18 (x17 % 1024 % (s.acts.length : Int)) (picks.drop q)).1.locs.map intD)), .d (.sl 2 ((goS s x18 (x17 % 1024 % (s.acts.length : Int)) (picks.drop q)).1.vals.map ziD))])] (by kernel_rfl) h ?_; clear h; intro a w h
              refine condS (!(goS s x18 (x17 % 1024 % (s.acts.length : Int)) (picks.drop q)).2) h rfl (fun hc => ?_) (fun hc => ?_)
              ·rw [hc23] at hc; cases hc
              ·clear hc
               refine wp_skip ?_
               refine then_n ?_
               refine rSeq fam0ok 16 [(2, .gen _ _ _ fun _ _ _ _ => Op.buildD (d := 115) (len := 1) (rows := [(x17 % 1024 % (s.acts.length : Int))].map intD) (rs := [(114, vi .i64 (x17 % 1024 % (s.acts.length : Int)))]) tb_0 (.cons (i := 0) (OV.tmp 114 _) (.nil)) (by kernel_rfl) rfl (by simp [intD]) (by decide) (by decide)), (3, .gen _ _ _ fun _ _ _ _ => Op.appOD (d := 116) (t := 113) (u := 115) (n := 9) (n' := 16) (len := acts.length) (len' := (acts ++ [(x17 % 1024 % (s.acts.length : Int))]).length) (rows := acts.map intD) (rows2 := [(x17 % 1024 % (s.acts.length : Int))].map intD) (rows' := (acts ++ [(x17 % 1024 % (s.acts.length : Int))]).map intD) tb_2 (by first | exact (List.length_map _).symm | simp) (by first | (rw [List.length_append, List.length_map]; done) | simp) (by simp) (by simp [intD]) (by first | omega | (simp at *; done) | (simp at *; omega)))] [(3, .t (.c (.d (.sl 2 (picks.map ziD))))), (4, vp 5 0), (11, .t (.c (.own 8 all.length))), (12, .t (.c (.own 16 (acts ++ [(x17 % 1024 % (s.acts.length : Int))]).length))), (18, vp 11 0), (63, .t (.c (.d (.sl 1 (choices.map intD))))), (64, vi .i64 (choices.length : Int)), (65, vi .i64 (q : Int))] [(5, .box (sysC s)), (8, .row 43 2 (all.map StD.d)), (11, .box [.d (.sl 1 ((goS s x18 (x17 % 1024 % (s.acts.length : Int)) (picks.drop q)).1.locs.map intD)), .d (.sl 2 ((goS s x18 (x17 % 1024 % (s.acts.length : Int)) (picks.drop q)).1.vals.map ziD))]), (16, .row 3 1 ((acts ++ [(x17 % 1024 % (s.acts.length : Int))]).map intD))] (by kernel_rfl) h ?_; clear h; intro a w h
               refine wp_seq ?_
               refine rSeq fam0ok 17 [] [(3, .t (.c (.d (.sl 2 (picks.map ziD))))), (4, vp 5 0), (11, .t (.c (.own 8 all.length))), (12, .t (.c (.own 16 (acts ++ [(x17 % 1024 % (s.acts.length : Int))]).length))), (18, vp 11 0), (63, .t (.c (.d (.sl 1 (choices.map intD))))), (64, vi .i64 (choices.length : Int)), (65, vi .i64 (q : Int)), (118, vi .i64 (all.length : Int)), (119, vi .i64 0)] [(5, .box (sysC s)), (8, .row 43 2 (all.map StD.d)), (11, .box [.d (.sl 1 ((goS s x18 (x17 % 1024 % (s.acts.length : Int)) (picks.drop q)).1.locs.map intD)), .d (.sl 2 ((goS s x18 (x17 % 1024 % (s.acts.length : Int)) (picks.drop q)).1.vals.map ziD))]), (16, .row 3 1 ((acts ++ [(x17 % 1024 % (s.acts.length : Int))]).map intD))] (by kernel_rfl) h ?_; clear h; intro a w h
               refine wp_block ?_
               refine loopS (ι := (Nat)) (fun (z_ : (Nat)) => match z_ with | k => k ≤ all.length)
                 (fun (z_ : (Nat)) => match z_ with | k => [(3, .t (.c (.d (.sl 2 (picks.map ziD))))), (4, vp 5 0), (11, .t (.c (.own 8 all.length))), (12, .t (.c (.own 16 (acts ++ [(x17 % 1024 % (s.acts.length : Int))]).length))), (18, vp 11 0), (63, .t (.c (.d (.sl 1 (choices.map intD))))), (64, vi .i64 (choices.length : Int)), (65, vi .i64 (q : Int)), (118, vi .i64 (all.length : Int)), (119, vi .i64 (k : Int))])
                 (fun (z_ : (Nat)) => match z_ with | k => [(5, .box (sysC s)), (8, .row 43 2 (all.map StD.d)), (11, .box [.d (.sl 1 ((goS s x18 (x17 % 1024 % (s.acts.length : Int)) (picks.drop q)).1.locs.map intD)), .d (.sl 2 ((goS s x18 (x17 % 1024 % (s.acts.length : Int)) (picks.drop q)).1.vals.map ziD))]), (16, .row 3 1 ((acts ++ [(x17 % 1024 % (s.acts.length : Int))]).map intD))])
                 (fun (z_ : (Nat)) => match z_ with | k => all.length - k) 0 ?_ h (by kernel_rfl) (by kernel_rfl) ?_
               ·exact Nat.zero_le _
               ·clear h; rintro k a w hI h
                change St _ (F.of [(3, .t (.c (.d (.sl 2 (picks.map ziD))))), (4, vp 5 0), (11, .t (.c (.own 8 all.length))), (12, .t (.c (.own 16 (acts ++ [(x17 % 1024 % (s.acts.length : Int))]).length))), (18, vp 11 0), (63, .t (.c (.d (.sl 1 (choices.map intD))))), (64, vi .i64 (choices.length : Int)), (65, vi .i64 (q : Int)), (118, vi .i64 (all.length : Int)), (119, vi .i64 (k : Int))] [(5, .box (sysC s)), (8, .row 43 2 (all.map StD.d)), (11, .box [.d (.sl 1 ((goS s x18 (x17 % 1024 % (s.acts.length : Int)) (picks.drop q)).1.locs.map intD)), .d (.sl 2 ((goS s x18 (x17 % 1024 % (s.acts.length : Int)) (picks.drop q)).1.vals.map ziD))]), (16, .row 3 1 ((acts ++ [(x17 % 1024 % (s.acts.length : Int))]).map intD))]) a w at h
                refine rSeq fam0ok 17 [] [(3, .t (.c (.d (.sl 2 (picks.map ziD))))), (4, vp 5 0), (11, .t (.c (.own 8 all.length))), (12, .t (.c (.own 16 (acts ++ [(x17 % 1024 % (s.acts.length : Int))]).length))), (18, vp 11 0), (63, .t (.c (.d (.sl 1 (choices.map intD))))), (64, vi .i64 (choices.length : Int)), (65, vi .i64 (q : Int)), (118, vi .i64 (all.length : Int)), (119, vi .i64 (k : Int)), (120, vb (decide ((k : Int) < (all.length : Int))))] [(5, .box (sysC s)), (8, .row 43 2 (all.map StD.d)), (11, .box [.d (.sl 1 ((goS s x18 (x17 % 1024 % (s.acts.length : Int)) (picks.drop q)).1.locs.map intD)), .d (.sl 2 ((goS s x18 (x17 % 1024 % (s.acts.length : Int)) (picks.drop q)).1.vals.map ziD))]), (16, .row 3 1 ((acts ++ [(x17 % 1024 % (s.acts.length : Int))]).map intD))] (by kernel_rfl) h ?_; clear h; intro a w h
                refine wp_seq ?_
                refine condS (decide ((k : Int) < (all.length : Int))) h rfl (fun hc => ?_) (fun hc => ?_)
                ·have hc24 := hc; clear hc
                 have hc24' := of_decide_eq_true hc24
                 refine wp_skip ?_
                 refine then_n ?_
                 refine wp_seq ?_
                 refine wp_block ?_
                 refine rSeq fam0ok 17 [] [(3, .t (.c (.d (.sl 2 (picks.map ziD))))), (4, vp 5 0), (11, .t (.c (.own 8 all.length))), (12, .t (.c (.own 16 (acts ++ [(x17 % 1024 % (s.acts.length : Int))]).length))), (18, vp 11 0), (20, vi .i64 (k : Int)), (63, .t (.c (.d (.sl 1 (choices.map intD))))), (64, vi .i64 (choices.length : Int)), (65, vi .i64 (q : Int)), (118, vi .i64 (all.length : Int)), (119, vi .i64 (k : Int))] [(5, .box (sysC s)), (8, .row 43 2 (all.map StD.d)), (11, .box [.d (.sl 1 ((goS s x18 (x17 % 1024 % (s.acts.length : Int)) (picks.drop q)).1.locs.map intD)), .d (.sl 2 ((goS s x18 (x17 % 1024 % (s.acts.length : Int)) (picks.drop q)).1.vals.map ziD))]), (16, .row 3 1 ((acts ++ [(x17 % 1024 % (s.acts.length : Int))]).map intD))] (by kernel_rfl) h ?_; clear h; intro a w h
                 obtain ⟨x25, hx25⟩ : ∃ z_ : StD, all[k]? = some z_ := ⟨_, List.getElem?_eq_getElem (by first | omega | (simp at *; omega))⟩
                 refine rSeq fam0ok 17 [(2, .gen _ _ _ fun _ _ _ _ => Op.idxO (d := 124) (t := 122) (k := .i64) (n := 8) (len := all.length) (i := k) kn_0 (by first | omega | (simp at *; omega)) (OV.tmp 123 _)), (3, .gen _ _ _ fun _ _ _ _ => Op.loadR_agg (d := 125) (t := 124) (n := 8) (i := k) (fo := 0) (rty := 43) (es := 2) (xs := [.sl 1 (x25.locs.map intD), .sl 2 (x25.vals.map ziD)]) kk_5 rfl (map_at hx25 (f := StD.d)) rfl rfl), (5, .call (SSame x25 (goS s x18 (x17 % 1024 % (s.acts.length : Int)) (picks.drop q)).1 (M := 2 + 4 * (q + 1)) (by omega) ((hW2.ok x25 (List.mem_of_getElem? hx25)).mono (by omega)) hyO) km_1)] [(3, .t (.c (.d (.sl 2 (picks.map ziD))))), (4, vp 5 0), (11, .t (.c (.own 8 all.length))), (12, .t (.c (.own 16 (acts ++ [(x17 % 1024 % (s.acts.length : Int))]).length))), (18, vp 11 0), (20, vi .i64 (k : Int)), (63, .t (.c (.d (.sl 1 (choices.map intD))))), (64, vi .i64 (choices.length : Int)), (65, vi .i64 (q : Int)), (118, vi .i64 (all.length : Int)), (119, vi .i64 (k : Int)), (127, vb (sameS x25 (goS s x18 (x17 % 1024 % (s.acts.length : Int)) (picks.drop q)).1))] [(5, .box (sysC s)), (8, .row 43 2 (all.map StD.d)), (11, .box [.d (.sl 1 ((goS s x18 (x17 % 1024 % (s.acts.length : Int)) (picks.drop q)).1.locs.map intD)), .d (.sl 2 ((goS s x18 (x17 % 1024 % (s.acts.length : Int)) (picks.drop q)).1.vals.map ziD))]), (16, .row 3 1 ((acts ++ [(x17 % 1024 % (s.acts.length : Int))]).map intD))] (by kernel_rfl) h ?_; clear h; intro a w h
                 refine condS (sameS x25 (goS s x18 (x17 % 1024 % (s.acts.length : Int)) (picks.drop q)).1) h rfl (fun hc => ?_) (fun hc => ?_)
                 ·have hc25 := hc; clear hc
                  have hrt := hW2.closes hfi (show all[all.length - 1]? = some x18 from hx18) hle hx25 hc25
                  have hqk := at_lt hx25
                  replace h := pubS 8 2 43 (all.map StD.d) [(3, .t (.c (.d (.sl 2 (picks.map ziD))))), (4, vp 5 0), (11, .t (.c (.d (.sl 2 (all.map StD.d))))), (12, .t (.c (.own 16 (acts ++ [(x17 % 1024 % (s.acts.length : Int))]).length))), (18, vp 11 0), (20, vi .i64 (k : Int)), (63, .t (.c (.d (.sl 1 (choices.map intD))))), (64, vi .i64 (choices.length : Int)), (65, vi .i64 (q : Int)), (118, vi .i64 (all.length : Int)), (119, vi .i64 (k : Int)), (127, vb (sameS x25 (goS s x18 (x17 % 1024 % (s.acts.length : Int)) (picks.drop q)).1))] [(5, .box (sysC s)), (11, .box [.d (.sl 1 ((goS s x18 (x17 % 1024 % (s.acts.length : Int)) (picks.drop q)).1.locs.map intD)), .d (.sl 2 ((goS s x18 (x17 % 1024 % (s.acts.length : Int)) (picks.drop q)).1.vals.map ziD))]), (16, .row 3 1 ((acts ++ [(x17 % 1024 % (s.acts.length : Int))]).map intD))] h rfl (show AllEq _ [all.length] from ⟨by first | exact (List.length_map _).symm | (simp; done) | (simp; omega), trivial⟩) trivial (by kernel_rfl) (by kernel_rfl)
                  replace h := pubS 16 1 3 ((acts ++ [(x17 % 1024 % (s.acts.length : Int))]).map intD) [(3, .t (.c (.d (.sl 2 (picks.map ziD))))), (4, vp 5 0), (11, .t (.c (.d (.sl 2 (all.map StD.d))))), (12, .t (.c (.d (.sl 1 ((acts ++ [(x17 % 1024 % (s.acts.length : Int))]).map intD))))), (18, vp 11 0), (20, vi .i64 (k : Int)), (63, .t (.c (.d (.sl 1 (choices.map intD))))), (64, vi .i64 (choices.length : Int)), (65, vi .i64 (q : Int)), (118, vi .i64 (all.length : Int)), (119, vi .i64 (k : Int)), (127, vb (sameS x25 (goS s x18 (x17 % 1024 % (s.acts.length : Int)) (picks.drop q)).1))] [(5, .box (sysC s)), (11, .box [.d (.sl 1 ((goS s x18 (x17 % 1024 % (s.acts.length : Int)) (picks.drop q)).1.locs.map intD)), .d (.sl 2 ((goS s x18 (x17 % 1024 % (s.acts.length : Int)) (picks.drop q)).1.vals.map ziD))])] h rfl (show AllEq _ [(acts ++ [(x17 % 1024 % (s.acts.length : Int))]).length] from ⟨by first | exact (List.length_map _).symm | (simp; done) | (simp; omega), trivial⟩) trivial (by kernel_rfl) (by kernel_rfl)
                  refine rSeq fam0ok 17 [(3, .gen _ _ _ fun _ _ _ _ => Op.sliceDM (d := 131) (t := 128) (h := k) (m := k) (k := .i64) (k' := .i64) (rows := all.map StD.d) (rows' := (all.take k).map StD.d) kn_0 (OV.tmp 129 _) (OV.tmp 130 _) (by omega) (by rw [List.length_map]; omega) (by rw [List.map_take])), (6, .gen _ _ _ fun _ _ _ _ => Op.sliceD (d := 134) (t := 132) (l := k) (h := all.length) (rows := all.map StD.d) (rows' := (all.drop k).map StD.d) kn_0 (BO.yes (k := .i64) (i := k) _ (OV.tmp 133 _)) (by rw [List.length_map]; exact BO.no _) (by first | omega | (simp at *; omega)) (by first | omega | (simp only [List.length_map]; omega) | (simp at *; omega)) (by first | (simp [List.map_drop]; done) | (rw [List.take_of_length_le (by simp <;> omega)]; simp [List.map_drop])))] [(3, .t (.c (.d (.sl 2 (picks.map ziD))))), (4, vp 5 0), (11, .t (.c (.d (.sl 2 (all.map StD.d))))), (12, .t (.c (.d (.sl 1 ((acts ++ [(x17 % 1024 % (s.acts.length : Int))]).map intD))))), (18, vp 11 0), (20, vi .i64 (k : Int)), (21, vp 17 0), (63, .t (.c (.d (.sl 1 (choices.map intD))))), (64, vi .i64 (choices.length : Int)), (65, vi .i64 (q : Int)), (118, vi .i64 (all.length : Int)), (119, vi .i64 (k : Int))] [(5, .box (sysC s)), (11, .box [.d (.sl 1 ((goS s x18 (x17 % 1024 % (s.acts.length : Int)) (picks.drop q)).1.locs.map intD)), .d (.sl 2 ((goS s x18 (x17 % 1024 % (s.acts.length : Int)) (picks.drop q)).1.vals.map ziD))]), (17, .box ([.d (.sl 2 ((all.take k).map StD.d)), .d (.sl 2 ((all.drop k).map StD.d)), .d (.sl 1 ((acts ++ [(x17 % 1024 % (s.acts.length : Int))]).map intD))]))] (by kernel_rfl) h ?_; clear h; intro a w h
                  refine rSeq fam0ok 18 [(1, .call (Fn.argw (SSpell [] (RunD.mk (all.take k) (all.drop k) (acts ++ [(x17 % 1024 % (s.acts.length : Int))])) (L := 2) (M := 2 + 4 * 12) (by decide) (fun p hp => by cases hp) (by decide) ⟨by show (all.take k).length + (all.drop k).length ≤ 20; rw [List.length_take, List.length_drop]; omega, fun z hz => (hW2.ok z (List.mem_of_mem_take hz)).mono (by omega), fun z hz => (hW2.ok z (List.mem_of_mem_drop hz)).mono (by omega)⟩) (.cons _ _ _ _ (.c _ _ (.nil _)) (.cons _ _ _ _ (.refl _) .nil))) kx_6)] [(3, .t (.c (.d (.sl 2 (picks.map ziD))))), (4, vp 5 0), (11, .t (.c (.d (.sl 2 (all.map StD.d))))), (12, .t (.c (.d (.sl 1 ((acts ++ [(x17 % 1024 % (s.acts.length : Int))]).map intD))))), (18, vp 11 0), (20, vi .i64 (k : Int)), (21, vp 17 0), (22, vp 18 0), (63, .t (.c (.d (.sl 1 (choices.map intD))))), (64, vi .i64 (choices.length : Int)), (65, vi .i64 (q : Int)), (118, vi .i64 (all.length : Int)), (119, vi .i64 (k : Int))] [(5, .box (sysC s)), (11, .box [.d (.sl 1 ((goS s x18 (x17 % 1024 % (s.acts.length : Int)) (picks.drop q)).1.locs.map intD)), .d (.sl 2 ((goS s x18 (x17 % 1024 % (s.acts.length : Int)) (picks.drop q)).1.vals.map ziD))]), (17, .box ([.d (.sl 2 ((all.take k).map StD.d)), .d (.sl 2 ((all.drop k).map StD.d)), .d (.sl 1 ((acts ++ [(x17 % 1024 % (s.acts.length : Int))]).map intD))])), (18, .box ([.d (.sl 1 ((spell [] (RunD.mk (all.take k) (all.drop k) (acts ++ [(x17 % 1024 % (s.acts.length : Int))]))).stem.map (slD 1 boolD))), .d (.sl 1 ((spell [] (RunD.mk (all.take k) (all.drop k) (acts ++ [(x17 % 1024 % (s.acts.length : Int))]))).cycle.map (slD 1 boolD)))]))] (by kernel_rfl) h ?_; clear h; intro a w h
                  refine rSeq fam0ok 19 [(2, .call (Fn.cast (SRight s (RunD.mk (all.take k) (all.drop k) (acts ++ [(x17 % 1024 % (s.acts.length : Int))])) (L := 2) (M := 2 + 4 * 12) (by decide) hsO ⟨by show (all.take k).length + (all.drop k).length ≤ 20; rw [List.length_take, List.length_drop]; omega, fun z hz => (hW2.ok z (List.mem_of_mem_take hz)).mono (by omega), fun z hz => (hW2.ok z (List.mem_of_mem_drop hz)).mono (by omega)⟩) (congrArg vb hrt)) kx_13), (6, .len (c := (.d (.sl 1 ((spell [] (RunD.mk (all.take k) (all.drop k) (acts ++ [(x17 % 1024 % (s.acts.length : Int))]))).stem.map (slD 1 boolD))))) (n := (spell [] (RunD.mk (all.take k) (all.drop k) (acts ++ [(x17 % 1024 % (s.acts.length : Int))]))).stem.length) (lenC_map _ _ _)), (8, .cmp (op := .eql) (m := ((spell [] (RunD.mk (all.take k) (all.drop k) (acts ++ [(x17 % 1024 % (s.acts.length : Int))]))).stem.length : Int)) (n := (k : Int)) (b := true) .i64 (show (((spell [] (RunD.mk (all.take k) (all.drop k) (acts ++ [(x17 % 1024 % (s.acts.length : Int))]))).stem.length : Int) == (k : Int)) = true from by rw [beq_iff_eq]; simp only [spell, List.length_map, List.length_take]; omega)), (13, .len (c := (.d (.sl 1 ((spell [] (RunD.mk (all.take k) (all.drop k) (acts ++ [(x17 % 1024 % (s.acts.length : Int))]))).cycle.map (slD 1 boolD))))) (n := (spell [] (RunD.mk (all.take k) (all.drop k) (acts ++ [(x17 % 1024 % (s.acts.length : Int))]))).cycle.length) (lenC_map _ _ _)), (15, .len (c := (.d (.sl 2 (all.map StD.d)))) (n := all.length) (lenC_map _ _ _)), (17, .sub .i64 (m := (all.length : Int)) (n := (k : Int)) (i64_id (by omega) (by omega))), (18, .cmp (op := .eql) (m := ((spell [] (RunD.mk (all.take k) (all.drop k) (acts ++ [(x17 % 1024 % (s.acts.length : Int))]))).cycle.length : Int)) (n := ((all.length : Int) - (k : Int))) (b := true) .i64 (show (((spell [] (RunD.mk (all.take k) (all.drop k) (acts ++ [(x17 % 1024 % (s.acts.length : Int))]))).cycle.length : Int) == ((all.length : Int) - (k : Int))) = true from by rw [beq_iff_eq]; simp only [spell, List.length_map, List.length_drop]; omega))] [(3, .t (.c (.d (.sl 2 (picks.map ziD))))), (4, vp 5 0), (8, vb true), (11, .t (.c (.d (.sl 2 (all.map StD.d))))), (12, .t (.c (.d (.sl 1 ((acts ++ [(x17 % 1024 % (s.acts.length : Int))]).map intD))))), (18, vp 11 0), (63, .t (.c (.d (.sl 1 (choices.map intD))))), (64, vi .i64 (choices.length : Int)), (65, vi .i64 (q : Int)), (118, vi .i64 (all.length : Int)), (119, vi .i64 (k : Int))] [(5, .box (sysC s)), (11, .box [.d (.sl 1 ((goS s x18 (x17 % 1024 % (s.acts.length : Int)) (picks.drop q)).1.locs.map intD)), .d (.sl 2 ((goS s x18 (x17 % 1024 % (s.acts.length : Int)) (picks.drop q)).1.vals.map ziD))])] (by kernel_rfl) h ?_; clear h; intro a w h
                  refine wp_ret ?_
                  refine block_r ?_
                  refine then_r ?_
                  refine then_r ?_
                  refine block_r ?_
                  refine then_r ?_
                  refine block_r ?_
                  refine then_r ?_
                  refine then_r ?_
                  refine block_r ?_
                  refine then_r ?_
                  refine retS [.c (.d (.raw (.bool true)))] h Exit.ret (.inl rfl)  rfl ⟨RV.tmp _ _ rfl, trivial⟩ ?_ (by kernel_rfl) (by kernel_rfl)
                  rfl
                 ·have hc26 := hc; clear hc
                  refine wp_skip ?_
                  refine block_n ?_
                  refine then_n ?_
                  refine rS fam0ok 19 [(0, .add .i64 (m := (k : Int)) (n := 1) (i64_id (by omega) (by omega)))] [(3, .t (.c (.d (.sl 2 (picks.map ziD))))), (4, vp 5 0), (11, .t (.c (.own 8 all.length))), (12, .t (.c (.own 16 (acts ++ [(x17 % 1024 % (s.acts.length : Int))]).length))), (18, vp 11 0), (63, .t (.c (.d (.sl 1 (choices.map intD))))), (64, vi .i64 (choices.length : Int)), (65, vi .i64 (q : Int)), (118, vi .i64 (all.length : Int)), (119, vi .i64 ((k : Int) + 1))] [(5, .box (sysC s)), (8, .row 43 2 (all.map StD.d)), (11, .box [.d (.sl 1 ((goS s x18 (x17 % 1024 % (s.acts.length : Int)) (picks.drop q)).1.locs.map intD)), .d (.sl 2 ((goS s x18 (x17 % 1024 % (s.acts.length : Int)) (picks.drop q)).1.vals.map ziD))]), (16, .row 3 1 ((acts ++ [(x17 % 1024 % (s.acts.length : Int))]).map intD))] (by kernel_rfl) h ?_; clear h; intro a w h
                  refine then_n ?_
                  refine roundS (x := k) (y := k + 1) h ?_ ?_ (by kernel_rfl) (by kernel_rfl)
                  ·have := at_lt hx25
                   show k + 1 ≤ all.length
                   omega
                  ·show all.length - (k + 1) < all.length - k
                   have := at_lt hx25; omega
                ·have hc27 := hc; clear hc
                 have hc27' := of_decide_eq_false hc27
                 refine wp_exit ?_
                 refine then_x ?_
                 refine then_x ?_
                 refine inBlock_exit ?_
                 refine then_n ?_
                 refine rS fam0ok 19 [(2, .gen _ _ _ fun _ _ _ _ => Op.buildD (d := 162) (len := 1) (rows := [(goS s x18 (x17 % 1024 % (s.acts.length : Int)) (picks.drop q)).1].map StD.d) (rs := [(161, .t (.agg [.d (.sl 1 ((goS s x18 (x17 % 1024 % (s.acts.length : Int)) (picks.drop q)).1.locs.map intD)), .d (.sl 2 ((goS s x18 (x17 % 1024 % (s.acts.length : Int)) (picks.drop q)).1.vals.map ziD))]))]) kx_3 (.cons (i := 0) (OV.tmp 161 _) (.nil)) (by kernel_rfl) rfl (by simp [StD.d]) (by decide) (by decide)), (3, .gen _ _ _ fun _ _ _ _ => Op.appOD (d := 163) (t := 160) (u := 162) (n := 8) (n' := 19) (len := all.length) (len' := (all ++ [(goS s x18 (x17 % 1024 % (s.acts.length : Int)) (picks.drop q)).1]).length) (rows := all.map StD.d) (rows2 := [(goS s x18 (x17 % 1024 % (s.acts.length : Int)) (picks.drop q)).1].map StD.d) (rows' := (all ++ [(goS s x18 (x17 % 1024 % (s.acts.length : Int)) (picks.drop q)).1]).map StD.d) kn_1 (by first | exact (List.length_map _).symm | simp) (by first | (rw [List.length_append, List.length_map]; done) | simp) (by simp) (by simp [StD.d]) (by first | omega | (simp at *; done) | (simp at *; omega)))] [(3, .t (.c (.d (.sl 2 (picks.map ziD))))), (4, vp 5 0), (11, .t (.c (.own 19 (all ++ [(goS s x18 (x17 % 1024 % (s.acts.length : Int)) (picks.drop q)).1]).length))), (12, .t (.c (.own 16 (acts ++ [(x17 % 1024 % (s.acts.length : Int))]).length))), (63, .t (.c (.d (.sl 1 (choices.map intD))))), (64, vi .i64 (choices.length : Int)), (65, vi .i64 (q : Int))] [(5, .box (sysC s)), (16, .row 3 1 ((acts ++ [(x17 % 1024 % (s.acts.length : Int))]).map intD)), (19, .row 43 2 ((all ++ [(goS s x18 (x17 % 1024 % (s.acts.length : Int)) (picks.drop q)).1]).map StD.d))] (by kernel_rfl) h ?_; clear h; intro a w h
                 refine block_n ?_
                 refine then_n ?_
                 refine rS fam0ok 20 [(0, .add .i64 (m := (q : Int)) (n := 1) (i64_id (by omega) (by omega)))] [(3, .t (.c (.d (.sl 2 (picks.map ziD))))), (4, vp 5 0), (11, .t (.c (.own 19 (all ++ [(goS s x18 (x17 % 1024 % (s.acts.length : Int)) (picks.drop q)).1]).length))), (12, .t (.c (.own 16 (acts ++ [(x17 % 1024 % (s.acts.length : Int))]).length))), (63, .t (.c (.d (.sl 1 (choices.map intD))))), (64, vi .i64 (choices.length : Int)), (65, vi .i64 ((q : Int) + 1))] [(5, .box (sysC s)), (16, .row 3 1 ((acts ++ [(x17 % 1024 % (s.acts.length : Int))]).map intD)), (19, .row 43 2 ((all ++ [(goS s x18 (x17 % 1024 % (s.acts.length : Int)) (picks.drop q)).1]).map StD.d))] (by kernel_rfl) h ?_; clear h; intro a w h
                 refine then_n ?_
                 replace h := renS 19 8 [(3, .t (.c (.d (.sl 2 (picks.map ziD))))), (4, vp 5 0), (11, .t (.c (.own 8 (all ++ [(goS s x18 (x17 % 1024 % (s.acts.length : Int)) (picks.drop q)).1]).length))), (12, .t (.c (.own 16 (acts ++ [(x17 % 1024 % (s.acts.length : Int))]).length))), (63, .t (.c (.d (.sl 1 (choices.map intD))))), (64, vi .i64 (choices.length : Int)), (65, vi .i64 ((q : Int) + 1))] [(5, .box (sysC s)), (16, .row 3 1 ((acts ++ [(x17 % 1024 % (s.acts.length : Int))]).map intD)), (8, .row 43 2 ((all ++ [(goS s x18 (x17 % 1024 % (s.acts.length : Int)) (picks.drop q)).1]).map StD.d))] h (by kernel_rfl) (by kernel_rfl) (by kernel_rfl)
                 replace h := renS 16 9 [(3, .t (.c (.d (.sl 2 (picks.map ziD))))), (4, vp 5 0), (11, .t (.c (.own 8 (all ++ [(goS s x18 (x17 % 1024 % (s.acts.length : Int)) (picks.drop q)).1]).length))), (12, .t (.c (.own 9 (acts ++ [(x17 % 1024 % (s.acts.length : Int))]).length))), (63, .t (.c (.d (.sl 1 (choices.map intD))))), (64, vi .i64 (choices.length : Int)), (65, vi .i64 ((q : Int) + 1))] [(5, .box (sysC s)), (8, .row 43 2 ((all ++ [(goS s x18 (x17 % 1024 % (s.acts.length : Int)) (picks.drop q)).1]).map StD.d)), (9, .row 3 1 ((acts ++ [(x17 % 1024 % (s.acts.length : Int))]).map intD))] h (by kernel_rfl) (by kernel_rfl) (by kernel_rfl)
                 refine roundS (x := (q, all, acts)) (y := (q + 1, (all ++ [(goS s x18 (x17 % 1024 % (s.acts.length : Int)) (picks.drop q)).1]), (acts ++ [(x17 % 1024 % (s.acts.length : Int))]))) h ?_ ?_ (by kernel_rfl) (by kernel_rfl)
                 ·have := at_lt hx17
                  exact ⟨by omega, hW2.more (show all[all.length - 1]? = some x18 from hx18) hle hyO⟩
                 ·show choices.length - (q + 1) < choices.length - q
                  have := at_lt hx17; omega
            ·have hc28 := hc; clear hc
             have hc28' := of_decide_eq_false hc28
             refine wp_skip ?_
             refine then_n ?_
             obtain ⟨x29, hx29⟩ : ∃ z_ : StD, all[all.length - 1]? = some z_ := ⟨_, List.getElem?_eq_getElem (by omega)⟩
             refine rSeq fam0ok 20 [(3, .gen _ _ _ fun _ _ _ _ => Op.arith (op := .sub) (d := 91) (xt := 3) (yt := 3) (k := .i64) (m := (all.length : Int)) (n := 1) (r := ((all.length - 1 : Nat) : Int)) (OV.tmp 90 _) (OV.const (.int .i64 1) rfl) (.inr (.inl ⟨rfl, (by omega)⟩)) (i64_id (by omega) (by omega))), (4, .gen _ _ _ fun _ _ _ _ => Op.idxO (d := 92) (t := 88) (k := .i64) (n := 8) (len := all.length) (i := (all.length - 1)) kn_0 (by first | omega | (simp at *; omega)) (OV.tmp 91 _)), (5, .gen _ _ _ fun _ _ _ _ => Op.loadR_agg (d := 93) (t := 92) (n := 8) (i := (all.length - 1)) (fo := 0) (rty := 43) (es := 2) (xs := [.sl 1 (x29.locs.map intD), .sl 2 (x29.vals.map ziD)]) kk_5 rfl (map_at hx29 (f := StD.d)) rfl rfl)] [(3, .t (.c (.d (.sl 2 (picks.map ziD))))), (4, vp 5 0), (11, .t (.c (.own 8 all.length))), (12, .t (.c (.own 9 acts.length))), (15, vi .i64 (x17 % 1024 % (s.acts.length : Int))), (16, .t (.c (.d (.sl 2 (picks.map ziD))))), (17, vp 20 0), (63, .t (.c (.d (.sl 1 (choices.map intD))))), (64, vi .i64 (choices.length : Int)), (65, vi .i64 (q : Int))] [(5, .box (sysC s)), (8, .row 43 2 (all.map StD.d)), (9, .row 3 1 (acts.map intD)), (20, .box [.d (.sl 1 (x29.locs.map intD)), .d (.sl 2 (x29.vals.map ziD))])] (by kernel_rfl) h ?_; clear h; intro a w h
             refine rSeq fam0ok 21 [(4, .call (SGo s x29 (x17 % 1024 % (s.acts.length : Int)) picks (L := 2) (M := 2 + 4 * q) (by omega) hsO (hW2.ok x29 (List.mem_of_getElem? (show all[all.length - 1]? = some x29 from hx29))) (fun z hz => ⟨(hpk z hz).1, Nat.le_trans (hpk z hz).2 (by omega)⟩)) km_9)] [(3, .t (.c (.d (.sl 2 (picks.map ziD))))), (4, vp 5 0), (11, .t (.c (.own 8 all.length))), (12, .t (.c (.own 9 acts.length))), (15, vi .i64 (x17 % 1024 % (s.acts.length : Int))), (17, vp 20 0), (18, vp 21 0), (19, vb (goS s x29 (x17 % 1024 % (s.acts.length : Int)) picks).2), (63, .t (.c (.d (.sl 1 (choices.map intD))))), (64, vi .i64 (choices.length : Int)), (65, vi .i64 (q : Int))] [(5, .box (sysC s)), (8, .row 43 2 (all.map StD.d)), (9, .row 3 1 (acts.map intD)), (20, .box [.d (.sl 1 (x29.locs.map intD)), .d (.sl 2 (x29.vals.map ziD))]), (21, .box [.d (.sl 1 ((goS s x29 (x17 % 1024 % (s.acts.length : Int)) picks).1.locs.map intD)), .d (.sl 2 ((goS s x29 (x17 % 1024 % (s.acts.length : Int)) picks).1.vals.map ziD))])] (by kernel_rfl) h ?_; clear h; intro a w h
             refine wp_seq ?_
             refine rSeq fam0ok 22 [] [(3, .t (.c (.d (.sl 2 (picks.map ziD))))), (4, vp 5 0), (11, .t (.c (.own 8 all.length))), (12, .t (.c (.own 9 acts.length))), (15, vi .i64 (x17 % 1024 % (s.acts.length : Int))), (17, vp 20 0), (18, vp 21 0), (19, vb (goS s x29 (x17 % 1024 % (s.acts.length : Int)) picks).2), (63, .t (.c (.d (.sl 1 (choices.map intD))))), (64, vi .i64 (choices.length : Int)), (65, vi .i64 (q : Int)), (103, vb (!(goS s x29 (x17 % 1024 % (s.acts.length : Int)) picks).2))] [(5, .box (sysC s)), (8, .row 43 2 (all.map StD.d)), (9, .row 3 1 (acts.map intD)), (20, .box [.d (.sl 1 (x29.locs.map intD)), .d (.sl 2 (x29.vals.map ziD))]), (21, .box [.d (.sl 1 ((goS s x29 (x17 % 1024 % (s.acts.length : Int)) picks).1.locs.map intD)), .d (.sl 2 ((goS s x29 (x17 % 1024 % (s.acts.length : Int)) picks).1.vals.map ziD))])] (by kernel_rfl) h ?_; clear h; intro a w h
             refine condS (!(goS s x29 (x17 % 1024 % (s.acts.length : Int)) picks).2) h rfl (fun hc => ?_) (fun hc => ?_)
             ·have hc29 := hc; clear hc
              have hc29' := hc29; (try simp at hc29')
              refine rSeq fam0ok 22 [] [(3, .t (.c (.d (.sl 2 (picks.map ziD))))), (4, vp 5 0), (11, .t (.c (.own 8 all.length))), (12, .t (.c (.own 9 acts.length))), (15, vi .i64 (-1)), (17, vp 20 0), (18, vp 21 0), (19, vb (goS s x29 (x17 % 1024 % (s.acts.length : Int)) picks).2), (63, .t (.c (.d (.sl 1 (choices.map intD))))), (64, vi .i64 (choices.length : Int)), (65, vi .i64 (q : Int))] [(5, .box (sysC s)), (8, .row 43 2 (all.map StD.d)), (9, .row 3 1 (acts.map intD)), (20, .box [.d (.sl 1 (x29.locs.map intD)), .d (.sl 2 (x29.vals.map ziD))]), (21, .box [.d (.sl 1 ((goS s x29 (x17 % 1024 % (s.acts.length : Int)) picks).1.locs.map intD)), .d (.sl 2 ((goS s x29 (x17 % 1024 % (s.acts.length : Int)) picks).1.vals.map ziD))])] (by kernel_rfl) h ?_; clear h; intro a w h
              refine rS fam0ok 22 [(3, .call (Fn.argw (SGo s x29 (-1) [] (L := 2) (M := 2 + 4 * q) (by omega) hsO (hW2.ok x29 (List.mem_of_getElem? (show all[all.length - 1]? = some x29 from hx29))) (fun z hz => by cases hz)) (.cons _ _ _ _ (.refl _) (.cons _ _ _ _ (.refl _) (.cons _ _ _ _ (.refl _) (.cons _ _ _ _ (.c _ _ (.nil _)) .nil))))) km_9)] [(3, .t (.c (.d (.sl 2 (picks.map ziD))))), (4, vp 5 0), (11, .t (.c (.own 8 all.length))), (12, .t (.c (.own 9 acts.length))), (15, vi .i64 (-1)), (18, vp 21 0), (19, vb (goS s x29 (-1) []).2), (63, .t (.c (.d (.sl 1 (choices.map intD))))), (64, vi .i64 (choices.length : Int)), (65, vi .i64 (q : Int))] [(5, .box (sysC s)), (8, .row 43 2 (all.map StD.d)), (9, .row 3 1 (acts.map intD)), (21, .box [.d (.sl 1 ((goS s x29 (-1) []).1.locs.map intD)), .d (.sl 2 ((goS s x29 (-1) []).1.vals.map ziD))])] (by kernel_rfl) h ?_; clear h; intro a w h
              refine then_n ?_
              refine wp_seq ?_
              refine rSeq fam0ok 22 [] [(3, .t (.c (.d (.sl 2 (picks.map ziD))))), (4, vp 5 0), (11, .t (.c (.own 8 all.length))), (12, .t (.c (.own 9 acts.length))), (15, vi .i64 (-1)), (18, vp 21 0), (63, .t (.c (.d (.sl 1 (choices.map intD))))), (64, vi .i64 (choices.length : Int)), (65, vi .i64 (q : Int)), (112, vb (!(goS s x29 (-1) []).2))] [(5, .box (sysC s)), (8, .row 43 2 (all.map StD.d)), (9, .row 3 1 (acts.map intD)), (21, .box [.d (.sl 1 ((goS s x29 (-1) []).1.locs.map intD)), .d (.sl 2 ((goS s x29 (-1) []).1.vals.map ziD))])] (by kernel_rfl) h ?_; clear h; intro a w h
              refine condS (!(goS s x29 (-1) []).2) h rfl (fun hc => ?_) (fun hc => ?_)
              ·have hc30 := hc; clear hc
               have hc30' := hc30; (try simp at hc30')
               refine wp_exit ?_
               refine then_x ?_
               refine inBlock_exit ?_
               refine then_n ?_
               refine rS fam0ok 22 [(0, .add .i64 (m := (q : Int)) (n := 1) (i64_id (by omega) (by omega)))] [(3, .t (.c (.d (.sl 2 (picks.map ziD))))), (4, vp 5 0), (11, .t (.c (.own 8 all.length))), (12, .t (.c (.own 9 acts.length))), (63, .t (.c (.d (.sl 1 (choices.map intD))))), (64, vi .i64 (choices.length : Int)), (65, vi .i64 ((q : Int) + 1))] [(5, .box (sysC s)), (8, .row 43 2 (all.map StD.d)), (9, .row 3 1 (acts.map intD))] (by kernel_rfl) h ?_; clear h; intro a w h
               refine then_n ?_
               refine roundS (x := (q, all, acts)) (y := (q + 1, all, acts)) h ?_ ?_ (by kernel_rfl) (by kernel_rfl)
               ·have := at_lt hx17
                exact ⟨by omega, hW2.skip⟩
               ·show choices.length - (q + 1) < choices.length - q
                have := at_lt hx17; omega
              ·have hc31 := hc; clear hc
               have hc31' := hc31; (try simp at hc31')
               have hle := goS_leads (show (goS s x29 (-1) []).2 = true from by simpa using hc31)
               have hyO : StOk (2 + 4 * (q + 1)) (goS s x29 (-1) []).1 := goS_ok (L := 2) (M := 2 + 4 * q) (i := (-1)) hsO (hW2.ok x29 (List.mem_of_getElem? (show all[all.length - 1]? = some x29 from hx29))) (fun z hz => by cases hz) |>.mono (by omega)
               refine wp_skip ?_
               refine then_n ?_
               refine rSeq fam0ok 22 [(2, .gen _ _ _ fun _ _ _ _ => Op.buildD (d := 115) (len := 1) (rows := [(-1)].map intD) (rs := [(114, vi .i64 (-1))]) tb_0 (.cons (i := 0) (OV.tmp 114 _) (.nil)) (by kernel_rfl) rfl (by simp [intD]) (by decide) (by decide)), (3, .gen _ _ _ fun _ _ _ _ => Op.appOD (d := 116) (t := 113) (u := 115) (n := 9) (n' := 22) (len := acts.length) (len' := (acts ++ [(-1)]).length) (rows := acts.map intD) (rows2 := [(-1)].map intD) (rows' := (acts ++ [(-1)]).map intD) tb_2 (by first | exact (List.length_map _).symm | simp) (by first | (rw [List.length_append, List.length_map]; done) | simp) (by simp) (by simp [intD]) (by first | omega | (simp at *; done) | (simp at *; omega)))] [(3, .t (.c (.d (.sl 2 (picks.map ziD))))), (4, vp 5 0), (11, .t (.c (.own 8 all.length))), (12, .t (.c (.own 22 (acts ++ [(-1)]).length))), (18, vp 21 0), (63, .t (.c (.d (.sl 1 (choices.map intD))))), (64, vi .i64 (choices.length : Int)), (65, vi .i64 (q : Int))] [(5, .box (sysC s)), (8, .row 43 2 (all.map StD.d)), (21, .box [.d (.sl 1 ((goS s x29 (-1) []).1.locs.map intD)), .d (.sl 2 ((goS s x29 (-1) []).1.vals.map ziD))]), (22, .row 3 1 ((acts ++ [(-1)]).map intD))] (by kernel_rfl) h ?_; clear h; intro a w h
               refine wp_seq ?_
               refine rSeq fam0ok 23 [] [(3, .t (.c (.d (.sl 2 (picks.map ziD))))), (4, vp 5 0), (11, .t (.c (.own 8 all.length))), (12, .t (.c (.own 22 (acts ++ [(-1)]).length))), (18, vp 21 0), (63, .t (.c (.d (.sl 1 (choices.map intD))))), (64, vi .i64 (choices.length : Int)), (65, vi .i64 (q : Int)), (118, vi .i64 (all.length : Int)), (119, vi .i64 0)] [(5, .box (sysC s)), (8, .row 43 2 (all.map StD.d)), (21, .box [.d (.sl 1 ((goS s x29 (-1) []).1.locs.map intD)), .d (.sl 2 ((goS s x29 (-1) []).1.vals.map ziD))]), (22, .row 3 1 ((acts ++ [(-1)]).map intD))] (by kernel_rfl) h ?_; clear h; intro a w h
               refine wp_block ?_
               refine loopS (ι := (Nat)) (fun (z_ : (Nat)) => match z_ with | k => k ≤ all.length)
                 (fun (z_ : (Nat)) => match z_ with | k => [(3, .t (.c (.d (.sl 2 (picks.map ziD))))), (4, vp 5 0), (11, .t (.c (.own 8 all.length))), (12, .t (.c (.own 22 (acts ++ [(-1)]).length))), (18, vp 21 0), (63, .t (.c (.d (.sl 1 (choices.map intD))))), (64, vi .i64 (choices.length : Int)), (65, vi .i64 (q : Int)), (118, vi .i64 (all.length : Int)), (119, vi .i64 (k : Int))])
                 (fun (z_ : (Nat)) => match z_ with | k => [(5, .box (sysC s)), (8, .row 43 2 (all.map StD.d)), (21, .box [.d (.sl 1 ((goS s x29 (-1) []).1.locs.map intD)), .d (.sl 2 ((goS s x29 (-1) []).1.vals.map ziD))]), (22, .row 3 1 ((acts ++ [(-1)]).map intD))])
                 (fun (z_ : (Nat)) => match z_ with | k => all.length - k) 0 ?_ h (by kernel_rfl) (by kernel_rfl) ?_
               ·exact Nat.zero_le _
               ·clear h; rintro k a w hI h
                change St _ (F.of [(3, .t (.c (.d (.sl 2 (picks.map ziD))))), (4, vp 5 0), (11, .t (.c (.own 8 all.length))), (12, .t (.c (.own 22 (acts ++ [(-1)]).length))), (18, vp 21 0), (63, .t (.c (.d (.sl 1 (choices.map intD))))), (64, vi .i64 (choices.length : Int)), (65, vi .i64 (q : Int)), (118, vi .i64 (all.length : Int)), (119, vi .i64 (k : Int))] [(5, .box (sysC s)), (8, .row 43 2 (all.map StD.d)), (21, .box [.d (.sl 1 ((goS s x29 (-1) []).1.locs.map intD)), .d (.sl 2 ((goS s x29 (-1) []).1.vals.map ziD))]), (22, .row 3 1 ((acts ++ [(-1)]).map intD))]) a w at h
                refine rSeq fam0ok 23 [] [(3, .t (.c (.d (.sl 2 (picks.map ziD))))), (4, vp 5 0), (11, .t (.c (.own 8 all.length))), (12, .t (.c (.own 22 (acts ++ [(-1)]).length))), (18, vp 21 0), (63, .t (.c (.d (.sl 1 (choices.map intD))))), (64, vi .i64 (choices.length : Int)), (65, vi .i64 (q : Int)), (118, vi .i64 (all.length : Int)), (119, vi .i64 (k : Int)), (120, vb (decide ((k : Int) < (all.length : Int))))] [(5, .box (sysC s)), (8, .row 43 2 (all.map StD.d)), (21, .box [.d (.sl 1 ((goS s x29 (-1) []).1.locs.map intD)), .d (.sl 2 ((goS s x29 (-1) []).1.vals.map ziD))]), (22, .row 3 1 ((acts ++ [(-1)]).map intD))] (by kernel_rfl) h ?_; clear h; intro a w h
                refine wp_seq ?_
                refine condS (decide ((k : Int) < (all.length : Int))) h rfl (fun hc => ?_) (fun hc => ?_)
                ·have hc32 := hc; clear hc
                 have hc32' := of_decide_eq_true hc32
                 refine wp_skip ?_
                 refine then_n ?_
                 refine wp_seq ?_
                 refine wp_block ?_
                 refine rSeq fam0ok 23 [] [(3, .t (.c (.d (.sl 2 (picks.map ziD))))), (4, vp 5 0), (11, .t (.c (.own 8 all.length))), (12, .t (.c (.own 22 (acts ++ [(-1)]).length))), (18, vp 21 0), (20, vi .i64 (k : Int)), (63, .t (.c (.d (.sl 1 (choices.map intD))))), (64, vi .i64 (choices.length : Int)), (65, vi .i64 (q : Int)), (118, vi .i64 (all.length : Int)), (119, vi .i64 (k : Int))] [(5, .box (sysC s)), (8, .row 43 2 (all.map StD.d)), (21, .box [.d (.sl 1 ((goS s x29 (-1) []).1.locs.map intD)), .d (.sl 2 ((goS s x29 (-1) []).1.vals.map ziD))]), (22, .row 3 1 ((acts ++ [(-1)]).map intD))] (by kernel_rfl) h ?_; clear h; intro a w h
                 obtain ⟨x32, hx32⟩ : ∃ z_ : StD, all[k]? = some z_ := ⟨_, List.getElem?_eq_getElem (by first | omega | (simp at *; omega))⟩
                 refine rSeq fam0ok 23 [(2, .gen _ _ _ fun _ _ _ _ => Op.idxO (d := 124) (t := 122) (k := .i64) (n := 8) (len := all.length) (i := k) kn_0 (by first | omega | (simp at *; omega)) (OV.tmp 123 _)), (3, .gen _ _ _ fun _ _ _ _ => Op.loadR_agg (d := 125) (t := 124) (n := 8) (i := k) (fo := 0) (rty := 43) (es := 2) (xs := [.sl 1 (x32.locs.map intD), .sl 2 (x32.vals.map ziD)]) kk_5 rfl (map_at hx32 (f := StD.d)) rfl rfl), (5, .call (SSame x32 (goS s x29 (-1) []).1 (M := 2 + 4 * (q + 1)) (by omega) ((hW2.ok x32 (List.mem_of_getElem? hx32)).mono (by omega)) hyO) km_1)] [(3, .t (.c (.d (.sl 2 (picks.map ziD))))), (4, vp 5 0), (11, .t (.c (.own 8 all.length))), (12, .t (.c (.own 22 (acts ++ [(-1)]).length))), (18, vp 21 0), (20, vi .i64 (k : Int)), (63, .t (.c (.d (.sl 1 (choices.map intD))))), (64, vi .i64 (choices.length : Int)), (65, vi .i64 (q : Int)), (118, vi .i64 (all.length : Int)), (119, vi .i64 (k : Int)), (127, vb (sameS x32 (goS s x29 (-1) []).1))] [(5, .box (sysC s)), (8, .row 43 2 (all.map StD.d)), (21, .box [.d (.sl 1 ((goS s x29 (-1) []).1.locs.map intD)), .d (.sl 2 ((goS s x29 (-1) []).1.vals.map ziD))]), (22, .row 3 1 ((acts ++ [(-1)]).map intD))] (by kernel_rfl) h ?_; clear h; intro a w h
                 refine condS (sameS x32 (goS s x29 (-1) []).1) h rfl (fun hc => ?_) (fun hc => ?_)
                 ·have hc33 := hc; clear hc
                  have hrt := hW2.closes hfi (show all[all.length - 1]? = some x29 from hx29) hle hx32 hc33
                  have hqk := at_lt hx32
                  replace h := pubS 8 2 43 (all.map StD.d) [(3, .t (.c (.d (.sl 2 (picks.map ziD))))), (4, vp 5 0), (11, .t (.c (.d (.sl 2 (all.map StD.d))))), (12, .t (.c (.own 22 (acts ++ [(-1)]).length))), (18, vp 21 0), (20, vi .i64 (k : Int)), (63, .t (.c (.d (.sl 1 (choices.map intD))))), (64, vi .i64 (choices.length : Int)), (65, vi .i64 (q : Int)), (118, vi .i64 (all.length : Int)), (119, vi .i64 (k : Int)), (127, vb (sameS x32 (goS s x29 (-1) []).1))] [(5, .box (sysC s)), (21, .box [.d (.sl 1 ((goS s x29 (-1) []).1.locs.map intD)), .d (.sl 2 ((goS s x29 (-1) []).1.vals.map ziD))]), (22, .row 3 1 ((acts ++ [(-1)]).map intD))] h rfl (show AllEq _ [all.length] from ⟨by first | exact (List.length_map _).symm | (simp; done) | (simp; omega), trivial⟩) trivial (by kernel_rfl) (by kernel_rfl)
                  replace h := pubS 22 1 3 ((acts ++ [(-1)]).map intD) [(3, .t (.c (.d (.sl 2 (picks.map ziD))))), (4, vp 5 0), (11, .t (.c (.d (.sl 2 (all.map StD.d))))), (12, .t (.c (.d (.sl 1 ((acts ++ [(-1)]).map intD))))), (18, vp 21 0), (20, vi .i64 (k : Int)), (63, .t (.c (.d (.sl 1 (choices.map intD))))), (64, vi .i64 (choices.length : Int)), (65, vi .i64 (q : Int)), (118, vi .i64 (all.length : Int)), (119, vi .i64 (k : Int)), (127, vb (sameS x32 (goS s x29 (-1) []).1))] [(5, .box (sysC s)), (21, .box [.d (.sl 1 ((goS s x29 (-1) []).1.locs.map intD)), .d (.sl 2 ((goS s x29 (-1) []).1.vals.map ziD))])] h rfl (show AllEq _ [(acts ++ [(-1)]).length] from ⟨by first | exact (List.length_map _).symm | (simp; done) | (simp; omega), trivial⟩) trivial (by kernel_rfl) (by kernel_rfl)
                  refine rSeq fam0ok 23 [(3, .gen _ _ _ fun _ _ _ _ => Op.sliceDM (d := 131) (t := 128) (h := k) (m := k) (k := .i64) (k' := .i64) (rows := all.map StD.d) (rows' := (all.take k).map StD.d) kn_0 (OV.tmp 129 _) (OV.tmp 130 _) (by omega) (by rw [List.length_map]; omega) (by rw [List.map_take])), (6, .gen _ _ _ fun _ _ _ _ => Op.sliceD (d := 134) (t := 132) (l := k) (h := all.length) (rows := all.map StD.d) (rows' := (all.drop k).map StD.d) kn_0 (BO.yes (k := .i64) (i := k) _ (OV.tmp 133 _)) (by rw [List.length_map]; exact BO.no _) (by first | omega | (simp at *; omega)) (by first | omega | (simp only [List.length_map]; omega) | (simp at *; omega)) (by first | (simp [List.map_drop]; done) | (rw [List.take_of_length_le (by simp <;> omega)]; simp [List.map_drop])))] [(3, .t (.c (.d (.sl 2 (picks.map ziD))))), (4, vp 5 0), (11, .t (.c (.d (.sl 2 (all.map StD.d))))), (12, .t (.c (.d (.sl 1 ((acts ++ [(-1)]).map intD))))), (18, vp 21 0), (20, vi .i64 (k : Int)), (21, vp 23 0), (63, .t (.c (.d (.sl 1 (choices.map intD))))), (64, vi .i64 (choices.length : Int)), (65, vi .i64 (q : Int)), (118, vi .i64 (all.length : Int)), (119, vi .i64 (k : Int))] [(5, .box (sysC s)), (21, .box [.d (.sl 1 ((goS s x29 (-1) []).1.locs.map intD)), .d (.sl 2 ((goS s x29 (-1) []).1.vals.map ziD))]), (23, .box ([.d (.sl 2 ((all.take k).map StD.d)), .d (.sl 2 ((all.drop k).map StD.d)), .d (.sl 1 ((acts ++ [(-1)]).map intD))]))] (by kernel_rfl) h ?_; clear h; intro a w h
                  refine rSeq fam0ok 24 [(1, .call (Fn.argw (SSpell [] (RunD.mk (all.take k) (all.drop k) (acts ++ [(-1)])) (L := 2) (M := 2 + 4 * 12) (by decide) (fun p hp => by cases hp) (by decide) ⟨by show (all.take k).length + (all.drop k).length ≤ 20; rw [List.length_take, List.length_drop]; omega, fun z hz => (hW2.ok z (List.mem_of_mem_take hz)).mono (by omega), fun z hz => (hW2.ok z (List.mem_of_mem_drop hz)).mono (by omega)⟩) (.cons _ _ _ _ (.c _ _ (.nil _)) (.cons _ _ _ _ (.refl _) .nil))) kx_6)] [(3, .t (.c (.d (.sl 2 (picks.map ziD))))), (4, vp 5 0), (11, .t (.c (.d (.sl 2 (all.map StD.d))))), (12, .t (.c (.d (.sl 1 ((acts ++ [(-1)]).map intD))))), (18, vp 21 0), (20, vi .i64 (k : Int)), (21, vp 23 0), (22, vp 24 0), (63, .t (.c (.d (.sl 1 (choices.map intD))))), (64, vi .i64 (choices.length : Int)), (65, vi .i64 (q : Int)), (118, vi .i64 (all.length : Int)), (119, vi .i64 (k : Int))] [(5, .box (sysC s)), (21, .box [.d (.sl 1 ((goS s x29 (-1) []).1.locs.map intD)), .d (.sl 2 ((goS s x29 (-1) []).1.vals.map ziD))]), (23, .box ([.d (.sl 2 ((all.take k).map StD.d)), .d (.sl 2 ((all.drop k).map StD.d)), .d (.sl 1 ((acts ++ [(-1)]).map intD))])), (24, .box ([.d (.sl 1 ((spell [] (RunD.mk (all.take k) (all.drop k) (acts ++ [(-1)]))).stem.map (slD 1 boolD))), .d (.sl 1 ((spell [] (RunD.mk (all.take k) (all.drop k) (acts ++ [(-1)]))).cycle.map (slD 1 boolD)))]))] (by kernel_rfl) h ?_; clear h; intro a w h
                  refine rSeq fam0ok 25 [(2, .call (Fn.cast (SRight s (RunD.mk (all.take k) (all.drop k) (acts ++ [(-1)])) (L := 2) (M := 2 + 4 * 12) (by decide) hsO ⟨by show (all.take k).length + (all.drop k).length ≤ 20; rw [List.length_take, List.length_drop]; omega, fun z hz => (hW2.ok z (List.mem_of_mem_take hz)).mono (by omega), fun z hz => (hW2.ok z (List.mem_of_mem_drop hz)).mono (by omega)⟩) (congrArg vb hrt)) kx_13), (6, .len (c := (.d (.sl 1 ((spell [] (RunD.mk (all.take k) (all.drop k) (acts ++ [(-1)]))).stem.map (slD 1 boolD))))) (n := (spell [] (RunD.mk (all.take k) (all.drop k) (acts ++ [(-1)]))).stem.length) (lenC_map _ _ _)), (8, .cmp (op := .eql) (m := ((spell [] (RunD.mk (all.take k) (all.drop k) (acts ++ [(-1)]))).stem.length : Int)) (n := (k : Int)) (b := true) .i64 (show (((spell [] (RunD.mk (all.take k) (all.drop k) (acts ++ [(-1)]))).stem.length : Int) == (k : Int)) = true from by rw [beq_iff_eq]; simp only [spell, List.length_map, List.length_take]; omega)), (13, .len (c := (.d (.sl 1 ((spell [] (RunD.mk (all.take k) (all.drop k) (acts ++ [(-1)]))).cycle.map (slD 1 boolD))))) (n := (spell [] (RunD.mk (all.take k) (all.drop k) (acts ++ [(-1)]))).cycle.length) (lenC_map _ _ _)), (15, .len (c := (.d (.sl 2 (all.map StD.d)))) (n := all.length) (lenC_map _ _ _)), (17, .sub .i64 (m := (all.length : Int)) (n := (k : Int)) (i64_id (by omega) (by omega))), (18, .cmp (op := .eql) (m := ((spell [] (RunD.mk (all.take k) (all.drop k) (acts ++ [(-1)]))).cycle.length : Int)) (n := ((all.length : Int) - (k : Int))) (b := true) .i64 (show (((spell [] (RunD.mk (all.take k) (all.drop k) (acts ++ [(-1)]))).cycle.length : Int) == ((all.length : Int) - (k : Int))) = true from by rw [beq_iff_eq]; simp only [spell, List.length_map, List.length_drop]; omega))] [(3, .t (.c (.d (.sl 2 (picks.map ziD))))), (4, vp 5 0), (8, vb true), (11, .t (.c (.d (.sl 2 (all.map StD.d))))), (12, .t (.c (.d (.sl 1 ((acts ++ [(-1)]).map intD))))), (18, vp 21 0), (63, .t (.c (.d (.sl 1 (choices.map intD))))), (64, vi .i64 (choices.length : Int)), (65, vi .i64 (q : Int)), (118, vi .i64 (all.length : Int)), (119, vi .i64 (k : Int))] [(5, .box (sysC s)), (21, .box [.d (.sl 1 ((goS s x29 (-1) []).1.locs.map intD)), .d (.sl 2 ((goS s x29 (-1) []).1.vals.map ziD))])] (by kernel_rfl) h ?_; clear h; intro a w h
                  refine wp_ret ?_
                  refine block_r ?_
                  refine then_r ?_
                  refine then_r ?_
                  refine block_r ?_
                  refine then_r ?_
                  refine block_r ?_
                  refine then_r ?_
                  refine then_r ?_
                  refine block_r ?_
                  refine then_r ?_
                  refine retS [.c (.d (.raw (.bool true)))] h Exit.ret (.inl rfl)  rfl ⟨RV.tmp _ _ rfl, trivial⟩ ?_ (by kernel_rfl) (by kernel_rfl)
                  rfl
                 ·have hc34 := hc; clear hc
                  refine wp_skip ?_
                  refine block_n ?_
                  refine then_n ?_
                  refine rS fam0ok 25 [(0, .add .i64 (m := (k : Int)) (n := 1) (i64_id (by omega) (by omega)))] [(3, .t (.c (.d (.sl 2 (picks.map ziD))))), (4, vp 5 0), (11, .t (.c (.own 8 all.length))), (12, .t (.c (.own 22 (acts ++ [(-1)]).length))), (18, vp 21 0), (63, .t (.c (.d (.sl 1 (choices.map intD))))), (64, vi .i64 (choices.length : Int)), (65, vi .i64 (q : Int)), (118, vi .i64 (all.length : Int)), (119, vi .i64 ((k : Int) + 1))] [(5, .box (sysC s)), (8, .row 43 2 (all.map StD.d)), (21, .box [.d (.sl 1 ((goS s x29 (-1) []).1.locs.map intD)), .d (.sl 2 ((goS s x29 (-1) []).1.vals.map ziD))]), (22, .row 3 1 ((acts ++ [(-1)]).map intD))] (by kernel_rfl) h ?_; clear h; intro a w h
                  refine then_n ?_
                  refine roundS (x := k) (y := k + 1) h ?_ ?_ (by kernel_rfl) (by kernel_rfl)
                  ·have := at_lt hx32
                   show k + 1 ≤ all.length
                   omega
                  ·show all.length - (k + 1) < all.length - k
                   have := at_lt hx32; omega
                ·have hc35 := hc; clear hc
                 have hc35' := of_decide_eq_false hc35
                 refine wp_exit ?_
                 refine then_x ?_
                 refine then_x ?_
                 refine inBlock_exit ?_
                 refine then_n ?_
                 refine rS fam0ok 25 [(2, .gen _ _ _ fun _ _ _ _ => Op.buildD (d := 162) (len := 1) (rows := [(goS s x29 (-1) []).1].map StD.d) (rs := [(161, .t (.agg [.d (.sl 1 ((goS s x29 (-1) []).1.locs.map intD)), .d (.sl 2 ((goS s x29 (-1) []).1.vals.map ziD))]))]) kx_3 (.cons (i := 0) (OV.tmp 161 _) (.nil)) (by kernel_rfl) rfl (by simp [StD.d]) (by decide) (by decide)), (3, .gen _ _ _ fun _ _ _ _ => Op.appOD (d := 163) (t := 160) (u := 162) (n := 8) (n' := 25) (len := all.length) (len' := (all ++ [(goS s x29 (-1) []).1]).length) (rows := all.map StD.d) (rows2 := [(goS s x29 (-1) []).1].map StD.d) (rows' := (all ++ [(goS s x29 (-1) []).1]).map StD.d) kn_1 (by first | exact (List.length_map _).symm | simp) (by first | (rw [List.length_append, List.length_map]; done) | simp) (by simp) (by simp [StD.d]) (by first | omega | (simp at *; done) | (simp at *; omega)))] [(3, .t (.c (.d (.sl 2 (picks.map ziD))))), (4, vp 5 0), (11, .t (.c (.own 25 (all ++ [(goS s x29 (-1) []).1]).length))), (12, .t (.c (.own 22 (acts ++ [(-1)]).length))), (63, .t (.c (.d (.sl 1 (choices.map intD))))), (64, vi .i64 (choices.length : Int)), (65, vi .i64 (q : Int))] [(5, .box (sysC s)), (22, .row 3 1 ((acts ++ [(-1)]).map intD)), (25, .row 43 2 ((all ++ [(goS s x29 (-1) []).1]).map StD.d))] (by kernel_rfl) h ?_; clear h; intro a w h
                 refine block_n ?_
                 refine then_n ?_
                 refine rS fam0ok 26 [(0, .add .i64 (m := (q : Int)) (n := 1) (i64_id (by omega) (by omega)))] [(3, .t (.c (.d (.sl 2 (picks.map ziD))))), (4, vp 5 0), (11, .t (.c (.own 25 (all ++ [(goS s x29 (-1) []).1]).length))), (12, .t (.c (.own 22 (acts ++ [(-1)]).length))), (63, .t (.c (.d (.sl 1 (choices.map intD))))), (64, vi .i64 (choices.length : Int)), (65, vi .i64 ((q : Int) + 1))] [(5, .box (sysC s)), (22, .row 3 1 ((acts ++ [(-1)]).map intD)), (25, .row 43 2 ((all ++ [(goS s x29 (-1) []).1]).map StD.d))] (by kernel_rfl) h ?_; clear h; intro a w h
                 refine then_n ?_
                 replace h := renS 25 8 [(3, .t (.c (.d (.sl 2 (picks.map ziD))))), (4, vp 5 0), (11, .t (.c (.own 8 (all ++ [(goS s x29 (-1) []).1]).length))), (12, .t (.c (.own 22 (acts ++ [(-1)]).length))), (63, .t (.c (.d (.sl 1 (choices.map intD))))), (64, vi .i64 (choices.length : Int)), (65, vi .i64 ((q : Int) + 1))] [(5, .box (sysC s)), (22, .row 3 1 ((acts ++ [(-1)]).map intD)), (8, .row 43 2 ((all ++ [(goS s x29 (-1) []).1]).map StD.d))] h (by kernel_rfl) (by kernel_rfl) (by kernel_rfl)
                 replace h := renS 22 9 [(3, .t (.c (.d (.sl 2 (picks.map ziD))))), (4, vp 5 0), (11, .t (.c (.own 8 (all ++ [(goS s x29 (-1) []).1]).length))), (12, .t (.c (.own 9 (acts ++ [(-1)]).length))), (63, .t (.c (.d (.sl 1 (choices.map intD))))), (64, vi .i64 (choices.length : Int)), (65, vi .i64 ((q : Int) + 1))] [(5, .box (sysC s)), (8, .row 43 2 ((all ++ [(goS s x29 (-1) []).1]).map StD.d)), (9, .row 3 1 ((acts ++ [(-1)]).map intD))] h (by kernel_rfl) (by kernel_rfl) (by kernel_rfl)
                 refine roundS (x := (q, all, acts)) (y := (q + 1, (all ++ [(goS s x29 (-1) []).1]), (acts ++ [(-1)]))) h ?_ ?_ (by kernel_rfl) (by kernel_rfl)
                 ·have := at_lt hx17
                  exact ⟨by omega, hW2.more (show all[all.length - 1]? = some x29 from hx29) hle hyO⟩
                 ·show choices.length - (q + 1) < choices.length - q
                  have := at_lt hx17; omega
             ·have hc36 := hc; clear hc
              have hc36' := hc36; (try simp at hc36')
              have hle := goS_leads (show (goS s x29 (x17 % 1024 % (s.acts.length : Int)) picks).2 = true from by simpa using hc36)
              have hyO : StOk (2 + 4 * (q + 1)) (goS s x29 (x17 % 1024 % (s.acts.length : Int)) picks).1 := goS_ok (L := 2) (M := 2 + 4 * q) (i := (x17 % 1024 % (s.acts.length : Int))) hsO (hW2.ok x29 (List.mem_of_getElem? (show all[all.length - 1]? = some x29 from hx29))) (fun z hz => ⟨(hpk z hz).1, Nat.le_trans (hpk z hz).2 (by omega)⟩) |>.mono (by omega)
              refine wp_skip ?_
              refine then_n ?_
              refine wp_seq ?_
              refine rSeq fam0ok 26 [] [(3, .t (.c (.d (.sl 2 (picks.map ziD))))), (4, vp 5 0), (11, .t (.c (.own 8 all.length))), (12, .t (.c (.own 9 acts.length))), (15, vi .i64 (x17 % 1024 % (s.acts.length : Int))), (18, vp 21 0), (63, .t (.c (.d (.sl 1 (choices.map intD))))), (64, vi .i64 (choices.length : Int)), (65, vi .i64 (q : Int)), (112, vb (!(goS s x29 (x17 % 1024 % (s.acts.length : Int)) picks).2))] [(5, .box (sysC s)), (8, .row 43 2 (all.map StD.d)), (9, .row 3 1 (acts.map intD)), (21, .box [.d (.sl 1 ((goS s x29 (x17 % 1024 % (s.acts.length : Int)) picks).1.locs.map intD)), .d (.sl 2 ((goS s x29 (x17 % 1024 % (s.acts.length : Int)) picks).1.vals.map ziD))])] (by kernel_rfl) h ?_; clear h; intro a w h
              refine condS (!(goS s x29 (x17 % 1024 % (s.acts.length : Int)) picks).2) h rfl (fun hc => ?_) (fun hc => ?_)
              ·rw [hc36] at hc; cases hc
              ·clear hc
               refine wp_skip ?_
               refine then_n ?_
               refine rSeq fam0ok 26 [(2, .gen _ _ _ fun _ _ _ _ => Op.buildD (d := 115) (len := 1) (rows := [(x17 % 1024 % (s.acts.length : Int))].map intD) (rs := [(114, vi .i64 (x17 % 1024 % (s.acts.length : Int)))]) tb_0 (.cons (i := 0) (OV.tmp 114 _) (.nil)) (by kernel_rfl) rfl (by simp [intD]) (by decide) (by decide)), (3, .gen _ _ _ fun _ _ _ _ => Op.appOD (d := 116) (t := 113) (u := 115) (n := 9) (n' := 26) (len := acts.length) (len' := (acts ++ [(x17 % 1024 % (s.acts.length : Int))]).length) (rows := acts.map intD) (rows2 := [(x17 % 1024 % (s.acts.length : Int))].map intD) (rows' := (acts ++ [(x17 % 1024 % (s.acts.length : Int))]).map intD) tb_2 (by first | exact (List.length_map _).symm | simp) (by first | (rw [List.length_append, List.length_map]; done) | simp) (by simp) (by simp [intD]) (by first | omega | (simp at *; done) | (simp at *; omega)))] [(3, .t (.c (.d (.sl 2 (picks.map ziD))))), (4, vp 5 0), (11, .t (.c (.own 8 all.length))), (12, .t (.c (.own 26 (acts ++ [(x17 % 1024 % (s.acts.length : Int))]).length))), (18, vp 21 0), (63, .t (.c (.d (.sl 1 (choices.map intD))))), (64, vi .i64 (choices.length : Int)), (65, vi .i64 (q : Int))] [(5, .box (sysC s)), (8, .row 43 2 (all.map StD.d)), (21, .box [.d (.sl 1 ((goS s x29 (x17 % 1024 % (s.acts.length : Int)) picks).1.locs.map intD)), .d (.sl 2 ((goS s x29 (x17 % 1024 % (s.acts.length : Int)) picks).1.vals.map ziD))]), (26, .row 3 1 ((acts ++ [(x17 % 1024 % (s.acts.length : Int))]).map intD))] (by kernel_rfl) h ?_; clear h; intro a w h
               refine wp_seq ?_
               refine rSeq fam0ok 27 [] [(3, .t (.c (.d (.sl 2 (picks.map ziD))))), (4, vp 5 0), (11, .t (.c (.own 8 all.length))), (12, .t (.c (.own 26 (acts ++ [(x17 % 1024 % (s.acts.length : Int))]).length))), (18, vp 21 0), (63, .t (.c (.d (.sl 1 (choices.map intD))))), (64, vi .i64 (choices.length : Int)), (65, vi .i64 (q : Int)), (118, vi .i64 (all.length : Int)), (119, vi .i64 0)] [(5, .box (sysC s)), (8, .row 43 2 (all.map StD.d)), (21, .box [.d (.sl 1 ((goS s x29 (x17 % 1024 % (s.acts.length : Int)) picks).1.locs.map intD)), .d (.sl 2 ((goS s x29 (x17 % 1024 % (s.acts.length : Int)) picks).1.vals.map ziD))]), (26, .row 3 1 ((acts ++ [(x17 % 1024 % (s.acts.length : Int))]).map intD))] (by kernel_rfl) h ?_; clear h; intro a w h
               refine wp_block ?_
               refine loopS (ι := (Nat)) (fun (z_ : (Nat)) => match z_ with | k => k ≤ all.length)
                 (fun (z_ : (Nat)) => match z_ with | k => [(3, .t (.c (.d (.sl 2 (picks.map ziD))))), (4, vp 5 0), (11, .t (.c (.own 8 all.length))), (12, .t (.c (.own 26 (acts ++ [(x17 % 1024 % (s.acts.length : Int))]).length))), (18, vp 21 0), (63, .t (.c (.d (.sl 1 (choices.map intD))))), (64, vi .i64 (choices.length : Int)), (65, vi .i64 (q : Int)), (118, vi .i64 (all.length : Int)), (119, vi .i64 (k : Int))])
                 (fun (z_ : (Nat)) => match z_ with | k => [(5, .box (sysC s)), (8, .row 43 2 (all.map StD.d)), (21, .box [.d (.sl 1 ((goS s x29 (x17 % 1024 % (s.acts.length : Int)) picks).1.locs.map intD)), .d (.sl 2 ((goS s x29 (x17 % 1024 % (s.acts.length : Int)) picks).1.vals.map ziD))]), (26, .row 3 1 ((acts ++ [(x17 % 1024 % (s.acts.length : Int))]).map intD))])
                 (fun (z_ : (Nat)) => match z_ with | k => all.length - k) 0 ?_ h (by kernel_rfl) (by kernel_rfl) ?_
               ·exact Nat.zero_le _
               ·clear h; rintro k a w hI h
                change St _ (F.of [(3, .t (.c (.d (.sl 2 (picks.map ziD))))), (4, vp 5 0), (11, .t (.c (.own 8 all.length))), (12, .t (.c (.own 26 (acts ++ [(x17 % 1024 % (s.acts.length : Int))]).length))), (18, vp 21 0), (63, .t (.c (.d (.sl 1 (choices.map intD))))), (64, vi .i64 (choices.length : Int)), (65, vi .i64 (q : Int)), (118, vi .i64 (all.length : Int)), (119, vi .i64 (k : Int))] [(5, .box (sysC s)), (8, .row 43 2 (all.map StD.d)), (21, .box [.d (.sl 1 ((goS s x29 (x17 % 1024 % (s.acts.length : Int)) picks).1.locs.map intD)), .d (.sl 2 ((goS s x29 (x17 % 1024 % (s.acts.length : Int)) picks).1.vals.map ziD))]), (26, .row 3 1 ((acts ++ [(x17 % 1024 % (s.acts.length : Int))]).map intD))]) a w at h
                refine rSeq fam0ok 27 [] [(3, .t (.c (.d (.sl 2 (picks.map ziD))))), (4, vp 5 0), (11, .t (.c (.own 8 all.length))), (12, .t (.c (.own 26 (acts ++ [(x17 % 1024 % (s.acts.length : Int))]).length))), (18, vp 21 0), (63, .t (.c (.d (.sl 1 (choices.map intD))))), (64, vi .i64 (choices.length : Int)), (65, vi .i64 (q : Int)), (118, vi .i64 (all.length : Int)), (119, vi .i64 (k : Int)), (120, vb (decide ((k : Int) < (all.length : Int))))] [(5, .box (sysC s)), (8, .row 43 2 (all.map StD.d)), (21, .box [.d (.sl 1 ((goS s x29 (x17 % 1024 % (s.acts.length : Int)) picks).1.locs.map intD)), .d (.sl 2 ((goS s x29 (x17 % 1024 % (s.acts.length : Int)) picks).1.vals.map ziD))]), (26, .row 3 1 ((acts ++ [(x17 % 1024 % (s.acts.length : Int))]).map intD))] (by kernel_rfl) h ?_; clear h; intro a w h
                refine wp_seq ?_
                refine condS (decide ((k : Int) < (all.length : Int))) h rfl (fun hc => ?_) (fun hc => ?_)
                ·have hc37 := hc; clear hc
                 have hc37' := of_decide_eq_true hc37
                 refine wp_skip ?_
                 refine then_n ?_
                 refine wp_seq ?_
                 refine wp_block ?_
                 refine rSeq fam0ok 27 [] [(3, .t (.c (.d (.sl 2 (picks.map ziD))))), (4, vp 5 0), (11, .t (.c (.own 8 all.length))), (12, .t (.c (.own 26 (acts ++ [(x17 % 1024 % (s.acts.length : Int))]).length))), (18, vp 21 0), (20, vi .i64 (k : Int)), (63, .t (.c (.d (.sl 1 (choices.map intD))))), (64, vi .i64 (choices.length : Int)), (65, vi .i64 (q : Int)), (118, vi .i64 (all.length : Int)), (119, vi .i64 (k : Int))] [(5, .box (sysC s)), (8, .row 43 2 (all.map StD.d)), (21, .box [.d (.sl 1 ((goS s x29 (x17 % 1024 % (s.acts.length : Int)) picks).1.locs.map intD)), .d (.sl 2 ((goS s x29 (x17 % 1024 % (s.acts.length : Int)) picks).1.vals.map ziD))]), (26, .row 3 1 ((acts ++ [(x17 % 1024 % (s.acts.length : Int))]).map intD))] (by kernel_rfl) h ?_; clear h; intro a w h
                 obtain ⟨x36, hx36⟩ : ∃ z_ : StD, all[k]? = some z_ := ⟨_, List.getElem?_eq_getElem (by first | omega | (simp at *; omega))⟩
                 refine rSeq fam0ok 27 [(2, .gen _ _ _ fun _ _ _ _ => Op.idxO (d := 124) (t := 122) (k := .i64) (n := 8) (len := all.length) (i := k) kn_0 (by first | omega | (simp at *; omega)) (OV.tmp 123 _)), (3, .gen _ _ _ fun _ _ _ _ => Op.loadR_agg (d := 125) (t := 124) (n := 8) (i := k) (fo := 0) (rty := 43) (es := 2) (xs := [.sl 1 (x36.locs.map intD), .sl 2 (x36.vals.map ziD)]) kk_5 rfl (map_at hx36 (f := StD.d)) rfl rfl), (5, .call (SSame x36 (goS s x29 (x17 % 1024 % (s.acts.length : Int)) picks).1 (M := 2 + 4 * (q + 1)) (by omega) ((hW2.ok x36 (List.mem_of_getElem? hx36)).mono (by omega)) hyO) km_1)] [(3, .t (.c (.d (.sl 2 (picks.map ziD))))), (4, vp 5 0), (11, .t (.c (.own 8 all.length))), (12, .t (.c (.own 26 (acts ++ [(x17 % 1024 % (s.acts.length : Int))]).length))), (18, vp 21 0), (20, vi .i64 (k : Int)), (63, .t (.c (.d (.sl 1 (choices.map intD))))), (64, vi .i64 (choices.length : Int)), (65, vi .i64 (q : Int)), (118, vi .i64 (all.length : Int)), (119, vi .i64 (k : Int)), (127, vb (sameS x36 (goS s x29 (x17 % 1024 % (s.acts.length : Int)) picks).1))] [(5, .box (sysC s)), (8, .row 43 2 (all.map StD.d)), (21, .box [.d (.sl 1 ((goS s x29 (x17 % 1024 % (s.acts.length : Int)) picks).1.locs.map intD)), .d (.sl 2 ((goS s x29 (x17 % 1024 % (s.acts.length : Int)) picks).1.vals.map ziD))]), (26, .row 3 1 ((acts ++ [(x17 % 1024 % (s.acts.length : Int))]).map intD))] (by kernel_rfl) h ?_; clear h; intro a w h
                 refine condS (sameS x36 (goS s x29 (x17 % 1024 % (s.acts.length : Int)) picks).1) h rfl (fun hc => ?_) (fun hc => ?_)
                 ·have hc38 := hc; clear hc
                  have hrt := hW2.closes hfi (show all[all.length - 1]? = some x29 from hx29) hle hx36 hc38
                  have hqk := at_lt hx36
                  replace h := pubS 8 2 43 (all.map StD.d) [(3, .t (.c (.d (.sl 2 (picks.map ziD))))), (4, vp 5 0), (11, .t (.c (.d (.sl 2 (all.map StD.d))))), (12, .t (.c (.own 26 (acts ++ [(x17 % 1024 % (s.acts.length : Int))]).length))), (18, vp 21 0), (20, vi .i64 (k : Int)), (63, .t (.c (.d (.sl 1 (choices.map intD))))), (64, vi .i64 (choices.length : Int)), (65, vi .i64 (q : Int)), (118, vi .i64 (all.length : Int)), (119, vi .i64 (k : Int)), (127, vb (sameS x36 (goS s x29 (x17 % 1024 % (s.acts.length : Int)) picks).1))] [(5, .box (sysC s)), (21, .box [.d (.sl 1 ((goS s x29 (x17 % 1024 % (s.acts.length : Int)) picks).1.locs.map intD)), .d (.sl 2 ((goS s x29 (x17 % 1024 % (s.acts.length : Int)) picks).1.vals.map ziD))]), (26, .row 3 1 ((acts ++ [(x17 % 1024 % (s.acts.length : Int))]).map intD))] h rfl (show AllEq _ [all.length] from ⟨by first | exact (List.length_map _).symm | (simp; done) | (simp; omega), trivial⟩) trivial (by kernel_rfl) (by kernel_rfl)
                  replace h := pubS 26 1 3 ((acts ++ [(x17 % 1024 % (s.acts.length : Int))]).map intD) [(3, .t (.c (.d (.sl 2 (picks.map ziD))))), (4, vp 5 0), (11, .t (.c (.d (.sl 2 (all.map StD.d))))), (12, .t (.c (.d (.sl 1 ((acts ++ [(x17 % 1024 % (s.acts.length : Int))]).map intD))))), (18, vp 21 0), (20, vi .i64 (k : Int)), (63, .t (.c (.d (.sl 1 (choices.map intD))))), (64, vi .i64 (choices.length : Int)), (65, vi .i64 (q : Int)), (118, vi .i64 (all.length : Int)), (119, vi .i64 (k : Int)), (127, vb (sameS x36 (goS s x29 (x17 % 1024 % (s.acts.length : Int)) picks).1))] [(5, .box (sysC s)), (21, .box [.d (.sl 1 ((goS s x29 (x17 % 1024 % (s.acts.length : Int)) picks).1.locs.map intD)), .d (.sl 2 ((goS s x29 (x17 % 1024 % (s.acts.length : Int)) picks).1.vals.map ziD))])] h rfl (show AllEq _ [(acts ++ [(x17 % 1024 % (s.acts.length : Int))]).length] from ⟨by first | exact (List.length_map _).symm | (simp; done) | (simp; omega), trivial⟩) trivial (by kernel_rfl) (by kernel_rfl)
                  refine rSeq fam0ok 27 [(3, .gen _ _ _ fun _ _ _ _ => Op.sliceDM (d := 131) (t := 128) (h := k) (m := k) (k := .i64) (k' := .i64) (rows := all.map StD.d) (rows' := (all.take k).map StD.d) kn_0 (OV.tmp 129 _) (OV.tmp 130 _) (by omega) (by rw [List.length_map]; omega) (by rw [List.map_take])), (6, .gen _ _ _ fun _ _ _ _ => Op.sliceD (d := 134) (t := 132) (l := k) (h := all.length) (rows := all.map StD.d) (rows' := (all.drop k).map StD.d) kn_0 (BO.yes (k := .i64) (i := k) _ (OV.tmp 133 _)) (by rw [List.length_map]; exact BO.no _) (by first | omega | (simp at *; omega)) (by first | omega | (simp only [List.length_map]; omega) | (simp at *; omega)) (by first | (simp [List.map_drop]; done) | (rw [List.take_of_length_le (by simp <;> omega)]; simp [List.map_drop])))] [(3, .t (.c (.d (.sl 2 (picks.map ziD))))), (4, vp 5 0), (11, .t (.c (.d (.sl 2 (all.map StD.d))))), (12, .t (.c (.d (.sl 1 ((acts ++ [(x17 % 1024 % (s.acts.length : Int))]).map intD))))), (18, vp 21 0), (20, vi .i64 (k : Int)), (21, vp 27 0), (63, .t (.c (.d (.sl 1 (choices.map intD))))), (64, vi .i64 (choices.length : Int)), (65, vi .i64 (q : Int)), (118, vi .i64 (all.length : Int)), (119, vi .i64 (k : Int))] [(5, .box (sysC s)), (21, .box [.d (.sl 1 ((goS s x29 (x17 % 1024 % (s.acts.length : Int)) picks).1.locs.map intD)), .d (.sl 2 ((goS s x29 (x17 % 1024 % (s.acts.length : Int)) picks).1.vals.map ziD))]), (27, .box ([.d (.sl 2 ((all.take k).map StD.d)), .d (.sl 2 ((all.drop k).map StD.d)), .d (.sl 1 ((acts ++ [(x17 % 1024 % (s.acts.length : Int))]).map intD))]))] (by kernel_rfl) h ?_; clear h; intro a w h
                  refine rSeq fam0ok 28 [(1, .call (Fn.argw (SSpell [] (RunD.mk (all.take k) (all.drop k) (acts ++ [(x17 % 1024 % (s.acts.length : Int))])) (L := 2) (M := 2 + 4 * 12) (by decide) (fun p hp => by cases hp) (by decide) ⟨by show (all.take k).length + (all.drop k).length ≤ 20; rw [List.length_take, List.length_drop]; omega, fun z hz => (hW2.ok z (List.mem_of_mem_take hz)).mono (by omega), fun z hz => (hW2.ok z (List.mem_of_mem_drop hz)).mono (by omega)⟩) (.cons _ _ _ _ (.c _ _ (.nil _)) (.cons _ _ _ _ (.refl _) .nil))) kx_6)] [(3, .t (.c (.d (.sl 2 (picks.map ziD))))), (4, vp 5 0), (11, .t (.c (.d (.sl 2 (all.map StD.d))))), (12, .t (.c (.d (.sl 1 ((acts ++ [(x17 % 1024 % (s.acts.length : Int))]).map intD))))), (18, vp 21 0), (20, vi .i64 (k : Int)), (21, vp 27 0), (22, vp 28 0), (63, .t (.c (.d (.sl 1 (choices.map intD))))), (64, vi .i64 (choices.length : Int)), (65, vi .i64 (q : Int)), (118, vi .i64 (all.length : Int)), (119, vi .i64 (k : Int))] [(5, .box (sysC s)), (21, .box [.d (.sl 1 ((goS s x29 (x17 % 1024 % (s.acts.length : Int)) picks).1.locs.map intD)), .d (.sl 2 ((goS s x29 (x17 % 1024 % (s.acts.length : Int)) picks).1.vals.map ziD))]), (27, .box ([.d (.sl 2 ((all.take k).map StD.d)), .d (.sl 2 ((all.drop k).map StD.d)), .d (.sl 1 ((acts ++ [(x17 % 1024 % (s.acts.length : Int))]).map intD))])), (28, .box ([.d (.sl 1 ((spell [] (RunD.mk (all.take k) (all.drop k) (acts ++ [(x17 % 1024 % (s.acts.length : Int))]))).stem.map (slD 1 boolD))), .d (.sl 1 ((spell [] (RunD.mk (all.take k) (all.drop k) (acts ++ [(x17 % 1024 % (s.acts.length : Int))]))).cycle.map (slD 1 boolD)))]))] (by kernel_rfl) h ?_; clear h; intro a w h
                  refine rSeq fam0ok 29 [(2, .call (Fn.cast (SRight s (RunD.mk (all.take k) (all.drop k) (acts ++ [(x17 % 1024 % (s.acts.length : Int))])) (L := 2) (M := 2 + 4 * 12) (by decide) hsO ⟨by show (all.take k).length + (all.drop k).length ≤ 20; rw [List.length_take, List.length_drop]; omega, fun z hz => (hW2.ok z (List.mem_of_mem_take hz)).mono (by omega), fun z hz => (hW2.ok z (List.mem_of_mem_drop hz)).mono (by omega)⟩) (congrArg vb hrt)) kx_13), (6, .len (c := (.d (.sl 1 ((spell [] (RunD.mk (all.take k) (all.drop k) (acts ++ [(x17 % 1024 % (s.acts.length : Int))]))).stem.map (slD 1 boolD))))) (n := (spell [] (RunD.mk (all.take k) (all.drop k) (acts ++ [(x17 % 1024 % (s.acts.length : Int))]))).stem.length) (lenC_map _ _ _)), (8, .cmp (op := .eql) (m := ((spell [] (RunD.mk (all.take k) (all.drop k) (acts ++ [(x17 % 1024 % (s.acts.length : Int))]))).stem.length : Int)) (n := (k : Int)) (b := true) .i64 (show (((spell [] (RunD.mk (all.take k) (all.drop k) (acts ++ [(x17 % 1024 % (s.acts.length : Int))]))).stem.length : Int) == (k : Int)) = true from by rw [beq_iff_eq]; simp only [spell, List.length_map, List.length_take]; omega)), (13, .len (c := (.d (.sl 1 ((spell [] (RunD.mk (all.take k) (all.drop k) (acts ++ [(x17 % 1024 % (s.acts.length : Int))]))).cycle.map (slD 1 boolD))))) (n := (spell [] (RunD.mk (all.take k) (all.drop k) (acts ++ [(x17 % 1024 % (s.acts.length : Int))]))).cycle.length) (lenC_map _ _ _)), (15, .len (c := (.d (.sl 2 (all.map StD.d)))) (n := all.length) (lenC_map _ _ _)), (17, .sub .i64 (m := (all.length : Int)) (n := (k : Int)) (i64_id (by omega) (by omega))), (18, .cmp (op := .eql) (m := ((spell [] (RunD.mk (all.take k) (all.drop k) (acts ++ [(x17 % 1024 % (s.acts.length : Int))]))).cycle.length : Int)) (n := ((all.length : Int) - (k : Int))) (b := true) .i64 (show (((spell [] (RunD.mk (all.take k) (all.drop k) (acts ++ [(x17 % 1024 % (s.acts.length : Int))]))).cycle.length : Int) == ((all.length : Int) - (k : Int))) = true from by rw [beq_iff_eq]; simp only [spell, List.length_map, List.length_drop]; omega))] [(3, .t (.c (.d (.sl 2 (picks.map ziD))))), (4, vp 5 0), (8, vb true), (11, .t (.c (.d (.sl 2 (all.map StD.d))))), (12, .t (.c (.d (.sl 1 ((acts ++ [(x17 % 1024 % (s.acts.length : Int))]).map intD))))), (18, vp 21 0), (63, .t (.c (.d (.sl 1 (choices.map intD))))), (64, vi .i64 (choices.length : Int)), (65, vi .i64 (q : Int)), (118, vi .i64 (all.length : Int)), (119, vi .i64 (k : Int))] [(5, .box (sysC s)), (21, .box [.d (.sl 1 ((goS s x29 (x17 % 1024 % (s.acts.length : Int)) picks).1.locs.map intD)), .d (.sl 2 ((goS s x29 (x17 % 1024 % (s.acts.length : Int)) picks).1.vals.map ziD))])] (by kernel_rfl) h ?_; clear h; intro a w h
                  refine wp_ret ?_
                  refine block_r ?_
                  refine then_r ?_
                  refine then_r ?_
                  refine block_r ?_
                  refine then_r ?_
                  refine block_r ?_
                  refine then_r ?_
                  refine then_r ?_
                  refine block_r ?_
                  refine then_r ?_
                  refine retS [.c (.d (.raw (.bool true)))] h Exit.ret (.inl rfl)  rfl ⟨RV.tmp _ _ rfl, trivial⟩ ?_ (by kernel_rfl) (by kernel_rfl)
                  rfl
                 ·have hc39 := hc; clear hc
                  refine wp_skip ?_
                  refine block_n ?_
                  refine then_n ?_
                  refine rS fam0ok 29 [(0, .add .i64 (m := (k : Int)) (n := 1) (i64_id (by omega) (by omega)))] [(3, .t (.c (.d (.sl 2 (picks.map ziD))))), (4, vp 5 0), (11, .t (.c (.own 8 all.length))), (12, .t (.c (.own 26 (acts ++ [(x17 % 1024 % (s.acts.length : Int))]).length))), (18, vp 21 0), (63, .t (.c (.d (.sl 1 (choices.map intD))))), (64, vi .i64 (choices.length : Int)), (65, vi .i64 (q : Int)), (118, vi .i64 (all.length : Int)), (119, vi .i64 ((k : Int) + 1))] [(5, .box (sysC s)), (8, .row 43 2 (all.map StD.d)), (21, .box [.d (.sl 1 ((goS s x29 (x17 % 1024 % (s.acts.length : Int)) picks).1.locs.map intD)), .d (.sl 2 ((goS s x29 (x17 % 1024 % (s.acts.length : Int)) picks).1.vals.map ziD))]), (26, .row 3 1 ((acts ++ [(x17 % 1024 % (s.acts.length : Int))]).map intD))] (by kernel_rfl) h ?_; clear h; intro a w h
                  refine then_n ?_
                  refine roundS (x := k) (y := k + 1) h ?_ ?_ (by kernel_rfl) (by kernel_rfl)
                  ·have := at_lt hx36
                   show k + 1 ≤ all.length
                   omega
                  ·show all.length - (k + 1) < all.length - k
                   have := at_lt hx36; omega
                ·have hc40 := hc; clear hc
                 have hc40' := of_decide_eq_false hc40
                 refine wp_exit ?_
                 refine then_x ?_
                 refine then_x ?_
                 refine inBlock_exit ?_
                 refine then_n ?_
                 refine rS fam0ok 29 [(2, .gen _ _ _ fun _ _ _ _ => Op.buildD (d := 162) (len := 1) (rows := [(goS s x29 (x17 % 1024 % (s.acts.length : Int)) picks).1].map StD.d) (rs := [(161, .t (.agg [.d (.sl 1 ((goS s x29 (x17 % 1024 % (s.acts.length : Int)) picks).1.locs.map intD)), .d (.sl 2 ((goS s x29 (x17 % 1024 % (s.acts.length : Int)) picks).1.vals.map ziD))]))]) kx_3 (.cons (i := 0) (OV.tmp 161 _) (.nil)) (by kernel_rfl) rfl (by simp [StD.d]) (by decide) (by decide)), (3, .gen _ _ _ fun _ _ _ _ => Op.appOD (d := 163) (t := 160) (u := 162) (n := 8) (n' := 29) (len := all.length) (len' := (all ++ [(goS s x29 (x17 % 1024 % (s.acts.length : Int)) picks).1]).length) (rows := all.map StD.d) (rows2 := [(goS s x29 (x17 % 1024 % (s.acts.length : Int)) picks).1].map StD.d) (rows' := (all ++ [(goS s x29 (x17 % 1024 % (s.acts.length : Int)) picks).1]).map StD.d) kn_1 (by first | exact (List.length_map _).symm | simp) (by first | (rw [List.length_append, List.length_map]; done) | simp) (by simp) (by simp [StD.d]) (by first | omega | (simp at *; done) | (simp at *; omega)))] [(3, .t (.c (.d (.sl 2 (picks.map ziD))))), (4, vp 5 0), (11, .t (.c (.own 29 (all ++ [(goS s x29 (x17 % 1024 % (s.acts.length : Int)) picks).1]).length))), (12, .t (.c (.own 26 (acts ++ [(x17 % 1024 % (s.acts.length : Int))]).length))), (63, .t (.c (.d (.sl 1 (choices.map intD))))), (64, vi .i64 (choices.length : Int)), (65, vi .i64 (q : Int))] [(5, .box (sysC s)), (26, .row 3 1 ((acts ++ [(x17 % 1024 % (s.acts.length : Int))]).map intD)), (29, .row 43 2 ((all ++ [(goS s x29 (x17 % 1024 % (s.acts.length : Int)) picks).1]).map StD.d))] (by kernel_rfl) h ?_; clear h; intro a w h
                 refine block_n ?_
                 refine then_n ?_
                 refine rS fam0ok 30 [(0, .add .i64 (m := (q : Int)) (n := 1) (i64_id (by omega) (by omega)))] [(3, .t (.c (.d (.sl 2 (picks.map ziD))))), (4, vp 5 0), (11, .t (.c (.own 29 (all ++ [(goS s x29 (x17 % 1024 % (s.acts.length : Int)) picks).1]).length))), (12, .t (.c (.own 26 (acts ++ [(x17 % 1024 % (s.acts.length : Int))]).length))), (63, .t (.c (.d (.sl 1 (choices.map intD))))), (64, vi .i64 (choices.length : Int)), (65, vi .i64 ((q : Int) + 1))] [(5, .box (sysC s)), (26, .row 3 1 ((acts ++ [(x17 % 1024 % (s.acts.length : Int))]).map intD)), (29, .row 43 2 ((all ++ [(goS s x29 (x17 % 1024 % (s.acts.length : Int)) picks).1]).map StD.d))] (by kernel_rfl) h ?_; clear h; intro a w h
                 refine then_n ?_
                 replace h := renS 29 8 [(3, .t (.c (.d (.sl 2 (picks.map ziD))))), (4, vp 5 0), (11, .t (.c (.own 8 (all ++ [(goS s x29 (x17 % 1024 % (s.acts.length : Int)) picks).1]).length))), (12, .t (.c (.own 26 (acts ++ [(x17 % 1024 % (s.acts.length : Int))]).length))), (63, .t (.c (.d (.sl 1 (choices.map intD))))), (64, vi .i64 (choices.length : Int)), (65, vi .i64 ((q : Int) + 1))] [(5, .box (sysC s)), (26, .row 3 1 ((acts ++ [(x17 % 1024 % (s.acts.length : Int))]).map intD)), (8, .row 43 2 ((all ++ [(goS s x29 (x17 % 1024 % (s.acts.length : Int)) picks).1]).map StD.d))] h (by kernel_rfl) (by kernel_rfl) (by kernel_rfl)
                 replace h := renS 26 9 [(3, .t (.c (.d (.sl 2 (picks.map ziD))))), (4, vp 5 0), (11, .t (.c (.own 8 (all ++ [(goS s x29 (x17 % 1024 % (s.acts.length : Int)) picks).1]).length))), (12, .t (.c (.own 9 (acts ++ [(x17 % 1024 % (s.acts.length : Int))]).length))), (63, .t (.c (.d (.sl 1 (choices.map intD))))), (64, vi .i64 (choices.length : Int)), (65, vi .i64 ((q : Int) + 1))] [(5, .box (sysC s)), (8, .row 43 2 ((all ++ [(goS s x29 (x17 % 1024 % (s.acts.length : Int)) picks).1]).map StD.d)), (9, .row 3 1 ((acts ++ [(x17 % 1024 % (s.acts.length : Int))]).map intD))] h (by kernel_rfl) (by kernel_rfl) (by kernel_rfl)
                 refine roundS (x := (q, all, acts)) (y := (q + 1, (all ++ [(goS s x29 (x17 % 1024 % (s.acts.length : Int)) picks).1]), (acts ++ [(x17 % 1024 % (s.acts.length : Int))]))) h ?_ ?_ (by kernel_rfl) (by kernel_rfl)
                 ·have := at_lt hx17
                  exact ⟨by omega, hW2.more (show all[all.length - 1]? = some x29 from hx29) hle hyO⟩
                 ·show choices.length - (q + 1) < choices.length - q
                  have := at_lt hx17; omega
           ·have hc41 := hc; clear hc
            have hc41' := of_decide_eq_false hc41
            refine wp_skip ?_
            refine then_n ?_
            refine rSeq fam0ok 30 [] [(3, .t (.c (.d (.sl 2 (picks.map ziD))))), (4, vp 5 0), (11, .t (.c (.own 8 all.length))), (12, .t (.c (.own 9 acts.length))), (13, vi .i64 (q : Int)), (15, vi .i64 (-1)), (16, .t (.c (.d (.sl 2 (picks.map ziD))))), (63, .t (.c (.d (.sl 1 (choices.map intD))))), (64, vi .i64 (choices.length : Int)), (65, vi .i64 (q : Int))] [(5, .box (sysC s)), (8, .row 43 2 (all.map StD.d)), (9, .row 3 1 (acts.map intD))] (by kernel_rfl) h ?_; clear h; intro a w h
            refine wp_seq ?_
            refine rSeq fam0ok 30 [(2, .len (c := (.d (.sl 2 (picks.map ziD)))) (n := picks.length) (lenC_map _ _ _))] [(3, .t (.c (.d (.sl 2 (picks.map ziD))))), (4, vp 5 0), (11, .t (.c (.own 8 all.length))), (12, .t (.c (.own 9 acts.length))), (13, vi .i64 (q : Int)), (15, vi .i64 (-1)), (16, .t (.c (.d (.sl 2 (picks.map ziD))))), (63, .t (.c (.d (.sl 1 (choices.map intD))))), (64, vi .i64 (choices.length : Int)), (65, vi .i64 (q : Int)), (84, vb (decide ((q : Int) < (picks.length : Int))))] [(5, .box (sysC s)), (8, .row 43 2 (all.map StD.d)), (9, .row 3 1 (acts.map intD))] (by kernel_rfl) h ?_; clear h; intro a w h
            refine condS (decide ((q : Int) < (picks.length : Int))) h rfl (fun hc => ?_) (fun hc => ?_)
            ·have hc42 := hc; clear hc
             have hc42' := of_decide_eq_true hc42
             refine rS fam0ok 30 [(2, .gen _ _ _ fun _ _ _ _ => Op.sliceD (d := 87) (t := 85) (l := q) (h := picks.length) (rows := picks.map ziD) (rows' := (picks.drop q).map ziD) tt_6 (BO.yes (k := .i64) (i := q) _ (OV.tmp 86 _)) (by rw [List.length_map]; exact BO.no _) (by first | omega | (simp at *; omega)) (by first | omega | (simp only [List.length_map]; omega) | (simp at *; omega)) (by first | (simp [List.map_drop]; done) | (rw [List.take_of_length_le (by simp <;> omega)]; simp [List.map_drop])))] [(3, .t (.c (.d (.sl 2 (picks.map ziD))))), (4, vp 5 0), (11, .t (.c (.own 8 all.length))), (12, .t (.c (.own 9 acts.length))), (15, vi .i64 (-1)), (16, .t (.c (.d (.sl 2 ((picks.drop q).map ziD))))), (63, .t (.c (.d (.sl 1 (choices.map intD))))), (64, vi .i64 (choices.length : Int)), (65, vi .i64 (q : Int))] [(5, .box (sysC s)), (8, .row 43 2 (all.map StD.d)), (9, .row 3 1 (acts.map intD))] (by kernel_rfl) h ?_; clear h; intro a w h
             refine then_n ?_
             obtain ⟨x40, hx40⟩ : ∃ z_ : StD, all[all.length - 1]? = some z_ := ⟨_, List.getElem?_eq_getElem (by omega)⟩
             refine rSeq fam0ok 30 [(3, .gen _ _ _ fun _ _ _ _ => Op.arith (op := .sub) (d := 91) (xt := 3) (yt := 3) (k := .i64) (m := (all.length : Int)) (n := 1) (r := ((all.length - 1 : Nat) : Int)) (OV.tmp 90 _) (OV.const (.int .i64 1) rfl) (.inr (.inl ⟨rfl, (by omega)⟩)) (i64_id (by omega) (by omega))), (4, .gen _ _ _ fun _ _ _ _ => Op.idxO (d := 92) (t := 88) (k := .i64) (n := 8) (len := all.length) (i := (all.length - 1)) kn_0 (by first | omega | (simp at *; omega)) (OV.tmp 91 _)), (5, .gen _ _ _ fun _ _ _ _ => Op.loadR_agg (d := 93) (t := 92) (n := 8) (i := (all.length - 1)) (fo := 0) (rty := 43) (es := 2) (xs := [.sl 1 (x40.locs.map intD), .sl 2 (x40.vals.map ziD)]) kk_5 rfl (map_at hx40 (f := StD.d)) rfl rfl)] [(3, .t (.c (.d (.sl 2 (picks.map ziD))))), (4, vp 5 0), (11, .t (.c (.own 8 all.length))), (12, .t (.c (.own 9 acts.length))), (15, vi .i64 (-1)), (16, .t (.c (.d (.sl 2 ((picks.drop q).map ziD))))), (17, vp 30 0), (63, .t (.c (.d (.sl 1 (choices.map intD))))), (64, vi .i64 (choices.length : Int)), (65, vi .i64 (q : Int))] [(5, .box (sysC s)), (8, .row 43 2 (all.map StD.d)), (9, .row 3 1 (acts.map intD)), (30, .box [.d (.sl 1 (x40.locs.map intD)), .d (.sl 2 (x40.vals.map ziD))])] (by kernel_rfl) h ?_; clear h; intro a w h
             refine rSeq fam0ok 31 [(4, .call (SGo s x40 (-1) (picks.drop q) (L := 2) (M := 2 + 4 * q) (by omega) hsO (hW2.ok x40 (List.mem_of_getElem? (show all[all.length - 1]? = some x40 from hx40))) (fun z hz => ⟨((drop_ok hpk q) z hz).1, Nat.le_trans ((drop_ok hpk q) z hz).2 (by omega)⟩)) km_9)] [(3, .t (.c (.d (.sl 2 (picks.map ziD))))), (4, vp 5 0), (11, .t (.c (.own 8 all.length))), (12, .t (.c (.own 9 acts.length))), (15, vi .i64 (-1)), (17, vp 30 0), (18, vp 31 0), (19, vb (goS s x40 (-1) (picks.drop q)).2), (63, .t (.c (.d (.sl 1 (choices.map intD))))), (64, vi .i64 (choices.length : Int)), (65, vi .i64 (q : Int))] [(5, .box (sysC s)), (8, .row 43 2 (all.map StD.d)), (9, .row 3 1 (acts.map intD)), (30, .box [.d (.sl 1 (x40.locs.map intD)), .d (.sl 2 (x40.vals.map ziD))]), (31, .box [.d (.sl 1 ((goS s x40 (-1) (picks.drop q)).1.locs.map intD)), .d (.sl 2 ((goS s x40 (-1) (picks.drop q)).1.vals.map ziD))])] (by kernel_rfl) h ?_; clear h; intro a w h
             refine wp_seq ?_
             refine rSeq fam0ok 32 [] [(3, .t (.c (.d (.sl 2 (picks.map ziD))))), (4, vp 5 0), (11, .t (.c (.own 8 all.length))), (12, .t (.c (.own 9 acts.length))), (15, vi .i64 (-1)), (17, vp 30 0), (18, vp 31 0), (19, vb (goS s x40 (-1) (picks.drop q)).2), (63, .t (.c (.d (.sl 1 (choices.map intD))))), (64, vi .i64 (choices.length : Int)), (65, vi .i64 (q : Int)), (103, vb (!(goS s x40 (-1) (picks.drop q)).2))] [(5, .box (sysC s)), (8, .row 43 2 (all.map StD.d)), (9, .row 3 1 (acts.map intD)), (30, .box [.d (.sl 1 (x40.locs.map intD)), .d (.sl 2 (x40.vals.map ziD))]), (31, .box [.d (.sl 1 ((goS s x40 (-1) (picks.drop q)).1.locs.map intD)), .d (.sl 2 ((goS s x40 (-1) (picks.drop q)).1.vals.map ziD))])] (by kernel_rfl) h ?_; clear h; intro a w h
             refine condS (!(goS s x40 (-1) (picks.drop q)).2) h rfl (fun hc => ?_) (fun hc => ?_)
             ·have hc43 := hc; clear hc
              have hc43' := hc43; (try simp at hc43')
              refine rSeq fam0ok 32 [] [(3, .t (.c (.d (.sl 2 (picks.map ziD))))), (4, vp 5 0), (11, .t (.c (.own 8 all.length))), (12, .t (.c (.own 9 acts.length))), (15, vi .i64 (-1)), (17, vp 30 0), (18, vp 31 0), (19, vb (goS s x40 (-1) (picks.drop q)).2), (63, .t (.c (.d (.sl 1 (choices.map intD))))), (64, vi .i64 (choices.length : Int)), (65, vi .i64 (q : Int))] [(5, .box (sysC s)), (8, .row 43 2 (all.map StD.d)), (9, .row 3 1 (acts.map intD)), (30, .box [.d (.sl 1 (x40.locs.map intD)), .d (.sl 2 (x40.vals.map ziD))]), (31, .box [.d (.sl 1 ((goS s x40 (-1) (picks.drop q)).1.locs.map intD)), .d (.sl 2 ((goS s x40 (-1) (picks.drop q)).1.vals.map ziD))])] (by kernel_rfl) h ?_; clear h; intro a w h
              refine rS fam0ok 32 [(3, .call (Fn.argw (SGo s x40 (-1) [] (L := 2) (M := 2 + 4 * q) (by omega) hsO (hW2.ok x40 (List.mem_of_getElem? (show all[all.length - 1]? = some x40 from hx40))) (fun z hz => by cases hz)) (.cons _ _ _ _ (.refl _) (.cons _ _ _ _ (.refl _) (.cons _ _ _ _ (.refl _) (.cons _ _ _ _ (.c _ _ (.nil _)) .nil))))) km_9)] [(3, .t (.c (.d (.sl 2 (picks.map ziD))))), (4, vp 5 0), (11, .t (.c (.own 8 all.length))), (12, .t (.c (.own 9 acts.length))), (15, vi .i64 (-1)), (18, vp 31 0), (19, vb (goS s x40 (-1) []).2), (63, .t (.c (.d (.sl 1 (choices.map intD))))), (64, vi .i64 (choices.length : Int)), (65, vi .i64 (q : Int))] [(5, .box (sysC s)), (8, .row 43 2 (all.map StD.d)), (9, .row 3 1 (acts.map intD)), (31, .box [.d (.sl 1 ((goS s x40 (-1) []).1.locs.map intD)), .d (.sl 2 ((goS s x40 (-1) []).1.vals.map ziD))])] (by kernel_rfl) h ?_; clear h; intro a w h
              refine then_n ?_
              refine wp_seq ?_
              refine rSeq fam0ok 32 [] [(3, .t (.c (.d (.sl 2 (picks.map ziD))))), (4, vp 5 0), (11, .t (.c (.own 8 all.length))), (12, .t (.c (.own 9 acts.length))), (15, vi .i64 (-1)), (18, vp 31 0), (63, .t (.c (.d (.sl 1 (choices.map intD))))), (64, vi .i64 (choices.length : Int)), (65, vi .i64 (q : Int)), (112, vb (!(goS s x40 (-1) []).2))] [(5, .box (sysC s)), (8, .row 43 2 (all.map StD.d)), (9, .row 3 1 (acts.map intD)), (31, .box [.d (.sl 1 ((goS s x40 (-1) []).1.locs.map intD)), .d (.sl 2 ((goS s x40 (-1) []).1.vals.map ziD))])] (by kernel_rfl) h ?_; clear h; intro a w h
              refine condS (!(goS s x40 (-1) []).2) h rfl (fun hc => ?_) (fun hc => ?_)
              ·have hc44 := hc; clear hc
               have hc44' := hc44; (try simp at hc44')
               refine wp_exit ?_
               refine then_x ?_
               refine inBlock_exit ?_
               refine then_n ?_
               refine rS fam0ok 32 [(0, .add .i64 (m := (q : Int)) (n := 1) (i64_id (by omega) (by omega)))] [(3, .t (.c (.d (.sl 2 (picks.map ziD))))), (4, vp 5 0), (11, .t (.c (.own 8 all.length))), (12, .t (.c (.own 9 acts.length))), (63, .t (.c (.d (.sl 1 (choices.map intD))))), (64, vi .i64 (choices.length : Int)), (65, vi .i64 ((q : Int) + 1))] [(5, .box (sysC s)), (8, .row 43 2 (all.map StD.d)), (9, .row 3 1 (acts.map intD))] (by kernel_rfl) h ?_; clear h; intro a w h
               refine then_n ?_
               refine roundS (x := (q, all, acts)) (y := (q + 1, all, acts)) h ?_ ?_ (by kernel_rfl) (by kernel_rfl)
               ·have := at_lt hx17
                exact ⟨by omega, hW2.skip⟩
               ·show choices.length - (q + 1) < choices.length - q
                have := at_lt hx17; omega
              ·have hc45 := hc; clear hc
               have hc45' := hc45; (try simp at hc45')
               have hle := goS_leads (show (goS s x40 (-1) []).2 = true from by simpa using hc45)
               have hyO : StOk (2 + 4 * (q + 1)) (goS s x40 (-1) []).1 := goS_ok (L := 2) (M := 2 + 4 * q) (i := (-1)) hsO (hW2.ok x40 (List.mem_of_getElem? (show all[all.length - 1]? = some x40 from hx40))) (fun z hz => by cases hz) |>.mono (by omega)
               refine wp_skip ?_
               refine then_n ?_
               refine rSeq fam0ok 32 [(2, .gen _ _ _ fun _ _ _ _ => Op.buildD (d := 115) (len := 1) (rows := [(-1)].map intD) (rs := [(114, vi .i64 (-1))]) tb_0 (.cons (i := 0) (OV.tmp 114 _) (.nil)) (by kernel_rfl) rfl (by simp [intD]) (by decide) (by decide)), (3, .gen _ _ _ fun _ _ _ _ => Op.appOD (d := 116) (t := 113) (u := 115) (n := 9) (n' := 32) (len := acts.length) (len' := (acts ++ [(-1)]).length) (rows := acts.map intD) (rows2 := [(-1)].map intD) (rows' := (acts ++ [(-1)]).map intD) tb_2 (by first | exact (List.length_map _).symm | simp) (by first | (rw [List.length_append, List.length_map]; done) | simp) (by simp) (by simp [intD]) (by first | omega | (simp at *; done) | (simp at *; omega)))] [(3, .t (.c (.d (.sl 2 (picks.map ziD))))), (4, vp 5 0), (11, .t (.c (.own 8 all.length))), (12, .t (.c (.own 32 (acts ++ [(-1)]).length))), (18, vp 31 0), (63, .t (.c (.d (.sl 1 (choices.map intD))))), (64, vi .i64 (choices.length : Int)), (65, vi .i64 (q : Int))] [(5, .box (sysC s)), (8, .row 43 2 (all.map StD.d)), (31, .box [.d (.sl 1 ((goS s x40 (-1) []).1.locs.map intD)), .d (.sl 2 ((goS s x40 (-1) []).1.vals.map ziD))]), (32, .row 3 1 ((acts ++ [(-1)]).map intD))] (by kernel_rfl) h ?_; clear h; intro a w h
               refine wp_seq ?_
               refine rSeq fam0ok 33 [] [(3, .t (.c (.d (.sl 2 (picks.map ziD))))), (4, vp 5 0), (11, .t (.c (.own 8 all.length))), (12, .t (.c (.own 32 (acts ++ [(-1)]).length))), (18, vp 31 0), (63, .t (.c (.d (.sl 1 (choices.map intD))))), (64, vi .i64 (choices.length : Int)), (65, vi .i64 (q : Int)), (118, vi .i64 (all.length : Int)), (119, vi .i64 0)] [(5, .box (sysC s)), (8, .row 43 2 (all.map StD.d)), (31, .box [.d (.sl 1 ((goS s x40 (-1) []).1.locs.map intD)), .d (.sl 2 ((goS s x40 (-1) []).1.vals.map ziD))]), (32, .row 3 1 ((acts ++ [(-1)]).map intD))] (by kernel_rfl) h ?_; clear h; intro a w h
               refine wp_block ?_
               refine loopS (ι := (Nat)) (fun (z_ : (Nat)) => match z_ with | k => k ≤ all.length)
                 (fun (z_ : (Nat)) => match z_ with | k => [(3, .t (.c (.d (.sl 2 (picks.map ziD))))), (4, vp 5 0), (11, .t (.c (.own 8 all.length))), (12, .t (.c (.own 32 (acts ++ [(-1)]).length))), (18, vp 31 0), (63, .t (.c (.d (.sl 1 (choices.map intD))))), (64, vi .i64 (choices.length : Int)), (65, vi .i64 (q : Int)), (118, vi .i64 (all.length : Int)), (119, vi .i64 (k : Int))])
                 (fun (z_ : (Nat)) => match z_ with | k => [(5, .box (sysC s)), (8, .row 43 2 (all.map StD.d)), (31, .box [.d (.sl 1 ((goS s x40 (-1) []).1.locs.map intD)), .d (.sl 2 ((goS s x40 (-1) []).1.vals.map ziD))]), (32, .row 3 1 ((acts ++ [(-1)]).map intD))])
                 (fun (z_ : (Nat)) => match z_ with | k => all.length - k) 0 ?_ h (by kernel_rfl) (by kernel_rfl) ?_
               ·exact Nat.zero_le _
               ·clear h; rintro k a w hI h
                change St _ (F.of [(3, .t (.c (.d (.sl 2 (picks.map ziD))))), (4, vp 5 0), (11, .t (.c (.own 8 all.length))), (12, .t (.c (.own 32 (acts ++ [(-1)]).length))), (18, vp 31 0), (63, .t (.c (.d (.sl 1 (choices.map intD))))), (64, vi .i64 (choices.length : Int)), (65, vi .i64 (q : Int)), (118, vi .i64 (all.length : Int)), (119, vi .i64 (k : Int))] [(5, .box (sysC s)), (8, .row 43 2 (all.map StD.d)), (31, .box [.d (.sl 1 ((goS s x40 (-1) []).1.locs.map intD)), .d (.sl 2 ((goS s x40 (-1) []).1.vals.map ziD))]), (32, .row 3 1 ((acts ++ [(-1)]).map intD))]) a w at h
                refine rSeq fam0ok 33 [] [(3, .t (.c (.d (.sl 2 (picks.map ziD))))), (4, vp 5 0), (11, .t (.c (.own 8 all.length))), (12, .t (.c (.own 32 (acts ++ [(-1)]).length))), (18, vp 31 0), (63, .t (.c (.d (.sl 1 (choices.map intD))))), (64, vi .i64 (choices.length : Int)), (65, vi .i64 (q : Int)), (118, vi .i64 (all.length : Int)), (119, vi .i64 (k : Int)), (120, vb (decide ((k : Int) < (all.length : Int))))] [(5, .box (sysC s)), (8, .row 43 2 (all.map StD.d)), (31, .box [.d (.sl 1 ((goS s x40 (-1) []).1.locs.map intD)), .d (.sl 2 ((goS s x40 (-1) []).1.vals.map ziD))]), (32, .row 3 1 ((acts ++ [(-1)]).map intD))] (by kernel_rfl) h ?_; clear h; intro a w h
                refine wp_seq ?_
                refine condS (decide ((k : Int) < (all.length : Int))) h rfl (fun hc => ?_) (fun hc => ?_)
                ·have hc46 := hc; clear hc
                 have hc46' := of_decide_eq_true hc46
                 refine wp_skip ?_
                 refine then_n ?_
                 refine wp_seq ?_
                 refine wp_block ?_
                 refine rSeq fam0ok 33 [] [(3, .t (.c (.d (.sl 2 (picks.map ziD))))), (4, vp 5 0), (11, .t (.c (.own 8 all.length))), (12, .t (.c (.own 32 (acts ++ [(-1)]).length))), (18, vp 31 0), (20, vi .i64 (k : Int)), (63, .t (.c (.d (.sl 1 (choices.map intD))))), (64, vi .i64 (choices.length : Int)), (65, vi .i64 (q : Int)), (118, vi .i64 (all.length : Int)), (119, vi .i64 (k : Int))] [(5, .box (sysC s)), (8, .row 43 2 (all.map StD.d)), (31, .box [.d (.sl 1 ((goS s x40 (-1) []).1.locs.map intD)), .d (.sl 2 ((goS s x40 (-1) []).1.vals.map ziD))]), (32, .row 3 1 ((acts ++ [(-1)]).map intD))] (by kernel_rfl) h ?_; clear h; intro a w h
                 obtain ⟨x43, hx43⟩ : ∃ z_ : StD, all[k]? = some z_ := ⟨_, List.getElem?_eq_getElem (by first | omega | (simp at *; omega))⟩
                 refine rSeq fam0ok 33 [(2, .gen _ _ _ fun _ _ _ _ => Op.idxO (d := 124) (t := 122) (k := .i64) (n := 8) (len := all.length) (i := k) kn_0 (by first | omega | (simp at *; omega)) (OV.tmp 123 _)), (3, .gen _ _ _ fun _ _ _ _ => Op.loadR_agg (d := 125) (t := 124) (n := 8) (i := k) (fo := 0) (rty := 43) (es := 2) (xs := [.sl 1 (x43.locs.map intD), .sl 2 (x43.vals.map ziD)]) kk_5 rfl (map_at hx43 (f := StD.d)) rfl rfl), (5, .call (SSame x43 (goS s x40 (-1) []).1 (M := 2 + 4 * (q + 1)) (by omega) ((hW2.ok x43 (List.mem_of_getElem? hx43)).mono (by omega)) hyO) km_1)] [(3, .t (.c (.d (.sl 2 (picks.map ziD))))), (4, vp 5 0), (11, .t (.c (.own 8 all.length))), (12, .t (.c (.own 32 (acts ++ [(-1)]).length))), (18, vp 31 0), (20, vi .i64 (k : Int)), (63, .t (.c (.d (.sl 1 (choices.map intD))))), (64, vi .i64 (choices.length : Int)), (65, vi .i64 (q : Int)), (118, vi .i64 (all.length : Int)), (119, vi .i64 (k : Int)), (127, vb (sameS x43 (goS s x40 (-1) []).1))] [(5, .box (sysC s)), (8, .row 43 2 (all.map StD.d)), (31, .box [.d (.sl 1 ((goS s x40 (-1) []).1.locs.map intD)), .d (.sl 2 ((goS s x40 (-1) []).1.vals.map ziD))]), (32, .row 3 1 ((acts ++ [(-1)]).map intD))] (by kernel_rfl) h ?_; clear h; intro a w h
                 refine condS (sameS x43 (goS s x40 (-1) []).1) h rfl (fun hc => ?_) (fun hc => ?_)
                 ·have hc47 := hc; clear hc
                  have hrt := hW2.closes hfi (show all[all.length - 1]? = some x40 from hx40) hle hx43 hc47
                  have hqk := at_lt hx43
                  replace h := pubS 8 2 43 (all.map StD.d) [(3, .t (.c (.d (.sl 2 (picks.map ziD))))), (4, vp 5 0), (11, .t (.c (.d (.sl 2 (all.map StD.d))))), (12, .t (.c (.own 32 (acts ++ [(-1)]).length))), (18, vp 31 0), (20, vi .i64 (k : Int)), (63, .t (.c (.d (.sl 1 (choices.map intD))))), (64, vi .i64 (choices.length : Int)), (65, vi .i64 (q : Int)), (118, vi .i64 (all.length : Int)), (119, vi .i64 (k : Int)), (127, vb (sameS x43 (goS s x40 (-1) []).1))] [(5, .box (sysC s)), (31, .box [.d (.sl 1 ((goS s x40 (-1) []).1.locs.map intD)), .d (.sl 2 ((goS s x40 (-1) []).1.vals.map ziD))]), (32, .row 3 1 ((acts ++ [(-1)]).map intD))] h rfl (show AllEq _ [all.length] from ⟨by first | exact (List.length_map _).symm | (simp; done) | (simp; omega), trivial⟩) trivial (by kernel_rfl) (by kernel_rfl)
                  replace h := pubS 32 1 3 ((acts ++ [(-1)]).map intD) [(3, .t (.c (.d (.sl 2 (picks.map ziD))))), (4, vp 5 0), (11, .t (.c (.d (.sl 2 (all.map StD.d))))), (12, .t (.c (.d (.sl 1 ((acts ++ [(-1)]).map intD))))), (18, vp 31 0), (20, vi .i64 (k : Int)), (63, .t (.c (.d (.sl 1 (choices.map intD))))), (64, vi .i64 (choices.length : Int)), (65, vi .i64 (q : Int)), (118, vi .i64 (all.length : Int)), (119, vi .i64 (k : Int)), (127, vb (sameS x43 (goS s x40 (-1) []).1))] [(5, .box (sysC s)), (31, .box [.d (.sl 1 ((goS s x40 (-1) []).1.locs.map intD)), .d (.sl 2 ((goS s x40 (-1) []).1.vals.map ziD))])] h rfl (show AllEq _ [(acts ++ [(-1)]).length] from ⟨by first | exact (List.length_map _).symm | (simp; done) | (simp; omega), trivial⟩) trivial (by kernel_rfl) (by kernel_rfl)
                  refine rSeq fam0ok 33 [(3, .gen _ _ _ fun _ _ _ _ => Op.sliceDM (d := 131) (t := 128) (h := k) (m := k) (k := .i64) (k' := .i64) (rows := all.map StD.d) (rows' := (all.take k).map StD.d) kn_0 (OV.tmp 129 _) (OV.tmp 130 _) (by omega) (by rw [List.length_map]; omega) (by rw [List.map_take])), (6, .gen _ _ _ fun _ _ _ _ => Op.sliceD (d := 134) (t := 132) (l := k) (h := all.length) (rows := all.map StD.d) (rows' := (all.drop k).map StD.d) kn_0 (BO.yes (k := .i64) (i := k) _ (OV.tmp 133 _)) (by rw [List.length_map]; exact BO.no _) (by first | omega | (simp at *; omega)) (by first | omega | (simp only [List.length_map]; omega) | (simp at *; omega)) (by first | (simp [List.map_drop]; done) | (rw [List.take_of_length_le (by simp <;> omega)]; simp [List.map_drop])))] [(3, .t (.c (.d (.sl 2 (picks.map ziD))))), (4, vp 5 0), (11, .t (.c (.d (.sl 2 (all.map StD.d))))), (12, .t (.c (.d (.sl 1 ((acts ++ [(-1)]).map intD))))), (18, vp 31 0), (20, vi .i64 (k : Int)), (21, vp 33 0), (63, .t (.c (.d (.sl 1 (choices.map intD))))), (64, vi .i64 (choices.length : Int)), (65, vi .i64 (q : Int)), (118, vi .i64 (all.length : Int)), (119, vi .i64 (k : Int))] [(5, .box (sysC s)), (31, .box [.d (.sl 1 ((goS s x40 (-1) []).1.locs.map intD)), .d (.sl 2 ((goS s x40 (-1) []).1.vals.map ziD))]), (33, .box ([.d (.sl 2 ((all.take k).map StD.d)), .d (.sl 2 ((all.drop k).map StD.d)), .d (.sl 1 ((acts ++ [(-1)]).map intD))]))] (by kernel_rfl) h ?_; clear h; intro a w h
                  refine rSeq fam0ok 34 [(1, .call (Fn.argw (SSpell [] (RunD.mk (all.take k) (all.drop k) (acts ++ [(-1)])) (L := 2) (M := 2 + 4 * 12) (by decide) (fun p hp => by cases hp) (by decide) ⟨by show (all.take k).length + (all.drop k).length ≤ 20; rw [List.length_take, List.length_drop]; omega, fun z hz => (hW2.ok z (List.mem_of_mem_take hz)).mono (by omega), fun z hz => (hW2.ok z (List.mem_of_mem_drop hz)).mono (by omega)⟩) (.cons _ _ _ _ (.c _ _ (.nil _)) (.cons _ _ _ _ (.refl _) .nil))) kx_6)] [(3, .t (.c (.d (.sl 2 (picks.map ziD))))), (4, vp 5 0), (11, .t (.c (.d (.sl 2 (all.map StD.d))))), (12, .t (.c (.d (.sl 1 ((acts ++ [(-1)]).map intD))))), (18, vp 31 0), (20, vi .i64 (k : Int)), (21, vp 33 0), (22, vp 34 0), (63, .t (.c (.d (.sl 1 (choices.map intD))))), (64, vi .i64 (choices.length : Int)), (65, vi .i64 (q : Int)), (118, vi .i64 (all.length : Int)), (119, vi .i64 (k : Int))] [(5, .box (sysC s)), (31, .box [.d (.sl 1 ((goS s x40 (-1) []).1.locs.map intD)), .d (.sl 2 ((goS s x40 (-1) []).1.vals.map ziD))]), (33, .box ([.d (.sl 2 ((all.take k).map StD.d)), .d (.sl 2 ((all.drop k).map StD.d)), .d (.sl 1 ((acts ++ [(-1)]).map intD))])), (34, .box ([.d (.sl 1 ((spell [] (RunD.mk (all.take k) (all.drop k) (acts ++ [(-1)]))).stem.map (slD 1 boolD))), .d (.sl 1 ((spell [] (RunD.mk (all.take k) (all.drop k) (acts ++ [(-1)]))).cycle.map (slD 1 boolD)))]))] (by kernel_rfl) h ?_; clear h; intro a w h
                  refine rSeq fam0ok 35 [(2, .call (Fn.cast (SRight s (RunD.mk (all.take k) (all.drop k) (acts ++ [(-1)])) (L := 2) (M := 2 + 4 * 12) (by decide) hsO ⟨by show (all.take k).length + (all.drop k).length ≤ 20; rw [List.length_take, List.length_drop]; omega, fun z hz => (hW2.ok z (List.mem_of_mem_take hz)).mono (by omega), fun z hz => (hW2.ok z (List.mem_of_mem_drop hz)).mono (by omega)⟩) (congrArg vb hrt)) kx_13), (6, .len (c := (.d (.sl 1 ((spell [] (RunD.mk (all.take k) (all.drop k) (acts ++ [(-1)]))).stem.map (slD 1 boolD))))) (n := (spell [] (RunD.mk (all.take k) (all.drop k) (acts ++ [(-1)]))).stem.length) (lenC_map _ _ _)), (8, .cmp (op := .eql) (m := ((spell [] (RunD.mk (all.take k) (all.drop k) (acts ++ [(-1)]))).stem.length : Int)) (n := (k : Int)) (b := true) .i64 (show (((spell [] (RunD.mk (all.take k) (all.drop k) (acts ++ [(-1)]))).stem.length : Int) == (k : Int)) = true from by rw [beq_iff_eq]; simp only [spell, List.length_map, List.length_take]; omega)), (13, .len (c := (.d (.sl 1 ((spell [] (RunD.mk (all.take k) (all.drop k) (acts ++ [(-1)]))).cycle.map (slD 1 boolD))))) (n := (spell [] (RunD.mk (all.take k) (all.drop k) (acts ++ [(-1)]))).cycle.length) (lenC_map _ _ _)), (15, .len (c := (.d (.sl 2 (all.map StD.d)))) (n := all.length) (lenC_map _ _ _)), (17, .sub .i64 (m := (all.length : Int)) (n := (k : Int)) (i64_id (by omega) (by omega))), (18, .cmp (op := .eql) (m := ((spell [] (RunD.mk (all.take k) (all.drop k) (acts ++ [(-1)]))).cycle.length : Int)) (n := ((all.length : Int) - (k : Int))) (b := true) .i64 (show (((spell [] (RunD.mk (all.take k) (all.drop k) (acts ++ [(-1)]))).cycle.length : Int) == ((all.length : Int) - (k : Int))) = true from by rw [beq_iff_eq]; simp only [spell, List.length_map, List.length_drop]; omega))] [(3, .t (.c (.d (.sl 2 (picks.map ziD))))), (4, vp 5 0), (8, vb true), (11, .t (.c (.d (.sl 2 (all.map StD.d))))), (12, .t (.c (.d (.sl 1 ((acts ++ [(-1)]).map intD))))), (18, vp 31 0), (63, .t (.c (.d (.sl 1 (choices.map intD))))), (64, vi .i64 (choices.length : Int)), (65, vi .i64 (q : Int)), (118, vi .i64 (all.length : Int)), (119, vi .i64 (k : Int))] [(5, .box (sysC s)), (31, .box [.d (.sl 1 ((goS s x40 (-1) []).1.locs.map intD)), .d (.sl 2 ((goS s x40 (-1) []).1.vals.map ziD))])] (by kernel_rfl) h ?_; clear h; intro a w h
                  refine wp_ret ?_
                  refine block_r ?_
                  refine then_r ?_
                  refine then_r ?_
                  refine block_r ?_
                  refine then_r ?_
                  refine block_r ?_
                  refine then_r ?_
                  refine then_r ?_
                  refine block_r ?_
                  refine then_r ?_
                  refine retS [.c (.d (.raw (.bool true)))] h Exit.ret (.inl rfl)  rfl ⟨RV.tmp _ _ rfl, trivial⟩ ?_ (by kernel_rfl) (by kernel_rfl)
                  rfl
                 ·have hc48 := hc; clear hc
                  refine wp_skip ?_
                  refine block_n ?_
                  refine then_n ?_
                  refine rS fam0ok 35 [(0, .add .i64 (m := (k : Int)) (n := 1) (i64_id (by omega) (by omega)))] [(3, .t (.c (.d (.sl 2 (picks.map ziD))))), (4, vp 5 0), (11, .t (.c (.own 8 all.length))), (12, .t (.c (.own 32 (acts ++ [(-1)]).length))), (18, vp 31 0), (63, .t (.c (.d (.sl 1 (choices.map intD))))), (64, vi .i64 (choices.length : Int)), (65, vi .i64 (q : Int)), (118, vi .i64 (all.length : Int)), (119, vi .i64 ((k : Int) + 1))] [(5, .box (sysC s)), (8, .row 43 2 (all.map StD.d)), (31, .box [.d (.sl 1 ((goS s x40 (-1) []).1.locs.map intD)), .d (.sl 2 ((goS s x40 (-1) []).1.vals.map ziD))]), (32, .row 3 1 ((acts ++ [(-1)]).map intD))] (by kernel_rfl) h ?_; clear h; intro a w h
                  refine then_n ?_
                  refine roundS (x := k) (y := k + 1) h ?_ ?_ (by kernel_rfl) (by kernel_rfl)
                  ·have := at_lt hx43
                   show k + 1 ≤ all.length
                   omega
                  ·show all.length - (k + 1) < all.length - k
                   have := at_lt hx43; omega
                ·have hc49 := hc; clear hc
                 have hc49' := of_decide_eq_false hc49
                 refine wp_exit ?_
                 refine then_x ?_
                 refine then_x ?_
                 refine inBlock_exit ?_
                 refine then_n ?_
                 refine rS fam0ok 35 [(2, .gen _ _ _ fun _ _ _ _ => Op.buildD (d := 162) (len := 1) (rows := [(goS s x40 (-1) []).1].map StD.d) (rs := [(161, .t (.agg [.d (.sl 1 ((goS s x40 (-1) []).1.locs.map intD)), .d (.sl 2 ((goS s x40 (-1) []).1.vals.map ziD))]))]) kx_3 (.cons (i := 0) (OV.tmp 161 _) (.nil)) (by kernel_rfl) rfl (by simp [StD.d]) (by decide) (by decide)), (3, .gen _ _ _ fun _ _ _ _ => Op.appOD (d := 163) (t := 160) (u := 162) (n := 8) (n' := 35) (len := all.length) (len' := (all ++ [(goS s x40 (-1) []).1]).length) (rows := all.map StD.d) (rows2 := [(goS s x40 (-1) []).1].map StD.d) (rows' := (all ++ [(goS s x40 (-1) []).1]).map StD.d) kn_1 (by first | exact (List.length_map _).symm | simp) (by first | (rw [List.length_append, List.length_map]; done) | simp) (by simp) (by simp [StD.d]) (by first | omega | (simp at *; done) | (simp at *; omega)))] [(3, .t (.c (.d (.sl 2 (picks.map ziD))))), (4, vp 5 0), (11, .t (.c (.own 35 (all ++ [(goS s x40 (-1) []).1]).length))), (12, .t (.c (.own 32 (acts ++ [(-1)]).length))), (63, .t (.c (.d (.sl 1 (choices.map intD))))), (64, vi .i64 (choices.length : Int)), (65, vi .i64 (q : Int))] [(5, .box (sysC s)), (32, .row 3 1 ((acts ++ [(-1)]).map intD)), (35, .row 43 2 ((all ++ [(goS s x40 (-1) []).1]).map StD.d))] (by kernel_rfl) h ?_; clear h; intro a w h
                 refine block_n ?_
                 refine then_n ?_
                 refine rS fam0ok 36 [(0, .add .i64 (m := (q : Int)) (n := 1) (i64_id (by omega) (by omega)))] [(3, .t (.c (.d (.sl 2 (picks.map ziD))))), (4, vp 5 0), (11, .t (.c (.own 35 (all ++ [(goS s x40 (-1) []).1]).length))), (12, .t (.c (.own 32 (acts ++ [(-1)]).length))), (63, .t (.c (.d (.sl 1 (choices.map intD))))), (64, vi .i64 (choices.length : Int)), (65, vi .i64 ((q : Int) + 1))] [(5, .box (sysC s)), (32, .row 3 1 ((acts ++ [(-1)]).map intD)), (35, .row 43 2 ((all ++ [(goS s x40 (-1) []).1]).map StD.d))] (by kernel_rfl) h ?_; clear h; intro a w h
                 refine then_n ?_
                 replace h := renS 35 8 [(3, .t (.c (.d (.sl 2 (picks.map ziD))))), (4, vp 5 0), (11, .t (.c (.own 8 (all ++ [(goS s x40 (-1) []).1]).length))), (12, .t (.c (.own 32 (acts ++ [(-1)]).length))), (63, .t (.c (.d (.sl 1 (choices.map intD))))), (64, vi .i64 (choices.length : Int)), (65, vi .i64 ((q : Int) + 1))] [(5, .box (sysC s)), (32, .row 3 1 ((acts ++ [(-1)]).map intD)), (8, .row 43 2 ((all ++ [(goS s x40 (-1) []).1]).map StD.d))] h (by kernel_rfl) (by kernel_rfl) (by kernel_rfl)
                 replace h := renS 32 9 [(3, .t (.c (.d (.sl 2 (picks.map ziD))))), (4, vp 5 0), (11, .t (.c (.own 8 (all ++ [(goS s x40 (-1) []).1]).length))), (12, .t (.c (.own 9 (acts ++ [(-1)]).length))), (63, .t (.c (.d (.sl 1 (choices.map intD))))), (64, vi .i64 (choices.length : Int)), (65, vi .i64 ((q : Int) + 1))] [(5, .box (sysC s)), (8, .row 43 2 ((all ++ [(goS s x40 (-1) []).1]).map StD.d)), (9, .row 3 1 ((acts ++ [(-1)]).map intD))] h (by kernel_rfl) (by kernel_rfl) (by kernel_rfl)
                 refine roundS (x := (q, all, acts)) (y := (q + 1, (all ++ [(goS s x40 (-1) []).1]), (acts ++ [(-1)]))) h ?_ ?_ (by kernel_rfl) (by kernel_rfl)
                 ·have := at_lt hx17
                  exact ⟨by omega, hW2.more (show all[all.length - 1]? = some x40 from hx40) hle hyO⟩
                 ·show choices.length - (q + 1) < choices.length - q
                  have := at_lt hx17; omega
             ·have hc50 := hc; clear hc
              have hc50' := hc50; (try simp at hc50')
              have hle := goS_leads (show (goS s x40 (-1) (picks.drop q)).2 = true from by simpa using hc50)
              have hyO : StOk (2 + 4 * (q + 1)) (goS s x40 (-1) (picks.drop q)).1 := goS_ok (L := 2) (M := 2 + 4 * q) (i := (-1)) hsO (hW2.ok x40 (List.mem_of_getElem? (show all[all.length - 1]? = some x40 from hx40))) (fun z hz => ⟨((drop_ok hpk q) z hz).1, Nat.le_trans ((drop_ok hpk q) z hz).2 (by omega)⟩) |>.mono (by omega)
              refine wp_skip ?_
              refine then_n ?_
              refine wp_seq ?_
              refine rSeq fam0ok 36 [] [(3, .t (.c (.d (.sl 2 (picks.map ziD))))), (4, vp 5 0), (11, .t (.c (.own 8 all.length))), (12, .t (.c (.own 9 acts.length))), (15, vi .i64 (-1)), (18, vp 31 0), (63, .t (.c (.d (.sl 1 (choices.map intD))))), (64, vi .i64 (choices.length : Int)), (65, vi .i64 (q : Int)), (112, vb (!(goS s x40 (-1) (picks.drop q)).2))] [(5, .box (sysC s)), (8, .row 43 2 (all.map StD.d)), (9, .row 3 1 (acts.map intD)), (31, .box [.d (.sl 1 ((goS s x40 (-1) (picks.drop q)).1.locs.map intD)), .d (.sl 2 ((goS s x40 (-1) (picks.drop q)).1.vals.map ziD))])] (by kernel_rfl) h ?_; clear h; intro a w h
              refine condS (!(goS s x40 (-1) (picks.drop q)).2) h rfl (fun hc => ?_) (fun hc => ?_)
              ·rw [hc50] at hc; cases hc
              ·clear hc
               refine wp_skip ?_
               refine then_n ?_
               refine rSeq fam0ok 36 [(2, .gen _ _ _ fun _ _ _ _ => Op.buildD (d := 115) (len := 1) (rows := [(-1)].map intD) (rs := [(114, vi .i64 (-1))]) tb_0 (.cons (i := 0) (OV.tmp 114 _) (.nil)) (by kernel_rfl) rfl (by simp [intD]) (by decide) (by decide)), (3, .gen _ _ _ fun _ _ _ _ => Op.appOD (d := 116) (t := 113) (u := 115) (n := 9) (n' := 36) (len := acts.length) (len' := (acts ++ [(-1)]).length) (rows := acts.map intD) (rows2 := [(-1)].map intD) (rows' := (acts ++ [(-1)]).map intD) tb_2 (by first | exact (List.length_map _).symm | simp) (by first | (rw [List.length_append, List.length_map]; done) | simp) (by simp) (by simp [intD]) (by first | omega | (simp at *; done) | (simp at *; omega)))] [(3, .t (.c (.d (.sl 2 (picks.map ziD))))), (4, vp 5 0), (11, .t (.c (.own 8 all.length))), (12, .t (.c (.own 36 (acts ++ [(-1)]).length))), (18, vp 31 0), (63, .t (.c (.d (.sl 1 (choices.map intD))))), (64, vi .i64 (choices.length : Int)), (65, vi .i64 (q : Int))] [(5, .box (sysC s)), (8, .row 43 2 (all.map StD.d)), (31, .box [.d (.sl 1 ((goS s x40 (-1) (picks.drop q)).1.locs.map intD)), .d (.sl 2 ((goS s x40 (-1) (picks.drop q)).1.vals.map ziD))]), (36, .row 3 1 ((acts ++ [(-1)]).map intD))] (by kernel_rfl) h ?_; clear h; intro a w h
               refine wp_seq ?_
               refine rSeq fam0ok 37 [] [(3, .t (.c (.d (.sl 2 (picks.map ziD))))), (4, vp 5 0), (11, .t (.c (.own 8 all.length))), (12, .t (.c (.own 36 (acts ++ [(-1)]).length))), (18, vp 31 0), (63, .t (.c (.d (.sl 1 (choices.map intD))))), (64, vi .i64 (choices.length : Int)), (65, vi .i64 (q : Int)), (118, vi .i64 (all.length : Int)), (119, vi .i64 0)] [(5, .box (sysC s)), (8, .row 43 2 (all.map StD.d)), (31, .box [.d (.sl 1 ((goS s x40 (-1) (picks.drop q)).1.locs.map intD)), .d (.sl 2 ((goS s x40 (-1) (picks.drop q)).1.vals.map ziD))]), (36, .row 3 1 ((acts ++ [(-1)]).map intD))] (by kernel_rfl) h ?_; clear h; intro a w h
               refine wp_block ?_
               refine loopS (ι := (Nat)) (fun (z_ : (Nat)) => match z_ with | k => k ≤ all.length)
                 (fun (z_ : (Nat)) => match z_ with | k => [(3, .t (.c (.d (.sl 2 (picks.map ziD))))), (4, vp 5 0), (11, .t (.c (.own 8 all.length))), (12, .t (.c (.own 36 (acts ++ [(-1)]).length))), (18, vp 31 0), (63, .t (.c (.d (.sl 1 (choices.map intD))))), (64, vi .i64 (choices.length : Int)), (65, vi .i64 (q : Int)), (118, vi .i64 (all.length : Int)), (119, vi .i64 (k : Int))])
                 (fun (z_ : (Nat)) => match z_ with | k => [(5, .box (sysC s)), (8, .row 43 2 (all.map StD.d)), (31, .box [.d (.sl 1 ((goS s x40 (-1) (picks.drop q)).1.locs.map intD)), .d (.sl 2 ((goS s x40 (-1) (picks.drop q)).1.vals.map ziD))]), (36, .row 3 1 ((acts ++ [(-1)]).map intD))])
                 (fun (z_ : (Nat)) => match z_ with | k => all.length - k) 0 ?_ h (by kernel_rfl) (by kernel_rfl) ?_
               ·exact Nat.zero_le _
               ·clear h; rintro k a w hI h
                change St _ (F.of [(3, .t (.c (.d (.sl 2 (picks.map ziD))))), (4, vp 5 0), (11, .t (.c (.own 8 all.length))), (12, .t (.c (.own 36 (acts ++ [(-1)]).length))), (18, vp 31 0), (63, .t (.c (.d (.sl 1 (choices.map intD))))), (64, vi .i64 (choices.length : Int)), (65, vi .i64 (q : Int)), (118, vi .i64 (all.length : Int)), (119, vi .i64 (k : Int))] [(5, .box (sysC s)), (8, .row 43 2 (all.map StD.d)), (31, .box [.d (.sl 1 ((goS s x40 (-1) (picks.drop q)).1.locs.map intD)), .d (.sl 2 ((goS s x40 (-1) (picks.drop q)).1.vals.map ziD))]), (36, .row 3 1 ((acts ++ [(-1)]).map intD))]) a w at h
                refine rSeq fam0ok 37 [] [(3, .t (.c (.d (.sl 2 (picks.map ziD))))), (4, vp 5 0), (11, .t (.c (.own 8 all.length))), (12, .t (.c (.own 36 (acts ++ [(-1)]).length))), (18, vp 31 0), (63, .t (.c (.d (.sl 1 (choices.map intD))))), (64, vi .i64 (choices.length : Int)), (65, vi .i64 (q : Int)), (118, vi .i64 (all.length : Int)), (119, vi .i64 (k : Int)), (120, vb (decide ((k : Int) < (all.length : Int))))] [(5, .box (sysC s)), (8, .row 43 2 (all.map StD.d)), (31, .box [.d (.sl 1 ((goS s x40 (-1) (picks.drop q)).1.locs.map intD)), .d (.sl 2 ((goS s x40 (-1) (picks.drop q)).1.vals.map ziD))]), (36, .row 3 1 ((acts ++ [(-1)]).map intD))] (by kernel_rfl) h ?_; clear h; intro a w h
                refine wp_seq ?_
                refine condS (decide ((k : Int) < (all.length : Int))) h rfl (fun hc => ?_) (fun hc => ?_)
                ·have hc51 := hc; clear hc
                 have hc51' := of_decide_eq_true hc51
                 refine wp_skip ?_
                 refine then_n ?_
                 refine wp_seq ?_
                 refine wp_block ?_
                 refine rSeq fam0ok 37 [] [(3, .t (.c (.d (.sl 2 (picks.map ziD))))), (4, vp 5 0), (11, .t (.c (.own 8 all.length))), (12, .t (.c (.own 36 (acts ++ [(-1)]).length))), (18, vp 31 0), (20, vi .i64 (k : Int)), (63, .t (.c (.d (.sl 1 (choices.map intD))))), (64, vi .i64 (choices.length : Int)), (65, vi .i64 (q : Int)), (118, vi .i64 (all.length : Int)), (119, vi .i64 (k : Int))] [(5, .box (sysC s)), (8, .row 43 2 (all.map StD.d)), (31, .box [.d (.sl 1 ((goS s x40 (-1) (picks.drop q)).1.locs.map intD)), .d (.sl 2 ((goS s x40 (-1) (picks.drop q)).1.vals.map ziD))]), (36, .row 3 1 ((acts ++ [(-1)]).map intD))] (by kernel_rfl) h ?_; clear h; intro a w h
                 obtain ⟨x47, hx47⟩ : ∃ z_ : StD, all[k]? = some z_ := ⟨_, List.getElem?_eq_getElem (by first | omega | (simp at *; omega))⟩
                 refine rSeq fam0ok 37 [(2, .gen _ _ _ fun _ _ _ _ => Op.idxO (d := 124) (t := 122) (k := .i64) (n := 8) (len := all.length) (i := k) kn_0 (by first | omega | (simp at *; omega)) (OV.tmp 123 _)), (3, .gen _ _ _ fun _ _ _ _ => Op.loadR_agg (d := 125) (t := 124) (n := 8) (i := k) (fo := 0) (rty := 43) (es := 2) (xs := [.sl 1 (x47.locs.map intD), .sl 2 (x47.vals.map ziD)]) kk_5 rfl (map_at hx47 (f := StD.d)) rfl rfl), (5, .call (SSame x47 (goS s x40 (-1) (picks.drop q)).1 (M := 2 + 4 * (q + 1)) (by omega) ((hW2.ok x47 (List.mem_of_getElem? hx47)).mono (by omega)) hyO) km_1)] [(3, .t (.c (.d (.sl 2 (picks.map ziD))))), (4, vp 5 0), (11, .t (.c (.own 8 all.length))), (12, .t (.c (.own 36 (acts ++ [(-1)]).length))), (18, vp 31 0), (20, vi .i64 (k : Int)), (63, .t (.c (.d (.sl 1 (choices.map intD))))), (64, vi .i64 (choices.length : Int)), (65, vi .i64 (q : Int)), (118, vi .i64 (all.length : Int)), (119, vi .i64 (k : Int)), (127, vb (sameS x47 (goS s x40 (-1) (picks.drop q)).1))] [(5, .box (sysC s)), (8, .row 43 2 (all.map StD.d)), (31, .box [.d (.sl 1 ((goS s x40 (-1) (picks.drop q)).1.locs.map intD)), .d (.sl 2 ((goS s x40 (-1) (picks.drop q)).1.vals.map ziD))]), (36, .row 3 1 ((acts ++ [(-1)]).map intD))] (by kernel_rfl) h ?_; clear h; intro a w h
                 refine condS (sameS x47 (goS s x40 (-1) (picks.drop q)).1) h rfl (fun hc => ?_) (fun hc => ?_)
                 ·have hc52 := hc; clear hc
                  have hrt := hW2.closes hfi (show all[all.length - 1]? = some x40 from hx40) hle hx47 hc52
                  have hqk := at_lt hx47
                  replace h := pubS 8 2 43 (all.map StD.d) [(3, .t (.c (.d (.sl 2 (picks.map ziD))))), (4, vp 5 0), (11, .t (.c (.d (.sl 2 (all.map StD.d))))), (12, .t (.c (.own 36 (acts ++ [(-1)]).length))), (18, vp 31 0), (20, vi .i64 (k : Int)), (63, .t (.c (.d (.sl 1 (choices.map intD))))), (64, vi .i64 (choices.length : Int)), (65, vi .i64 (q : Int)), (118, vi .i64 (all.length : Int)), (119, vi .i64 (k : Int)), (127, vb (sameS x47 (goS s x40 (-1) (picks.drop q)).1))] [(5, .box (sysC s)), (31, .box [.d (.sl 1 ((goS s x40 (-1) (picks.drop q)).1.locs.map intD)), .d (.sl 2 ((goS s x40 (-1) (picks.drop q)).1.vals.map ziD))]), (36, .row 3 1 ((acts ++ [(-1)]).map intD))] h rfl (show AllEq _ [all.length] from ⟨by first | exact (List.length_map _).symm | (simp; done) | (simp; omega), trivial⟩) trivial (by kernel_rfl) (by kernel_rfl)
                  replace h := pubS 36 1 3 ((acts ++ [(-1)]).map intD) [(3, .t (.c (.d (.sl 2 (picks.map ziD))))), (4, vp 5 0), (11, .t (.c (.d (.sl 2 (all.map StD.d))))), (12, .t (.c (.d (.sl 1 ((acts ++ [(-1)]).map intD))))), (18, vp 31 0), (20, vi .i64 (k : Int)), (63, .t (.c (.d (.sl 1 (choices.map intD))))), (64, vi .i64 (choices.length : Int)), (65, vi .i64 (q : Int)), (118, vi .i64 (all.length : Int)), (119, vi .i64 (k : Int)), (127, vb (sameS x47 (goS s x40 (-1) (picks.drop q)).1))] [(5, .box (sysC s)), (31, .box [.d (.sl 1 ((goS s x40 (-1) (picks.drop q)).1.locs.map intD)), .d (.sl 2 ((goS s x40 (-1) (picks.drop q)).1.vals.map ziD))])] h rfl (show AllEq _ [(acts ++ [(-1)]).length] from ⟨by first | exact (List.length_map _).symm | (simp; done) | (simp; omega), trivial⟩) trivial (by kernel_rfl) (by kernel_rfl)
                  refine rSeq fam0ok 37 [(3, .gen _ _ _ fun _ _ _ _ => Op.sliceDM (d := 131) (t := 128) (h := k) (m := k) (k := .i64) (k' := .i64) (rows := all.map StD.d) (rows' := (all.take k).map StD.d) kn_0 (OV.tmp 129 _) (OV.tmp 130 _) (by omega) (by rw [List.length_map]; omega) (by rw [List.map_take])), (6, .gen _ _ _ fun _ _ _ _ => Op.sliceD (d := 134) (t := 132) (l := k) (h := all.length) (rows := all.map StD.d) (rows' := (all.drop k).map StD.d) kn_0 (BO.yes (k := .i64) (i := k) _ (OV.tmp 133 _)) (by rw [List.length_map]; exact BO.no _) (by first | omega | (simp at *; omega)) (by first | omega | (simp only [List.length_map]; omega) | (simp at *; omega)) (by first | (simp [List.map_drop]; done) | (rw [List.take_of_length_le (by simp <;> omega)]; simp [List.map_drop])))] [(3, .t (.c (.d (.sl 2 (picks.map ziD))))), (4, vp 5 0), (11, .t (.c (.d (.sl 2 (all.map StD.d))))), (12, .t (.c (.d (.sl 1 ((acts ++ [(-1)]).map intD))))), (18, vp 31 0), (20, vi .i64 (k : Int)), (21, vp 37 0), (63, .t (.c (.d (.sl 1 (choices.map intD))))), (64, vi .i64 (choices.length : Int)), (65, vi .i64 (q : Int)), (118, vi .i64 (all.length : Int)), (119, vi .i64 (k : Int))] [(5, .box (sysC s)), (31, .box [.d (.sl 1 ((goS s x40 (-1) (picks.drop q)).1.locs.map intD)), .d (.sl 2 ((goS s x40 (-1) (picks.drop q)).1.vals.map ziD))]), (37, .box ([.d (.sl 2 ((all.take k).map StD.d)), .d (.sl 2 ((all.drop k).map StD.d)), .d (.sl 1 ((acts ++ [(-1)]).map intD))]))] (by kernel_rfl) h ?_; clear h; intro a w h
                  refine rSeq fam0ok 38 [(1, .call (Fn.argw (SSpell [] (RunD.mk (all.take k) (all.drop k) (acts ++ [(-1)])) (L := 2) (M := 2 + 4 * 12) (by decide) (fun p hp => by cases hp) (by decide) ⟨by show (all.take k).length + (all.drop k).length ≤ 20; rw [List.length_take, List.length_drop]; omega, fun z hz => (hW2.ok z (List.mem_of_mem_take hz)).mono (by omega), fun z hz => (hW2.ok z (List.mem_of_mem_drop hz)).mono (by omega)⟩) (.cons _ _ _ _ (.c _ _ (.nil _)) (.cons _ _ _ _ (.refl _) .nil))) kx_6)] [(3, .t (.c (.d (.sl 2 (picks.map ziD))))), (4, vp 5 0), (11, .t (.c (.d (.sl 2 (all.map StD.d))))), (12, .t (.c (.d (.sl 1 ((acts ++ [(-1)]).map intD))))), (18, vp 31 0), (20, vi .i64 (k : Int)), (21, vp 37 0), (22, vp 38 0), (63, .t (.c (.d (.sl 1 (choices.map intD))))), (64, vi .i64 (choices.length : Int)), (65, vi .i64 (q : Int)), (118, vi .i64 (all.length : Int)), (119, vi .i64 (k : Int))] [(5, .box (sysC s)), (31, .box [.d (.sl 1 ((goS s x40 (-1) (picks.drop q)).1.locs.map intD)), .d (.sl 2 ((goS s x40 (-1) (picks.drop q)).1.vals.map ziD))]), (37, .box ([.d (.sl 2 ((all.take k).map StD.d)), .d (.sl 2 ((all.drop k).map StD.d)), .d (.sl 1 ((acts ++ [(-1)]).map intD))])), (38, .box ([.d (.sl 1 ((spell [] (RunD.mk (all.take k) (all.drop k) (acts ++ [(-1)]))).stem.map (slD 1 boolD))), .d (.sl 1 ((spell [] (RunD.mk (all.take k) (all.drop k) (acts ++ [(-1)]))).cycle.map (slD 1 boolD)))]))] (by kernel_rfl) h ?_; clear h; intro a w h
                  refine rSeq fam0ok 39 [(2, .call (Fn.cast (SRight s (RunD.mk (all.take k) (all.drop k) (acts ++ [(-1)])) (L := 2) (M := 2 + 4 * 12) (by decide) hsO ⟨by show (all.take k).length + (all.drop k).length ≤ 20; rw [List.length_take, List.length_drop]; omega, fun z hz => (hW2.ok z (List.mem_of_mem_take hz)).mono (by omega), fun z hz => (hW2.ok z (List.mem_of_mem_drop hz)).mono (by omega)⟩) (congrArg vb hrt)) kx_13), (6, .len (c := (.d (.sl 1 ((spell [] (RunD.mk (all.take k) (all.drop k) (acts ++ [(-1)]))).stem.map (slD 1 boolD))))) (n := (spell [] (RunD.mk (all.take k) (all.drop k) (acts ++ [(-1)]))).stem.length) (lenC_map _ _ _)), (8, .cmp (op := .eql) (m := ((spell [] (RunD.mk (all.take k) (all.drop k) (acts ++ [(-1)]))).stem.length : Int)) (n := (k : Int)) (b := true) .i64 (show (((spell [] (RunD.mk (all.take k) (all.drop k) (acts ++ [(-1)]))).stem.length : Int) == (k : Int)) = true from by rw [beq_iff_eq]; simp only [spell, List.length_map, List.length_take]; omega)), (13, .len (c := (.d (.sl 1 ((spell [] (RunD.mk (all.take k) (all.drop k) (acts ++ [(-1)]))).cycle.map (slD 1 boolD))))) (n := (spell [] (RunD.mk (all.take k) (all.drop k) (acts ++ [(-1)]))).cycle.length) (lenC_map _ _ _)), (15, .len (c := (.d (.sl 2 (all.map StD.d)))) (n := all.length) (lenC_map _ _ _)), (17, .sub .i64 (m := (all.length : Int)) (n := (k : Int)) (i64_id (by omega) (by omega))), (18, .cmp (op := .eql) (m := ((spell [] (RunD.mk (all.take k) (all.drop k) (acts ++ [(-1)]))).cycle.length : Int)) (n := ((all.length : Int) - (k : Int))) (b := true) .i64 (show (((spell [] (RunD.mk (all.take k) (all.drop k) (acts ++ [(-1)]))).cycle.length : Int) == ((all.length : Int) - (k : Int))) = true from by rw [beq_iff_eq]; simp only [spell, List.length_map, List.length_drop]; omega))] [(3, .t (.c (.d (.sl 2 (picks.map ziD))))), (4, vp 5 0), (8, vb true), (11, .t (.c (.d (.sl 2 (all.map StD.d))))), (12, .t (.c (.d (.sl 1 ((acts ++ [(-1)]).map intD))))), (18, vp 31 0), (63, .t (.c (.d (.sl 1 (choices.map intD))))), (64, vi .i64 (choices.length : Int)), (65, vi .i64 (q : Int)), (118, vi .i64 (all.length : Int)), (119, vi .i64 (k : Int))] [(5, .box (sysC s)), (31, .box [.d (.sl 1 ((goS s x40 (-1) (picks.drop q)).1.locs.map intD)), .d (.sl 2 ((goS s x40 (-1) (picks.drop q)).1.vals.map ziD))])] (by kernel_rfl) h ?_; clear h; intro a w h
                  refine wp_ret ?_
                  refine block_r ?_
                  refine then_r ?_
                  refine then_r ?_
                  refine block_r ?_
                  refine then_r ?_
                  refine block_r ?_
                  refine then_r ?_
                  refine then_r ?_
                  refine block_r ?_
                  refine then_r ?_
                  refine retS [.c (.d (.raw (.bool true)))] h Exit.ret (.inl rfl)  rfl ⟨RV.tmp _ _ rfl, trivial⟩ ?_ (by kernel_rfl) (by kernel_rfl)
                  rfl
                 ·have hc53 := hc; clear hc
                  refine wp_skip ?_
                  refine block_n ?_
                  refine then_n ?_
                  refine rS fam0ok 39 [(0, .add .i64 (m := (k : Int)) (n := 1) (i64_id (by omega) (by omega)))] [(3, .t (.c (.d (.sl 2 (picks.map ziD))))), (4, vp 5 0), (11, .t (.c (.own 8 all.length))), (12, .t (.c (.own 36 (acts ++ [(-1)]).length))), (18, vp 31 0), (63, .t (.c (.d (.sl 1 (choices.map intD))))), (64, vi .i64 (choices.length : Int)), (65, vi .i64 (q : Int)), (118, vi .i64 (all.length : Int)), (119, vi .i64 ((k : Int) + 1))] [(5, .box (sysC s)), (8, .row 43 2 (all.map StD.d)), (31, .box [.d (.sl 1 ((goS s x40 (-1) (picks.drop q)).1.locs.map intD)), .d (.sl 2 ((goS s x40 (-1) (picks.drop q)).1.vals.map ziD))]), (36, .row 3 1 ((acts ++ [(-1)]).map intD))] (by kernel_rfl) h ?_; clear h; intro a w h
                  refine then_n ?_
                  refine roundS (x := k) (y := k + 1) h ?_ ?_ (by kernel_rfl) (by kernel_rfl)
                  ·have := at_lt hx47
                   show k + 1 ≤ all.length
                   omega
                  ·show all.length - (k + 1) < all.length - k
                   have := at_lt hx47; omega
                ·have hc54 := hc; clear hc
                 have hc54' := of_decide_eq_false hc54
                 refine wp_exit ?_
                 refine then_x ?_
                 refine then_x ?_
                 refine inBlock_exit ?_
                 refine then_n ?_
                 refine rS fam0ok 39 [(2, .gen _ _ _ fun _ _ _ _ => Op.buildD (d := 162) (len := 1) (rows := [(goS s x40 (-1) (picks.drop q)).1].map StD.d) (rs := [(161, .t (.agg [.d (.sl 1 ((goS s x40 (-1) (picks.drop q)).1.locs.map intD)), .d (.sl 2 ((goS s x40 (-1) (picks.drop q)).1.vals.map ziD))]))]) kx_3 (.cons (i := 0) (OV.tmp 161 _) (.nil)) (by kernel_rfl) rfl (by simp [StD.d]) (by decide) (by decide)), (3, .gen _ _ _ fun _ _ _ _ => Op.appOD (d := 163) (t := 160) (u := 162) (n := 8) (n' := 39) (len := all.length) (len' := (all ++ [(goS s x40 (-1) (picks.drop q)).1]).length) (rows := all.map StD.d) (rows2 := [(goS s x40 (-1) (picks.drop q)).1].map StD.d) (rows' := (all ++ [(goS s x40 (-1) (picks.drop q)).1]).map StD.d) kn_1 (by first | exact (List.length_map _).symm | simp) (by first | (rw [List.length_append, List.length_map]; done) | simp) (by simp) (by simp [StD.d]) (by first | omega | (simp at *; done) | (simp at *; omega)))] [(3, .t (.c (.d (.sl 2 (picks.map ziD))))), (4, vp 5 0), (11, .t (.c (.own 39 (all ++ [(goS s x40 (-1) (picks.drop q)).1]).length))), (12, .t (.c (.own 36 (acts ++ [(-1)]).length))), (63, .t (.c (.d (.sl 1 (choices.map intD))))), (64, vi .i64 (choices.length : Int)), (65, vi .i64 (q : Int))] [(5, .box (sysC s)), (36, .row 3 1 ((acts ++ [(-1)]).map intD)), (39, .row 43 2 ((all ++ [(goS s x40 (-1) (picks.drop q)).1]).map StD.d))] (by kernel_rfl) h ?_; clear h; intro a w h
                 refine block_n ?_
                 refine then_n ?_
                 refine rS fam0ok 40 [(0, .add .i64 (m := (q : Int)) (n := 1) (i64_id (by omega) (by omega)))] [(3, .t (.c (.d (.sl 2 (picks.map ziD))))), (4, vp 5 0), (11, .t (.c (.own 39 (all ++ [(goS s x40 (-1) (picks.drop q)).1]).length))), (12, .t (.c (.own 36 (acts ++ [(-1)]).length))), (63, .t (.c (.d (.sl 1 (choices.map intD))))), (64, vi .i64 (choices.length : Int)), (65, vi .i64 ((q : Int) + 1))] [(5, .box (sysC s)), (36, .row 3 1 ((acts ++ [(-1)]).map intD)), (39, .row 43 2 ((all ++ [(goS s x40 (-1) (picks.drop q)).1]).map StD.d))] (by kernel_rfl) h ?_; clear h; intro a w h
                 refine then_n ?_
                 replace h := renS 39 8 [(3, .t (.c (.d (.sl 2 (picks.map ziD))))), (4, vp 5 0), (11, .t (.c (.own 8 (all ++ [(goS s x40 (-1) (picks.drop q)).1]).length))), (12, .t (.c (.own 36 (acts ++ [(-1)]).length))), (63, .t (.c (.d (.sl 1 (choices.map intD))))), (64, vi .i64 (choices.length : Int)), (65, vi .i64 ((q : Int) + 1))] [(5, .box (sysC s)), (36, .row 3 1 ((acts ++ [(-1)]).map intD)), (8, .row 43 2 ((all ++ [(goS s x40 (-1) (picks.drop q)).1]).map StD.d))] h (by kernel_rfl) (by kernel_rfl) (by kernel_rfl)
                 replace h := renS 36 9 [(3, .t (.c (.d (.sl 2 (picks.map ziD))))), (4, vp 5 0), (11, .t (.c (.own 8 (all ++ [(goS s x40 (-1) (picks.drop q)).1]).length))), (12, .t (.c (.own 9 (acts ++ [(-1)]).length))), (63, .t (.c (.d (.sl 1 (choices.map intD))))), (64, vi .i64 (choices.length : Int)), (65, vi .i64 ((q : Int) + 1))] [(5, .box (sysC s)), (8, .row 43 2 ((all ++ [(goS s x40 (-1) (picks.drop q)).1]).map StD.d)), (9, .row 3 1 ((acts ++ [(-1)]).map intD))] h (by kernel_rfl) (by kernel_rfl) (by kernel_rfl)
                 refine roundS (x := (q, all, acts)) (y := (q + 1, (all ++ [(goS s x40 (-1) (picks.drop q)).1]), (acts ++ [(-1)]))) h ?_ ?_ (by kernel_rfl) (by kernel_rfl)
                 ·have := at_lt hx17
                  exact ⟨by omega, hW2.more (show all[all.length - 1]? = some x40 from hx40) hle hyO⟩
                 ·show choices.length - (q + 1) < choices.length - q
                  have := at_lt hx17; omega
            ·have hc55 := hc; clear hc
             have hc55' := of_decide_eq_false hc55
             refine wp_skip ?_
             refine then_n ?_
             obtain ⟨x51, hx51⟩ : ∃ z_ : StD, all[all.length - 1]? = some z_ := ⟨_, List.getElem?_eq_getElem (by omega)⟩
             refine rSeq fam0ok 40 [(3, .gen _ _ _ fun _ _ _ _ => Op.arith (op := .sub) (d := 91) (xt := 3) (yt := 3) (k := .i64) (m := (all.length : Int)) (n := 1) (r := ((all.length - 1 : Nat) : Int)) (OV.tmp 90 _) (OV.const (.int .i64 1) rfl) (.inr (.inl ⟨rfl, (by omega)⟩)) (i64_id (by omega) (by omega))), (4, .gen _ _ _ fun _ _ _ _ => Op.idxO (d := 92) (t := 88) (k := .i64) (n := 8) (len := all.length) (i := (all.length - 1)) kn_0 (by first | omega | (simp at *; omega)) (OV.tmp 91 _)), (5, .gen _ _ _ fun _ _ _ _ => Op.loadR_agg (d := 93) (t := 92) (n := 8) (i := (all.length - 1)) (fo := 0) (rty := 43) (es := 2) (xs := [.sl 1 (x51.locs.map intD), .sl 2 (x51.vals.map ziD)]) kk_5 rfl (map_at hx51 (f := StD.d)) rfl rfl)] [(3, .t (.c (.d (.sl 2 (picks.map ziD))))), (4, vp 5 0), (11, .t (.c (.own 8 all.length))), (12, .t (.c (.own 9 acts.length))), (15, vi .i64 (-1)), (16, .t (.c (.d (.sl 2 (picks.map ziD))))), (17, vp 40 0), (63, .t (.c (.d (.sl 1 (choices.map intD))))), (64, vi .i64 (choices.length : Int)), (65, vi .i64 (q : Int))] [(5, .box (sysC s)), (8, .row 43 2 (all.map StD.d)), (9, .row 3 1 (acts.map intD)), (40, .box [.d (.sl 1 (x51.locs.map intD)), .d (.sl 2 (x51.vals.map ziD))])] (by kernel_rfl) h ?_; clear h; intro a w h
             refine rSeq fam0ok 41 [(4, .call (SGo s x51 (-1) picks (L := 2) (M := 2 + 4 * q) (by omega) hsO (hW2.ok x51 (List.mem_of_getElem? (show all[all.length - 1]? = some x51 from hx51))) (fun z hz => ⟨(hpk z hz).1, Nat.le_trans (hpk z hz).2 (by omega)⟩)) km_9)] [(3, .t (.c (.d (.sl 2 (picks.map ziD))))), (4, vp 5 0), (11, .t (.c (.own 8 all.length))), (12, .t (.c (.own 9 acts.length))), (15, vi .i64 (-1)), (17, vp 40 0), (18, vp 41 0), (19, vb (goS s x51 (-1) picks).2), (63, .t (.c (.d (.sl 1 (choices.map intD))))), (64, vi .i64 (choices.length : Int)), (65, vi .i64 (q : Int))] [(5, .box (sysC s)), (8, .row 43 2 (all.map StD.d)), (9, .row 3 1 (acts.map intD)), (40, .box [.d (.sl 1 (x51.locs.map intD)), .d (.sl 2 (x51.vals.map ziD))]), (41, .box [.d (.sl 1 ((goS s x51 (-1) picks).1.locs.map intD)), .d (.sl 2 ((goS s x51 (-1) picks).1.vals.map ziD))])] (by kernel_rfl) h ?_; clear h; intro a w h
             refine wp_seq ?_
             refine rSeq fam0ok 42 [] [(3, .t (.c (.d (.sl 2 (picks.map ziD))))), (4, vp 5 0), (11, .t (.c (.own 8 all.length))), (12, .t (.c (.own 9 acts.length))), (15, vi .i64 (-1)), (17, vp 40 0), (18, vp 41 0), (19, vb (goS s x51 (-1) picks).2), (63, .t (.c (.d (.sl 1 (choices.map intD))))), (64, vi .i64 (choices.length : Int)), (65, vi .i64 (q : Int)), (103, vb (!(goS s x51 (-1) picks).2))] [(5, .box (sysC s)), (8, .row 43 2 (all.map StD.d)), (9, .row 3 1 (acts.map intD)), (40, .box [.d (.sl 1 (x51.locs.map intD)), .d (.sl 2 (x51.vals.map ziD))]), (41, .box [.d (.sl 1 ((goS s x51 (-1) picks).1.locs.map intD)), .d (.sl 2 ((goS s x51 (-1) picks).1.vals.map ziD))])] (by kernel_rfl) h ?_; clear h; intro a w h
             refine condS (!(goS s x51 (-1) picks).2) h rfl (fun hc => ?_) (fun hc => ?_)
             ·have hc56 := hc; clear hc
              have hc56' := hc56; (try simp at hc56')
              refine rSeq fam0ok 42 [] [(3, .t (.c (.d (.sl 2 (picks.map ziD))))), (4, vp 5 0), (11, .t (.c (.own 8 all.length))), (12, .t (.c (.own 9 acts.length))), (15, vi .i64 (-1)), (17, vp 40 0), (18, vp 41 0), (19, vb (goS s x51 (-1) picks).2), (63, .t (.c (.d (.sl 1 (choices.map intD))))), (64, vi .i64 (choices.length : Int)), (65, vi .i64 (q : Int))] [(5, .box (sysC s)), (8, .row 43 2 (all.map StD.d)), (9, .row 3 1 (acts.map intD)), (40, .box [.d (.sl 1 (x51.locs.map intD)), .d (.sl 2 (x51.vals.map ziD))]), (41, .box [.d (.sl 1 ((goS s x51 (-1) picks).1.locs.map intD)), .d (.sl 2 ((goS s x51 (-1) picks).1.vals.map ziD))])] (by kernel_rfl) h ?_; clear h; intro a w h
              refine rS fam0ok 42 [(3, .call (Fn.argw (SGo s x51 (-1) [] (L := 2) (M := 2 + 4 * q) (by omega) hsO (hW2.ok x51 (List.mem_of_getElem? (show all[all.length - 1]? = some x51 from hx51))) (fun z hz => by cases hz)) (.cons _ _ _ _ (.refl _) (.cons _ _ _ _ (.refl _) (.cons _ _ _ _ (.refl _) (.cons _ _ _ _ (.c _ _ (.nil _)) .nil))))) km_9)] [(3, .t (.c (.d (.sl 2 (picks.map ziD))))), (4, vp 5 0), (11, .t (.c (.own 8 all.length))), (12, .t (.c (.own 9 acts.length))), (15, vi .i64 (-1)), (18, vp 41 0), (19, vb (goS s x51 (-1) []).2), (63, .t (.c (.d (.sl 1 (choices.map intD))))), (64, vi .i64 (choices.length : Int)), (65, vi .i64 (q : Int))] [(5, .box (sysC s)), (8, .row 43 2 (all.map StD.d)), (9, .row 3 1 (acts.map intD)), (41, .box [.d (.sl 1 ((goS s x51 (-1) []).1.locs.map intD)), .d (.sl 2 ((goS s x51 (-1) []).1.vals.map ziD))])] (by kernel_rfl) h ?_; clear h; intro a w h
              refine then_n ?_
              refine wp_seq ?_
              refine rSeq fam0ok 42 [] [(3, .t (.c (.d (.sl 2 (picks.map ziD))))), (4, vp 5 0), (11, .t (.c (.own 8 all.length))), (12, .t (.c (.own 9 acts.length))), (15, vi .i64 (-1)), (18, vp 41 0), (63, .t (.c (.d (.sl 1 (choices.map intD))))), (64, vi .i64 (choices.length : Int)), (65, vi .i64 (q : Int)), (112, vb (!(goS s x51 (-1) []).2))] [(5, .box (sysC s)), (8, .row 43 2 (all.map StD.d)), (9, .row 3 1 (acts.map intD)), (41, .box [.d (.sl 1 ((goS s x51 (-1) []).1.locs.map intD)), .d (.sl 2 ((goS s x51 (-1) []).1.vals.map ziD))])] (by kernel_rfl) h ?_; clear h; intro a w h
              refine condS (!(goS s x51 (-1) []).2) h rfl (fun hc => ?_) (fun hc => ?_)
              ·have hc57 := hc; clear hc
               have hc57' := hc57; (try simp at hc57')
               refine wp_exit ?_
               refine then_x ?_
               refine inBlock_exit ?_
               refine then_n ?_
               refine rS fam0ok 42 [(0, .add .i64 (m := (q : Int)) (n := 1) (i64_id (by omega) (by omega)))] [(3, .t (.c (.d (.sl 2 (picks.map ziD))))), (4, vp 5 0), (11, .t (.c (.own 8 all.length))), (12, .t (.c (.own 9 acts.length))), (63, .t (.c (.d (.sl 1 (choices.map intD))))), (64, vi .i64 (choices.length : Int)), (65, vi .i64 ((q : Int) + 1))] [(5, .box (sysC s)), (8, .row 43 2 (all.map StD.d)), (9, .row 3 1 (acts.map intD))] (by kernel_rfl) h ?_; clear h; intro a w h
               refine then_n ?_
               refine roundS (x := (q, all, acts)) (y := (q + 1, all, acts)) h ?_ ?_ (by kernel_rfl) (by kernel_rfl)
               ·have := at_lt hx17
                exact ⟨by omega, hW2.skip⟩
               ·show choices.length - (q + 1) < choices.length - q
                have := at_lt hx17; omega
              ·have hc58 := hc; clear hc
               have hc58' := hc58; (try simp at hc58')
               have hle := goS_leads (show (goS s x51 (-1) []).2 = true from by simpa using hc58)
               have hyO : StOk (2 + 4 * (q + 1)) (goS s x51 (-1) []).1 := goS_ok (L := 2) (M := 2 + 4 * q) (i := (-1)) hsO (hW2.ok x51 (List.mem_of_getElem? (show all[all.length - 1]? = some x51 from hx51))) (fun z hz => by cases hz) |>.mono (by omega)
               refine wp_skip ?_
               refine then_n ?_
               refine rSeq fam0ok 42 [(2, .gen _ _ _ fun _ _ _ _ => Op.buildD (d := 115) (len := 1) (rows := [(-1)].map intD) (rs := [(114, vi .i64 (-1))]) tb_0 (.cons (i := 0) (OV.tmp 114 _) (.nil)) (by kernel_rfl) rfl (by simp [intD]) (by decide) (by decide)), (3, .gen _ _ _ fun _ _ _ _ => Op.appOD (d := 116) (t := 113) (u := 115) (n := 9) (n' := 42) (len := acts.length) (len' := (acts ++ [(-1)]).length) (rows := acts.map intD) (rows2 := [(-1)].map intD) (rows' := (acts ++ [(-1)]).map intD) tb_2 (by first | exact (List.length_map _).symm | simp) (by first | (rw [List.length_append, List.length_map]; done) | simp) (by simp) (by simp [intD]) (by first | omega | (simp at *; done) | (simp at *; omega)))] [(3, .t (.c (.d (.sl 2 (picks.map ziD))))), (4, vp 5 0), (11, .t (.c (.own 8 all.length))), (12, .t (.c (.own 42 (acts ++ [(-1)]).length))), (18, vp 41 0), (63, .t (.c (.d (.sl 1 (choices.map intD))))), (64, vi .i64 (choices.length : Int)), (65, vi .i64 (q : Int))] [(5, .box (sysC s)), (8, .row 43 2 (all.map StD.d)), (41, .box [.d (.sl 1 ((goS s x51 (-1) []).1.locs.map intD)), .d (.sl 2 ((goS s x51 (-1) []).1.vals.map ziD))]), (42, .row 3 1 ((acts ++ [(-1)]).map intD))] (by kernel_rfl) h ?_; clear h; intro a w h
               refine wp_seq ?_
               refine rSeq fam0ok 43 [] [(3, .t (.c (.d (.sl 2 (picks.map ziD))))), (4, vp 5 0), (11, .t (.c (.own 8 all.length))), (12, .t (.c (.own 42 (acts ++ [(-1)]).length))), (18, vp 41 0), (63, .t (.c (.d (.sl 1 (choices.map intD))))), (64, vi .i64 (choices.length : Int)), (65, vi .i64 (q : Int)), (118, vi .i64 (all.length : Int)), (119, vi .i64 0)] [(5, .box (sysC s)), (8, .row 43 2 (all.map StD.d)), (41, .box [.d (.sl 1 ((goS s x51 (-1) []).1.locs.map intD)), .d (.sl 2 ((goS s x51 (-1) []).1.vals.map ziD))]), (42, .row 3 1 ((acts ++ [(-1)]).map intD))] (by kernel_rfl) h ?_; clear h; intro a w h
               refine wp_block ?_
               refine loopS (ι := (Nat)) (fun (z_ : (Nat)) => match z_ with | k => k ≤ all.length)
                 (fun (z_ : (Nat)) => match z_ with | k => [(3, .t (.c (.d (.sl 2 (picks.map ziD))))), (4, vp 5 0), (11, .t (.c (.own 8 all.length))), (12, .t (.c (.own 42 (acts ++ [(-1)]).length))), (18, vp 41 0), (63, .t (.c (.d (.sl 1 (choices.map intD))))), (64, vi .i64 (choices.length : Int)), (65, vi .i64 (q : Int)), (118, vi .i64 (all.length : Int)), (119, vi .i64 (k : Int))])
                 (fun (z_ : (Nat)) => match z_ with | k => [(5, .box (sysC s)), (8, .row 43 2 (all.map StD.d)), (41, .box [.d (.sl 1 ((goS s x51 (-1) []).1.locs.map intD)), .d (.sl 2 ((goS s x51 (-1) []).1.vals.map ziD))]), (42, .row 3 1 ((acts ++ [(-1)]).map intD))])
                 (fun (z_ : (Nat)) => match z_ with | k => all.length - k) 0 ?_ h (by kernel_rfl) (by kernel_rfl) ?_
               ·exact Nat.zero_le _
               ·clear h; rintro k a w hI h
                change St _ (F.of [(3, .t (.c (.d (.sl 2 (picks.map ziD))))), (4, vp 5 0), (11, .t (.c (.own 8 all.length))), (12, .t (.c (.own 42 (acts ++ [(-1)]).length))), (18, vp 41 0), (63, .t (.c (.d (.sl 1 (choices.map intD))))), (64, vi .i64 (choices.length : Int)), (65, vi .i64 (q : Int)), (118, vi .i64 (all.length : Int)), (119, vi .i64 (k : Int))] [(5, .box (sysC s)), (8, .row 43 2 (all.map StD.d)), (41, .box [.d (.sl 1 ((goS s x51 (-1) []).1.locs.map intD)), .d (.sl 2 ((goS s x51 (-1) []).1.vals.map ziD))]), (42, .row 3 1 ((acts ++ [(-1)]).map intD))]) a w at h
                refine rSeq fam0ok 43 [] [(3, .t (.c (.d (.sl 2 (picks.map ziD))))), (4, vp 5 0), (11, .t (.c (.own 8 all.length))), (12, .t (.c (.own 42 (acts ++ [(-1)]).length))), (18, vp 41 0), (63, .t (.c (.d (.sl 1 (choices.map intD))))), (64, vi .i64 (choices.length : Int)), (65, vi .i64 (q : Int)), (118, vi .i64 (all.length : Int)), (119, vi .i64 (k : Int)), (120, vb (decide ((k : Int) < (all.length : Int))))] [(5, .box (sysC s)), (8, .row 43 2 (all.map StD.d)), (41, .box [.d (.sl 1 ((goS s x51 (-1) []).1.locs.map intD)), .d (.sl 2 ((goS s x51 (-1) []).1.vals.map ziD))]), (42, .row 3 1 ((acts ++ [(-1)]).map intD))] (by kernel_rfl) h ?_; clear h; intro a w h
                refine wp_seq ?_
                refine condS (decide ((k : Int) < (all.length : Int))) h rfl (fun hc => ?_) (fun hc => ?_)
                ·have hc59 := hc; clear hc
                 have hc59' := of_decide_eq_true hc59
                 refine wp_skip ?_
                 refine then_n ?_
                 refine wp_seq ?_
                 refine wp_block ?_
                 refine rSeq fam0ok 43 [] [(3, .t (.c (.d (.sl 2 (picks.map ziD))))), (4, vp 5 0), (11, .t (.c (.own 8 all.length))), (12, .t (.c (.own 42 (acts ++ [(-1)]).length))), (18, vp 41 0), (20, vi .i64 (k : Int)), (63, .t (.c (.d (.sl 1 (choices.map intD))))), (64, vi .i64 (choices.length : Int)), (65, vi .i64 (q : Int)), (118, vi .i64 (all.length : Int)), (119, vi .i64 (k : Int))] [(5, .box (sysC s)), (8, .row 43 2 (all.map StD.d)), (41, .box [.d (.sl 1 ((goS s x51 (-1) []).1.locs.map intD)), .d (.sl 2 ((goS s x51 (-1) []).1.vals.map ziD))]), (42, .row 3 1 ((acts ++ [(-1)]).map intD))] (by kernel_rfl) h ?_; clear h; intro a w h
                 obtain ⟨x54, hx54⟩ : ∃ z_ : StD, all[k]? = some z_ := ⟨_, List.getElem?_eq_getElem (by first | omega | (simp at *; omega))⟩
                 refine rSeq fam0ok 43 [(2, .gen _ _ _ fun _ _ _ _ => Op.idxO (d := 124) (t := 122) (k := .i64) (n := 8) (len := all.length) (i := k) kn_0 (by first | omega | (simp at *; omega)) (OV.tmp 123 _)), (3, .gen _ _ _ fun _ _ _ _ => Op.loadR_agg (d := 125) (t := 124) (n := 8) (i := k) (fo := 0) (rty := 43) (es := 2) (xs := [.sl 1 (x54.locs.map intD), .sl 2 (x54.vals.map ziD)]) kk_5 rfl (map_at hx54 (f := StD.d)) rfl rfl), (5, .call (SSame x54 (goS s x51 (-1) []).1 (M := 2 + 4 * (q + 1)) (by omega) ((hW2.ok x54 (List.mem_of_getElem? hx54)).mono (by omega)) hyO) km_1)] [(3, .t (.c (.d (.sl 2 (picks.map ziD))))), (4, vp 5 0), (11, .t (.c (.own 8 all.length))), (12, .t (.c (.own 42 (acts ++ [(-1)]).length))), (18, vp 41 0), (20, vi .i64 (k : Int)), (63, .t (.c (.d (.sl 1 (choices.map intD))))), (64, vi .i64 (choices.length : Int)), (65, vi .i64 (q : Int)), (118, vi .i64 (all.length : Int)), (119, vi .i64 (k : Int)), (127, vb (sameS x54 (goS s x51 (-1) []).1))] [(5, .box (sysC s)), (8, .row 43 2 (all.map StD.d)), (41, .box [.d (.sl 1 ((goS s x51 (-1) []).1.locs.map intD)), .d (.sl 2 ((goS s x51 (-1) []).1.vals.map ziD))]), (42, .row 3 1 ((acts ++ [(-1)]).map intD))] (by kernel_rfl) h ?_; clear h; intro a w h
                 refine condS (sameS x54 (goS s x51 (-1) []).1) h rfl (fun hc => ?_) (fun hc => ?_)
                 ·have hc60 := hc; clear hc
                  have hrt := hW2.closes hfi (show all[all.length - 1]? = some x51 from hx51) hle hx54 hc60
                  have hqk := at_lt hx54
                  replace h := pubS 8 2 43 (all.map StD.d) [(3, .t (.c (.d (.sl 2 (picks.map ziD))))), (4, vp 5 0), (11, .t (.c (.d (.sl 2 (all.map StD.d))))), (12, .t (.c (.own 42 (acts ++ [(-1)]).length))), (18, vp 41 0), (20, vi .i64 (k : Int)), (63, .t (.c (.d (.sl 1 (choices.map intD))))), (64, vi .i64 (choices.length : Int)), (65, vi .i64 (q : Int)), (118, vi .i64 (all.length : Int)), (119, vi .i64 (k : Int)), (127, vb (sameS x54 (goS s x51 (-1) []).1))] [(5, .box (sysC s)), (41, .box [.d (.sl 1 ((goS s x51 (-1) []).1.locs.map intD)), .d (.sl 2 ((goS s x51 (-1) []).1.vals.map ziD))]), (42, .row 3 1 ((acts ++ [(-1)]).map intD))] h rfl (show AllEq _ [all.length] from ⟨by first | exact (List.length_map _).symm | (simp; done) | (simp; omega), trivial⟩) trivial (by kernel_rfl) (by kernel_rfl)
                  replace h := pubS 42 1 3 ((acts ++ [(-1)]).map intD) [(3, .t (.c (.d (.sl 2 (picks.map ziD))))), (4, vp 5 0), (11, .t (.c (.d (.sl 2 (all.map StD.d))))), (12, .t (.c (.d (.sl 1 ((acts ++ [(-1)]).map intD))))), (18, vp 41 0), (20, vi .i64 (k : Int)), (63, .t (.c (.d (.sl 1 (choices.map intD))))), (64, vi .i64 (choices.length : Int)), (65, vi .i64 (q : Int)), (118, vi .i64 (all.length : Int)), (119, vi .i64 (k : Int)), (127, vb (sameS x54 (goS s x51 (-1) []).1))] [(5, .box (sysC s)), (41, .box [.d (.sl 1 ((goS s x51 (-1) []).1.locs.map intD)), .d (.sl 2 ((goS s x51 (-1) []).1.vals.map ziD))])] h rfl (show AllEq _ [(acts ++ [(-1)]).length] from ⟨by first | exact (List.length_map _).symm | (simp; done) | (simp; omega), trivial⟩) trivial (by kernel_rfl) (by kernel_rfl)
                  refine rSeq fam0ok 43 [(3, .gen _ _ _ fun _ _ _ _ => Op.sliceDM (d := 131) (t := 128) (h := k) (m := k) (k := .i64) (k' := .i64) (rows := all.map StD.d) (rows' := (all.take k).map StD.d) kn_0 (OV.tmp 129 _) (OV.tmp 130 _) (by omega) (by rw [List.length_map]; omega) (by rw [List.map_take])), (6, .gen _ _ _ fun _ _ _ _ => Op.sliceD (d := 134) (t := 132) (l := k) (h := all.length) (rows := all.map StD.d) (rows' := (all.drop k).map StD.d) kn_0 (BO.yes (k := .i64) (i := k) _ (OV.tmp 133 _)) (by rw [List.length_map]; exact BO.no _) (by first | omega | (simp at *; omega)) (by first | omega | (simp only [List.length_map]; omega) | (simp at *; omega)) (by first | (simp [List.map_drop]; done) | (rw [List.take_of_length_le (by simp <;> omega)]; simp [List.map_drop])))] [(3, .t (.c (.d (.sl 2 (picks.map ziD))))), (4, vp 5 0), (11, .t (.c (.d (.sl 2 (all.map StD.d))))), (12, .t (.c (.d (.sl 1 ((acts ++ [(-1)]).map intD))))), (18, vp 41 0), (20, vi .i64 (k : Int)), (21, vp 43 0), (63, .t (.c (.d (.sl 1 (choices.map intD))))), (64, vi .i64 (choices.length : Int)), (65, vi .i64 (q : Int)), (118, vi .i64 (all.length : Int)), (119, vi .i64 (k : Int))] [(5, .box (sysC s)), (41, .box [.d (.sl 1 ((goS s x51 (-1) []).1.locs.map intD)), .d (.sl 2 ((goS s x51 (-1) []).1.vals.map ziD))]), (43, .box ([.d (.sl 2 ((all.take k).map StD.d)), .d (.sl 2 ((all.drop k).map StD.d)), .d (.sl 1 ((acts ++ [(-1)]).map intD))]))] (by kernel_rfl) h ?_; clear h; intro a w h
                  refine rSeq fam0ok 44 [(1, .call (Fn.argw (SSpell [] (RunD.mk (all.take k) (all.drop k) (acts ++ [(-1)])) (L := 2) (M := 2 + 4 * 12) (by decide) (fun p hp => by cases hp) (by decide) ⟨by show (all.take k).length + (all.drop k).length ≤ 20; rw [List.length_take, List.length_drop]; omega, fun z hz => (hW2.ok z (List.mem_of_mem_take hz)).mono (by omega), fun z hz => (hW2.ok z (List.mem_of_mem_drop hz)).mono (by omega)⟩) (.cons _ _ _ _ (.c _ _ (.nil _)) (.cons _ _ _ _ (.refl _) .nil))) kx_6)] [(3, .t (.c (.d (.sl 2 (picks.map ziD))))), (4, vp 5 0), (11, .t (.c (.d (.sl 2 (all.map StD.d))))), (12, .t (.c (.d (.sl 1 ((acts ++ [(-1)]).map intD))))), (18, vp 41 0), (20, vi .i64 (k : Int)), (21, vp 43 0), (22, vp 44 0), (63, .t (.c (.d (.sl 1 (choices.map intD))))), (64, vi .i64 (choices.length : Int)), (65, vi .i64 (q : Int)), (118, vi .i64 (all.length : Int)), (119, vi .i64 (k : Int))] [(5, .box (sysC s)), (41, .box [.d (.sl 1 ((goS s x51 (-1) []).1.locs.map intD)), .d (.sl 2 ((goS s x51 (-1) []).1.vals.map ziD))]), (43, .box ([.d (.sl 2 ((all.take k).map StD.d)), .d (.sl 2 ((all.drop k).map StD.d)), .d (.sl 1 ((acts ++ [(-1)]).map intD))])), (44, .box ([.d (.sl 1 ((spell [] (RunD.mk (all.take k) (all.drop k) (acts ++ [(-1)]))).stem.map (slD 1 boolD))), .d (.sl 1 ((spell [] (RunD.mk (all.take k) (all.drop k) (acts ++ [(-1)]))).cycle.map (slD 1 boolD)))]))] (by kernel_rfl) h ?_; clear h; intro a w h
                  refine rSeq fam0ok 45 [(2, .call (Fn.cast (SRight s (RunD.mk (all.take k) (all.drop k) (acts ++ [(-1)])) (L := 2) (M := 2 + 4 * 12) (by decide) hsO ⟨by show (all.take k).length + (all.drop k).length ≤ 20; rw [List.length_take, List.length_drop]; omega, fun z hz => (hW2.ok z (List.mem_of_mem_take hz)).mono (by omega), fun z hz => (hW2.ok z (List.mem_of_mem_drop hz)).mono (by omega)⟩) (congrArg vb hrt)) kx_13), (6, .len (c := (.d (.sl 1 ((spell [] (RunD.mk (all.take k) (all.drop k) (acts ++ [(-1)]))).stem.map (slD 1 boolD))))) (n := (spell [] (RunD.mk (all.take k) (all.drop k) (acts ++ [(-1)]))).stem.length) (lenC_map _ _ _)), (8, .cmp (op := .eql) (m := ((spell [] (RunD.mk (all.take k) (all.drop k) (acts ++ [(-1)]))).stem.length : Int)) (n := (k : Int)) (b := true) .i64 (show (((spell [] (RunD.mk (all.take k) (all.drop k) (acts ++ [(-1)]))).stem.length : Int) == (k : Int)) = true from by rw [beq_iff_eq]; simp only [spell, List.length_map, List.length_take]; omega)), (13, .len (c := (.d (.sl 1 ((spell [] (RunD.mk (all.take k) (all.drop k) (acts ++ [(-1)]))).cycle.map (slD 1 boolD))))) (n := (spell [] (RunD.mk (all.take k) (all.drop k) (acts ++ [(-1)]))).cycle.length) (lenC_map _ _ _)), (15, .len (c := (.d (.sl 2 (all.map StD.d)))) (n := all.length) (lenC_map _ _ _)), (17, .sub .i64 (m := (all.length : Int)) (n := (k : Int)) (i64_id (by omega) (by omega))), (18, .cmp (op := .eql) (m := ((spell [] (RunD.mk (all.take k) (all.drop k) (acts ++ [(-1)]))).cycle.length : Int)) (n := ((all.length : Int) - (k : Int))) (b := true) .i64 (show (((spell [] (RunD.mk (all.take k) (all.drop k) (acts ++ [(-1)]))).cycle.length : Int) == ((all.length : Int) - (k : Int))) = true from by rw [beq_iff_eq]; simp only [spell, List.length_map, List.length_drop]; omega))] [(3, .t (.c (.d (.sl 2 (picks.map ziD))))), (4, vp 5 0), (8, vb true), (11, .t (.c (.d (.sl 2 (all.map StD.d))))), (12, .t (.c (.d (.sl 1 ((acts ++ [(-1)]).map intD))))), (18, vp 41 0), (63, .t (.c (.d (.sl 1 (choices.map intD))))), (64, vi .i64 (choices.length : Int)), (65, vi .i64 (q : Int)), (118, vi .i64 (all.length : Int)), (119, vi .i64 (k : Int))] [(5, .box (sysC s)), (41, .box [.d (.sl 1 ((goS s x51 (-1) []).1.locs.map intD)), .d (.sl 2 ((goS s x51 (-1) []).1.vals.map ziD))])] (by kernel_rfl) h ?_; clear h; intro a w h
                  refine wp_ret ?_
                  refine block_r ?_
                  refine then_r ?_
                  refine then_r ?_
                  refine block_r ?_
                  refine then_r ?_
                  refine block_r ?_
                  refine then_r ?_
                  refine then_r ?_
                  refine block_r ?_
                  refine then_r ?_
                  refine retS [.c (.d (.raw (.bool true)))] h Exit.ret (.inl rfl)  rfl ⟨RV.tmp _ _ rfl, trivial⟩ ?_ (by kernel_rfl) (by kernel_rfl)
                  rfl
                 ·have hc61 := hc; clear hc
                  refine wp_skip ?_
                  refine block_n ?_
                  refine then_n ?_
                  refine rS fam0ok 45 [(0, .add .i64 (m := (k : Int)) (n := 1) (i64_id (by omega) (by omega)))] [(3, .t (.c (.d (.sl 2 (picks.map ziD))))), (4, vp 5 0), (11, .t (.c (.own 8 all.length))), (12, .t (.c (.own 42 (acts ++ [(-1)]).length))), (18, vp 41 0), (63, .t (.c (.d (.sl 1 (choices.map intD))))), (64, vi .i64 (choices.length : Int)), (65, vi .i64 (q : Int)), (118, vi .i64 (all.length : Int)), (119, vi .i64 ((k : Int) + 1))] [(5, .box (sysC s)), (8, .row 43 2 (all.map StD.d)), (41, .box [.d (.sl 1 ((goS s x51 (-1) []).1.locs.map intD)), .d (.sl 2 ((goS s x51 (-1) []).1.vals.map ziD))]), (42, .row 3 1 ((acts ++ [(-1)]).map intD))] (by kernel_rfl) h ?_; clear h; intro a w h
                  refine then_n ?_
                  refine roundS (x := k) (y := k + 1) h ?_ ?_ (by kernel_rfl) (by kernel_rfl)
                  ·have := at_lt hx54
                   show k + 1 ≤ all.length
                   omega
                  ·show all.length - (k + 1) < all.length - k
                   have := at_lt hx54; omega
                ·have hc62 := hc; clear hc
                 have hc62' := of_decide_eq_false hc62
                 refine wp_exit ?_
                 refine then_x ?_
                 refine then_x ?_
                 refine inBlock_exit ?_
                 refine then_n ?_
                 refine rS fam0ok 45 [(2, .gen _ _ _ fun _ _ _ _ => Op.buildD (d := 162) (len := 1) (rows := [(goS s x51 (-1) []).1].map StD.d) (rs := [(161, .t (.agg [.d (.sl 1 ((goS s x51 (-1) []).1.locs.map intD)), .d (.sl 2 ((goS s x51 (-1) []).1.vals.map ziD))]))]) kx_3 (.cons (i := 0) (OV.tmp 161 _) (.nil)) (by kernel_rfl) rfl (by simp [StD.d]) (by decide) (by decide)), (3, .gen _ _ _ fun _ _ _ _ => Op.appOD (d := 163) (t := 160) (u := 162) (n := 8) (n' := 45) (len := all.length) (len' := (all ++ [(goS s x51 (-1) []).1]).length) (rows := all.map StD.d) (rows2 := [(goS s x51 (-1) []).1].map StD.d) (rows' := (all ++ [(goS s x51 (-1) []).1]).map StD.d) kn_1 (by first | exact (List.length_map _).symm | simp) (by first | (rw [List.length_append, List.length_map]; done) | simp) (by simp) (by simp [StD.d]) (by first | omega | (simp at *; done) | (simp at *; omega)))] [(3, .t (.c (.d (.sl 2 (picks.map ziD))))), (4, vp 5 0), (11, .t (.c (.own 45 (all ++ [(goS s x51 (-1) []).1]).length))), (12, .t (.c (.own 42 (acts ++ [(-1)]).length))), (63, .t (.c (.d (.sl 1 (choices.map intD))))), (64, vi .i64 (choices.length : Int)), (65, vi .i64 (q : Int))] [(5, .box (sysC s)), (42, .row 3 1 ((acts ++ [(-1)]).map intD)), (45, .row 43 2 ((all ++ [(goS s x51 (-1) []).1]).map StD.d))] (by kernel_rfl) h ?_; clear h; intro a w h
                 refine block_n ?_
                 refine then_n ?_
                 refine rS fam0ok 46 [(0, .add .i64 (m := (q : Int)) (n := 1) (i64_id (by omega) (by omega)))] [(3, .t (.c (.d (.sl 2 (picks.map ziD))))), (4, vp 5 0), (11, .t (.c (.own 45 (all ++ [(goS s x51 (-1) []).1]).length))), (12, .t (.c (.own 42 (acts ++ [(-1)]).length))), (63, .t (.c (.d (.sl 1 (choices.map intD))))), (64, vi .i64 (choices.length : Int)), (65, vi .i64 ((q : Int) + 1))] [(5, .box (sysC s)), (42, .row 3 1 ((acts ++ [(-1)]).map intD)), (45, .row 43 2 ((all ++ [(goS s x51 (-1) []).1]).map StD.d))] (by kernel_rfl) h ?_; clear h; intro a w h
                 refine then_n ?_
                 replace h := renS 45 8 [(3, .t (.c (.d (.sl 2 (picks.map ziD))))), (4, vp 5 0), (11, .t (.c (.own 8 (all ++ [(goS s x51 (-1) []).1]).length))), (12, .t (.c (.own 42 (acts ++ [(-1)]).length))), (63, .t (.c (.d (.sl 1 (choices.map intD))))), (64, vi .i64 (choices.length : Int)), (65, vi .i64 ((q : Int) + 1))] [(5, .box (sysC s)), (42, .row 3 1 ((acts ++ [(-1)]).map intD)), (8, .row 43 2 ((all ++ [(goS s x51 (-1) []).1]).map StD.d))] h (by kernel_rfl) (by kernel_rfl) (by kernel_rfl)
                 replace h := renS 42 9 [(3, .t (.c (.d (.sl 2 (picks.map ziD))))), (4, vp 5 0), (11, .t (.c (.own 8 (all ++ [(goS s x51 (-1) []).1]).length))), (12, .t (.c (.own 9 (acts ++ [(-1)]).length))), (63, .t (.c (.d (.sl 1 (choices.map intD))))), (64, vi .i64 (choices.length : Int)), (65, vi .i64 ((q : Int) + 1))] [(5, .box (sysC s)), (8, .row 43 2 ((all ++ [(goS s x51 (-1) []).1]).map StD.d)), (9, .row 3 1 ((acts ++ [(-1)]).map intD))] h (by kernel_rfl) (by kernel_rfl) (by kernel_rfl)
                 refine roundS (x := (q, all, acts)) (y := (q + 1, (all ++ [(goS s x51 (-1) []).1]), (acts ++ [(-1)]))) h ?_ ?_ (by kernel_rfl) (by kernel_rfl)
                 ·have := at_lt hx17
                  exact ⟨by omega, hW2.more (show all[all.length - 1]? = some x51 from hx51) hle hyO⟩
                 ·show choices.length - (q + 1) < choices.length - q
                  have := at_lt hx17; omega
             ·have hc63 := hc; clear hc
              have hc63' := hc63; (try simp at hc63')
              have hle := goS_leads (show (goS s x51 (-1) picks).2 = true from by simpa using hc63)
              have hyO : StOk (2 + 4 * (q + 1)) (goS s x51 (-1) picks).1 := goS_ok (L := 2) (M := 2 + 4 * q) (i := (-1)) hsO (hW2.ok x51 (List.mem_of_getElem? (show all[all.length - 1]? = some x51 from hx51))) (fun z hz => ⟨(hpk z hz).1, Nat.le_trans (hpk z hz).2 (by omega)⟩) |>.mono (by omega)
              refine wp_skip ?_
              refine then_n ?_
              refine wp_seq ?_
              refine rSeq fam0ok 46 [] [(3, .t (.c (.d (.sl 2 (picks.map ziD))))), (4, vp 5 0), (11, .t (.c (.own 8 all.length))), (12, .t (.c (.own 9 acts.length))), (15, vi .i64 (-1)), (18, vp 41 0), (63, .t (.c (.d (.sl 1 (choices.map intD))))), (64, vi .i64 (choices.length : Int)), (65, vi .i64 (q : Int)), (112, vb (!(goS s x51 (-1) picks).2))] [(5, .box (sysC s)), (8, .row 43 2 (all.map StD.d)), (9, .row 3 1 (acts.map intD)), (41, .box [.d (.sl 1 ((goS s x51 (-1) picks).1.locs.map intD)), .d (.sl 2 ((goS s x51 (-1) picks).1.vals.map ziD))])] (by kernel_rfl) h ?_; clear h; intro a w h
              refine condS (!(goS s x51 (-1) picks).2) h rfl (fun hc => ?_) (fun hc => ?_)
              ·rw [hc63] at hc; cases hc
              ·clear hc
               refine wp_skip ?_
               refine then_n ?_
               refine rSeq fam0ok 46 [(2, .gen _ _ _ fun _ _ _ _ => Op.buildD (d := 115) (len := 1) (rows := [(-1)].map intD) (rs := [(114, vi .i64 (-1))]) tb_0 (.cons (i := 0) (OV.tmp 114 _) (.nil)) (by kernel_rfl) rfl (by simp [intD]) (by decide) (by decide)), (3, .gen _ _ _ fun _ _ _ _ => Op.appOD (d := 116) (t := 113) (u := 115) (n := 9) (n' := 46) (len := acts.length) (len' := (acts ++ [(-1)]).length) (rows := acts.map intD) (rows2 := [(-1)].map intD) (rows' := (acts ++ [(-1)]).map intD) tb_2 (by first | exact (List.length_map _).symm | simp) (by first | (rw [List.length_append, List.length_map]; done) | simp) (by simp) (by simp [intD]) (by first | omega | (simp at *; done) | (simp at *; omega)))] [(3, .t (.c (.d (.sl 2 (picks.map ziD))))), (4, vp 5 0), (11, .t (.c (.own 8 all.length))), (12, .t (.c (.own 46 (acts ++ [(-1)]).length))), (18, vp 41 0), (63, .t (.c (.d (.sl 1 (choices.map intD))))), (64, vi .i64 (choices.length : Int)), (65, vi .i64 (q : Int))] [(5, .box (sysC s)), (8, .row 43 2 (all.map StD.d)), (41, .box [.d (.sl 1 ((goS s x51 (-1) picks).1.locs.map intD)), .d (.sl 2 ((goS s x51 (-1) picks).1.vals.map ziD))]), (46, .row 3 1 ((acts ++ [(-1)]).map intD))] (by kernel_rfl) h ?_; clear h; intro a w h
               refine wp_seq ?_
               refine rSeq fam0ok 47 [] [(3, .t (.c (.d (.sl 2 (picks.map ziD))))), (4, vp 5 0), (11, .t (.c (.own 8 all.length))), (12, .t (.c (.own 46 (acts ++ [(-1)]).length))), (18, vp 41 0), (63, .t (.c (.d (.sl 1 (choices.map intD))))), (64, vi .i64 (choices.length : Int)), (65, vi .i64 (q : Int)), (118, vi .i64 (all.length : Int)), (119, vi .i64 0)] [(5, .box (sysC s)), (8, .row 43 2 (all.map StD.d)), (41, .box [.d (.sl 1 ((goS s x51 (-1) picks).1.locs.map intD)), .d (.sl 2 ((goS s x51 (-1) picks).1.vals.map ziD))]), (46, .row 3 1 ((acts ++ [(-1)]).map intD))] (by kernel_rfl) h ?_; clear h; intro a w h
               refine wp_block ?_
               refine loopS (ι := (Nat)) (fun (z_ : (Nat)) => match z_ with | k => k ≤ all.length)
                 (fun (z_ : (Nat)) => match z_ with | k => [(3, .t (.c (.d (.sl 2 (picks.map ziD))))), (4, vp 5 0), (11, .t (.c (.own 8 all.length))), (12, .t (.c (.own 46 (acts ++ [(-1)]).length))), (18, vp 41 0), (63, .t (.c (.d (.sl 1 (choices.map intD))))), (64, vi .i64 (choices.length : Int)), (65, vi .i64 (q : Int)), (118, vi .i64 (all.length : Int)), (119, vi .i64 (k : Int))])
                 (fun (z_ : (Nat)) => match z_ with | k => [(5, .box (sysC s)), (8, .row 43 2 (all.map StD.d)), (41, .box [.d (.sl 1 ((goS s x51 (-1) picks).1.locs.map intD)), .d (.sl 2 ((goS s x51 (-1) picks).1.vals.map ziD))]), (46, .row 3 1 ((acts ++ [(-1)]).map intD))])
                 (fun (z_ : (Nat)) => match z_ with | k => all.length - k) 0 ?_ h (by kernel_rfl) (by kernel_rfl) ?_
               ·exact Nat.zero_le _
               ·clear h; rintro k a w hI h
                change St _ (F.of [(3, .t (.c (.d (.sl 2 (picks.map ziD))))), (4, vp 5 0), (11, .t (.c (.own 8 all.length))), (12, .t (.c (.own 46 (acts ++ [(-1)]).length))), (18, vp 41 0), (63, .t (.c (.d (.sl 1 (choices.map intD))))), (64, vi .i64 (choices.length : Int)), (65, vi .i64 (q : Int)), (118, vi .i64 (all.length : Int)), (119, vi .i64 (k : Int))] [(5, .box (sysC s)), (8, .row 43 2 (all.map StD.d)), (41, .box [.d (.sl 1 ((goS s x51 (-1) picks).1.locs.map intD)), .d (.sl 2 ((goS s x51 (-1) picks).1.vals.map ziD))]), (46, .row 3 1 ((acts ++ [(-1)]).map intD))]) a w at h
                refine rSeq fam0ok 47 [] [(3, .t (.c (.d (.sl 2 (picks.map ziD))))), (4, vp 5 0), (11, .t (.c (.own 8 all.length))), (12, .t (.c (.own 46 (acts ++ [(-1)]).length))), (18, vp 41 0), (63, .t (.c (.d (.sl 1 (choices.map intD))))), (64, vi .i64 (choices.length : Int)), (65, vi .i64 (q : Int)), (118, vi .i64 (all.length : Int)), (119, vi .i64 (k : Int)), (120, vb (decide ((k : Int) < (all.length : Int))))] [(5, .box (sysC s)), (8, .row 43 2 (all.map StD.d)), (41, .box [.d (.sl 1 ((goS s x51 (-1) picks).1.locs.map intD)), .d (.sl 2 ((goS s x51 (-1) picks).1.vals.map ziD))]), (46, .row 3 1 ((acts ++ [(-1)]).map intD))] (by kernel_rfl) h ?_; clear h; intro a w h
                refine wp_seq ?_
                refine condS (decide ((k : Int) < (all.length : Int))) h rfl (fun hc => ?_) (fun hc => ?_)
                ·have hc64 := hc; clear hc
                 have hc64' := of_decide_eq_true hc64
                 refine wp_skip ?_
                 refine then_n ?_
                 refine wp_seq ?_
                 refine wp_block ?_
                 refine rSeq fam0ok 47 [] [(3, .t (.c (.d (.sl 2 (picks.map ziD))))), (4, vp 5 0), (11, .t (.c (.own 8 all.length))), (12, .t (.c (.own 46 (acts ++ [(-1)]).length))), (18, vp 41 0), (20, vi .i64 (k : Int)), (63, .t (.c (.d (.sl 1 (choices.map intD))))), (64, vi .i64 (choices.length : Int)), (65, vi .i64 (q : Int)), (118, vi .i64 (all.length : Int)), (119, vi .i64 (k : Int))] [(5, .box (sysC s)), (8, .row 43 2 (all.map StD.d)), (41, .box [.d (.sl 1 ((goS s x51 (-1) picks).1.locs.map intD)), .d (.sl 2 ((goS s x51 (-1) picks).1.vals.map ziD))]), (46, .row 3 1 ((acts ++ [(-1)]).map intD))] (by kernel_rfl) h ?_; clear h; intro a w h
                 obtain ⟨x58, hx58⟩ : ∃ z_ : StD, all[k]? = some z_ := ⟨_, List.getElem?_eq_getElem (by first | omega | (simp at *; omega))⟩
                 refine rSeq fam0ok 47 [(2, .gen _ _ _ fun _ _ _ _ => Op.idxO (d := 124) (t := 122) (k := .i64) (n := 8) (len := all.length) (i := k) kn_0 (by first | omega | (simp at *; omega)) (OV.tmp 123 _)), (3, .gen _ _ _ fun _ _ _ _ => Op.loadR_agg (d := 125) (t := 124) (n := 8) (i := k) (fo := 0) (rty := 43) (es := 2) (xs := [.sl 1 (x58.locs.map intD), .sl 2 (x58.vals.map ziD)]) kk_5 rfl (map_at hx58 (f := StD.d)) rfl rfl), (5, .call (SSame x58 (goS s x51 (-1) picks).1 (M := 2 + 4 * (q + 1)) (by omega) ((hW2.ok x58 (List.mem_of_getElem? hx58)).mono (by omega)) hyO) km_1)] [(3, .t (.c (.d (.sl 2 (picks.map ziD))))), (4, vp 5 0), (11, .t (.c (.own 8 all.length))), (12, .t (.c (.own 46 (acts ++ [(-1)]).length))), (18, vp 41 0), (20, vi .i64 (k : Int)), (63, .t (.c (.d (.sl 1 (choices.map intD))))), (64, vi .i64 (choices.length : Int)), (65, vi .i64 (q : Int)), (118, vi .i64 (all.length : Int)), (119, vi .i64 (k : Int)), (127, vb (sameS x58 (goS s x51 (-1) picks).1))] [(5, .box (sysC s)), (8, .row 43 2 (all.map StD.d)), (41, .box [.d (.sl 1 ((goS s x51 (-1) picks).1.locs.map intD)), .d (.sl 2 ((goS s x51 (-1) picks).1.vals.map ziD))]), (46, .row 3 1 ((acts ++ [(-1)]).map intD))] (by kernel_rfl) h ?_; clear h; intro a w h
                 refine condS (sameS x58 (goS s x51 (-1) picks).1) h rfl (fun hc => ?_) (fun hc => ?_)
                 ·have hc65 := hc; clear hc
                  have hrt := hW2.closes hfi (show all[all.length - 1]? = some x51 from hx51) hle hx58 hc65
                  have hqk := at_lt hx58
                  replace h := pubS 8 2 43 (all.map StD.d) [(3, .t (.c (.d (.sl 2 (picks.map ziD))))), (4, vp 5 0), (11, .t (.c (.d (.sl 2 (all.map StD.d))))), (12, .t (.c (.own 46 (acts ++ [(-1)]).length))), (18, vp 41 0), (20, vi .i64 (k : Int)), (63, .t (.c (.d (.sl 1 (choices.map intD))))), (64, vi .i64 (choices.length : Int)), (65, vi .i64 (q : Int)), (118, vi .i64 (all.length : Int)), (119, vi .i64 (k : Int)), (127, vb (sameS x58 (goS s x51 (-1) picks).1))] [(5, .box (sysC s)), (41, .box [.d (.sl 1 ((goS s x51 (-1) picks).1.locs.map intD)), .d (.sl 2 ((goS s x51 (-1) picks).1.vals.map ziD))]), (46, .row 3 1 ((acts ++ [(-1)]).map intD))] h rfl (show AllEq _ [all.length] from ⟨by first | exact (List.length_map _).symm | (simp; done) | (simp; omega), trivial⟩) trivial (by kernel_rfl) (by kernel_rfl)
                  replace h := pubS 46 1 3 ((acts ++ [(-1)]).map intD) [(3, .t (.c (.d (.sl 2 (picks.map ziD))))), (4, vp 5 0), (11, .t (.c (.d (.sl 2 (all.map StD.d))))), (12, .t (.c (.d (.sl 1 ((acts ++ [(-1)]).map intD))))), (18, vp 41 0), (20, vi .i64 (k : Int)), (63, .t (.c (.d (.sl 1 (choices.map intD))))), (64, vi .i64 (choices.length : Int)), (65, vi .i64 (q : Int)), (118, vi .i64 (all.length : Int)), (119, vi .i64 (k : Int)), (127, vb (sameS x58 (goS s x51 (-1) picks).1))] [(5, .box (sysC s)), (41, .box [.d (.sl 1 ((goS s x51 (-1) picks).1.locs.map intD)), .d (.sl 2 ((goS s x51 (-1) picks).1.vals.map ziD))])] h rfl (show AllEq _ [(acts ++ [(-1)]).length] from ⟨by first | exact (List.length_map _).symm | (simp; done) | (simp; omega), trivial⟩) trivial (by kernel_rfl) (by kernel_rfl)
                  refine rSeq fam0ok 47 [(3, .gen _ _ _ fun _ _ _ _ => Op.sliceDM (d := 131) (t := 128) (h := k) (m := k) (k := .i64) (k' := .i64) (rows := all.map StD.d) (rows' := (all.take k).map StD.d) kn_0 (OV.tmp 129 _) (OV.tmp 130 _) (by omega) (by rw [List.length_map]; omega) (by rw [List.map_take])), (6, .gen _ _ _ fun _ _ _ _ => Op.sliceD (d := 134) (t := 132) (l := k) (h := all.length) (rows := all.map StD.d) (rows' := (all.drop k).map StD.d) kn_0 (BO.yes (k := .i64) (i := k) _ (OV.tmp 133 _)) (by rw [List.length_map]; exact BO.no _) (by first | omega | (simp at *; omega)) (by first | omega | (simp only [List.length_map]; omega) | (simp at *; omega)) (by first | (simp [List.map_drop]; done) | (rw [List.take_of_length_le (by simp <;> omega)]; simp [List.map_drop])))] [(3, .t (.c (.d (.sl 2 (picks.map ziD))))), (4, vp 5 0), (11, .t (.c (.d (.sl 2 (all.map StD.d))))), (12, .t (.c (.d (.sl 1 ((acts ++ [(-1)]).map intD))))), (18, vp 41 0), (20, vi .i64 (k : Int)), (21, vp 47 0), (63, .t (.c (.d (.sl 1 (choices.map intD))))), (64, vi .i64 (choices.length : Int)), (65, vi .i64 (q : Int)), (118, vi .i64 (all.length : Int)), (119, vi .i64 (k : Int))] [(5, .box (sysC s)), (41, .box [.d (.sl 1 ((goS s x51 (-1) picks).1.locs.map intD)), .d (.sl 2 ((goS s x51 (-1) picks).1.vals.map ziD))]), (47, .box ([.d (.sl 2 ((all.take k).map StD.d)), .d (.sl 2 ((all.drop k).map StD.d)), .d (.sl 1 ((acts ++ [(-1)]).map intD))]))] (by kernel_rfl) h ?_; clear h; intro a w h
                  refine rSeq fam0ok 48 [(1, .call (Fn.argw (SSpell [] (RunD.mk (all.take k) (all.drop k) (acts ++ [(-1)])) (L := 2) (M := 2 + 4 * 12) (by decide) (fun p hp => by cases hp) (by decide) ⟨by show (all.take k).length + (all.drop k).length ≤ 20; rw [List.length_take, List.length_drop]; omega, fun z hz => (hW2.ok z (List.mem_of_mem_take hz)).mono (by omega), fun z hz => (hW2.ok z (List.mem_of_mem_drop hz)).mono (by omega)⟩) (.cons _ _ _ _ (.c _ _ (.nil _)) (.cons _ _ _ _ (.refl _) .nil))) kx_6)] [(3, .t (.c (.d (.sl 2 (picks.map ziD))))), (4, vp 5 0), (11, .t (.c (.d (.sl 2 (all.map StD.d))))), (12, .t (.c (.d (.sl 1 ((acts ++ [(-1)]).map intD))))), (18, vp 41 0), (20, vi .i64 (k : Int)), (21, vp 47 0), (22, vp 48 0), (63, .t (.c (.d (.sl 1 (choices.map intD))))), (64, vi .i64 (choices.length : Int)), (65, vi .i64 (q : Int)), (118, vi .i64 (all.length : Int)), (119, vi .i64 (k : Int))] [(5, .box (sysC s)), (41, .box [.d (.sl 1 ((goS s x51 (-1) picks).1.locs.map intD)), .d (.sl 2 ((goS s x51 (-1) picks).1.vals.map ziD))]), (47, .box ([.d (.sl 2 ((all.take k).map StD.d)), .d (.sl 2 ((all.drop k).map StD.d)), .d (.sl 1 ((acts ++ [(-1)]).map intD))])), (48, .box ([.d (.sl 1 ((spell [] (RunD.mk (all.take k) (all.drop k) (acts ++ [(-1)]))).stem.map (slD 1 boolD))), .d (.sl 1 ((spell [] (RunD.mk (all.take k) (all.drop k) (acts ++ [(-1)]))).cycle.map (slD 1 boolD)))]))] (by kernel_rfl) h ?_; clear h; intro a w h
                  refine rSeq fam0ok 49 [(2, .call (Fn.cast (SRight s (RunD.mk (all.take k) (all.drop k) (acts ++ [(-1)])) (L := 2) (M := 2 + 4 * 12) (by decide) hsO ⟨by show (all.take k).length + (all.drop k).length ≤ 20; rw [List.length_take, List.length_drop]; omega, fun z hz => (hW2.ok z (List.mem_of_mem_take hz)).mono (by omega), fun z hz => (hW2.ok z (List.mem_of_mem_drop hz)).mono (by omega)⟩) (congrArg vb hrt)) kx_13), (6, .len (c := (.d (.sl 1 ((spell [] (RunD.mk (all.take k) (all.drop k) (acts ++ [(-1)]))).stem.map (slD 1 boolD))))) (n := (spell [] (RunD.mk (all.take k) (all.drop k) (acts ++ [(-1)]))).stem.length) (lenC_map _ _ _)), (8, .cmp (op := .eql) (m := ((spell [] (RunD.mk (all.take k) (all.drop k) (acts ++ [(-1)]))).stem.length : Int)) (n := (k : Int)) (b := true) .i64 (show (((spell [] (RunD.mk (all.take k) (all.drop k) (acts ++ [(-1)]))).stem.length : Int) == (k : Int)) = true from by rw [beq_iff_eq]; simp only [spell, List.length_map, List.length_take]; omega)), (13, .len (c := (.d (.sl 1 ((spell [] (RunD.mk (all.take k) (all.drop k) (acts ++ [(-1)]))).cycle.map (slD 1 boolD))))) (n := (spell [] (RunD.mk (all.take k) (all.drop k) (acts ++ [(-1)]))).cycle.length) (lenC_map _ _ _)), (15, .len (c := (.d (.sl 2 (all.map StD.d)))) (n := all.length) (lenC_map _ _ _)), (17, .sub .i64 (m := (all.length : Int)) (n := (k : Int)) (i64_id (by omega) (by omega))), (18, .cmp (op := .eql) (m := ((spell [] (RunD.mk (all.take k) (all.drop k) (acts ++ [(-1)]))).cycle.length : Int)) (n := ((all.length : Int) - (k : Int))) (b := true) .i64 (show (((spell [] (RunD.mk (all.take k) (all.drop k) (acts ++ [(-1)]))).cycle.length : Int) == ((all.length : Int) - (k : Int))) = true from by rw [beq_iff_eq]; simp only [spell, List.length_map, List.length_drop]; omega))] [(3, .t (.c (.d (.sl 2 (picks.map ziD))))), (4, vp 5 0), (8, vb true), (11, .t (.c (.d (.sl 2 (all.map StD.d))))), (12, .t (.c (.d (.sl 1 ((acts ++ [(-1)]).map intD))))), (18, vp 41 0), (63, .t (.c (.d (.sl 1 (choices.map intD))))), (64, vi .i64 (choices.length : Int)), (65, vi .i64 (q : Int)), (118, vi .i64 (all.length : Int)), (119, vi .i64 (k : Int))] [(5, .box (sysC s)), (41, .box [.d (.sl 1 ((goS s x51 (-1) picks).1.locs.map intD)), .d (.sl 2 ((goS s x51 (-1) picks).1.vals.map ziD))])] (by kernel_rfl) h ?_; clear h; intro a w h
                  refine wp_ret ?_
                  refine block_r ?_
                  refine then_r ?_
                  refine then_r ?_
                  refine block_r ?_
                  refine then_r ?_
                  refine block_r ?_
                  refine then_r ?_
                  refine then_r ?_
                  refine block_r ?_
                  refine then_r ?_
                  refine retS [.c (.d (.raw (.bool true)))] h Exit.ret (.inl rfl)  rfl ⟨RV.tmp _ _ rfl, trivial⟩ ?_ (by kernel_rfl) (by kernel_rfl)
                  rfl
                 ·have hc66 := hc; clear hc
                  refine wp_skip ?_
                  refine block_n ?_
                  refine then_n ?_
                  refine rS fam0ok 49 [(0, .add .i64 (m := (k : Int)) (n := 1) (i64_id (by omega) (by omega)))] [(3, .t (.c (.d (.sl 2 (picks.map ziD))))), (4, vp 5 0), (11, .t (.c (.own 8 all.length))), (12, .t (.c (.own 46 (acts ++ [(-1)]).length))), (18, vp 41 0), (63, .t (.c (.d (.sl 1 (choices.map intD))))), (64, vi .i64 (choices.length : Int)), (65, vi .i64 (q : Int)), (118, vi .i64 (all.length : Int)), (119, vi .i64 ((k : Int) + 1))] [(5, .box (sysC s)), (8, .row 43 2 (all.map StD.d)), (41, .box [.d (.sl 1 ((goS s x51 (-1) picks).1.locs.map intD)), .d (.sl 2 ((goS s x51 (-1) picks).1.vals.map ziD))]), (46, .row 3 1 ((acts ++ [(-1)]).map intD))] (by kernel_rfl) h ?_; clear h; intro a w h
                  refine then_n ?_
                  refine roundS (x := k) (y := k + 1) h ?_ ?_ (by kernel_rfl) (by kernel_rfl)
                  ·have := at_lt hx58
                   show k + 1 ≤ all.length
                   omega
                  ·show all.length - (k + 1) < all.length - k
                   have := at_lt hx58; omega
                ·have hc67 := hc; clear hc
                 have hc67' := of_decide_eq_false hc67
                 refine wp_exit ?_
                 refine then_x ?_
                 refine then_x ?_
                 refine inBlock_exit ?_
                 refine then_n ?_
                 refine rS fam0ok 49 [(2, .gen _ _ _ fun _ _ _ _ => Op.buildD (d := 162) (len := 1) (rows := [(goS s x51 (-1) picks).1].map StD.d) (rs := [(161, .t (.agg [.d (.sl 1 ((goS s x51 (-1) picks).1.locs.map intD)), .d (.sl 2 ((goS s x51 (-1) picks).1.vals.map ziD))]))]) kx_3 (.cons (i := 0) (OV.tmp 161 _) (.nil)) (by kernel_rfl) rfl (by simp [StD.d]) (by decide) (by decide)), (3, .gen _ _ _ fun _ _ _ _ => Op.appOD (d := 163) (t := 160) (u := 162) (n := 8) (n' := 49) (len := all.length) (len' := (all ++ [(goS s x51 (-1) picks).1]).length) (rows := all.map StD.d) (rows2 := [(goS s x51 (-1) picks).1].map StD.d) (rows' := (all ++ [(goS s x51 (-1) picks).1]).map StD.d) kn_1 (by first | exact (List.length_map _).symm | simp) (by first | (rw [List.length_append, List.length_map]; done) | simp) (by simp) (by simp [StD.d]) (by first | omega | (simp at *; done) | (simp at *; omega)))] [(3, .t (.c (.d (.sl 2 (picks.map ziD))))), (4, vp 5 0), (11, .t (.c (.own 49 (all ++ [(goS s x51 (-1) picks).1]).length))), (12, .t (.c (.own 46 (acts ++ [(-1)]).length))), (63, .t (.c (.d (.sl 1 (choices.map intD))))), (64, vi .i64 (choices.length : Int)), (65, vi .i64 (q : Int))] [(5, .box (sysC s)), (46, .row 3 1 ((acts ++ [(-1)]).map intD)), (49, .row 43 2 ((all ++ [(goS s x51 (-1) picks).1]).map StD.d))] (by kernel_rfl) h ?_; clear h; intro a w h
                 refine block_n ?_
                 refine then_n ?_
                 refine rS fam0ok 50 [(0, .add .i64 (m := (q : Int)) (n := 1) (i64_id (by omega) (by omega)))] [(3, .t (.c (.d (.sl 2 (picks.map ziD))))), (4, vp 5 0), (11, .t (.c (.own 49 (all ++ [(goS s x51 (-1) picks).1]).length))), (12, .t (.c (.own 46 (acts ++ [(-1)]).length))), (63, .t (.c (.d (.sl 1 (choices.map intD))))), (64, vi .i64 (choices.length : Int)), (65, vi .i64 ((q : Int) + 1))] [(5, .box (sysC s)), (46, .row 3 1 ((acts ++ [(-1)]).map intD)), (49, .row 43 2 ((all ++ [(goS s x51 (-1) picks).1]).map StD.d))] (by kernel_rfl) h ?_; clear h; intro a w h
                 refine then_n ?_
                 replace h := renS 49 8 [(3, .t (.c (.d (.sl 2 (picks.map ziD))))), (4, vp 5 0), (11, .t (.c (.own 8 (all ++ [(goS s x51 (-1) picks).1]).length))), (12, .t (.c (.own 46 (acts ++ [(-1)]).length))), (63, .t (.c (.d (.sl 1 (choices.map intD))))), (64, vi .i64 (choices.length : Int)), (65, vi .i64 ((q : Int) + 1))] [(5, .box (sysC s)), (46, .row 3 1 ((acts ++ [(-1)]).map intD)), (8, .row 43 2 ((all ++ [(goS s x51 (-1) picks).1]).map StD.d))] h (by kernel_rfl) (by kernel_rfl) (by kernel_rfl)
                 replace h := renS 46 9 [(3, .t (.c (.d (.sl 2 (picks.map ziD))))), (4, vp 5 0), (11, .t (.c (.own 8 (all ++ [(goS s x51 (-1) picks).1]).length))), (12, .t (.c (.own 9 (acts ++ [(-1)]).length))), (63, .t (.c (.d (.sl 1 (choices.map intD))))), (64, vi .i64 (choices.length : Int)), (65, vi .i64 ((q : Int) + 1))] [(5, .box (sysC s)), (8, .row 43 2 ((all ++ [(goS s x51 (-1) picks).1]).map StD.d)), (9, .row 3 1 ((acts ++ [(-1)]).map intD))] h (by kernel_rfl) (by kernel_rfl) (by kernel_rfl)
                 refine roundS (x := (q, all, acts)) (y := (q + 1, (all ++ [(goS s x51 (-1) picks).1]), (acts ++ [(-1)]))) h ?_ ?_ (by kernel_rfl) (by kernel_rfl)
                 ·have := at_lt hx17
                  exact ⟨by omega, hW2.more (show all[all.length - 1]? = some x51 from hx51) hle hyO⟩
                 ·show choices.length - (q + 1) < choices.length - q
                  have := at_lt hx17; omega
          ·have hc68 := hc; clear hc
           have hc68' := of_decide_eq_false hc68
           refine wp_exit ?_
           refine then_x ?_
           refine then_x ?_
           refine inBlock_exit ?_
           refine then_n ?_
           replace h := pubS 8 2 43 (all.map StD.d) [(3, .t (.c (.d (.sl 2 (picks.map ziD))))), (4, vp 5 0), (11, .t (.c (.d (.sl 2 (all.map StD.d))))), (12, .t (.c (.own 9 acts.length))), (63, .t (.c (.d (.sl 1 (choices.map intD))))), (64, vi .i64 (choices.length : Int)), (65, vi .i64 (q : Int)), (66, vb (decide ((q : Int) < (choices.length : Int))))] [(5, .box (sysC s)), (9, .row 3 1 (acts.map intD))] h rfl (show AllEq _ [all.length] from ⟨by first | exact (List.length_map _).symm | (simp; done) | (simp; omega), trivial⟩) trivial (by kernel_rfl) (by kernel_rfl)
           replace h := pubS 9 1 3 (acts.map intD) [(3, .t (.c (.d (.sl 2 (picks.map ziD))))), (4, vp 5 0), (11, .t (.c (.d (.sl 2 (all.map StD.d))))), (12, .t (.c (.d (.sl 1 (acts.map intD))))), (63, .t (.c (.d (.sl 1 (choices.map intD))))), (64, vi .i64 (choices.length : Int)), (65, vi .i64 (q : Int)), (66, vb (decide ((q : Int) < (choices.length : Int))))] [(5, .box (sysC s))] h rfl (show AllEq _ [acts.length] from ⟨by first | exact (List.length_map _).symm | (simp; done) | (simp; omega), trivial⟩) trivial (by kernel_rfl) (by kernel_rfl)
           refine rSeq fam0ok 50 [(4, .call (Fn.argw (Fn.cast (SRight s (RunD.mk all [] acts) (L := 2) (M := 2 + 4 * 12) (by decide) hsO ⟨by show all.length + 0 ≤ 20; omega, fun z hz => (hW2.ok z hz).mono (by omega), fun z hz => by cases hz⟩) (congrArg vb (right_nil s all acts))) (.cons _ _ _ _ (.refl _) (.cons _ _ _ _ (.agg _ _ (.same _ _ _ (.d _ _ _ _ (.nil _) (.same _ _ _ .nil)))) .nil))) kx_13)] [(8, vb true)] [] (by kernel_rfl) h ?_; clear h; intro a w h
           refine wp_ret ?_
           refine retS [.c (.d (.raw (.bool true)))] h Exit.ret (.inl rfl)  rfl ⟨RV.tmp _ _ rfl, trivial⟩ ?_ (by kernel_rfl) (by kernel_rfl)
           rfl
   ·have hc69 := hc; clear hc
    refine rSeq fam0ok 50 [(1, .call (Fn.cast (SFewSys s 2 hs) (congrArg vb hc1)) ky_1), (5, .call (Fn.cast (SFewSt x 2 hx) (congrArg vb hc69)) ky_2)] [(2, .t (.c (.d (.sl 1 (choices.map intD))))), (3, .t (.c (.d (.sl 2 (picks.map ziD))))), (4, vp 5 0), (5, vp 6 0), (8, vb false), (48, vb true)] [(5, .box (sysC s)), (6, .box [.d (.sl 1 (x.locs.map intD)), .d (.sl 2 (x.vals.map ziD))])] (by kernel_rfl) h ?_; clear h; intro a w h
    refine condS true h rfl (fun hc => ?_) (fun hc => ?_)
    ·clear hc
     refine rSeq fam0ok 50 [] [(2, .t (.c (.d (.sl 1 (choices.map intD))))), (3, .t (.c (.d (.sl 2 (picks.map ziD))))), (4, vp 5 0), (5, vp 6 0), (8, vb true)] [(5, .box (sysC s)), (6, .box [.d (.sl 1 (x.locs.map intD)), .d (.sl 2 (x.vals.map ziD))])] (by kernel_rfl) h ?_; clear h; intro a w h
     refine wp_ret ?_
     refine then_r ?_
     refine retS [.c (.d (.raw (.bool true)))] h Exit.ret (.inl rfl)  rfl ⟨RV.tmp _ _ rfl, trivial⟩ ?_ (by kernel_rfl) (by kernel_rfl)
     rfl
    ·cases hc
  ·have hc70 := hc; clear hc
   refine rSeq fam0ok 50 [(1, .call (Fn.cast (SFewSys s 2 hs) (congrArg vb hc70)) ky_1)] [(2, .t (.c (.d (.sl 1 (choices.map intD))))), (3, .t (.c (.d (.sl 2 (picks.map ziD))))), (4, vp 5 0), (5, vp 6 0), (8, vb false), (48, vb true)] [(5, .box (sysC s)), (6, .box [.d (.sl 1 (x.locs.map intD)), .d (.sl 2 (x.vals.map ziD))])] (by kernel_rfl) h ?_; clear h; intro a w h
   refine condS true h rfl (fun hc => ?_) (fun hc => ?_)
   ·clear hc
    refine rSeq fam0ok 50 [] [(2, .t (.c (.d (.sl 1 (choices.map intD))))), (3, .t (.c (.d (.sl 2 (picks.map ziD))))), (4, vp 5 0), (5, vp 6 0), (8, vb true)] [(5, .box (sysC s)), (6, .box [.d (.sl 1 (x.locs.map intD)), .d (.sl 2 (x.vals.map ziD))])] (by kernel_rfl) h ?_; clear h; intro a w h
    refine wp_ret ?_
    refine then_r ?_
    refine retS [.c (.d (.raw (.bool true)))] h Exit.ret (.inl rfl)  rfl ⟨RV.tmp _ _ rfl, trivial⟩ ?_ (by kernel_rfl) (by kernel_rfl)
    rfl
   ·cases hc
end Go.Proofs.Ytmohlifepfjmdaa.S
end
section
namespace Go.Proofs.Ytmohlifepfjmdaa.S
open Go.RowKit

section
variable {w : World} {n : Nat}
theorem rep_raw {t e : TypeId} (hu : Try.prog.underlying t = some (.slice e)) : RepN w n t rawD (fun _ => True) := fun H enc base spare held fuel cs x hn hx => by
 rcases DataW.trod_slice hu hx with ⟨rfl, _⟩ | ⟨a, len, cap, elems, rest, m, rfl, rfl, _⟩
 ·exact ⟨.raw _, trivial, DR.raw _ rfl, trivial⟩
 ·exact ⟨.raw _, trivial, DR.raw _ rfl, trivial⟩
theorem rep_ZIl : RepN w n 41 (slD 2 ziD) (fun xs => xs.length ≤ maxLen ∧ ∀ x ∈ xs, Lb x.abs) :=
 rep_slice (k := 2) Try.underlying41 (by kernel_rfl) (by decide) (fun _ => rfl) rep_ZI
theorem rep_strs : RepN w n 22 (slD 1 strD) (fun xs => xs.length ≤ maxLen ∧ ∀ x ∈ xs, x.size ≤ maxLen) :=
 rep_slice (k := 1) Try.underlying22 (by kernel_rfl) (by decide) (fun _ => rfl) (rep_str Try.underlying9)
theorem rep_Rel : RepN w n 32 RelD.d (fun r => TLb r.t) :=
 ((rep_struct (n := n) Try.underlying32 (by kernel_rfl) (.cons (k0 := 3) rfl (by kernel_rfl) rep_Term (.cons (k0 := 1) rfl (by kernel_rfl) (rep_bool Try.underlying4) .nil))).map (fun p => ⟨p.1, p.2.1⟩) (fun _ => rfl) fun _ h => h.1).mono (Nat.le_succ n)
theorem rep_Form : ∀ {n : Nat}, RepN w n 35 FormD.d FormD.lb
 | 0 => RepN.zero
 | n + 1 => (rep_struct (n := n) Try.underlying35 (by kernel_rfl) (.cons (k0 := 1) rfl (by kernel_rfl) (rep_i64 Try.underlying3) (.cons (k0 := 4) rfl (by kernel_rfl) rep_Rel (.cons (k0 := 1) rfl (by kernel_rfl) (rep_slice (k := 6) Try.underlying33 (by kernel_rfl) (by decide) FormD.d_len rep_Form) .nil)))).map (fun p => ⟨p.1, p.2.1, p.2.2.1⟩) (fun _ => (FormD.d_eq _).trans rfl) fun _ h => (FormD.lb_eq _).2 ⟨⟨h.2.1, Nat.le_trans h.2.2.1.1 (by decide)⟩, h.2.2.1.2⟩
theorem rep_Bound : RepN w n 53 BoundD.d (fun b => Lb b.lo.abs ∧ Lb b.hi.abs) :=
 ((rep_struct (n := n) Try.underlying53 (by kernel_rfl) (.cons (k0 := 1) rfl (by kernel_rfl) (rep_bool Try.underlying4) (.cons (k0 := 2) rfl (by kernel_rfl) rep_ZI (.cons (k0 := 2) rfl (by kernel_rfl) rep_ZI .nil)))).map (fun p => ⟨p.1, p.2.1, p.2.2.1⟩) (fun _ => rfl) fun _ h => ⟨h.2.1, h.2.2.1⟩).mono (Nat.le_succ n)
theorem rep_Move : RepN w n 51 MoveD.d (fun m => TLb m.t) :=
 ((rep_struct (n := n) Try.underlying51 (by kernel_rfl) (.cons (k0 := 1) rfl (by kernel_rfl) (rep_i64 Try.underlying3) (.cons (k0 := 1) rfl (by kernel_rfl) (rep_bool Try.underlying4) (.cons (k0 := 3) rfl (by kernel_rfl) rep_Term .nil)))).map (fun p => ⟨p.1, p.2.1, p.2.2.1⟩) (fun _ => rfl) fun _ h => h.2.2.1).mono (Nat.le_succ n)
theorem rep_Moves : RepN w n 47 (slD 5 MoveD.d) (fun xs => xs.length ≤ maxLen ∧ ∀ x ∈ xs, TLb x.t) :=
 rep_slice (k := 5) Try.underlying47 (by kernel_rfl) (by decide) (fun _ => rfl) rep_Move
theorem rep_Bounds : RepN w n 23 (slD 5 BoundD.d) (fun xs => xs.length ≤ maxLen ∧ ∀ x ∈ xs, Lb x.lo.abs ∧ Lb x.hi.abs) :=
 rep_slice (k := 5) Try.underlying23 (by kernel_rfl) (by decide) (fun _ => rfl) rep_Bound
theorem rep_Act : RepN w n 49 ActD.d (fun c => c.guard.lb ∧ c.moves.length ≤ maxLen ∧ ∀ m ∈ c.moves, TLb m.t) :=
 ((rep_struct (n := n) Try.underlying49 (by kernel_rfl) (.cons (k0 := 1) rfl (by kernel_rfl) (rep_i64 Try.underlying3) (.cons (k0 := 1) rfl (by kernel_rfl) (rep_i64 Try.underlying3) (.cons (k0 := 1) rfl (by kernel_rfl) (rep_i64 Try.underlying3) (.cons (k0 := 6) rfl (by kernel_rfl) rep_Form (.cons (k0 := 1) rfl (by kernel_rfl) rep_Moves .nil)))))).map (fun p => ⟨p.1, p.2.1, p.2.2.1, p.2.2.2.1, p.2.2.2.2.1⟩) (fun _ => by rw [FormD.d_eq]; rfl) fun _ h => ⟨h.2.2.2.1, h.2.2.2.2.1⟩).mono (Nat.le_succ n)
theorem rep_Proc : RepN w n 89 ProcD.d (fun _ => True) :=
 ((rep_struct (n := n) Try.underlying89 (by kernel_rfl) (.cons (k0 := 1) rfl (by kernel_rfl) (rep_str Try.underlying9) (.cons (k0 := 1) rfl (by kernel_rfl) rep_strs (.cons (k0 := 1) rfl (by kernel_rfl) (rep_raw Try.underlying87) .nil)))).map (fun p => ⟨p.1, p.2.1, p.2.2.1⟩) (fun _ => rfl) fun _ _ => trivial).mono (Nat.le_succ n)
theorem rep_Procs : RepN w n 36 (slD 3 ProcD.d) (fun xs => xs.length ≤ maxLen ∧ ∀ x ∈ xs, True) :=
 rep_slice (k := 3) Try.underlying36 (by kernel_rfl) (by decide) (fun _ => rfl) rep_Proc
theorem rep_Acts : RepN w n 37 (slD 10 ActD.d) (fun xs => xs.length ≤ maxLen ∧ ∀ x ∈ xs, x.guard.lb ∧ x.moves.length ≤ maxLen ∧ ∀ m ∈ x.moves, TLb m.t) :=
 rep_slice (k := 10) Try.underlying37 (by kernel_rfl) (by decide) (fun _ => rfl) rep_Act
theorem rep_Sys : RepN w n 39 SysD.d SysRd :=
 ((rep_struct (n := n) Try.underlying39 (by kernel_rfl) (.cons (k0 := 1) rfl (by kernel_rfl) rep_strs (.cons (k0 := 1) rfl (by kernel_rfl) rep_Bounds (.cons (k0 := 6) rfl (by kernel_rfl) rep_Form (.cons (k0 := 1) rfl (by kernel_rfl) rep_Procs (.cons (k0 := 1) rfl (by kernel_rfl) rep_Acts .nil)))))).map (fun p => ⟨p.1, p.2.1, p.2.2.1, p.2.2.2.1, p.2.2.2.2.1⟩) (fun _ => by rw [FormD.d_eq]; rfl) fun _ h => ⟨h.2.2.1, h.2.1.2, fun c hc => ⟨(h.2.2.2.2.1.2 c hc).1, (h.2.2.2.2.1.2 c hc).2.2⟩, ⟨Nat.le_trans h.2.1.1 (by decide), Nat.le_trans h.2.2.2.2.1.1 (by decide)⟩, fun c hc => Nat.le_trans (h.2.2.2.2.1.2 c hc).2.1 (by decide)⟩).mono (Nat.le_succ n)
theorem rep_State : RepN w n 43 StD.d StRd :=
 ((rep_struct (n := n) Try.underlying43 (by kernel_rfl) (.cons (k0 := 1) rfl (by kernel_rfl) rep_ints (.cons (k0 := 1) rfl (by kernel_rfl) rep_ZIl .nil))).map (fun p => ⟨p.1, p.2.1⟩) (fun _ => rfl) fun _ h => ⟨h.2.1.2, Nat.le_trans h.2.1.1 (by decide)⟩).mono (Nat.le_succ n)
end
end Go.Proofs.Ytmohlifepfjmdaa.S
end
section
namespace Go.Proofs.Ytmohlifepfjmdaa.S
open Go.RowKit

theorem SKripkeWalksW (s : SysD) (x : StD) (choices : List Int) (picks : List ZI) (hs : SysRd s) (hx : StRd x) (hc : choices.length ≤ maxLen) (hp : picks.length ≤ maxLen ∧ ∀ z ∈ picks, Lb z.abs) : Fn Try.prog 4 [] [vd (SysD.d s), vd (StD.d x), .t (.c (.d (.sl 1 (choices.map intD)))), .t (.c (.d (.sl 2 (picks.map ziD))))] (vb true) [] :=
 SKripkeWalks s x choices picks hs hx hp.2 (Nat.le_trans hc (by decide)) (Nat.le_trans hp.1 (by decide))
end Go.Proofs.Ytmohlifepfjmdaa.S
end
section
namespace Go.Proofs.Ytmohlifepfjmdaa.kripkeWalksDone
open Go.ChangeShapes Go.WideShapes Go.ChangeAt Go.RowKit
open Go.ChangeMaps (open_string shut_string)
open Go.Proofs.Ytmohlifepfjmdaa.S

theorem own : ownKnob Try.prog.godebug = none := by kernel_rfl
theorem laidOut : laidOutB Try.prog = true := by kernel_rfl

theorem lifted (os : Os) (started : os.Started) (H : Type) (enc : TypeId × Value → H) :
  ReturnsInHanded {} Try.checked os 4 .any (Rows.kripkeWalksSpec.pre6 enc Try.prog Try.f4 Rows.kripkeWalksRow.domain false) (Rows.kripkeWalksSpec.post enc Try.prog Try.f4 false true false false) := by
 refine returnsInHanded_of_change (C := Try.checked) own started (by kernel_rfl) Try.func4
  (ChangeSpec.witness6 (enc := enc) (C := Try.checked) false ⟨#[], #[.agg #[.slice none 0 0, .slice none 0 0, .int .i64 0, .slice none 0 0, .bool false, .slice none 0 0, .bool false, .slice none 0 0, .slice none 0 0, .slice none 0 0], .agg #[.slice none 0 0, .slice none 0 0], .slice none 0 0, .slice none 0 0], []⟩ 12 (by kernel_rfl) (by kernel_rfl) (by kernel_rfl) (by kernel_rfl)) ?_
 intro W base args ds gs before hval0 hW hcnd _
 have hval : ∀ (j : Nat) t v, Try.f4.params[j]? = some t → args[j]? = some v → Value.okWide Try.prog W .any base t v := hval0
 have hW' := hW
 obtain ⟨p, q, hA0, hV, rfl, hfz, hnd⟩ := hW
 have hA : DataW.TrodAll enc Try.prog W 0 (fun _ => true) true Try.f4.params.toList args.toList ds p := hA0
 rw [Try.params4] at hA hval
 obtain ⟨v0, vs0, d0, ds0, p0, q0, hargs, rfl, rfl, h0, r0⟩ := trodAll_cons hA
 obtain ⟨v1, vs1, d1, ds1, p1, q1, rfl, rfl, rfl, h1, r1⟩ := trodAll_cons r0
 obtain ⟨v2, vs2, d2, ds2, p2, q2, rfl, rfl, rfl, h2, r2⟩ := trodAll_cons r1
 obtain ⟨v3, vs3, d3, ds3, p3, q3, rfl, rfl, rfl, h3, r3⟩ := trodAll_cons r2
 obtain ⟨rfl, rfl, rfl⟩ := trodAll_nil r3
 obtain rfl : args = #[v0, v1, v2, v3] := by cases args; simp_all
 obtain ⟨rfl, rfl⟩ := trodVars_none hV
 have k0 := h0
 have lt0 : ∀ x ∈ p0, x.block < W.heap.size := by obtain ⟨m, hm⟩ := k0; exact DataW.trod_lt m _ _ _ hm
 obtain ⟨a0, cs0, g0, rfl, dr0⟩ := rep_agg Try.underlying39 (fun _ => rep_Sys) (hval 0 39 v0 rfl rfl) h0
 have k1 := h1
 have lt1 : ∀ x ∈ p1, x.block < W.heap.size := by obtain ⟨m, hm⟩ := k1; exact DataW.trod_lt m _ _ _ hm
 obtain ⟨a1, cs1, g1, rfl, dr1⟩ := rep_agg Try.underlying43 (fun _ => rep_State) (hval 1 43 v1 rfl rfl) h1
 have k2 := h2
 have lt2 : ∀ x ∈ p2, x.block < W.heap.size := by obtain ⟨m, hm⟩ := k2; exact DataW.trod_lt m _ _ _ hm
 obtain ⟨a2, ao2, len2, cap2, g2, rfl, dr2⟩ := rep_one Try.underlying40 (fun _ => rep_ints) (hval 2 40 v2 rfl rfl) h2
 have k3 := h3
 have lt3 : ∀ x ∈ p3, x.block < W.heap.size := by obtain ⟨m, hm⟩ := k3; exact DataW.trod_lt m _ _ _ hm
 obtain ⟨a3, ao3, len3, cap3, g3, rfl, dr3⟩ := rep_one Try.underlying41 (fun _ => rep_ZIl) (hval 3 41 v3 rfl rfl) h3
 clear hA0 hval0
 refine ((SKripkeWalksW a0 a1 a2 a3 g0 g1 g2.1 g3).calls (w := W) (vals := [.agg ⟨cs0⟩, .agg ⟨cs1⟩, .slice ao2 len2 cap2, .slice ao3 len3 cap3]) fun B => ⟨dr_vd dr0 B, dr_vd dr1 B, dr2, dr3, trivial⟩).mono fun e W' ⟨he, bel⟩ => ?_
 subst he
 exact ⟨_, rfl, _, _, _, [], _, [], hW', trodAll_mk1 (shut_bool Try.underlying4 _), (trodAll_cons_mk (Below.trod laidOut (by kernel_rfl) (of_decide_eq_true (by kernel_rfl)) k0 bel lt0) (trodAll_cons_mk (Below.trod laidOut (by kernel_rfl) (of_decide_eq_true (by kernel_rfl)) k1 bel lt1) (trodAll_cons_mk (Below.trod laidOut (by kernel_rfl) (of_decide_eq_true (by kernel_rfl)) k2 bel lt2) (trodAll_cons_mk (Below.trod laidOut (by kernel_rfl) (of_decide_eq_true (by kernel_rfl)) k3 bel lt3) trodAll_mk0)))), rfl, bel.below.frame _, fun h => by cases h⟩

theorem over : Rows.kripkeWalksRow.holds Try.pinned (OpenSpec.ofChange Rows.kripkeWalksSpec) :=
 OpenClaim.holds_of_wide 4 Try.f4 rfl rfl rfl rfl rfl rfl rfl ⟨rfl, rfl, rfl, rfl, rfl⟩ rfl rfl rfl rfl rfl (by kernel_rfl) Try.func4 (by kernel_rfl)
  (of_decide_eq_true (by kernel_rfl)) (by unfold Func.isWrapper; first | (rw [if_pos (by decide +kernel)]; kernel_rfl) | (rw [if_neg (by decide +kernel)]; exact ⟨rfl, rfl⟩))
  (fun os started H enc _ => lifted os started H enc)

theorem proved : Rows.KripkeWalksSaid := over
end Go.Proofs.Ytmohlifepfjmdaa.kripkeWalksDone
end
