/-
  The proof of the statement KripkeSteps: the walk through the program and the references lifted to the given row. It holds for every input.
-/
import Derived.Test.YtmohlifepfjmdaaGreatVs5
import Derived.Test.YtmohlifepfjmdaaGreatVs2
import Derived.Test.YtmohlifepfjmdaaGreatRows
set_option maxRecDepth 100000
section
namespace Go.Proofs.YtmohlifepfjmdaaGreat.S
open Go.RowKit

theorem kt_1 : Bodied Tryz.prog 24 := Bodied.mk' (by kernel_rfl)
theorem all2c {α β : Type} {R : α → β → Prop} {x : α} {xs : List α} {us : List β} (h : All2 R (x :: xs) us) : ∃ u vs, us = u :: vs ∧ R x u ∧ All2 R xs vs := by
 cases us with
 | nil => exact h.elim
 | cons u us => exact ⟨u, us, rfl, h⟩
theorem Fn.agg6 {P : Program} {k : FuncId} {ps qs : List (Nat × L)} {es : Nat} {c1 c2 c3 c4 c5 : C} {x y res : V} (h : Fn P k ps [.t (.agg [c1, c2, c3, c4, c5, .d (.sl es [])]), x, y] res qs) : Fn P k ps [.t (.agg [c1, c2, c3, c4, c5, .d (.raw nilV)]), x, y] res qs := by
 intro w H B vals pre
 obtain ⟨h1, h2, h3, h4, h5⟩ := pre
 cases vals with
 | nil => exact h5.elim
 | cons v vs =>
  obtain ⟨⟨us, rfl, ha⟩, ht⟩ := h5
  obtain ⟨u1, us, rfl, a1, ha⟩ := all2c ha
  obtain ⟨u2, us, rfl, a2, ha⟩ := all2c ha
  obtain ⟨u3, us, rfl, a3, ha⟩ := all2c ha
  obtain ⟨u4, us, rfl, a4, ha⟩ := all2c ha
  obtain ⟨u5, us, rfl, a5, ha⟩ := all2c ha
  obtain ⟨u6, us, rfl, a6, hz⟩ := all2c ha
  have h6 : u6 = nilV := VR.rawI (B := B) a6
  subst h6
  exact h w H B _ ⟨h1, h2, h3, h4, ⟨_, rfl, a1, a2, a3, a4, a5, DR.nil _ _ _ (fun _ => rfl) (Nat.zero_le _), hz⟩, ht⟩
def fewB (L : Nat) (b : BoundD) : Bool := decide ((b.lo.abs.length : Int) ≤ (L : Int)) && decide ((b.hi.abs.length : Int) ≤ (L : Int))
def formT (t : Term) : FormD := ⟨2, ⟨t, false⟩, []⟩
def fewM (L : Nat) (m : MoveD) : Bool := fewF (formT m.t) 5 L
def fewA (L : Nat) (c : ActD) : Bool := (fewF c.guard 30 L && decide ((c.moves.length : Int) ≤ 20)) && c.moves.all (fewM L)
def fewSys (L : Nat) (s : SysD) : Bool := (decide ((s.vars.length : Int) ≤ 8 ∧ (s.bounds.length : Int) ≤ 20 ∧ (s.procs.length : Int) ≤ 6 ∧ (s.acts.length : Int) ≤ 20) && fewF s.init 30 L) && (s.bounds.all (fewB L) && s.acts.all (fewA L))
def fewSt (L : Nat) (x : StD) : Bool := decide ((x.locs.length : Int) ≤ 10 ∧ (x.vals.length : Int) ≤ 10) && x.vals.all fun z => decide ((z.abs.length : Int) ≤ (L : Int))
/-- limbs that are limbs -/
structure SysRd (s : SysD) : Prop where
  init : s.init.lb
  bnd : ∀ b ∈ s.bounds, Lb b.lo.abs ∧ Lb b.hi.abs
  act : ∀ c ∈ s.acts, c.guard.lb ∧ ∀ m ∈ c.moves, TLb m.t
  len : s.bounds.length ≤ 9223372036854775807 ∧ s.acts.length ≤ 9223372036854775807
  mlen : ∀ c ∈ s.acts, c.moves.length ≤ 9223372036854775807
def StRd (x : StD) : Prop := (∀ z ∈ x.vals, Lb z.abs) ∧ x.vals.length ≤ 9223372036854775807
theorem fewF_ok {f : FormD} {most : Int} {L : Nat} (h : fewF f most L = true) (hl : f.lb) : f.ok L := by unfold fewF at h; rw [Bool.and_eq_true] at h; exact FormD.few_ok f h.2 hl
theorem formT_lb {t : Term} (h : TLb t) : (formT t).lb := (FormD.lb_eq _).2 ⟨⟨h, Nat.zero_le _⟩, fun g hg => (by cases hg)⟩
theorem formT_ok {t : Term} {L : Nat} (h : (formT t).ok L) : TOk 20 L t := ((FormD.ok_eq L _).1 h).1 rfl
theorem few_sys {L : Nat} {s : SysD} (h : fewSys L s = true) (hr : SysRd s) : SysOk L s := by
 unfold fewSys at h
 simp only [Bool.and_eq_true, decide_eq_true_eq, List.all_eq_true] at h
 obtain ⟨⟨⟨h1, h2, h3, h4⟩, h5⟩, h6, h7⟩ := h
 refine ⟨by omega, by omega, by omega, by omega, fun b hb => ?_, ⟨hr.init, fewF_ok h5 hr.init⟩, fun c hc => ?_⟩
 ·have := h6 b hb; unfold fewB at this; simp only [Bool.and_eq_true, decide_eq_true_eq] at this
  exact ⟨⟨(hr.bnd b hb).1, by omega⟩, (hr.bnd b hb).2, by omega⟩
 ·have := h7 c hc; unfold fewA at this; simp only [Bool.and_eq_true, decide_eq_true_eq, List.all_eq_true] at this
  exact ⟨⟨(hr.act c hc).1, fewF_ok this.1.1 (hr.act c hc).1⟩, by omega, fun m hm => formT_ok (fewF_ok (this.2 m hm) (formT_lb ((hr.act c hc).2 m hm)))⟩
theorem few_st {L : Nat} {x : StD} (h : fewSt L x = true) (hr : StRd x) : StOk L x := by
 unfold fewSt at h
 simp only [Bool.and_eq_true, decide_eq_true_eq, List.all_eq_true] at h
 exact ⟨by omega, by omega, fun z hz => ⟨hr.1 z hz, by have := h.2 z hz; omega⟩⟩
set_option maxHeartbeats 4000000 in
theorem SFewSt (x : StD) (L : Nat) (hr : StRd x) : Fn Tryz.prog 7 [] [.t (.agg [.d (.sl 1 (x.locs.map intD)), .d (.sl 2 (x.vals.map ziD))]), vi .i64 (L : Int)] (vb (fewSt L x)) [] := by
 have lv := hr.2
 refine Fn.body Tryz.func7 rfl 32 rfl fun w H B a h => ?_
 refine rSeq fam0ok 0 [] [(1, vi .i64 (L : Int)), (2, vp 0 0), (4, vb false)] [(0, .box [.d (.sl 1 (x.locs.map intD)), .d (.sl 2 (x.vals.map ziD))])] (by kernel_rfl) h ?_; clear h; intro a w h
 refine wp_seq ?_
 rcases Bool.eq_false_or_eq_true (decide ((x.locs.length : Int) > 10)) with hc | hc
 ·have hc1 := hc; clear hc
  have hc1' := of_decide_eq_true hc1
  refine rSeq fam0ok 1 [(2, .len (c := (.d (.sl 1 (x.locs.map intD)))) (n := x.locs.length) (lenC_map _ _ _)), (3, .cmp (op := .gtr) (m := (x.locs.length : Int)) (n := 10) (b := true) .i64 hc1)] [(1, vi .i64 (L : Int)), (2, vp 0 0), (4, vb false), (15, vb true)] [(0, .box [.d (.sl 1 (x.locs.map intD)), .d (.sl 2 (x.vals.map ziD))])] (by kernel_rfl) h ?_; clear h; intro a w h
  refine condS true h rfl (fun hc => ?_) (fun hc => ?_)
  ·clear hc
   refine rSeq fam0ok 1 [] [(1, vi .i64 (L : Int)), (2, vp 0 0), (4, vb false)] [(0, .box [.d (.sl 1 (x.locs.map intD)), .d (.sl 2 (x.vals.map ziD))])] (by kernel_rfl) h ?_; clear h; intro a w h
   refine wp_ret ?_
   refine then_r ?_
   refine retS [.c (.d (.raw (.bool false)))] h Exit.ret (.inl rfl)  rfl ⟨RV.tmp _ _ rfl, trivial⟩ ?_ (by kernel_rfl) (by kernel_rfl)
   have hz : fewSt L x = false := by unfold fewSt; rw [decide_eq_false (p := (x.locs.length : Int) ≤ 10 ∧ (x.vals.length : Int) ≤ 10) (by have := of_decide_eq_true hc1; omega)]; rfl
   rw [hz]; first | done | rfl
  ·cases hc
 ·have hc2 := hc; clear hc
  have hc2' := of_decide_eq_false hc2
  refine rSeq fam0ok 1 [(2, .len (c := (.d (.sl 1 (x.locs.map intD)))) (n := x.locs.length) (lenC_map _ _ _)), (3, .cmp (op := .gtr) (m := (x.locs.length : Int)) (n := 10) (b := false) .i64 hc2), (7, .len (c := (.d (.sl 2 (x.vals.map ziD)))) (n := x.vals.length) (lenC_map _ _ _))] [(1, vi .i64 (L : Int)), (2, vp 0 0), (4, vb false), (15, vb (decide ((x.vals.length : Int) > 10)))] [(0, .box [.d (.sl 1 (x.locs.map intD)), .d (.sl 2 (x.vals.map ziD))])] (by kernel_rfl) h ?_; clear h; intro a w h
  refine condS (decide ((x.vals.length : Int) > 10)) h rfl (fun hc => ?_) (fun hc => ?_)
  ·have hc3 := hc; clear hc
   have hc3' := of_decide_eq_true hc3
   refine rSeq fam0ok 1 [] [(1, vi .i64 (L : Int)), (2, vp 0 0), (4, vb false)] [(0, .box [.d (.sl 1 (x.locs.map intD)), .d (.sl 2 (x.vals.map ziD))])] (by kernel_rfl) h ?_; clear h; intro a w h
   refine wp_ret ?_
   refine then_r ?_
   refine retS [.c (.d (.raw (.bool false)))] h Exit.ret (.inl rfl)  rfl ⟨RV.tmp _ _ rfl, trivial⟩ ?_ (by kernel_rfl) (by kernel_rfl)
   have hz : fewSt L x = false := by unfold fewSt; rw [decide_eq_false (p := (x.locs.length : Int) ≤ 10 ∧ (x.vals.length : Int) ≤ 10) (by have := of_decide_eq_true hc3; omega)]; rfl
   rw [hz]; first | done | rfl
  ·have hc4 := hc; clear hc
   have hc4' := of_decide_eq_false hc4
   refine wp_skip ?_
   refine then_n ?_
   refine wp_seq ?_
   refine rSeq fam0ok 1 [] [(1, vi .i64 (L : Int)), (2, vp 0 0), (4, vb false), (5, vi .i64 0)] [(0, .box [.d (.sl 1 (x.locs.map intD)), .d (.sl 2 (x.vals.map ziD))])] (by kernel_rfl) h ?_; clear h; intro a w h
   refine wp_block ?_
   refine loopS (ι := (Nat)) (fun (z_ : (Nat)) => match z_ with | j => j ≤ x.vals.length ∧ (x.vals.take j).all (fun z => decide ((z.abs.length : Int) ≤ (L : Int))) = true)
     (fun (z_ : (Nat)) => match z_ with | j => [(1, vi .i64 (L : Int)), (2, vp 0 0), (5, vi .i64 (j : Int))])
     (fun (z_ : (Nat)) => match z_ with | j => [(0, .box [.d (.sl 1 (x.locs.map intD)), .d (.sl 2 (x.vals.map ziD))])])
     (fun (z_ : (Nat)) => match z_ with | j => x.vals.length - j) 0 ?_ h (by kernel_rfl) (by kernel_rfl) ?_
   ·exact ⟨Nat.zero_le _, rfl⟩
   ·clear h; rintro j a w hI h
    change St _ (F.of [(1, vi .i64 (L : Int)), (2, vp 0 0), (5, vi .i64 (j : Int))] [(0, .box [.d (.sl 1 (x.locs.map intD)), .d (.sl 2 (x.vals.map ziD))])]) a w at h
    obtain ⟨hI1, hI2⟩ := hI
    refine wp_seq ?_
    refine rSeq fam0ok 1 [(3, .len (c := (.d (.sl 2 (x.vals.map ziD)))) (n := x.vals.length) (lenC_map _ _ _))] [(1, vi .i64 (L : Int)), (2, vp 0 0), (5, vi .i64 (j : Int)), (20, vb (decide ((j : Int) < (x.vals.length : Int))))] [(0, .box [.d (.sl 1 (x.locs.map intD)), .d (.sl 2 (x.vals.map ziD))])] (by kernel_rfl) h ?_; clear h; intro a w h
    refine condS (decide ((j : Int) < (x.vals.length : Int))) h rfl (fun hc => ?_) (fun hc => ?_)
    ·have hc5 := hc; clear hc
     have hc5' := of_decide_eq_true hc5
     refine wp_skip ?_
     refine then_n ?_
     refine wp_seq ?_
     refine wp_block ?_
     obtain ⟨x1, hx1⟩ : ∃ z_ : ZI, x.vals[j]? = some z_ := ⟨_, List.getElem?_eq_getElem (by first | omega | (simp at *; omega))⟩
     refine rSeq fam0ok 1 [(3, .gen _ _ _ fun _ _ _ _ => Op.idxD (d := 26) (t := 24) (k := .i64) tt_6 (map_at hx1 (f := ziD)) (OV.tmp 25 _)), (6, .len (nsl_len x1.abs))] [(1, vi .i64 (L : Int)), (2, vp 0 0), (5, vi .i64 (j : Int)), (31, vb (decide ((x1.abs.length : Int) > (L : Int))))] [(0, .box [.d (.sl 1 (x.locs.map intD)), .d (.sl 2 (x.vals.map ziD))])] (by kernel_rfl) h ?_; clear h; intro a w h
     refine condS (decide ((x1.abs.length : Int) > (L : Int))) h rfl (fun hc => ?_) (fun hc => ?_)
     ·have hc6 := hc; clear hc
      have hc6' := of_decide_eq_true hc6
      refine rSeq fam0ok 1 [] [(1, vi .i64 (L : Int)), (2, vp 0 0), (4, vb false), (5, vi .i64 (j : Int))] [(0, .box [.d (.sl 1 (x.locs.map intD)), .d (.sl 2 (x.vals.map ziD))])] (by kernel_rfl) h ?_; clear h; intro a w h
      refine wp_ret ?_
      refine block_r ?_
      refine then_r ?_
      refine then_r ?_
      refine block_r ?_
      refine then_r ?_
      refine retS [.c (.d (.raw (.bool false)))] h Exit.ret (.inl rfl)  rfl ⟨RV.tmp _ _ rfl, trivial⟩ ?_ (by kernel_rfl) (by kernel_rfl)
      have hz : fewSt L x = false := by unfold fewSt; rw [decide_eq_true (p := (x.locs.length : Int) ≤ 10 ∧ (x.vals.length : Int) ≤ 10) (by have := of_decide_eq_false hc2; have := of_decide_eq_false hc4; omega), Bool.true_and]; exact all_stop hx1 (decide_eq_false (by have := of_decide_eq_true hc6; omega))
      rw [hz]; first | done | rfl
     ·have hc7 := hc; clear hc
      have hc7' := of_decide_eq_false hc7
      refine wp_skip ?_
      refine block_n ?_
      refine then_n ?_
      refine rS fam0ok 1 [(1, .add .i64 (m := (j : Int)) (n := 1) (i64_id (by omega) (by omega)))] [(1, vi .i64 (L : Int)), (2, vp 0 0), (5, vi .i64 ((j : Int) + 1))] [(0, .box [.d (.sl 1 (x.locs.map intD)), .d (.sl 2 (x.vals.map ziD))])] (by kernel_rfl) h ?_; clear h; intro a w h
      refine then_n ?_
      refine roundS (x := j) (y := j + 1) h ?_ ?_ (by kernel_rfl) (by kernel_rfl)
      ·exact ⟨by have := at_lt hx1; omega, all_step hx1 hI2 (decide_eq_true (by have := of_decide_eq_false hc7; omega))⟩
      ·show x.vals.length - (j + 1) < x.vals.length - j
       have := at_lt hx1; omega
    ·have hc8 := hc; clear hc
     have hc8' := of_decide_eq_false hc8
     refine wp_exit ?_
     refine then_x ?_
     refine then_x ?_
     refine inBlock_exit ?_
     refine then_n ?_
     refine rSeq fam0ok 1 [] [(4, vb true)] [] (by kernel_rfl) h ?_; clear h; intro a w h
     refine wp_ret ?_
     refine retS [.c (.d (.raw (.bool true)))] h Exit.ret (.inl rfl)  rfl ⟨RV.tmp _ _ rfl, trivial⟩ ?_ (by kernel_rfl) (by kernel_rfl)
     have hz : fewSt L x = true := by unfold fewSt; rw [decide_eq_true (p := (x.locs.length : Int) ≤ 10 ∧ (x.vals.length : Int) ≤ 10) (by have := of_decide_eq_false hc2; have := of_decide_eq_false hc4; omega), Bool.true_and]; exact all_end (of_decide_eq_false hc8) hI2
     rw [hz]; first | done | rfl
set_option maxHeartbeats 4000000 in
theorem SFewSys (s : SysD) (L : Nat) (hr : SysRd s) : Fn Tryz.prog 6 [] [.t (.agg (sysC s)), vi .i64 (L : Int)] (vb (fewSys L s)) [] := by
 have lb1 := hr.len.1
 have lb2 := hr.len.2
 refine Fn.body Tryz.func6 rfl 118 rfl fun w H B a h => ?_
 refine rSeq fam0ok 0 [] [(1, vi .i64 (L : Int)), (2, vp 0 0), (4, vb false)] [(0, .box (sysC s))] (by kernel_rfl) h ?_; clear h; intro a w h
 refine wp_seq ?_
 rcases Bool.eq_false_or_eq_true (decide ((s.vars.length : Int) > 8)) with hc | hc
 ·have hc1 := hc; clear hc
  have hc1' := of_decide_eq_true hc1
  refine rSeq fam0ok 1 [(2, .len (c := (.d (.sl 1 (s.vars.map strD)))) (n := s.vars.length) (lenC_map _ _ _)), (3, .cmp (op := .gtr) (m := (s.vars.length : Int)) (n := 8) (b := true) .i64 hc1)] [(1, vi .i64 (L : Int)), (2, vp 0 0), (4, vb false), (36, vb true)] [(0, .box (sysC s))] (by kernel_rfl) h ?_; clear h; intro a w h
  refine condS true h rfl (fun hc => ?_) (fun hc => ?_)
  ·clear hc
   refine rSeq fam0ok 1 [] [(1, vi .i64 (L : Int)), (2, vp 0 0), (4, vb false)] [(0, .box (sysC s))] (by kernel_rfl) h ?_; clear h; intro a w h
   refine wp_ret ?_
   refine then_r ?_
   refine retS [.c (.d (.raw (.bool false)))] h Exit.ret (.inl rfl)  rfl ⟨RV.tmp _ _ rfl, trivial⟩ ?_ (by kernel_rfl) (by kernel_rfl)
   have hz : fewSys L s = false := by unfold fewSys; rw [decide_eq_false (p := (s.vars.length : Int) ≤ 8 ∧ (s.bounds.length : Int) ≤ 20 ∧ (s.procs.length : Int) ≤ 6 ∧ (s.acts.length : Int) ≤ 20) (by have := of_decide_eq_true hc1; omega)]; rfl
   rw [hz]; first | done | rfl
  ·cases hc
 ·have hc2 := hc; clear hc
  have hc2' := of_decide_eq_false hc2
  rcases Bool.eq_false_or_eq_true (decide ((s.bounds.length : Int) > 20)) with hc | hc
  ·have hc3 := hc; clear hc
   have hc3' := of_decide_eq_true hc3
   refine rSeq fam0ok 1 [(2, .len (c := (.d (.sl 1 (s.vars.map strD)))) (n := s.vars.length) (lenC_map _ _ _)), (3, .cmp (op := .gtr) (m := (s.vars.length : Int)) (n := 8) (b := false) .i64 hc2), (7, .len (c := (.d (.sl 5 (s.bounds.map BoundD.d)))) (n := s.bounds.length) (lenC_map _ _ _)), (8, .cmp (op := .gtr) (m := (s.bounds.length : Int)) (n := 20) (b := true) .i64 hc3)] [(1, vi .i64 (L : Int)), (2, vp 0 0), (4, vb false), (36, vb true)] [(0, .box (sysC s))] (by kernel_rfl) h ?_; clear h; intro a w h
   refine condS true h rfl (fun hc => ?_) (fun hc => ?_)
   ·clear hc
    refine rSeq fam0ok 1 [] [(1, vi .i64 (L : Int)), (2, vp 0 0), (4, vb false)] [(0, .box (sysC s))] (by kernel_rfl) h ?_; clear h; intro a w h
    refine wp_ret ?_
    refine then_r ?_
    refine retS [.c (.d (.raw (.bool false)))] h Exit.ret (.inl rfl)  rfl ⟨RV.tmp _ _ rfl, trivial⟩ ?_ (by kernel_rfl) (by kernel_rfl)
    have hz : fewSys L s = false := by unfold fewSys; rw [decide_eq_false (p := (s.vars.length : Int) ≤ 8 ∧ (s.bounds.length : Int) ≤ 20 ∧ (s.procs.length : Int) ≤ 6 ∧ (s.acts.length : Int) ≤ 20) (by have := of_decide_eq_true hc3; omega)]; rfl
    rw [hz]; first | done | rfl
   ·cases hc
  ·have hc4 := hc; clear hc
   have hc4' := of_decide_eq_false hc4
   rcases Bool.eq_false_or_eq_true (decide ((s.procs.length : Int) > 6)) with hc | hc
   ·have hc5 := hc; clear hc
    have hc5' := of_decide_eq_true hc5
    refine rSeq fam0ok 1 [(2, .len (c := (.d (.sl 1 (s.vars.map strD)))) (n := s.vars.length) (lenC_map _ _ _)), (3, .cmp (op := .gtr) (m := (s.vars.length : Int)) (n := 8) (b := false) .i64 hc2), (7, .len (c := (.d (.sl 5 (s.bounds.map BoundD.d)))) (n := s.bounds.length) (lenC_map _ _ _)), (8, .cmp (op := .gtr) (m := (s.bounds.length : Int)) (n := 20) (b := false) .i64 hc4), (13, .len (c := (.d (.sl 3 (s.procs.map ProcD.d)))) (n := s.procs.length) (lenC_map _ _ _)), (14, .cmp (op := .gtr) (m := (s.procs.length : Int)) (n := 6) (b := true) .i64 hc5)] [(1, vi .i64 (L : Int)), (2, vp 0 0), (4, vb false), (36, vb true)] [(0, .box (sysC s))] (by kernel_rfl) h ?_; clear h; intro a w h
    refine condS true h rfl (fun hc => ?_) (fun hc => ?_)
    ·clear hc
     refine rSeq fam0ok 1 [] [(1, vi .i64 (L : Int)), (2, vp 0 0), (4, vb false)] [(0, .box (sysC s))] (by kernel_rfl) h ?_; clear h; intro a w h
     refine wp_ret ?_
     refine then_r ?_
     refine retS [.c (.d (.raw (.bool false)))] h Exit.ret (.inl rfl)  rfl ⟨RV.tmp _ _ rfl, trivial⟩ ?_ (by kernel_rfl) (by kernel_rfl)
     have hz : fewSys L s = false := by unfold fewSys; rw [decide_eq_false (p := (s.vars.length : Int) ≤ 8 ∧ (s.bounds.length : Int) ≤ 20 ∧ (s.procs.length : Int) ≤ 6 ∧ (s.acts.length : Int) ≤ 20) (by have := of_decide_eq_true hc5; omega)]; rfl
     rw [hz]; first | done | rfl
    ·cases hc
   ·have hc6 := hc; clear hc
    have hc6' := of_decide_eq_false hc6
    rcases Bool.eq_false_or_eq_true (decide ((s.acts.length : Int) > 20)) with hc | hc
    ·have hc7 := hc; clear hc
     have hc7' := of_decide_eq_true hc7
     refine rSeq fam0ok 1 [(2, .len (c := (.d (.sl 1 (s.vars.map strD)))) (n := s.vars.length) (lenC_map _ _ _)), (3, .cmp (op := .gtr) (m := (s.vars.length : Int)) (n := 8) (b := false) .i64 hc2), (7, .len (c := (.d (.sl 5 (s.bounds.map BoundD.d)))) (n := s.bounds.length) (lenC_map _ _ _)), (8, .cmp (op := .gtr) (m := (s.bounds.length : Int)) (n := 20) (b := false) .i64 hc4), (13, .len (c := (.d (.sl 3 (s.procs.map ProcD.d)))) (n := s.procs.length) (lenC_map _ _ _)), (14, .cmp (op := .gtr) (m := (s.procs.length : Int)) (n := 6) (b := false) .i64 hc6), (19, .len (c := (.d (.sl 10 (s.acts.map ActD.d)))) (n := s.acts.length) (lenC_map _ _ _)), (20, .cmp (op := .gtr) (m := (s.acts.length : Int)) (n := 20) (b := true) .i64 hc7)] [(1, vi .i64 (L : Int)), (2, vp 0 0), (4, vb false), (36, vb true)] [(0, .box (sysC s))] (by kernel_rfl) h ?_; clear h; intro a w h
     refine condS true h rfl (fun hc => ?_) (fun hc => ?_)
     ·clear hc
      refine rSeq fam0ok 1 [] [(1, vi .i64 (L : Int)), (2, vp 0 0), (4, vb false)] [(0, .box (sysC s))] (by kernel_rfl) h ?_; clear h; intro a w h
      refine wp_ret ?_
      refine then_r ?_
      refine retS [.c (.d (.raw (.bool false)))] h Exit.ret (.inl rfl)  rfl ⟨RV.tmp _ _ rfl, trivial⟩ ?_ (by kernel_rfl) (by kernel_rfl)
      have hz : fewSys L s = false := by unfold fewSys; rw [decide_eq_false (p := (s.vars.length : Int) ≤ 8 ∧ (s.bounds.length : Int) ≤ 20 ∧ (s.procs.length : Int) ≤ 6 ∧ (s.acts.length : Int) ≤ 20) (by have := of_decide_eq_true hc7; omega)]; rfl
      rw [hz]; first | done | rfl
     ·cases hc
    ·have hc8 := hc; clear hc
     have hc8' := of_decide_eq_false hc8
     refine rSeq fam0ok 1 [(2, .len (c := (.d (.sl 1 (s.vars.map strD)))) (n := s.vars.length) (lenC_map _ _ _)), (3, .cmp (op := .gtr) (m := (s.vars.length : Int)) (n := 8) (b := false) .i64 hc2), (7, .len (c := (.d (.sl 5 (s.bounds.map BoundD.d)))) (n := s.bounds.length) (lenC_map _ _ _)), (8, .cmp (op := .gtr) (m := (s.bounds.length : Int)) (n := 20) (b := false) .i64 hc4), (13, .len (c := (.d (.sl 3 (s.procs.map ProcD.d)))) (n := s.procs.length) (lenC_map _ _ _)), (14, .cmp (op := .gtr) (m := (s.procs.length : Int)) (n := 6) (b := false) .i64 hc6), (19, .len (c := (.d (.sl 10 (s.acts.map ActD.d)))) (n := s.acts.length) (lenC_map _ _ _)), (20, .cmp (op := .gtr) (m := (s.acts.length : Int)) (n := 20) (b := false) .i64 hc8), (26, .call (SFewF s.init 30 (L : Int) hr.init (by decide) (by decide)) kt_1)] [(1, vi .i64 (L : Int)), (2, vp 0 0), (4, vb false), (36, vb (!(fewF s.init 30 L)))] [(0, .box (sysC s))] (by kernel_rfl) h ?_; clear h; intro a w h
     refine condS (!(fewF s.init 30 L)) h rfl (fun hc => ?_) (fun hc => ?_)
     ·have hc9 := hc; clear hc
      have hc9' := hc9; (try simp at hc9')
      refine rSeq fam0ok 1 [] [(1, vi .i64 (L : Int)), (2, vp 0 0), (4, vb false)] [(0, .box (sysC s))] (by kernel_rfl) h ?_; clear h; intro a w h
      refine wp_ret ?_
      refine then_r ?_
      refine retS [.c (.d (.raw (.bool false)))] h Exit.ret (.inl rfl)  rfl ⟨RV.tmp _ _ rfl, trivial⟩ ?_ (by kernel_rfl) (by kernel_rfl)
      have hz : fewSys L s = false := by unfold fewSys; rw [decide_eq_true (p := (s.vars.length : Int) ≤ 8 ∧ (s.bounds.length : Int) ≤ 20 ∧ (s.procs.length : Int) ≤ 6 ∧ (s.acts.length : Int) ≤ 20) (by have := of_decide_eq_false hc2; have := of_decide_eq_false hc4; have := of_decide_eq_false hc6; have := of_decide_eq_false hc8; omega), Bool.true_and]; rw [(show (fewF s.init 30 L) = false from by simpa using hc9)]; rfl
      rw [hz]; first | done | rfl
     ·have hc10 := hc; clear hc
      have hc10' := hc10; (try simp at hc10')
      refine wp_skip ?_
      refine then_n ?_
      refine wp_seq ?_
      refine rSeq fam0ok 1 [] [(1, vi .i64 (L : Int)), (2, vp 0 0), (4, vb false), (5, vi .i64 0)] [(0, .box (sysC s))] (by kernel_rfl) h ?_; clear h; intro a w h
      refine wp_block ?_
      refine loopS (ι := (Nat)) (fun (z_ : (Nat)) => match z_ with | j => j ≤ s.bounds.length ∧ (s.bounds.take j).all (fewB L) = true)
        (fun (z_ : (Nat)) => match z_ with | j => [(1, vi .i64 (L : Int)), (2, vp 0 0), (5, vi .i64 (j : Int))])
        (fun (z_ : (Nat)) => match z_ with | j => [(0, .box (sysC s))])
        (fun (z_ : (Nat)) => match z_ with | j => s.bounds.length - j) 0 ?_ h (by kernel_rfl) (by kernel_rfl) ?_
      ·exact ⟨Nat.zero_le _, rfl⟩
      ·clear h; rintro j a w hI h
       change St _ (F.of [(1, vi .i64 (L : Int)), (2, vp 0 0), (5, vi .i64 (j : Int))] [(0, .box (sysC s))]) a w at h
       obtain ⟨hI1, hI2⟩ := hI
       refine wp_seq ?_
       refine rSeq fam0ok 1 [(3, .len (c := (.d (.sl 5 (s.bounds.map BoundD.d)))) (n := s.bounds.length) (lenC_map _ _ _))] [(1, vi .i64 (L : Int)), (2, vp 0 0), (5, vi .i64 (j : Int)), (41, vb (decide ((j : Int) < (s.bounds.length : Int))))] [(0, .box (sysC s))] (by kernel_rfl) h ?_; clear h; intro a w h
       refine condS (decide ((j : Int) < (s.bounds.length : Int))) h rfl (fun hc => ?_) (fun hc => ?_)
       ·have hc11 := hc; clear hc
        have hc11' := of_decide_eq_true hc11
        refine wp_skip ?_
        refine then_n ?_
        refine wp_seq ?_
        refine wp_block ?_
        obtain ⟨x2, hx2⟩ : ∃ z_ : BoundD, s.bounds[j]? = some z_ := ⟨_, List.getElem?_eq_getElem (by first | omega | (simp at *; omega))⟩
        rcases Bool.eq_false_or_eq_true (decide ((x2.lo.abs.length : Int) > (L : Int))) with hc | hc
        ·have hc12 := hc; clear hc
         have hc12' := of_decide_eq_true hc12
         refine rSeq fam0ok 1 [(3, .gen _ _ _ fun _ _ _ _ => Op.idxD (d := 47) (t := 45) (k := .i64) kf_0 (map_at hx2 (f := BoundD.d)) (OV.tmp 46 _)), (7, .len (nsl_len x2.lo.abs)), (9, .cmp (op := .gtr) (m := (x2.lo.abs.length : Int)) (n := (L : Int)) (b := true) .i64 hc12)] [(1, vi .i64 (L : Int)), (2, vp 0 0), (5, vi .i64 (j : Int)), (65, vb true)] [(0, .box (sysC s))] (by kernel_rfl) h ?_; clear h; intro a w h
         refine condS true h rfl (fun hc => ?_) (fun hc => ?_)
         ·clear hc
          refine rSeq fam0ok 1 [] [(1, vi .i64 (L : Int)), (2, vp 0 0), (4, vb false), (5, vi .i64 (j : Int))] [(0, .box (sysC s))] (by kernel_rfl) h ?_; clear h; intro a w h
          refine wp_ret ?_
          refine block_r ?_
          refine then_r ?_
          refine then_r ?_
          refine block_r ?_
          refine then_r ?_
          refine retS [.c (.d (.raw (.bool false)))] h Exit.ret (.inl rfl)  rfl ⟨RV.tmp _ _ rfl, trivial⟩ ?_ (by kernel_rfl) (by kernel_rfl)
          have hz : fewSys L s = false := by unfold fewSys; rw [decide_eq_true (p := (s.vars.length : Int) ≤ 8 ∧ (s.bounds.length : Int) ≤ 20 ∧ (s.procs.length : Int) ≤ 6 ∧ (s.acts.length : Int) ≤ 20) (by have := of_decide_eq_false hc2; have := of_decide_eq_false hc4; have := of_decide_eq_false hc6; have := of_decide_eq_false hc8; omega), Bool.true_and]; rw [(show (fewF s.init 30 L) = true from by simpa using hc10)]; rw [all_stop hx2 (show fewB L x2 = false from (by unfold fewB; rw [decide_eq_false (by have := of_decide_eq_true hc12; omega)]; rfl))]; rfl
          rw [hz]; first | done | rfl
         ·cases hc
        ·have hc13 := hc; clear hc
         have hc13' := of_decide_eq_false hc13
         refine rSeq fam0ok 1 [(3, .gen _ _ _ fun _ _ _ _ => Op.idxD (d := 47) (t := 45) (k := .i64) kf_0 (map_at hx2 (f := BoundD.d)) (OV.tmp 46 _)), (7, .len (nsl_len x2.lo.abs)), (9, .cmp (op := .gtr) (m := (x2.lo.abs.length : Int)) (n := (L : Int)) (b := false) .i64 hc13), (14, .gen _ _ _ fun _ _ _ _ => Op.idxD (d := 58) (t := 56) (k := .i64) kf_0 (map_at hx2 (f := BoundD.d)) (OV.tmp 57 _)), (18, .len (nsl_len x2.hi.abs))] [(1, vi .i64 (L : Int)), (2, vp 0 0), (5, vi .i64 (j : Int)), (65, vb (decide ((x2.hi.abs.length : Int) > (L : Int))))] [(0, .box (sysC s))] (by kernel_rfl) h ?_; clear h; intro a w h
         refine condS (decide ((x2.hi.abs.length : Int) > (L : Int))) h rfl (fun hc => ?_) (fun hc => ?_)
         ·have hc14 := hc; clear hc
          have hc14' := of_decide_eq_true hc14
          refine rSeq fam0ok 1 [] [(1, vi .i64 (L : Int)), (2, vp 0 0), (4, vb false), (5, vi .i64 (j : Int))] [(0, .box (sysC s))] (by kernel_rfl) h ?_; clear h; intro a w h
          refine wp_ret ?_
          refine block_r ?_
          refine then_r ?_
          refine then_r ?_
          refine block_r ?_
          refine then_r ?_
          refine retS [.c (.d (.raw (.bool false)))] h Exit.ret (.inl rfl)  rfl ⟨RV.tmp _ _ rfl, trivial⟩ ?_ (by kernel_rfl) (by kernel_rfl)
          have hz : fewSys L s = false := by unfold fewSys; rw [decide_eq_true (p := (s.vars.length : Int) ≤ 8 ∧ (s.bounds.length : Int) ≤ 20 ∧ (s.procs.length : Int) ≤ 6 ∧ (s.acts.length : Int) ≤ 20) (by have := of_decide_eq_false hc2; have := of_decide_eq_false hc4; have := of_decide_eq_false hc6; have := of_decide_eq_false hc8; omega), Bool.true_and]; rw [(show (fewF s.init 30 L) = true from by simpa using hc10)]; rw [all_stop hx2 (show fewB L x2 = false from (by unfold fewB; rw [decide_eq_false (p := (x2.hi.abs.length : Int) ≤ (L : Int)) (by have := of_decide_eq_true hc14; omega), Bool.and_false]))]; rfl
          rw [hz]; first | done | rfl
         ·have hc15 := hc; clear hc
          have hc15' := of_decide_eq_false hc15
          refine wp_skip ?_
          refine block_n ?_
          refine then_n ?_
          refine rS fam0ok 1 [(1, .add .i64 (m := (j : Int)) (n := 1) (i64_id (by omega) (by omega)))] [(1, vi .i64 (L : Int)), (2, vp 0 0), (5, vi .i64 ((j : Int) + 1))] [(0, .box (sysC s))] (by kernel_rfl) h ?_; clear h; intro a w h
          refine then_n ?_
          refine roundS (x := j) (y := j + 1) h ?_ ?_ (by kernel_rfl) (by kernel_rfl)
          ·exact ⟨by have := at_lt hx2; omega, all_step hx2 hI2 (by unfold fewB; rw [decide_eq_true (by have := of_decide_eq_false hc13; omega), decide_eq_true (by have := of_decide_eq_false hc15; omega)]; rfl)⟩
          ·show s.bounds.length - (j + 1) < s.bounds.length - j
           have := at_lt hx2; omega
       ·have hc16 := hc; clear hc
        have hc16' := of_decide_eq_false hc16
        refine wp_exit ?_
        refine then_x ?_
        refine then_x ?_
        refine inBlock_exit ?_
        refine then_n ?_
        refine wp_seq ?_
        refine rSeq fam0ok 1 [] [(1, vi .i64 (L : Int)), (2, vp 0 0), (6, vi .i64 0)] [(0, .box (sysC s))] (by kernel_rfl) h ?_; clear h; intro a w h
        refine wp_block ?_
        refine loopS (ι := (Nat)) (fun (z_ : (Nat)) => match z_ with | q => q ≤ s.acts.length ∧ (s.acts.take q).all (fewA L) = true)
          (fun (z_ : (Nat)) => match z_ with | q => [(1, vi .i64 (L : Int)), (2, vp 0 0), (6, vi .i64 (q : Int))])
          (fun (z_ : (Nat)) => match z_ with | q => [(0, .box (sysC s))])
          (fun (z_ : (Nat)) => match z_ with | q => s.acts.length - q) 0 ?_ h (by kernel_rfl) (by kernel_rfl) ?_
        ·exact ⟨Nat.zero_le _, rfl⟩
        ·clear h; rintro q a w hI h
         change St _ (F.of [(1, vi .i64 (L : Int)), (2, vp 0 0), (6, vi .i64 (q : Int))] [(0, .box (sysC s))]) a w at h
         obtain ⟨hQ1, hQ2⟩ := hI
         refine wp_seq ?_
         refine rSeq fam0ok 1 [(3, .len (c := (.d (.sl 10 (s.acts.map ActD.d)))) (n := s.acts.length) (lenC_map _ _ _))] [(1, vi .i64 (L : Int)), (2, vp 0 0), (6, vi .i64 (q : Int)), (70, vb (decide ((q : Int) < (s.acts.length : Int))))] [(0, .box (sysC s))] (by kernel_rfl) h ?_; clear h; intro a w h
         refine condS (decide ((q : Int) < (s.acts.length : Int))) h rfl (fun hc => ?_) (fun hc => ?_)
         ·have hc17 := hc; clear hc
          have hc17' := of_decide_eq_true hc17
          refine wp_skip ?_
          refine then_n ?_
          refine wp_seq ?_
          refine wp_block ?_
          refine wp_seq ?_
          obtain ⟨x3, hx3⟩ : ∃ z_ : ActD, s.acts[q]? = some z_ := ⟨_, List.getElem?_eq_getElem (by first | omega | (simp at *; omega))⟩
          have lmx3 := hr.mlen x3 (List.mem_of_getElem? hx3)
          rcases Bool.eq_false_or_eq_true (fewF x3.guard 30 L) with hc | hc
          ·have hc18 := hc; clear hc
           refine rSeq fam0ok 1 [(3, .gen _ _ _ fun _ _ _ _ => Op.idxD (d := 76) (t := 74) (k := .i64) ki_1 (map_at hx3 (f := ActD.d)) (OV.tmp 75 _)), (7, .call (Fn.cast (SFewF x3.guard 30 (L : Int) (hr.act x3 (List.mem_of_getElem? hx3)).1 (by decide) (by decide)) (congrArg vb hc18)) kt_1), (13, .gen _ _ _ fun _ _ _ _ => Op.idxD (d := 86) (t := 84) (k := .i64) ki_1 (map_at hx3 (f := ActD.d)) (OV.tmp 85 _)), (16, .len (c := (.d (.sl 5 (x3.moves.map MoveD.d)))) (n := x3.moves.length) (lenC_map _ _ _))] [(1, vi .i64 (L : Int)), (2, vp 0 0), (6, vi .i64 (q : Int)), (91, vb (decide ((x3.moves.length : Int) > 20)))] [(0, .box (sysC s))] (by kernel_rfl) h ?_; clear h; intro a w h
           refine condS (decide ((x3.moves.length : Int) > 20)) h rfl (fun hc => ?_) (fun hc => ?_)
           ·have hc19 := hc; clear hc
            have hc19' := of_decide_eq_true hc19
            refine rSeq fam0ok 1 [] [(1, vi .i64 (L : Int)), (2, vp 0 0), (4, vb false), (6, vi .i64 (q : Int))] [(0, .box (sysC s))] (by kernel_rfl) h ?_; clear h; intro a w h
            refine wp_ret ?_
            refine then_r ?_
            refine block_r ?_
            refine then_r ?_
            refine then_r ?_
            refine block_r ?_
            refine then_r ?_
            refine retS [.c (.d (.raw (.bool false)))] h Exit.ret (.inl rfl)  rfl ⟨RV.tmp _ _ rfl, trivial⟩ ?_ (by kernel_rfl) (by kernel_rfl)
            have hz : fewSys L s = false := by unfold fewSys; rw [decide_eq_true (p := (s.vars.length : Int) ≤ 8 ∧ (s.bounds.length : Int) ≤ 20 ∧ (s.procs.length : Int) ≤ 6 ∧ (s.acts.length : Int) ≤ 20) (by have := of_decide_eq_false hc2; have := of_decide_eq_false hc4; have := of_decide_eq_false hc6; have := of_decide_eq_false hc8; omega), Bool.true_and]; rw [(show (fewF s.init 30 L) = true from by simpa using hc10)]; rw [all_end (of_decide_eq_false hc16) hI2]; rw [all_stop hx3 (show fewA L x3 = false from (by unfold fewA; rw [decide_eq_false (p := (x3.moves.length : Int) ≤ 20) (by have := of_decide_eq_true hc19; omega), Bool.and_false]; rfl))]; rfl
            rw [hz]; first | done | rfl
           ·have hc20 := hc; clear hc
            have hc20' := of_decide_eq_false hc20
            refine wp_skip ?_
            refine then_n ?_
            refine rSeq fam0ok 1 [] [(1, vi .i64 (L : Int)), (2, vp 0 0), (6, vi .i64 (q : Int)), (7, vi .i64 0)] [(0, .box (sysC s))] (by kernel_rfl) h ?_; clear h; intro a w h
            refine wp_block ?_
            refine loopS (ι := (Nat)) (fun (z_ : (Nat)) => match z_ with | i => i ≤ x3.moves.length ∧ (x3.moves.take i).all (fewM L) = true)
              (fun (z_ : (Nat)) => match z_ with | i => [(1, vi .i64 (L : Int)), (2, vp 0 0), (6, vi .i64 (q : Int)), (7, vi .i64 (i : Int))])
              (fun (z_ : (Nat)) => match z_ with | i => [(0, .box (sysC s))])
              (fun (z_ : (Nat)) => match z_ with | i => x3.moves.length - i) 0 ?_ h (by kernel_rfl) (by kernel_rfl) ?_
            ·exact ⟨Nat.zero_le _, rfl⟩
            ·clear h; rintro i a w hI h
             change St _ (F.of [(1, vi .i64 (L : Int)), (2, vp 0 0), (6, vi .i64 (q : Int)), (7, vi .i64 (i : Int))] [(0, .box (sysC s))]) a w at h
             obtain ⟨hJ1, hJ2⟩ := hI
             refine wp_seq ?_
             refine rSeq fam0ok 1 [(4, .gen _ _ _ fun _ _ _ _ => Op.idxD (d := 96) (t := 94) (k := .i64) ki_1 (map_at hx3 (f := ActD.d)) (OV.tmp 95 _)), (7, .len (c := (.d (.sl 5 (x3.moves.map MoveD.d)))) (n := x3.moves.length) (lenC_map _ _ _))] [(1, vi .i64 (L : Int)), (2, vp 0 0), (6, vi .i64 (q : Int)), (7, vi .i64 (i : Int)), (100, vb (decide ((i : Int) < (x3.moves.length : Int))))] [(0, .box (sysC s))] (by kernel_rfl) h ?_; clear h; intro a w h
             refine condS (decide ((i : Int) < (x3.moves.length : Int))) h rfl (fun hc => ?_) (fun hc => ?_)
             ·have hc21 := hc; clear hc
              have hc21' := of_decide_eq_true hc21
              refine wp_skip ?_
              refine then_n ?_
              refine wp_seq ?_
              refine wp_block ?_
              obtain ⟨x6, hx6⟩ : ∃ z_ : MoveD, x3.moves[i]? = some z_ := ⟨_, List.getElem?_eq_getElem (by first | omega | (simp at *; omega))⟩
              refine rSeq fam0ok 1 [(3, .gen _ _ _ fun _ _ _ _ => Op.idxD (d := 106) (t := 104) (k := .i64) ki_1 (map_at hx3 (f := ActD.d)) (OV.tmp 105 _)), (7, .gen _ _ _ fun _ _ _ _ => Op.idxD (d := 110) (t := 108) (k := .i64) ki_2 (map_at hx6 (f := MoveD.d)) (OV.tmp 109 _)), (13, .call (Fn.agg6 (SFewF (formT x6.t) 5 (L : Int) (formT_lb ((hr.act x3 (List.mem_of_getElem? hx3)).2 x6 (List.mem_of_getElem? hx6))) (by decide) (by decide))) kt_1)] [(1, vi .i64 (L : Int)), (2, vp 0 0), (6, vi .i64 (q : Int)), (7, vi .i64 (i : Int)), (117, vb (!(fewF (formT x6.t) 5 L)))] [(0, .box (sysC s))] (by kernel_rfl) h ?_; clear h; intro a w h
              refine condS (!(fewF (formT x6.t) 5 L)) h rfl (fun hc => ?_) (fun hc => ?_)
              ·have hc22 := hc; clear hc
               have hc22' := hc22; (try simp at hc22')
               refine rSeq fam0ok 1 [] [(1, vi .i64 (L : Int)), (2, vp 0 0), (4, vb false), (6, vi .i64 (q : Int)), (7, vi .i64 (i : Int))] [(0, .box (sysC s))] (by kernel_rfl) h ?_; clear h; intro a w h
               refine wp_ret ?_
               refine block_r ?_
               refine then_r ?_
               refine then_r ?_
               refine block_r ?_
               refine block_r ?_
               refine then_r ?_
               refine then_r ?_
               refine block_r ?_
               refine then_r ?_
               refine retS [.c (.d (.raw (.bool false)))] h Exit.ret (.inl rfl)  rfl ⟨RV.tmp _ _ rfl, trivial⟩ ?_ (by kernel_rfl) (by kernel_rfl)
               have hz : fewSys L s = false := by unfold fewSys; rw [decide_eq_true (p := (s.vars.length : Int) ≤ 8 ∧ (s.bounds.length : Int) ≤ 20 ∧ (s.procs.length : Int) ≤ 6 ∧ (s.acts.length : Int) ≤ 20) (by have := of_decide_eq_false hc2; have := of_decide_eq_false hc4; have := of_decide_eq_false hc6; have := of_decide_eq_false hc8; omega), Bool.true_and]; rw [(show (fewF s.init 30 L) = true from by simpa using hc10)]; rw [all_end (of_decide_eq_false hc16) hI2]; rw [all_stop hx3 (show fewA L x3 = false from (by unfold fewA; rw [hc18, decide_eq_true (p := (x3.moves.length : Int) ≤ 20) (by have := of_decide_eq_false hc20; omega), Bool.true_and, Bool.true_and]; exact all_stop hx6 (show fewM L x6 = false from (show (fewF (formT x6.t) 5 L) = false from by simpa using hc22))))]; rfl
               rw [hz]; first | done | rfl
              ·have hc23 := hc; clear hc
               have hc23' := hc23; (try simp at hc23')
               refine wp_skip ?_
               refine block_n ?_
               refine then_n ?_
               refine rS fam0ok 1 [(1, .add .i64 (m := (i : Int)) (n := 1) (i64_id (by omega) (by omega)))] [(1, vi .i64 (L : Int)), (2, vp 0 0), (6, vi .i64 (q : Int)), (7, vi .i64 ((i : Int) + 1))] [(0, .box (sysC s))] (by kernel_rfl) h ?_; clear h; intro a w h
               refine then_n ?_
               refine roundS (x := i) (y := i + 1) h ?_ ?_ (by kernel_rfl) (by kernel_rfl)
               ·have := at_lt hx6
                exact ⟨by omega, all_step hx6 hJ2 (show fewM L x6 = true from (show (fewF (formT x6.t) 5 L) = true from by simpa using hc23))⟩
               ·show x3.moves.length - (i + 1) < x3.moves.length - i
                have := at_lt hx6; omega
             ·have hc24 := hc; clear hc
              have hc24' := of_decide_eq_false hc24
              refine wp_exit ?_
              refine then_x ?_
              refine then_x ?_
              refine inBlock_exit ?_
              refine block_n ?_
              refine then_n ?_
              refine rS fam0ok 1 [(1, .add .i64 (m := (q : Int)) (n := 1) (i64_id (by omega) (by omega)))] [(1, vi .i64 (L : Int)), (2, vp 0 0), (6, vi .i64 ((q : Int) + 1))] [(0, .box (sysC s))] (by kernel_rfl) h ?_; clear h; intro a w h
              refine then_n ?_
              refine roundS (x := q) (y := q + 1) h ?_ ?_ (by kernel_rfl) (by kernel_rfl)
              ·have := at_lt hx3
               exact ⟨by omega, all_step hx3 hQ2 (by unfold fewA; rw [hc18, decide_eq_true (p := (x3.moves.length : Int) ≤ 20) (by have := of_decide_eq_false hc20; omega), Bool.true_and, Bool.true_and]; exact all_end (of_decide_eq_false hc24) hJ2)⟩
              ·show s.acts.length - (q + 1) < s.acts.length - q
               have := at_lt hx3; omega
          ·have hc25 := hc; clear hc
           refine rSeq fam0ok 1 [(3, .gen _ _ _ fun _ _ _ _ => Op.idxD (d := 76) (t := 74) (k := .i64) ki_1 (map_at hx3 (f := ActD.d)) (OV.tmp 75 _)), (7, .call (Fn.cast (SFewF x3.guard 30 (L : Int) (hr.act x3 (List.mem_of_getElem? hx3)).1 (by decide) (by decide)) (congrArg vb hc25)) kt_1)] [(1, vi .i64 (L : Int)), (2, vp 0 0), (6, vi .i64 (q : Int)), (91, vb true)] [(0, .box (sysC s))] (by kernel_rfl) h ?_; clear h; intro a w h
           refine condS true h rfl (fun hc => ?_) (fun hc => ?_)
           ·clear hc
            refine rSeq fam0ok 1 [] [(1, vi .i64 (L : Int)), (2, vp 0 0), (4, vb false), (6, vi .i64 (q : Int))] [(0, .box (sysC s))] (by kernel_rfl) h ?_; clear h; intro a w h
            refine wp_ret ?_
            refine then_r ?_
            refine block_r ?_
            refine then_r ?_
            refine then_r ?_
            refine block_r ?_
            refine then_r ?_
            refine retS [.c (.d (.raw (.bool false)))] h Exit.ret (.inl rfl)  rfl ⟨RV.tmp _ _ rfl, trivial⟩ ?_ (by kernel_rfl) (by kernel_rfl)
            have hz : fewSys L s = false := by unfold fewSys; rw [decide_eq_true (p := (s.vars.length : Int) ≤ 8 ∧ (s.bounds.length : Int) ≤ 20 ∧ (s.procs.length : Int) ≤ 6 ∧ (s.acts.length : Int) ≤ 20) (by have := of_decide_eq_false hc2; have := of_decide_eq_false hc4; have := of_decide_eq_false hc6; have := of_decide_eq_false hc8; omega), Bool.true_and]; rw [(show (fewF s.init 30 L) = true from by simpa using hc10)]; rw [all_end (of_decide_eq_false hc16) hI2]; rw [all_stop hx3 (show fewA L x3 = false from (by unfold fewA; rw [hc25]; rfl))]; rfl
            rw [hz]; first | done | rfl
           ·cases hc
         ·have hc26 := hc; clear hc
          have hc26' := of_decide_eq_false hc26
          refine wp_exit ?_
          refine then_x ?_
          refine then_x ?_
          refine inBlock_exit ?_
          refine then_n ?_
          refine rSeq fam0ok 1 [] [(4, vb true)] [] (by kernel_rfl) h ?_; clear h; intro a w h
          refine wp_ret ?_
          refine retS [.c (.d (.raw (.bool true)))] h Exit.ret (.inl rfl)  rfl ⟨RV.tmp _ _ rfl, trivial⟩ ?_ (by kernel_rfl) (by kernel_rfl)
          have hz : fewSys L s = true := by unfold fewSys; rw [decide_eq_true (p := (s.vars.length : Int) ≤ 8 ∧ (s.bounds.length : Int) ≤ 20 ∧ (s.procs.length : Int) ≤ 6 ∧ (s.acts.length : Int) ≤ 20) (by have := of_decide_eq_false hc2; have := of_decide_eq_false hc4; have := of_decide_eq_false hc6; have := of_decide_eq_false hc8; omega), Bool.true_and]; rw [(show (fewF s.init 30 L) = true from by simpa using hc10)]; rw [all_end (of_decide_eq_false hc16) hI2]; rw [all_end (of_decide_eq_false hc26) hQ2]; rfl
          rw [hz]; first | done | rfl
end Go.Proofs.YtmohlifepfjmdaaGreat.S
end
section
namespace Go.Proofs.YtmohlifepfjmdaaGreat.S
open Go.RowKit

theorem sameS_refl (x : StD) : sameS x x = true := by unfold sameS; rw [decide_eq_true rfl, decide_eq_true rfl]; rfl
theorem same_zi (z : ZI) : (z.neg == z.neg && decide (z.abs = z.abs)) = true := by simp
def atD (loc v : Int) : StD := ⟨[loc], [ZI.of v]⟩
theorem atD_ok (loc v : Int) (hv : -9223372036854775808 ≤ v ∧ v ≤ 9223372036854775807) {M : Nat} (hM : 2 ≤ M) : StOk M (atD loc v) := ⟨by show 1 ≤ 10; decide, by show 1 ≤ 10; decide, fun z hz => by
 obtain rfl : z = ZI.of v := by simpa [atD] using hz
 exact ⟨ZI.lb_of _, Nat.le_trans (ZI.len_of (by have := pw2; omega)) hM⟩⟩
theorem SRSameT (z : ZI) (h : Lb z.abs) : Fn Tryz.prog 42 [] [vz z, vz z] (vb true) [] := by have := SRSame z z h h; rwa [same_zi] at this
theorem SRSame18T (x : StD) {M : Nat} (hM : M ≤ 40000) (hx : StOk M x) : Fn Tryz.prog 22 [] [.t (.agg [.d (.sl 1 (x.locs.map intD)), .d (.sl 2 (x.vals.map ziD))]), .t (.agg [.d (.sl 1 (x.locs.map intD)), .d (.sl 2 (x.vals.map ziD))])] (vb true) [] := by have := SRSame18 x x hM hx hx; rwa [sameS_refl] at this
set_option maxHeartbeats 4000000 in
theorem SAt (loc v : Int) (hv : -9223372036854775808 ≤ v ∧ v ≤ 9223372036854775807) : Fn Tryz.prog 31 [] [vi .i64 loc, vi .i64 v] (.t (.agg [.d (.sl 1 ((atD loc v).locs.map intD)), .d (.sl 2 ((atD loc v).vals.map ziD))])) [] := by
 refine Fn.body Tryz.func31 rfl 11 rfl fun w H B a h => ?_
 refine rSeq fam0ok 0 [] [(0, vi .i64 loc), (1, vi .i64 v), (4, vp 0 0)] [(0, .box [.d (.raw nilV), .d (.raw nilV)])] (by kernel_rfl) h ?_; clear h; intro a w h
 refine rSeq fam0ok 1 [(1, .gen _ _ _ fun _ _ _ _ => Op.buildD (d := 6) (len := 1) (rows := [loc].map intD) (rs := [(5, vi .i64 loc)]) tb_0 (.cons (i := 0) (OV.tmp 5 _) (.nil)) (by kernel_rfl) rfl (by simp [intD]) (by decide) (by decide)), (3, .call (SROf v hv) tc_0), (4, .gen _ _ _ fun _ _ _ _ => Op.buildD (d := 9) (len := 1) (rows := [(ZI.of v)].map ziD) (rs := [(8, vz (ZI.of v))]) kk_3 (.cons (i := 0) (OV.tmp 8 _) (.nil)) (by kernel_rfl) rfl (by simp [ziD]) (by decide) (by decide))] [(4, vp 0 0)] [(0, .box [.d (.sl 1 ([loc].map intD)), .d (.sl 2 ([(ZI.of v)].map ziD))])] (by kernel_rfl) h ?_; clear h; intro a w h
 refine wp_ret ?_
 refine retS [.agg [.d (.sl 1 ([loc].map intD)), .d (.sl 2 ([(ZI.of v)].map ziD))]] h Exit.ret (.inl rfl)  rfl ⟨RV.agg _ 0 0 _ _ _ _ kk_5 rfl rfl rfl rfl, trivial⟩ ?_ (by kernel_rfl) (by kernel_rfl)
 rfl
set_option maxHeartbeats 4000000 in
theorem SSameLaw (x : StD) {M : Nat} (hM : M ≤ 40000) (hx : StOk M x) : Fn Tryz.prog 10 [] [.t (.agg [.d (.sl 1 (x.locs.map intD)), .d (.sl 2 (x.vals.map ziD))]), .t (.agg [.d (.sl 1 (x.locs.map intD)), .d (.sl 2 (x.vals.map ziD))])] (vb true) [] := by
 have lvv := hx.vals
 refine Fn.body Tryz.func10 rfl 29 rfl fun w H B a h => ?_
 refine rSeq fam0ok 0 [] [(2, vp 0 0), (3, vp 1 0), (4, vb false)] [(0, .box [.d (.sl 1 (x.locs.map intD)), .d (.sl 2 (x.vals.map ziD))]), (1, .box [.d (.sl 1 (x.locs.map intD)), .d (.sl 2 (x.vals.map ziD))])] (by kernel_rfl) h ?_; clear h; intro a w h
 refine wp_seq ?_
 refine rSeq fam0ok 2 [(2, .call (SRSame18T x hM hx) kr_9)] [(2, vp 0 0), (3, vp 1 0), (4, vb false), (9, vb false)] [(0, .box [.d (.sl 1 (x.locs.map intD)), .d (.sl 2 (x.vals.map ziD))]), (1, .box [.d (.sl 1 (x.locs.map intD)), .d (.sl 2 (x.vals.map ziD))])] (by kernel_rfl) h ?_; clear h; intro a w h
 refine condS false h rfl (fun hc => ?_) (fun hc => ?_)
 ·cases hc
 ·clear hc
  refine wp_skip ?_
  refine then_n ?_
  refine wp_seq ?_
  refine rSeq fam0ok 2 [(2, .len (c := (.d (.sl 2 (x.vals.map ziD)))) (n := x.vals.length) (lenC_map _ _ _))] [(2, vp 0 0), (3, vp 1 0), (4, vb false), (12, vi .i64 (x.vals.length : Int)), (13, vi .i64 0)] [(0, .box [.d (.sl 1 (x.locs.map intD)), .d (.sl 2 (x.vals.map ziD))]), (1, .box [.d (.sl 1 (x.locs.map intD)), .d (.sl 2 (x.vals.map ziD))])] (by kernel_rfl) h ?_; clear h; intro a w h
  refine wp_block ?_
  refine loopS (ι := (Nat)) (fun (z_ : (Nat)) => match z_ with | i => i ≤ x.vals.length)
    (fun (z_ : (Nat)) => match z_ with | i => [(2, vp 0 0), (3, vp 1 0), (12, vi .i64 (x.vals.length : Int)), (13, vi .i64 (i : Int))])
    (fun (z_ : (Nat)) => match z_ with | i => [(0, .box [.d (.sl 1 (x.locs.map intD)), .d (.sl 2 (x.vals.map ziD))]), (1, .box [.d (.sl 1 (x.locs.map intD)), .d (.sl 2 (x.vals.map ziD))])])
    (fun (z_ : (Nat)) => match z_ with | i => x.vals.length - i) 0 ?_ h (by kernel_rfl) (by kernel_rfl) ?_
  ·exact Nat.zero_le _
  ·clear h; rintro i a w hI h
   change St _ (F.of [(2, vp 0 0), (3, vp 1 0), (12, vi .i64 (x.vals.length : Int)), (13, vi .i64 (i : Int))] [(0, .box [.d (.sl 1 (x.locs.map intD)), .d (.sl 2 (x.vals.map ziD))]), (1, .box [.d (.sl 1 (x.locs.map intD)), .d (.sl 2 (x.vals.map ziD))])]) a w at h
   refine rSeq fam0ok 2 [] [(2, vp 0 0), (3, vp 1 0), (12, vi .i64 (x.vals.length : Int)), (13, vi .i64 (i : Int)), (14, vb (decide ((i : Int) < (x.vals.length : Int))))] [(0, .box [.d (.sl 1 (x.locs.map intD)), .d (.sl 2 (x.vals.map ziD))]), (1, .box [.d (.sl 1 (x.locs.map intD)), .d (.sl 2 (x.vals.map ziD))])] (by kernel_rfl) h ?_; clear h; intro a w h
   refine wp_seq ?_
   refine condS (decide ((i : Int) < (x.vals.length : Int))) h rfl (fun hc => ?_) (fun hc => ?_)
   ·have hc1 := hc; clear hc
    have hc1' := of_decide_eq_true hc1
    refine wp_skip ?_
    refine then_n ?_
    refine wp_seq ?_
    refine wp_block ?_
    refine rSeq fam0ok 2 [] [(2, vp 0 0), (3, vp 1 0), (5, vi .i64 (i : Int)), (12, vi .i64 (x.vals.length : Int)), (13, vi .i64 (i : Int))] [(0, .box [.d (.sl 1 (x.locs.map intD)), .d (.sl 2 (x.vals.map ziD))]), (1, .box [.d (.sl 1 (x.locs.map intD)), .d (.sl 2 (x.vals.map ziD))])] (by kernel_rfl) h ?_; clear h; intro a w h
    obtain ⟨x2, hx2⟩ : ∃ z_ : ZI, x.vals[i]? = some z_ := ⟨_, List.getElem?_eq_getElem (by first | omega | (simp at *; omega))⟩
    have gx2 := hx.val x2 (List.mem_of_getElem? hx2)
    refine rSeq fam0ok 2 [(3, .gen _ _ _ fun _ _ _ _ => Op.idxD (d := 19) (t := 17) (k := .i64) tt_6 (map_at hx2 (f := ziD)) (OV.tmp 18 _)), (8, .gen _ _ _ fun _ _ _ _ => Op.idxD (d := 24) (t := 22) (k := .i64) tt_6 (map_at hx2 (f := ziD)) (OV.tmp 23 _)), (10, .call (SRSameT x2 gx2.1) td_0)] [(2, vp 0 0), (3, vp 1 0), (12, vi .i64 (x.vals.length : Int)), (13, vi .i64 (i : Int)), (27, vb false)] [(0, .box [.d (.sl 1 (x.locs.map intD)), .d (.sl 2 (x.vals.map ziD))]), (1, .box [.d (.sl 1 (x.locs.map intD)), .d (.sl 2 (x.vals.map ziD))])] (by kernel_rfl) h ?_; clear h; intro a w h
    refine condS false h rfl (fun hc => ?_) (fun hc => ?_)
    ·cases hc
    ·clear hc
     refine wp_skip ?_
     refine block_n ?_
     refine then_n ?_
     refine rS fam0ok 2 [(0, .add .i64 (m := (i : Int)) (n := 1) (i64_id (by omega) (by omega)))] [(2, vp 0 0), (3, vp 1 0), (12, vi .i64 (x.vals.length : Int)), (13, vi .i64 ((i : Int) + 1))] [(0, .box [.d (.sl 1 (x.locs.map intD)), .d (.sl 2 (x.vals.map ziD))]), (1, .box [.d (.sl 1 (x.locs.map intD)), .d (.sl 2 (x.vals.map ziD))])] (by kernel_rfl) h ?_; clear h; intro a w h
     refine then_n ?_
     refine roundS (x := i) (y := i + 1) h ?_ ?_ (by kernel_rfl) (by kernel_rfl)
     ·show i + 1 ≤ x.vals.length
      omega
     ·show x.vals.length - (i + 1) < x.vals.length - i
      omega
   ·have hc2 := hc; clear hc
    have hc2' := of_decide_eq_false hc2
    refine wp_exit ?_
    refine then_x ?_
    refine then_x ?_
    refine inBlock_exit ?_
    refine then_n ?_
    refine rSeq fam0ok 2 [] [(4, vb true)] [] (by kernel_rfl) h ?_; clear h; intro a w h
    refine wp_ret ?_
    refine retS [.c (.d (.raw (.bool true)))] h Exit.ret (.inl rfl)  rfl ⟨RV.tmp _ _ rfl, trivial⟩ ?_ (by kernel_rfl) (by kernel_rfl)
    rfl
end Go.Proofs.YtmohlifepfjmdaaGreat.S
end
section
namespace Go.Proofs.YtmohlifepfjmdaaGreat.S
open Go.RowKit

mutual
/-- y is x, with nil read as an empty slice here and there -/
inductive Wk : D → D → Prop
  | refl (x : D) : Wk x x
  | nil (es : Nat) : Wk (.raw nilV) (.sl es [])
  | sl (es : Nat) (a b : List (List D)) (h : WkR a b) : Wk (.sl es a) (.sl es b)
inductive WkL : List D → List D → Prop
  | nil : WkL [] []
  | cons (x y : D) (xs ys : List D) (h : Wk x y) (hs : WkL xs ys) : WkL (x :: xs) (y :: ys)
inductive WkR : List (List D) → List (List D) → Prop
  | nil : WkR [] []
  | cons (x y : List D) (xs ys : List (List D)) (h : WkL x y) (hs : WkR xs ys) : WkR (x :: xs) (y :: ys)
end
def WkM (x y : D) : Prop := ∀ (H : Im) (v : Value), DR H x v → DR H y v
def WkLM (xs ys : List D) : Prop := xs.length = ys.length ∧ ∀ j (h : j < xs.length) (h' : j < ys.length), WkM xs[j] ys[j]
def WkRM (xs ys : List (List D)) : Prop := xs.length = ys.length ∧ ∀ i (h : i < xs.length) (h' : i < ys.length), WkLM xs[i] ys[i]
theorem Wk.sound {x y : D} (h : Wk x y) : WkM x y := by
 refine Wk.rec (motive_1 := fun x y _ => WkM x y) (motive_2 := fun x y _ => WkLM x y) (motive_3 := fun x y _ => WkRM x y) ?_ ?_ ?_ ?_ ?_ ?_ ?_ h
 ·intro x H v h; exact h
 ·intro es H v h
  cases h with
  | raw v h => exact DR.nil _ _ _ (fun _ => rfl) (Nat.zero_le _)
 ·intro es a b _ ih H v h
  cases h with
  | nil es ao c h hc =>
   have : b = [] := List.length_eq_zero_iff.1 ih.1.symm
   subst this
   exact DR.nil _ _ _ h hc
  | sl es rows bb o c arr ty fz vs hp hb hl hc hes hv hr =>
   rw [ih.1] at hp hl ⊢
   refine DR.sl es b bb o c arr ty fz vs hp hb hl hc (fun i hi => ?_) (fun i hi => ?_) (fun i hi j hj => ?_)
   ·have h0 : i < a.length := by rw [ih.1]; exact hi
    rw [← (ih.2 i h0 hi).1]; exact hes i h0
   ·exact hv i (by rw [ih.1]; exact hi)
   ·have h0 : i < a.length := by rw [ih.1]; exact hi
    have hj0 : j < a[i].length := by rw [(ih.2 i h0 hi).1]; exact hj
    exact (ih.2 i h0 hi).2 j hj0 hj _ _ (hr i h0 j hj0)
 ·exact ⟨rfl, fun j h => absurd h (Nat.not_lt_zero j)⟩
 ·intro x y xs ys _ _ h hs
  refine ⟨by simp [hs.1], fun j hj hj' => ?_⟩
  cases j with
  | zero => exact h
  | succ j => exact hs.2 j (by simpa using hj) (by simpa using hj')
 ·exact ⟨rfl, fun j h => absurd h (Nat.not_lt_zero j)⟩
 ·intro x y xs ys _ _ h hs
  refine ⟨by simp [hs.1], fun j hj hj' => ?_⟩
  cases j with
  | zero => exact h
  | succ j => exact hs.2 j (by simpa using hj) (by simpa using hj')
inductive WkC : List C → List C → Prop
  | nil : WkC [] []
  | same (x : C) (xs ys : List C) (hs : WkC xs ys) : WkC (x :: xs) (x :: ys)
  | d (x y : D) (xs ys : List C) (h : Wk x y) (hs : WkC xs ys) : WkC (.d x :: xs) (.d y :: ys)
theorem WkC.sound {H : Im} {B : Bl} {xs ys : List C} (h : WkC xs ys) : ∀ {vs : List Value}, All2 (CR H B) xs vs → All2 (CR H B) ys vs := by
 induction h with
 | nil => exact fun h => h
 | same x xs ys _ ih =>
  intro vs k
  cases vs with
  | nil => exact k.elim
  | cons v vs => exact ⟨k.1, ih k.2⟩
 | d x y xs ys h _ ih =>
  intro vs k
  cases vs with
  | nil => exact k.elim
  | cons v vs => exact ⟨h.sound H v k.1, ih k.2⟩
inductive WkV : V → V → Prop
  | refl (x : V) : WkV x x
  | c (x y : D) (h : Wk x y) : WkV (.t (.c (.d x))) (.t (.c (.d y)))
  | agg (xs ys : List C) (h : WkC xs ys) : WkV (.t (.agg xs)) (.t (.agg ys))
theorem WkV.sound {H : Im} {B : Bl} {x y : V} (h : WkV x y) {v : Value} (k : VR H B x v) : VR H B y v := by
 cases h with
 | refl => exact k
 | c x y h => exact h.sound H v k
 | agg xs ys h => obtain ⟨vs, e, k⟩ := k; exact ⟨vs, e, h.sound k⟩
inductive WkA : List V → List V → Prop
  | nil : WkA [] []
  | cons (x y : V) (xs ys : List V) (h : WkV x y) (hs : WkA xs ys) : WkA (x :: xs) (y :: ys)
theorem WkA.sound {H : Im} {B : Bl} {xs ys : List V} (h : WkA xs ys) : ∀ {vs : List Value}, All2 (VR H B) xs vs → All2 (VR H B) ys vs := by
 induction h with
 | nil => exact fun h => h
 | cons x y xs ys h _ ih =>
  intro vs k
  cases vs with
  | nil => exact k.elim
  | cons v vs => exact ⟨h.sound k.1, ih k.2⟩
theorem Fn.argw {P : Program} {k : FuncId} {ps qs : List (Nat × L)} {args args' : List V} {res : V} (h : Fn P k ps args' res qs) (hw : WkA args args') : Fn P k ps args res qs :=
 fun w H B vals pre => h w H B vals ⟨pre.sat, pre.loc, pre.priv, pre.inj, hw.sound pre.arg⟩
theorem Fn.resw {P : Program} {k : FuncId} {ps qs : List (Nat × L)} {args : List V} {res res' : V} (h : Fn P k ps args res qs) (hw : WkV res res') : Fn P k ps args res' qs :=
 fun w H B vals pre => (h w H B vals pre).mono fun _en _w' ⟨v, H', B', e, p⟩ => ⟨v, H', B', e, { p with res := hw.sound p.res }⟩
end Go.Proofs.YtmohlifepfjmdaaGreat.S
end
section
namespace Go.Proofs.YtmohlifepfjmdaaGreat.S
open Go.RowKit

theorem kw_2 : ElZ Tryz.prog 22 9 1 := ElZ.mk' Tryz.underlying22 _ _ rfl rfl (by kernel_rfl) (by kernel_rfl) (by kernel_rfl) (by decide)
theorem kw_3 : ElZ Tryz.prog 23 76 5 := ElZ.mk' Tryz.underlying23 _ _ rfl rfl (by kernel_rfl) (by kernel_rfl) (by kernel_rfl) (by decide)
theorem kw_4 : ElZ Tryz.prog 36 96 3 := ElZ.mk' Tryz.underlying36 _ _ rfl rfl (by kernel_rfl) (by kernel_rfl) (by kernel_rfl) (by decide)
theorem kw_5 : ElZ Tryz.prog 77 81 5 := ElZ.mk' Tryz.underlying77 _ _ rfl rfl (by kernel_rfl) (by kernel_rfl) (by kernel_rfl) (by decide)
theorem kw_6 : ElZ Tryz.prog 37 79 10 := ElZ.mk' Tryz.underlying37 _ _ rfl rfl (by kernel_rfl) (by kernel_rfl) (by kernel_rfl) (by decide)
theorem kw_7 : Sz Tryz.prog 39 10 true := Sz.mk' (by kernel_rfl) Tryz.underlying39 _ rfl
def sysE : SysD := ⟨[⟨#[120]⟩], [⟨true, zero0, ZI.of 3⟩], form0, [⟨⟨#[112]⟩, [⟨#[97]⟩, ⟨#[98]⟩], .raw nilV⟩], [⟨0, 0, 1, form0, [⟨0, false, ⟨[⟨0, ZI.of 1⟩], ZI.of 1⟩⟩]⟩]⟩
set_option maxHeartbeats 4000000 in
theorem SSys0  : Fn Tryz.prog 30 [] [] (.t (.agg [.d (.sl 1 ([(⟨#[120]⟩ : ByteArray)].map strD)), .d (.sl 5 ([(BoundD.mk true (ZI.mk false []) (ZI.of 3))].map BoundD.d)), .d (.raw (.int .i64 0)), .d (.sl 3 ([].map Part.d)), .d (.raw (.bool false)), .d (nsl []), .d (.raw (.bool false)), .d (.sl 6 ([].map FormD.d)), .d (.sl 3 ([(ProcD.mk (⟨#[112]⟩ : ByteArray) [(⟨#[97]⟩ : ByteArray), (⟨#[98]⟩ : ByteArray)] (.raw nilV))].map ProcD.d)), .d (.sl 10 [[.raw (.int .i64 0), .raw (.int .i64 0), .raw (.int .i64 1), .raw (.int .i64 0), .raw nilV, .raw (.bool false), nsl [], .raw (.bool false), .raw nilV, .sl 5 ([(MoveD.mk 0 false (Term.mk [(Part.mk 0 (ZI.of 1))] (ZI.of 1)))].map MoveD.d)]])])) [] := by
 refine Fn.body Tryz.func30 rfl 20 rfl fun w H B a h => ?_
 refine rSeq fam0ok 0 [] [(0, vp 0 0)] [(0, .box [.d (.raw nilV), .d (.raw nilV), .d (.raw (.int .i64 0)), .d (.raw nilV), .d (.raw (.bool false)), .d (nsl []), .d (.raw (.bool false)), .d (.raw nilV), .d (.raw nilV), .d (.raw nilV)])] (by kernel_rfl) h ?_; clear h; intro a w h
 refine rSeq fam0ok 1 [(0, .call (SROf 1 ⟨by decide, by decide⟩) tc_0), (2, .gen _ _ _ fun _ _ _ _ => Op.buildD (d := 4) (len := 1) (rows := [(Part.mk 0 (ZI.of 1))].map Part.d) (rs := [(3, .t (.agg ([.d (.raw (.int .i64 0))] ++ zi (ZI.of 1))))]) tb_9 (.cons (i := 0) (OV.tmp 3 _) (.nil)) (by kernel_rfl) rfl (by simp [Part.d]) (by decide) (by decide)), (3, .call (SROf 1 ⟨by decide, by decide⟩) tc_0)] [(0, vp 0 0), (1, vp 1 0)] [(0, .box [.d (.raw nilV), .d (.raw nilV), .d (.raw (.int .i64 0)), .d (.raw nilV), .d (.raw (.bool false)), .d (nsl []), .d (.raw (.bool false)), .d (.raw nilV), .d (.raw nilV), .d (.raw nilV)]), (1, .box ([.d (.sl 3 ([(Part.mk 0 (ZI.of 1))].map Part.d))] ++ zi (ZI.of 1)))] (by kernel_rfl) h ?_; clear h; intro a w h
 refine rSeq fam0ok 2 [(0, .gen _ _ _ fun _ _ _ _ => Op.buildD (d := 7) (len := 1) (rows := [(⟨#[120]⟩ : ByteArray)].map strD) (rs := []) kw_2 (.cons (i := 0) (OV.const (.string (⟨#[120]⟩ : ByteArray)) rfl) (.nil)) (by kernel_rfl) rfl (by simp [strD]) (by decide) (by decide)), (1, .call (SROf 3 ⟨by decide, by decide⟩) tc_0), (3, .gen _ _ _ fun _ _ _ _ => Op.buildD (d := 10) (len := 1) (rows := [(BoundD.mk true (ZI.mk false []) (ZI.of 3))].map BoundD.d) (rs := [(9, .t (.agg ([.d (.raw (.bool true)), .d (.raw (.bool false)), .d (nsl [])] ++ zi (ZI.of 3))))]) kw_3 (.cons (i := 0) (OV.tmp 9 _) (.nil)) (by kernel_rfl) rfl (by simp [BoundD.d]) (by decide) (by decide)), (4, .gen _ _ _ fun _ _ _ _ => Op.buildD (d := 11) (len := 2) (rows := [(⟨#[97]⟩ : ByteArray), (⟨#[98]⟩ : ByteArray)].map strD) (rs := []) kw_2 (.cons (i := 0) (OV.const (.string (⟨#[97]⟩ : ByteArray)) rfl) (.cons (i := 1) (OV.const (.string (⟨#[98]⟩ : ByteArray)) rfl) (.nil))) (by kernel_rfl) rfl (by simp [strD]) (by decide) (by decide)), (6, .gen _ _ _ fun _ _ _ _ => Op.buildD (d := 13) (len := 1) (rows := [(ProcD.mk (⟨#[112]⟩ : ByteArray) [(⟨#[97]⟩ : ByteArray), (⟨#[98]⟩ : ByteArray)] (.raw nilV))].map ProcD.d) (rs := [(12, .t (.agg [.d (.raw (.string (⟨#[112]⟩ : ByteArray))), .d (.sl 1 ([(⟨#[97]⟩ : ByteArray), (⟨#[98]⟩ : ByteArray)].map strD)), .d (.raw nilV)]))]) kw_4 (.cons (i := 0) (OV.tmp 12 _) (.nil)) (by kernel_rfl) rfl (by simp [ProcD.d]) (by decide) (by decide)), (9, .gen _ _ _ fun _ _ _ _ => Op.buildD (d := 16) (len := 1) (rows := [(MoveD.mk 0 false (Term.mk [(Part.mk 0 (ZI.of 1))] (ZI.of 1)))].map MoveD.d) (rs := [(15, .t (.agg ([.d (.raw (.int .i64 0)), .d (.raw (.bool false)), .d (.sl 3 ([(Part.mk 0 (ZI.of 1))].map Part.d))] ++ zi (ZI.of 1))))]) kw_5 (.cons (i := 0) (OV.tmp 15 _) (.nil)) (by kernel_rfl) rfl (by simp [MoveD.d]) (by decide) (by decide)), (11, .gen _ _ _ fun _ _ _ _ => Op.buildD (d := 18) (len := 1) (rows := [[.raw (.int .i64 0), .raw (.int .i64 0), .raw (.int .i64 1), .raw (.int .i64 0), .raw nilV, .raw (.bool false), nsl [], .raw (.bool false), .raw nilV, .sl 5 ([(MoveD.mk 0 false (Term.mk [(Part.mk 0 (ZI.of 1))] (ZI.of 1)))].map MoveD.d)]]) (rs := [(17, .t (.agg [.d (.raw (.int .i64 0)), .d (.raw (.int .i64 0)), .d (.raw (.int .i64 1)), .d (.raw (.int .i64 0)), .d (.raw nilV), .d (.raw (.bool false)), .d (nsl []), .d (.raw (.bool false)), .d (.raw nilV), .d (.sl 5 ([(MoveD.mk 0 false (Term.mk [(Part.mk 0 (ZI.of 1))] (ZI.of 1)))].map MoveD.d))]))]) kw_6 (.cons (i := 0) (OV.tmp 17 _) (.nil)) (by kernel_rfl) rfl (by simp) (by decide) (by decide))] [(0, vp 0 0)] [(0, .box [.d (.sl 1 ([(⟨#[120]⟩ : ByteArray)].map strD)), .d (.sl 5 ([(BoundD.mk true (ZI.mk false []) (ZI.of 3))].map BoundD.d)), .d (.raw (.int .i64 0)), .d (.raw nilV), .d (.raw (.bool false)), .d (nsl []), .d (.raw (.bool false)), .d (.raw nilV), .d (.sl 3 ([(ProcD.mk (⟨#[112]⟩ : ByteArray) [(⟨#[97]⟩ : ByteArray), (⟨#[98]⟩ : ByteArray)] (.raw nilV))].map ProcD.d)), .d (.sl 10 [[.raw (.int .i64 0), .raw (.int .i64 0), .raw (.int .i64 1), .raw (.int .i64 0), .raw nilV, .raw (.bool false), nsl [], .raw (.bool false), .raw nilV, .sl 5 ([(MoveD.mk 0 false (Term.mk [(Part.mk 0 (ZI.of 1))] (ZI.of 1)))].map MoveD.d)]])])] (by kernel_rfl) h ?_; clear h; intro a w h
 refine wp_ret ?_
 replace h := nilDLs 0 3 3 [.d (.sl 1 ([(⟨#[120]⟩ : ByteArray)].map strD)), .d (.sl 5 ([(BoundD.mk true (ZI.mk false []) (ZI.of 3))].map BoundD.d)), .d (.raw (.int .i64 0)), .d (.raw nilV), .d (.raw (.bool false)), .d (nsl []), .d (.raw (.bool false)), .d (.raw nilV), .d (.sl 3 ([(ProcD.mk (⟨#[112]⟩ : ByteArray) [(⟨#[97]⟩ : ByteArray), (⟨#[98]⟩ : ByteArray)] (.raw nilV))].map ProcD.d)), .d (.sl 10 [[.raw (.int .i64 0), .raw (.int .i64 0), .raw (.int .i64 1), .raw (.int .i64 0), .raw nilV, .raw (.bool false), nsl [], .raw (.bool false), .raw nilV, .sl 5 ([(MoveD.mk 0 false (Term.mk [(Part.mk 0 (ZI.of 1))] (ZI.of 1)))].map MoveD.d)]])] [(0, vp 0 0)] [(0, .box [.d (.sl 1 ([(⟨#[120]⟩ : ByteArray)].map strD)), .d (.sl 5 ([(BoundD.mk true (ZI.mk false []) (ZI.of 3))].map BoundD.d)), .d (.raw (.int .i64 0)), .d (.sl 3 ([].map Part.d)), .d (.raw (.bool false)), .d (nsl []), .d (.raw (.bool false)), .d (.raw nilV), .d (.sl 3 ([(ProcD.mk (⟨#[112]⟩ : ByteArray) [(⟨#[97]⟩ : ByteArray), (⟨#[98]⟩ : ByteArray)] (.raw nilV))].map ProcD.d)), .d (.sl 10 [[.raw (.int .i64 0), .raw (.int .i64 0), .raw (.int .i64 1), .raw (.int .i64 0), .raw nilV, .raw (.bool false), nsl [], .raw (.bool false), .raw nilV, .sl 5 ([(MoveD.mk 0 false (Term.mk [(Part.mk 0 (ZI.of 1))] (ZI.of 1)))].map MoveD.d)]])])] h rfl rfl (by kernel_rfl) (by kernel_rfl)
 replace h := nilDLs 0 7 6 [.d (.sl 1 ([(⟨#[120]⟩ : ByteArray)].map strD)), .d (.sl 5 ([(BoundD.mk true (ZI.mk false []) (ZI.of 3))].map BoundD.d)), .d (.raw (.int .i64 0)), .d (.sl 3 ([].map Part.d)), .d (.raw (.bool false)), .d (nsl []), .d (.raw (.bool false)), .d (.raw nilV), .d (.sl 3 ([(ProcD.mk (⟨#[112]⟩ : ByteArray) [(⟨#[97]⟩ : ByteArray), (⟨#[98]⟩ : ByteArray)] (.raw nilV))].map ProcD.d)), .d (.sl 10 [[.raw (.int .i64 0), .raw (.int .i64 0), .raw (.int .i64 1), .raw (.int .i64 0), .raw nilV, .raw (.bool false), nsl [], .raw (.bool false), .raw nilV, .sl 5 ([(MoveD.mk 0 false (Term.mk [(Part.mk 0 (ZI.of 1))] (ZI.of 1)))].map MoveD.d)]])] [(0, vp 0 0)] [(0, .box [.d (.sl 1 ([(⟨#[120]⟩ : ByteArray)].map strD)), .d (.sl 5 ([(BoundD.mk true (ZI.mk false []) (ZI.of 3))].map BoundD.d)), .d (.raw (.int .i64 0)), .d (.sl 3 ([].map Part.d)), .d (.raw (.bool false)), .d (nsl []), .d (.raw (.bool false)), .d (.sl 6 ([].map FormD.d)), .d (.sl 3 ([(ProcD.mk (⟨#[112]⟩ : ByteArray) [(⟨#[97]⟩ : ByteArray), (⟨#[98]⟩ : ByteArray)] (.raw nilV))].map ProcD.d)), .d (.sl 10 [[.raw (.int .i64 0), .raw (.int .i64 0), .raw (.int .i64 1), .raw (.int .i64 0), .raw nilV, .raw (.bool false), nsl [], .raw (.bool false), .raw nilV, .sl 5 ([(MoveD.mk 0 false (Term.mk [(Part.mk 0 (ZI.of 1))] (ZI.of 1)))].map MoveD.d)]])])] h rfl rfl (by kernel_rfl) (by kernel_rfl)
 refine retS [.agg [.d (.sl 1 ([(⟨#[120]⟩ : ByteArray)].map strD)), .d (.sl 5 ([(BoundD.mk true (ZI.mk false []) (ZI.of 3))].map BoundD.d)), .d (.raw (.int .i64 0)), .d (.sl 3 ([].map Part.d)), .d (.raw (.bool false)), .d (nsl []), .d (.raw (.bool false)), .d (.sl 6 ([].map FormD.d)), .d (.sl 3 ([(ProcD.mk (⟨#[112]⟩ : ByteArray) [(⟨#[97]⟩ : ByteArray), (⟨#[98]⟩ : ByteArray)] (.raw nilV))].map ProcD.d)), .d (.sl 10 [[.raw (.int .i64 0), .raw (.int .i64 0), .raw (.int .i64 1), .raw (.int .i64 0), .raw nilV, .raw (.bool false), nsl [], .raw (.bool false), .raw nilV, .sl 5 ([(MoveD.mk 0 false (Term.mk [(Part.mk 0 (ZI.of 1))] (ZI.of 1)))].map MoveD.d)]])]] h Exit.ret (.inl rfl)  rfl ⟨RV.agg _ 0 0 _ _ _ _ kw_7 rfl rfl rfl rfl, trivial⟩ ?_ (by kernel_rfl) (by kernel_rfl)
 rfl
theorem SSys : Fn Tryz.prog 30 [] [] (.t (.agg (sysC sysE))) [] := by
 refine Fn.resw SSys0 (WkV.agg _ _ ?_)
 refine .same _ _ _ (.same _ _ _ (.same _ _ _ (.same _ _ _ (.same _ _ _ (.same _ _ _ (.same _ _ _ (.same _ _ _ (.same _ _ _ (.d _ _ _ _ ?_ .nil)))))))))
 refine Wk.sl _ _ _ (.cons _ _ _ _ ?_ .nil)
 refine .cons _ _ _ _ (.refl _) (.cons _ _ _ _ (.refl _) (.cons _ _ _ _ (.refl _) (.cons _ _ _ _ (.refl _) (.cons _ _ _ _ (.nil _) (.cons _ _ _ _ (.refl _) (.cons _ _ _ _ (.refl _) (.cons _ _ _ _ (.refl _) (.cons _ _ _ _ (.nil _) (.cons _ _ _ _ (.refl _) .nil)))))))))
end Go.Proofs.YtmohlifepfjmdaaGreat.S
end
section
namespace Go.Proofs.YtmohlifepfjmdaaGreat.S
open Go.RowKit

theorem kx_0 : Bodied Tryz.prog 30 := Bodied.mk' (by kernel_rfl)
theorem kx_1 : Bodied Tryz.prog 31 := Bodied.mk' (by kernel_rfl)
theorem kx_3 : ElZ Tryz.prog 54 43 2 := ElZ.mk' Tryz.underlying54 _ _ rfl rfl (by kernel_rfl) (by kernel_rfl) (by kernel_rfl) (by decide)
theorem kx_5 : ElZ Tryz.prog 57 60 9 := ElZ.mk' Tryz.underlying57 _ _ rfl rfl (by kernel_rfl) (by kernel_rfl) (by kernel_rfl) (by decide)
theorem kx_6 : Bodied Tryz.prog 25 := Bodied.mk' (by kernel_rfl)
theorem kx_13 : Bodied Tryz.prog 27 := Bodied.mk' (by kernel_rfl)
def runE : RunD := ⟨[atD 0 2], [atD 1 3], [0, -1]⟩
def propE : PropD := ⟨true, 0, 1, form0⟩
def wE : WordD := ⟨[[false]], [[true]]⟩
theorem e1 : goS sysE (atD 0 2) 0 [] = (atD 1 3, true) := by kernel_rfl
theorem e2 : (goS sysE (atD 0 3) 0 []).2 = false := by kernel_rfl
theorem e3 : stuck sysE (atD 0 3) = true := by kernel_rfl
theorem e4 : can sysE (atD 0 0) 0 = true := by kernel_rfl
theorem e5 : leads sysE (atD 0 1) 0 (atD 1 2) = true := by kernel_rfl
theorem e6 : leads sysE (atD 0 1) 0 (atD 1 3) = false := by kernel_rfl
theorem e7 : fits sysE (atD 1 0) = true := by kernel_rfl
theorem e8 : first sysE (atD 0 1) = true := by kernel_rfl
theorem e9 : first sysE (atD 1 1) = false := by kernel_rfl
theorem e10 : right sysE runE = true := by kernel_rfl
theorem e11 : spell [propE] runE = wE := by kernel_rfl
theorem e12 : letter [propE] (atD 1 0) = [true] := by kernel_rfl
theorem form0_lb : form0.lb := (FormD.lb_eq _).2 ⟨⟨⟨Lb_nil, fun p hp => (by cases hp)⟩, Nat.zero_le _⟩, fun g hg => (by cases hg)⟩
theorem fewE : fewSys 3 sysE = true := by kernel_rfl
theorem mem1 {α : Type} {x y : α} (h : x ∈ [y]) : x = y := by simpa using h
theorem sysRdE : SysRd sysE := ⟨form0_lb, fun b hb => by rw [mem1 hb]; exact ⟨Lb_nil, ZI.lb_of 3⟩, fun c hc => by
 rw [mem1 hc]
 exact ⟨form0_lb, fun m hm => by rw [mem1 hm]; exact ⟨ZI.lb_of 1, fun p hp => by rw [mem1 hp]; exact ZI.lb_of 1⟩⟩, by decide, fun c hc => by rw [mem1 hc]; decide⟩
theorem sysE_ok : SysOk 3 sysE := few_sys fewE sysRdE
theorem runE_ok : RunOk 3 runE := ⟨by decide, fun x hx => by rw [mem1 hx]; exact atD_ok _ _ (by decide) (by decide), fun x hx => by rw [mem1 hx]; exact atD_ok _ _ (by decide) (by decide)⟩
theorem propE_ok : ∀ p ∈ [propE], PropOk 3 p := fun p hp => by rw [mem1 hp]; exact ⟨form0_lb, fewF_ok (most := 20) (by kernel_rfl) form0_lb⟩
theorem wkP : Wk (.sl 9 [[.raw (.bool true), .raw (.int .i64 0), .raw (.int .i64 1), .raw (.int .i64 0), .raw nilV, .raw (.bool false), nsl [], .raw (.bool false), .raw nilV]]) (.sl 9 ([propE].map PropD.d)) := by
 refine Wk.sl _ _ _ (.cons _ _ _ _ ?_ .nil)
 repeat (first | exact WkL.nil | refine WkL.cons _ _ _ _ (by first | exact Wk.refl _ | exact Wk.nil _) ?_)
set_option maxHeartbeats 4000000 in
theorem SAlive  : Fn Tryz.prog 5 [] [] (vb true) [] := by
 refine Fn.body Tryz.func5 rfl 108 rfl fun w H B a h => ?_
 refine rSeq fam0ok 0 [] [(0, vb false)] [] (by kernel_rfl) h ?_; clear h; intro a w h
 refine rSeq fam0ok 0 [(0, .call (SSys) kx_0)] [(0, vb false), (1, vp 0 0)] [(0, .box (sysC sysE))] (by kernel_rfl) h ?_; clear h; intro a w h
 refine rSeq fam0ok 1 [(1, .call (SAt 0 2 (by decide)) kx_1), (2, .call (Fn.argw (Fn.cast (SGo sysE (atD 0 2) 0 [] (L := 3) (M := 3) (by decide) sysE_ok (atD_ok _ _ (by decide) (by decide)) (fun z hz => by cases hz)) (show (.tup [.agg [.d (.sl 1 ((goS sysE (atD 0 2) 0 []).1.locs.map intD)), .d (.sl 2 ((goS sysE (atD 0 2) 0 []).1.vals.map ziD))], .c (.d (.raw (.bool (goS sysE (atD 0 2) 0 []).2)))] : V) = .tup [.agg [.d (.sl 1 ((atD 1 3).locs.map intD)), .d (.sl 2 ((atD 1 3).vals.map ziD))], .c (.d (.raw (.bool true)))] from by rw [e1])) (.cons _ _ _ _ (.refl _) (.cons _ _ _ _ (.refl _) (.cons _ _ _ _ (.refl _) (.cons _ _ _ _ (.c _ _ (.nil _)) .nil))))) km_9)] [(0, vb false), (1, vp 0 0), (2, vp 1 0), (3, vb true)] [(0, .box (sysC sysE)), (1, .box [.d (.sl 1 ((atD 1 3).locs.map intD)), .d (.sl 2 ((atD 1 3).vals.map ziD))])] (by kernel_rfl) h ?_; clear h; intro a w h
 refine rSeq fam0ok 2 [(1, .call (SAt 0 3 (by decide)) kx_1), (2, .call (Fn.argw (Fn.cast (SGo sysE (atD 0 3) 0 [] (L := 3) (M := 3) (by decide) sysE_ok (atD_ok _ _ (by decide) (by decide)) (fun z hz => by cases hz)) (show (.tup [.agg [.d (.sl 1 ((goS sysE (atD 0 3) 0 []).1.locs.map intD)), .d (.sl 2 ((goS sysE (atD 0 3) 0 []).1.vals.map ziD))], .c (.d (.raw (.bool (goS sysE (atD 0 3) 0 []).2)))] : V) = .tup [.agg [.d (.sl 1 ((goS sysE (atD 0 3) 0 []).1.locs.map intD)), .d (.sl 2 ((goS sysE (atD 0 3) 0 []).1.vals.map ziD))], .c (.d (.raw (.bool false)))] from by rw [e2])) (.cons _ _ _ _ (.refl _) (.cons _ _ _ _ (.refl _) (.cons _ _ _ _ (.refl _) (.cons _ _ _ _ (.c _ _ (.nil _)) .nil))))) km_9)] [(0, vb false), (1, vp 0 0), (2, vp 1 0), (3, vb true), (5, vb false)] [(0, .box (sysC sysE)), (1, .box [.d (.sl 1 ((atD 1 3).locs.map intD)), .d (.sl 2 ((atD 1 3).vals.map ziD))])] (by kernel_rfl) h ?_; clear h; intro a w h
 refine rSeq fam0ok 3 [(0, .call (SAt 0 2 (by decide)) kx_1), (1, .gen _ _ _ fun _ _ _ _ => Op.buildD (d := 23) (len := 1) (rows := [(atD 0 2)].map StD.d) (rs := [(22, .t (.agg [.d (.sl 1 ((atD 0 2).locs.map intD)), .d (.sl 2 ((atD 0 2).vals.map ziD))]))]) kx_3 (.cons (i := 0) (OV.tmp 22 _) (.nil)) (by kernel_rfl) rfl (by simp [StD.d]) (by decide) (by decide)), (2, .call (SAt 1 3 (by decide)) kx_1), (3, .gen _ _ _ fun _ _ _ _ => Op.buildD (d := 25) (len := 1) (rows := [(atD 1 3)].map StD.d) (rs := [(24, .t (.agg [.d (.sl 1 ((atD 1 3).locs.map intD)), .d (.sl 2 ((atD 1 3).vals.map ziD))]))]) kx_3 (.cons (i := 0) (OV.tmp 24 _) (.nil)) (by kernel_rfl) rfl (by simp [StD.d]) (by decide) (by decide)), (4, .gen _ _ _ fun _ _ _ _ => Op.buildD (d := 26) (len := 2) (rows := [0, (-1)].map intD) (rs := []) tb_0 (.cons (i := 0) (OV.const (.int .i64 0) rfl) (.cons (i := 1) (OV.const (.int .i64 (-1)) rfl) (.nil))) (by kernel_rfl) rfl (by simp [intD]) (by decide) (by decide))] [(0, vb false), (1, vp 0 0), (2, vp 1 0), (3, vb true), (5, vb false), (6, vp 3 0)] [(0, .box (sysC sysE)), (1, .box [.d (.sl 1 ((atD 1 3).locs.map intD)), .d (.sl 2 ((atD 1 3).vals.map ziD))]), (3, .box [.d (.sl 2 ([(atD 0 2)].map StD.d)), .d (.sl 2 ([(atD 1 3)].map StD.d)), .d (.sl 1 ([0, (-1)].map intD))])] (by kernel_rfl) h ?_; clear h; intro a w h
 refine rSeq fam0ok 4 [(1, .gen _ _ _ fun _ _ _ _ => Op.buildD (d := 29) (len := 1) (rows := [[.raw (.bool true), .raw (.int .i64 0), .raw (.int .i64 1), .raw (.int .i64 0), .raw nilV, .raw (.bool false), nsl [], .raw (.bool false), .raw nilV]]) (rs := [(28, .t (.agg [.d (.raw (.bool true)), .d (.raw (.int .i64 0)), .d (.raw (.int .i64 1)), .d (.raw (.int .i64 0)), .d (.raw nilV), .d (.raw (.bool false)), .d (nsl []), .d (.raw (.bool false)), .d (.raw nilV)]))]) kx_5 (.cons (i := 0) (OV.tmp 28 _) (.nil)) (by kernel_rfl) rfl (by simp) (by decide) (by decide))] [(0, vb false), (1, vp 0 0), (2, vp 1 0), (3, vb true), (5, vb false), (6, vp 3 0), (7, .t (.c (.d (.sl 9 [[.raw (.bool true), .raw (.int .i64 0), .raw (.int .i64 1), .raw (.int .i64 0), .raw nilV, .raw (.bool false), nsl [], .raw (.bool false), .raw nilV]]))))] [(0, .box (sysC sysE)), (1, .box [.d (.sl 1 ((atD 1 3).locs.map intD)), .d (.sl 2 ((atD 1 3).vals.map ziD))]), (3, .box [.d (.sl 2 ([(atD 0 2)].map StD.d)), .d (.sl 2 ([(atD 1 3)].map StD.d)), .d (.sl 1 ([0, (-1)].map intD))])] (by kernel_rfl) h ?_; clear h; intro a w h
 refine rSeq fam0ok 4 [(2, .call (Fn.argw (Fn.cast (SSpell [propE] runE (L := 3) (M := 3) (by decide) propE_ok (by decide) runE_ok) (show (.t (.agg [.d (.sl 1 ((spell [propE] runE).stem.map (slD 1 boolD))), .d (.sl 1 ((spell [propE] runE).cycle.map (slD 1 boolD)))]) : V) = .t (.agg [.d (.sl 1 (wE.stem.map (slD 1 boolD))), .d (.sl 1 (wE.cycle.map (slD 1 boolD)))]) from by rw [e11])) (.cons _ _ _ _ (.c _ _ wkP) (.cons _ _ _ _ (.refl _) .nil))) kx_6)] [(0, vb false), (1, vp 0 0), (2, vp 1 0), (3, vb true), (5, vb false), (6, vp 3 0), (7, .t (.c (.d (.sl 9 [[.raw (.bool true), .raw (.int .i64 0), .raw (.int .i64 1), .raw (.int .i64 0), .raw nilV, .raw (.bool false), nsl [], .raw (.bool false), .raw nilV]])))), (8, vp 4 0)] [(0, .box (sysC sysE)), (1, .box [.d (.sl 1 ((atD 1 3).locs.map intD)), .d (.sl 2 ((atD 1 3).vals.map ziD))]), (3, .box [.d (.sl 2 ([(atD 0 2)].map StD.d)), .d (.sl 2 ([(atD 1 3)].map StD.d)), .d (.sl 1 ([0, (-1)].map intD))]), (4, .box [.d (.sl 1 (wE.stem.map (slD 1 boolD))), .d (.sl 1 (wE.cycle.map (slD 1 boolD)))])] (by kernel_rfl) h ?_; clear h; intro a w h
 refine rSeq fam0ok 5 [(3, .call (SAt 1 3 (by decide)) kx_1), (4, .call (Fn.cast (SSame (atD 1 3) (atD 1 3) (M := 3) (by decide) (atD_ok _ _ (by decide) (by decide)) (atD_ok _ _ (by decide) (by decide))) (show (vb (sameS (atD 1 3) (atD 1 3)) : V) = vb true from by rw [sameS_refl])) km_1), (12, .call (SAt 0 3 (by decide)) kx_1), (13, .call (Fn.cast (SStuck sysE (atD 0 3) (L := 3) (M := 3) (by decide) sysE_ok (atD_ok _ _ (by decide) (by decide))) (show (vb (stuck sysE (atD 0 3)) : V) = vb true from by rw [e3])) kl_0), (17, .call (SAt 0 0 (by decide)) kx_1), (18, .call (Fn.cast (SCan sysE (atD 0 0) 0 (L := 3) (M := 3) (by decide) sysE_ok (atD_ok _ _ (by decide) (by decide))) (show (vb (can sysE (atD 0 0) 0) : V) = vb true from by rw [e4])) kk_12), (22, .call (SAt 0 1 (by decide)) kx_1), (23, .call (SAt 1 2 (by decide)) kx_1), (24, .call (Fn.cast (SLeads sysE (atD 0 1) 0 (atD 1 2) (L := 3) (M := 3) (by decide) sysE_ok (atD_ok _ _ (by decide) (by decide)) (atD_ok _ _ (by decide) (by decide))) (show (vb (leads sysE (atD 0 1) 0 (atD 1 2)) : V) = vb true from by rw [e5])) kn_8), (28, .call (SAt 0 1 (by decide)) kx_1), (29, .call (SAt 1 3 (by decide)) kx_1), (30, .call (Fn.cast (SLeads sysE (atD 0 1) 0 (atD 1 3) (L := 3) (M := 3) (by decide) sysE_ok (atD_ok _ _ (by decide) (by decide)) (atD_ok _ _ (by decide) (by decide))) (show (vb (leads sysE (atD 0 1) 0 (atD 1 3)) : V) = vb false from by rw [e6])) kn_8), (35, .call (SAt 1 0 (by decide)) kx_1), (36, .call (Fn.cast (SFits sysE (atD 1 0) (L := 3) (M := 3) (by decide) sysE_ok (atD_ok _ _ (by decide) (by decide))) (show (vb (fits sysE (atD 1 0)) : V) = vb true from by rw [e7])) kg_9), (40, .call (SAt 0 1 (by decide)) kx_1), (41, .call (Fn.cast (SFirst sysE (atD 0 1) (L := 3) (M := 3) (by decide) sysE_ok (atD_ok _ _ (by decide) (by decide))) (show (vb (first sysE (atD 0 1)) : V) = vb true from by rw [e8])) kn_6), (45, .call (SAt 1 1 (by decide)) kx_1), (46, .call (Fn.cast (SFirst sysE (atD 1 1) (L := 3) (M := 3) (by decide) sysE_ok (atD_ok _ _ (by decide) (by decide))) (show (vb (first sysE (atD 1 1)) : V) = vb false from by rw [e9])) kn_6), (52, .call (Fn.cast (SRight sysE runE (L := 3) (M := 3) (by decide) sysE_ok runE_ok) (show (vb (right sysE runE) : V) = vb true from by rw [e10])) kx_13), (56, .call (SAt 1 0 (by decide)) kx_1), (57, .call (Fn.argw (Fn.cast (SLetter [propE] (atD 1 0) (L := 3) (M := 3) (by decide) propE_ok (by decide) (atD_ok _ _ (by decide) (by decide))) (show (.t (.c (.d (.sl 1 ((letter [propE] (atD 1 0)).map boolD)))) : V) = .t (.c (.d (.sl 1 ([true].map boolD)))) from by rw [e12])) (.cons _ _ _ _ (.c _ _ wkP) (.cons _ _ _ _ (.refl _) .nil))) kn_14), (58, .len (c := (.d (.sl 1 ([true].map boolD)))) (n := [true].length) (lenC_map _ _ _)), (59, .cmp (op := .eql) (m := ([true].length : Int)) (n := 1) (b := true) .i64 (show (([true].length : Int) == 1) = true from by decide)), (64, .len (c := (.d (.sl 1 (wE.stem.map (slD 1 boolD))))) (n := wE.stem.length) (lenC_map _ _ _)), (65, .cmp (op := .eql) (m := (wE.stem.length : Int)) (n := 1) (b := true) .i64 (show ((wE.stem.length : Int) == 1) = true from by decide)), (70, .gen _ _ _ fun _ _ _ _ => Op.idxD (d := 103) (t := 102) (k := .i64) ks_14 (map_at (show wE.cycle[0]? = some [true] from rfl) (f := (slD 1 boolD))) (OV.const (.int .i64 0) rfl)), (72, .gen _ _ _ fun _ _ _ _ => Op.idxD (d := 105) (t := 104) (k := .i64) ks_15 (map_at (show [true][0]? = some true from rfl) (f := boolD)) (OV.const (.int .i64 0) rfl))] [(0, vb true)] [] (by kernel_rfl) h ?_; clear h; intro a w h
 refine wp_ret ?_
 refine retS [.c (.d (.raw (.bool true)))] h Exit.ret (.inl rfl)  rfl ⟨RV.tmp _ _ rfl, trivial⟩ ?_ (by kernel_rfl) (by kernel_rfl)
 rfl
end Go.Proofs.YtmohlifepfjmdaaGreat.S
end
section
namespace Go.Proofs.YtmohlifepfjmdaaGreat.S
open Go.RowKit

theorem ky_0 : Bodied Tryz.prog 5 := Bodied.mk' (by kernel_rfl)
theorem ky_1 : Bodied Tryz.prog 6 := Bodied.mk' (by kernel_rfl)
theorem ky_2 : Bodied Tryz.prog 7 := Bodied.mk' (by kernel_rfl)
theorem ky_6 : Bodied Tryz.prog 10 := Bodied.mk' (by kernel_rfl)
theorem cloneS_ok {M : Nat} {x : StD} (hx : StOk M x) : StOk M (cloneS x) := ⟨hx.locs, by show (x.vals.map clZ).length ≤ 10; rw [List.length_map]; exact hx.vals, fun z hz => by
 obtain ⟨u, hu, rfl⟩ := List.mem_map.1 (show z ∈ x.vals.map clZ from hz)
 exact cl_len (hx.val u hu)⟩
theorem goS_ok {L M : Nat} {s : SysD} {x : StD} {i : Int} {picks : List ZI} (hs : SysOk L s) (hx : StOk M x) (hp : ∀ z ∈ picks, ZOk M z) : StOk (L + M + 2) (goS s x i picks).1 := by
 unfold goS
 split
 ·exact (cloneS_ok hx).mono (by omega)
 ·split
  ·exact st0_ok
  ·next c hc =>
   unfold goC
   split
   ·obtain ⟨k, _, hk⟩ := actAt_some hc
    exact outS_ok hs hx (hs.act c (List.mem_of_getElem? hk)) hp
   ·exact st0_ok
theorem same_clone (x : StD) : sameS x (cloneS x) = true := by
 unfold sameS
 rw [decide_eq_true (show x.locs = (cloneS x).locs from rfl), Bool.true_and, decide_eq_true_eq]
 show _ = (x.vals.map clZ).map ZI.val
 rw [List.map_map]
 exact List.map_congr_left fun z _ => (ZI.val_of z.val).symm
theorem allN_of {f : Nat → Bool} : ∀ {n : Nat}, (∀ i, i < n → f i = true) → allN n f = true
 | 0, _ => rfl
 | n + 1, h => allN_step (allN_of fun i hi => h i (by omega)) (h n (by omega))
theorem goS_leads {s : SysD} {x : StD} {i : Int} {picks : List ZI} (h : (goS s x i picks).2 = true) : leads s x i (goS s x i picks).1 = true := by
 unfold goS at h ⊢
 by_cases h0 : i = -1 ∧ stuck s x = true
 ·rw [if_pos h0]
  unfold leads
  rw [if_pos h0.1, h0.2, same_clone]; rfl
 ·rw [if_neg h0] at h ⊢
  cases hc : actAt s i with
  | none => rw [hc] at h; cases h
  | some c =>
   rw [hc] at h
   simp only at h ⊢
   unfold goC at h ⊢
   by_cases h1 : enabled s x c = true ∧ fits s (outS s x c picks) = true
   ·rw [if_pos h1]
    have hi : i ≠ -1 := fun e => by subst e; simp [actAt] at hc
    unfold leads
    rw [if_neg hi, hc]
    show leadsC s x c (outS s x c picks) = true
    rw [← leads_eq]
    unfold leadsRC
    have hl := fits_len (enabled_fits h1.1)
    rw [h1.1, h1.2, allN_of fun p hp => ?_, allN_of fun v hv => ?_]; rfl
    ·unfold vstep; rw [out_val (by omega)]
     cases hf : freeAt c v with
     | true => rfl
     | false => rw [← newV_new (picks := picks) hf]; simp
    ·unfold lstep; rw [out_loc h1.1 hp]; simp
   ·rw [if_neg h1] at h; cases h
set_option maxHeartbeats 4000000 in
theorem SKripkeSteps (s : SysD) (x y : StD) (act : Int) (picks : List ZI) (hs : SysRd s) (hx : StRd x) (hy : StRd y) (hpb : ∀ z ∈ picks, Lb z.abs) (hpl : picks.length ≤ 9223372036854775807) : Fn Tryz.prog 3 [] [.t (.agg (sysC s)), .t (.agg [.d (.sl 1 (x.locs.map intD)), .d (.sl 2 (x.vals.map ziD))]), .t (.agg [.d (.sl 1 (y.locs.map intD)), .d (.sl 2 (y.vals.map ziD))]), vi .i64 act, .t (.c (.d (.sl 2 (picks.map ziD))))] (vb true) [] := by
 refine Fn.body Tryz.func3 rfl 142 rfl fun w H B a h => ?_
 refine rSeq fam0ok 0 [] [(3, vi .i64 act), (4, .t (.c (.d (.sl 2 (picks.map ziD))))), (5, vp 0 0), (6, vp 1 0), (7, vp 2 0), (10, vb false)] [(0, .box (sysC s)), (1, .box [.d (.sl 1 (x.locs.map intD)), .d (.sl 2 (x.vals.map ziD))]), (2, .box [.d (.sl 1 (y.locs.map intD)), .d (.sl 2 (y.vals.map ziD))])] (by kernel_rfl) h ?_; clear h; intro a w h
 refine wp_seq ?_
 refine rSeq fam0ok 3 [(0, .call (SAlive) ky_0)] [(3, vi .i64 act), (4, .t (.c (.d (.sl 2 (picks.map ziD))))), (5, vp 0 0), (6, vp 1 0), (7, vp 2 0), (10, vb false), (18, vb false)] [(0, .box (sysC s)), (1, .box [.d (.sl 1 (x.locs.map intD)), .d (.sl 2 (x.vals.map ziD))]), (2, .box [.d (.sl 1 (y.locs.map intD)), .d (.sl 2 (y.vals.map ziD))])] (by kernel_rfl) h ?_; clear h; intro a w h
 refine condS false h rfl (fun hc => ?_) (fun hc => ?_)
 ·cases hc
 ·clear hc
  refine wp_skip ?_
  refine then_n ?_
  refine wp_seq ?_
  rcases Bool.eq_false_or_eq_true (fewSys 3 s) with hc | hc
  ·have hc1 := hc; clear hc
   rcases Bool.eq_false_or_eq_true (fewSt 3 x) with hc | hc
   ·have hc2 := hc; clear hc
    rcases Bool.eq_false_or_eq_true (fewSt 3 y) with hc | hc
    ·have hc3 := hc; clear hc
     refine rSeq fam0ok 3 [(1, .call (Fn.cast (SFewSys s 3 hs) (congrArg vb hc1)) ky_1), (5, .call (Fn.cast (SFewSt x 3 hx) (congrArg vb hc2)) ky_2), (10, .call (Fn.cast (SFewSt y 3 hy) (congrArg vb hc3)) ky_2), (15, .len (c := (.d (.sl 2 (picks.map ziD)))) (n := picks.length) (lenC_map _ _ _))] [(3, vi .i64 act), (4, .t (.c (.d (.sl 2 (picks.map ziD))))), (5, vp 0 0), (6, vp 1 0), (7, vp 2 0), (10, vb false), (36, vb (decide ((picks.length : Int) > 10)))] [(0, .box (sysC s)), (1, .box [.d (.sl 1 (x.locs.map intD)), .d (.sl 2 (x.vals.map ziD))]), (2, .box [.d (.sl 1 (y.locs.map intD)), .d (.sl 2 (y.vals.map ziD))])] (by kernel_rfl) h ?_; clear h; intro a w h
     refine condS (decide ((picks.length : Int) > 10)) h rfl (fun hc => ?_) (fun hc => ?_)
     ·have hc4 := hc; clear hc
      have hc4' := of_decide_eq_true hc4
      refine rSeq fam0ok 3 [] [(3, vi .i64 act), (4, .t (.c (.d (.sl 2 (picks.map ziD))))), (5, vp 0 0), (6, vp 1 0), (7, vp 2 0), (10, vb true)] [(0, .box (sysC s)), (1, .box [.d (.sl 1 (x.locs.map intD)), .d (.sl 2 (x.vals.map ziD))]), (2, .box [.d (.sl 1 (y.locs.map intD)), .d (.sl 2 (y.vals.map ziD))])] (by kernel_rfl) h ?_; clear h; intro a w h
      refine wp_ret ?_
      refine then_r ?_
      refine retS [.c (.d (.raw (.bool true)))] h Exit.ret (.inl rfl)  rfl ⟨RV.tmp _ _ rfl, trivial⟩ ?_ (by kernel_rfl) (by kernel_rfl)
      rfl
     ·have hc5 := hc; clear hc
      have hc5' := of_decide_eq_false hc5
      refine wp_skip ?_
      refine then_n ?_
      refine wp_seq ?_
      refine rSeq fam0ok 3 [(1, .len (c := (.d (.sl 2 (picks.map ziD)))) (n := picks.length) (lenC_map _ _ _))] [(3, vi .i64 act), (4, .t (.c (.d (.sl 2 (picks.map ziD))))), (5, vp 0 0), (6, vp 1 0), (7, vp 2 0), (10, vb false), (37, .t (.c (.d (.sl 2 (picks.map ziD))))), (38, vi .i64 (picks.length : Int)), (39, vi .i64 0)] [(0, .box (sysC s)), (1, .box [.d (.sl 1 (x.locs.map intD)), .d (.sl 2 (x.vals.map ziD))]), (2, .box [.d (.sl 1 (y.locs.map intD)), .d (.sl 2 (y.vals.map ziD))])] (by kernel_rfl) h ?_; clear h; intro a w h
      refine wp_block ?_
      refine loopS (ι := (Nat)) (fun (z_ : (Nat)) => match z_ with | j => j ≤ picks.length ∧ (picks.take j).all (fun z => decide ((z.abs.length : Int) ≤ 3)) = true)
        (fun (z_ : (Nat)) => match z_ with | j => [(3, vi .i64 act), (4, .t (.c (.d (.sl 2 (picks.map ziD))))), (5, vp 0 0), (6, vp 1 0), (7, vp 2 0), (37, .t (.c (.d (.sl 2 (picks.map ziD))))), (38, vi .i64 (picks.length : Int)), (39, vi .i64 (j : Int))])
        (fun (z_ : (Nat)) => match z_ with | j => [(0, .box (sysC s)), (1, .box [.d (.sl 1 (x.locs.map intD)), .d (.sl 2 (x.vals.map ziD))]), (2, .box [.d (.sl 1 (y.locs.map intD)), .d (.sl 2 (y.vals.map ziD))])])
        (fun (z_ : (Nat)) => match z_ with | j => picks.length - j) 0 ?_ h (by kernel_rfl) (by kernel_rfl) ?_
      ·exact ⟨Nat.zero_le _, rfl⟩
      ·clear h; rintro j a w hI h
       change St _ (F.of [(3, vi .i64 act), (4, .t (.c (.d (.sl 2 (picks.map ziD))))), (5, vp 0 0), (6, vp 1 0), (7, vp 2 0), (37, .t (.c (.d (.sl 2 (picks.map ziD))))), (38, vi .i64 (picks.length : Int)), (39, vi .i64 (j : Int))] [(0, .box (sysC s)), (1, .box [.d (.sl 1 (x.locs.map intD)), .d (.sl 2 (x.vals.map ziD))]), (2, .box [.d (.sl 1 (y.locs.map intD)), .d (.sl 2 (y.vals.map ziD))])]) a w at h
       obtain ⟨hI1, hI2⟩ := hI
       refine rSeq fam0ok 3 [] [(3, vi .i64 act), (4, .t (.c (.d (.sl 2 (picks.map ziD))))), (5, vp 0 0), (6, vp 1 0), (7, vp 2 0), (37, .t (.c (.d (.sl 2 (picks.map ziD))))), (38, vi .i64 (picks.length : Int)), (39, vi .i64 (j : Int)), (40, vb (decide ((j : Int) < (picks.length : Int))))] [(0, .box (sysC s)), (1, .box [.d (.sl 1 (x.locs.map intD)), .d (.sl 2 (x.vals.map ziD))]), (2, .box [.d (.sl 1 (y.locs.map intD)), .d (.sl 2 (y.vals.map ziD))])] (by kernel_rfl) h ?_; clear h; intro a w h
       refine wp_seq ?_
       refine condS (decide ((j : Int) < (picks.length : Int))) h rfl (fun hc => ?_) (fun hc => ?_)
       ·have hc6 := hc; clear hc
        have hc6' := of_decide_eq_true hc6
        refine wp_skip ?_
        refine then_n ?_
        refine wp_seq ?_
        refine wp_block ?_
        obtain ⟨x11, hx11⟩ : ∃ z_ : ZI, picks[j]? = some z_ := ⟨_, List.getElem?_eq_getElem (by first | omega | (simp at *; omega))⟩
        refine rSeq fam0ok 3 [(0, .gen _ _ _ fun _ _ _ _ => Op.idxD (d := 41) (t := 37) (k := .i64) tt_6 (map_at hx11 (f := ziD)) (OV.tmp 39 _))] [(3, vi .i64 act), (4, .t (.c (.d (.sl 2 (picks.map ziD))))), (5, vp 0 0), (6, vp 1 0), (7, vp 2 0), (12, vp 3 0), (37, .t (.c (.d (.sl 2 (picks.map ziD))))), (38, vi .i64 (picks.length : Int)), (39, vi .i64 (j : Int))] [(0, .box (sysC s)), (1, .box [.d (.sl 1 (x.locs.map intD)), .d (.sl 2 (x.vals.map ziD))]), (2, .box [.d (.sl 1 (y.locs.map intD)), .d (.sl 2 (y.vals.map ziD))]), (3, .box (zi x11))] (by kernel_rfl) h ?_; clear h; intro a w h
        refine rSeq fam0ok 4 [(2, .len (nsl_len x11.abs))] [(3, vi .i64 act), (4, .t (.c (.d (.sl 2 (picks.map ziD))))), (5, vp 0 0), (6, vp 1 0), (7, vp 2 0), (37, .t (.c (.d (.sl 2 (picks.map ziD))))), (38, vi .i64 (picks.length : Int)), (39, vi .i64 (j : Int)), (46, vb (decide ((x11.abs.length : Int) > 3)))] [(0, .box (sysC s)), (1, .box [.d (.sl 1 (x.locs.map intD)), .d (.sl 2 (x.vals.map ziD))]), (2, .box [.d (.sl 1 (y.locs.map intD)), .d (.sl 2 (y.vals.map ziD))])] (by kernel_rfl) h ?_; clear h; intro a w h
        refine condS (decide ((x11.abs.length : Int) > 3)) h rfl (fun hc => ?_) (fun hc => ?_)
        ·have hc7 := hc; clear hc
         have hc7' := of_decide_eq_true hc7
         refine rSeq fam0ok 4 [] [(3, vi .i64 act), (4, .t (.c (.d (.sl 2 (picks.map ziD))))), (5, vp 0 0), (6, vp 1 0), (7, vp 2 0), (10, vb true), (37, .t (.c (.d (.sl 2 (picks.map ziD))))), (38, vi .i64 (picks.length : Int)), (39, vi .i64 (j : Int))] [(0, .box (sysC s)), (1, .box [.d (.sl 1 (x.locs.map intD)), .d (.sl 2 (x.vals.map ziD))]), (2, .box [.d (.sl 1 (y.locs.map intD)), .d (.sl 2 (y.vals.map ziD))])] (by kernel_rfl) h ?_; clear h; intro a w h
         refine wp_ret ?_
         refine block_r ?_
         refine then_r ?_
         refine then_r ?_
         refine block_r ?_
         refine then_r ?_
         refine retS [.c (.d (.raw (.bool true)))] h Exit.ret (.inl rfl)  rfl ⟨RV.tmp _ _ rfl, trivial⟩ ?_ (by kernel_rfl) (by kernel_rfl)
         rfl
        ·have hc8 := hc; clear hc
         have hc8' := of_decide_eq_false hc8
         refine wp_skip ?_
         refine block_n ?_
         refine then_n ?_
         refine rS fam0ok 4 [(0, .add .i64 (m := (j : Int)) (n := 1) (i64_id (by omega) (by omega)))] [(3, vi .i64 act), (4, .t (.c (.d (.sl 2 (picks.map ziD))))), (5, vp 0 0), (6, vp 1 0), (7, vp 2 0), (37, .t (.c (.d (.sl 2 (picks.map ziD))))), (38, vi .i64 (picks.length : Int)), (39, vi .i64 ((j : Int) + 1))] [(0, .box (sysC s)), (1, .box [.d (.sl 1 (x.locs.map intD)), .d (.sl 2 (x.vals.map ziD))]), (2, .box [.d (.sl 1 (y.locs.map intD)), .d (.sl 2 (y.vals.map ziD))])] (by kernel_rfl) h ?_; clear h; intro a w h
         refine then_n ?_
         refine roundS (x := j) (y := j + 1) h ?_ ?_ (by kernel_rfl) (by kernel_rfl)
         ·exact ⟨by have := at_lt hx11; omega, all_step hx11 hI2 (decide_eq_true (by have := of_decide_eq_false hc8; omega))⟩
         ·show picks.length - (j + 1) < picks.length - j
          have := at_lt hx11; omega
       ·have hc9 := hc; clear hc
        have hc9' := of_decide_eq_false hc9
        refine wp_exit ?_
        refine then_x ?_
        refine then_x ?_
        refine inBlock_exit ?_
        refine then_n ?_
        have hal := all_end (of_decide_eq_false hc9) hI2
        have hpk : ∀ z ∈ picks, ZOk 3 z := fun z hz => ⟨hpb z hz, by have h0 := List.all_eq_true.1 hal z hz; have h1 := of_decide_eq_true h0; omega⟩
        have hsO := few_sys hc1 hs
        have hxO := few_st hc2 hx
        have hyO := few_st hc3 hy
        have hgo : StOk 8 (goS s x act picks).1 := goS_ok hsO hxO hpk
        refine rSeq fam0ok 4 [(4, .call (SGo s x act picks (L := 3) (M := 3) (by decide) hsO hxO hpk) km_9)] [(3, vi .i64 act), (4, .t (.c (.d (.sl 2 (picks.map ziD))))), (5, vp 0 0), (6, vp 1 0), (7, vp 2 0), (13, vp 4 0), (14, vb (goS s x act picks).2)] [(0, .box (sysC s)), (1, .box [.d (.sl 1 (x.locs.map intD)), .d (.sl 2 (x.vals.map ziD))]), (2, .box [.d (.sl 1 (y.locs.map intD)), .d (.sl 2 (y.vals.map ziD))]), (4, .box [.d (.sl 1 ((goS s x act picks).1.locs.map intD)), .d (.sl 2 ((goS s x act picks).1.vals.map ziD))])] (by kernel_rfl) h ?_; clear h; intro a w h
        refine rSeq fam0ok 5 [(4, .call (SRGo s x act picks (L := 3) (M := 3) (by decide) hsO hxO hpk hpl) kq_13)] [(3, vi .i64 act), (5, vp 0 0), (6, vp 1 0), (7, vp 2 0), (13, vp 4 0), (14, vb (goS s x act picks).2), (15, vp 5 0), (16, vb (goS s x act picks).2)] [(0, .box (sysC s)), (1, .box [.d (.sl 1 (x.locs.map intD)), .d (.sl 2 (x.vals.map ziD))]), (2, .box [.d (.sl 1 (y.locs.map intD)), .d (.sl 2 (y.vals.map ziD))]), (4, .box [.d (.sl 1 ((goS s x act picks).1.locs.map intD)), .d (.sl 2 ((goS s x act picks).1.vals.map ziD))]), (5, .box [.d (.sl 1 ((goS s x act picks).1.locs.map intD)), .d (.sl 2 ((goS s x act picks).1.vals.map ziD))])] (by kernel_rfl) h ?_; clear h; intro a w h
        refine wp_seq ?_
        rcases Bool.eq_false_or_eq_true (goS s x act picks).2 with hc | hc
        ·have hc10 := hc; clear hc
         rw [hc10] at h
         refine rSeq fam0ok 6 [(2, .cmpb .neq (m := true) (n := true) (b := false) (.inr ⟨rfl, (show (true != true) = false from by simp).symm⟩)), (6, .call (SSameLaw (goS s x act picks).1 (M := 8) (by decide) hgo) ky_6), (14, .call (SLeads s x act y (L := 3) (M := 3) (by decide) hsO hxO hyO) kn_8), (19, .call (SRLeads s x act y (L := 3) (M := 3) (by decide) hsO hxO hyO) ks_5), (20, .cmpb .neq (m := (leads s x act y)) (n := (leads s x act y)) (b := false) (.inr ⟨rfl, (show (leads s x act y != leads s x act y) = false from by simp).symm⟩)), (29, .call (Fn.cast (SLeads s x act (goS s x act picks).1 (L := 3) (M := 8) (by decide) hsO (hxO.mono (by decide)) hgo) (congrArg vb (goS_leads hc10))) kn_8)] [(3, vi .i64 act), (5, vp 0 0), (6, vp 1 0), (7, vp 2 0), (96, vb false)] [(0, .box (sysC s)), (1, .box [.d (.sl 1 (x.locs.map intD)), .d (.sl 2 (x.vals.map ziD))]), (2, .box [.d (.sl 1 (y.locs.map intD)), .d (.sl 2 (y.vals.map ziD))])] (by kernel_rfl) h ?_; clear h; intro a w h
         refine condS false h rfl (fun hc => ?_) (fun hc => ?_)
         ·cases hc
         ·clear hc
          refine wp_skip ?_
          refine then_n ?_
          refine rSeq fam0ok 6 [(2, .call (SFits s x (L := 3) (M := 3) (by decide) hsO hxO) kg_9), (5, .call (SRFits s x (L := 3) (M := 3) (by decide) hsO hxO) kh_6), (6, .cmpb .eql (m := (fits s x)) (n := (fits s x)) (b := true) (.inl ⟨rfl, (show (fits s x == fits s x) = true from by simp).symm⟩)), (10, .call (SFirst s x (L := 3) (M := 3) (by decide) hsO hxO) kn_6), (13, .call (SRFirst s x (L := 3) (M := 3) (by decide) hsO hxO) ks_3), (14, .cmpb .eql (m := (first s x)) (n := (first s x)) (b := true) (.inl ⟨rfl, (show (first s x == first s x) = true from by simp).symm⟩)), (20, .call (SCan s x act (L := 3) (M := 3) (by decide) hsO hxO) kk_12), (24, .call (SRCan s x act (L := 3) (M := 3) (by decide) hsO hxO) kq_14), (25, .cmpb .eql (m := (can s x act)) (n := (can s x act)) (b := true) (.inl ⟨rfl, (show (can s x act == can s x act) = true from by simp).symm⟩)), (30, .call (SStuck s x (L := 3) (M := 3) (by decide) hsO hxO) kl_0), (33, .call (SRStuck s x (L := 3) (M := 3) (by decide) hsO hxO) kr_7), (34, .cmpb .eql (m := (stuck s x)) (n := (stuck s x)) (b := true) (.inl ⟨rfl, (show (stuck s x == stuck s x) = true from by simp).symm⟩)), (39, .call (SSame x y (M := 3) (by decide) hxO hyO) km_1), (42, .call (SRSame18 x y (M := 3) (by decide) hxO hyO) kr_9), (43, .cmpb .eql (m := (sameS x y)) (n := (sameS x y)) (b := true) (.inl ⟨rfl, (show (sameS x y == sameS x y) = true from by simp).symm⟩))] [(10, vb true)] [] (by kernel_rfl) h ?_; clear h; intro a w h
          refine wp_ret ?_
          refine retS [.c (.d (.raw (.bool true)))] h Exit.ret (.inl rfl)  rfl ⟨RV.tmp _ _ rfl, trivial⟩ ?_ (by kernel_rfl) (by kernel_rfl)
          rfl
        ·have hc11 := hc; clear hc
         rw [hc11] at h
         refine rSeq fam0ok 6 [(2, .cmpb .neq (m := false) (n := false) (b := false) (.inr ⟨rfl, (show (false != false) = false from by simp).symm⟩)), (6, .call (SSameLaw (goS s x act picks).1 (M := 8) (by decide) hgo) ky_6), (14, .call (SLeads s x act y (L := 3) (M := 3) (by decide) hsO hxO hyO) kn_8), (19, .call (SRLeads s x act y (L := 3) (M := 3) (by decide) hsO hxO hyO) ks_5), (20, .cmpb .neq (m := (leads s x act y)) (n := (leads s x act y)) (b := false) (.inr ⟨rfl, (show (leads s x act y != leads s x act y) = false from by simp).symm⟩))] [(3, vi .i64 act), (5, vp 0 0), (6, vp 1 0), (7, vp 2 0), (96, vb false)] [(0, .box (sysC s)), (1, .box [.d (.sl 1 (x.locs.map intD)), .d (.sl 2 (x.vals.map ziD))]), (2, .box [.d (.sl 1 (y.locs.map intD)), .d (.sl 2 (y.vals.map ziD))])] (by kernel_rfl) h ?_; clear h; intro a w h
         refine condS false h rfl (fun hc => ?_) (fun hc => ?_)
         ·cases hc
         ·clear hc
          refine wp_skip ?_
          refine then_n ?_
          refine rSeq fam0ok 6 [(2, .call (SFits s x (L := 3) (M := 3) (by decide) hsO hxO) kg_9), (5, .call (SRFits s x (L := 3) (M := 3) (by decide) hsO hxO) kh_6), (6, .cmpb .eql (m := (fits s x)) (n := (fits s x)) (b := true) (.inl ⟨rfl, (show (fits s x == fits s x) = true from by simp).symm⟩)), (10, .call (SFirst s x (L := 3) (M := 3) (by decide) hsO hxO) kn_6), (13, .call (SRFirst s x (L := 3) (M := 3) (by decide) hsO hxO) ks_3), (14, .cmpb .eql (m := (first s x)) (n := (first s x)) (b := true) (.inl ⟨rfl, (show (first s x == first s x) = true from by simp).symm⟩)), (20, .call (SCan s x act (L := 3) (M := 3) (by decide) hsO hxO) kk_12), (24, .call (SRCan s x act (L := 3) (M := 3) (by decide) hsO hxO) kq_14), (25, .cmpb .eql (m := (can s x act)) (n := (can s x act)) (b := true) (.inl ⟨rfl, (show (can s x act == can s x act) = true from by simp).symm⟩)), (30, .call (SStuck s x (L := 3) (M := 3) (by decide) hsO hxO) kl_0), (33, .call (SRStuck s x (L := 3) (M := 3) (by decide) hsO hxO) kr_7), (34, .cmpb .eql (m := (stuck s x)) (n := (stuck s x)) (b := true) (.inl ⟨rfl, (show (stuck s x == stuck s x) = true from by simp).symm⟩)), (39, .call (SSame x y (M := 3) (by decide) hxO hyO) km_1), (42, .call (SRSame18 x y (M := 3) (by decide) hxO hyO) kr_9), (43, .cmpb .eql (m := (sameS x y)) (n := (sameS x y)) (b := true) (.inl ⟨rfl, (show (sameS x y == sameS x y) = true from by simp).symm⟩))] [(10, vb true)] [] (by kernel_rfl) h ?_; clear h; intro a w h
          refine wp_ret ?_
          refine retS [.c (.d (.raw (.bool true)))] h Exit.ret (.inl rfl)  rfl ⟨RV.tmp _ _ rfl, trivial⟩ ?_ (by kernel_rfl) (by kernel_rfl)
          rfl
    ·have hc12 := hc; clear hc
     refine rSeq fam0ok 6 [(1, .call (Fn.cast (SFewSys s 3 hs) (congrArg vb hc1)) ky_1), (5, .call (Fn.cast (SFewSt x 3 hx) (congrArg vb hc2)) ky_2), (10, .call (Fn.cast (SFewSt y 3 hy) (congrArg vb hc12)) ky_2)] [(3, vi .i64 act), (4, .t (.c (.d (.sl 2 (picks.map ziD))))), (5, vp 0 0), (6, vp 1 0), (7, vp 2 0), (10, vb false), (36, vb true)] [(0, .box (sysC s)), (1, .box [.d (.sl 1 (x.locs.map intD)), .d (.sl 2 (x.vals.map ziD))]), (2, .box [.d (.sl 1 (y.locs.map intD)), .d (.sl 2 (y.vals.map ziD))])] (by kernel_rfl) h ?_; clear h; intro a w h
     refine condS true h rfl (fun hc => ?_) (fun hc => ?_)
     ·clear hc
      refine rSeq fam0ok 6 [] [(3, vi .i64 act), (4, .t (.c (.d (.sl 2 (picks.map ziD))))), (5, vp 0 0), (6, vp 1 0), (7, vp 2 0), (10, vb true)] [(0, .box (sysC s)), (1, .box [.d (.sl 1 (x.locs.map intD)), .d (.sl 2 (x.vals.map ziD))]), (2, .box [.d (.sl 1 (y.locs.map intD)), .d (.sl 2 (y.vals.map ziD))])] (by kernel_rfl) h ?_; clear h; intro a w h
      refine wp_ret ?_
      refine then_r ?_
      refine retS [.c (.d (.raw (.bool true)))] h Exit.ret (.inl rfl)  rfl ⟨RV.tmp _ _ rfl, trivial⟩ ?_ (by kernel_rfl) (by kernel_rfl)
      rfl
     ·cases hc
   ·have hc13 := hc; clear hc
    refine rSeq fam0ok 6 [(1, .call (Fn.cast (SFewSys s 3 hs) (congrArg vb hc1)) ky_1), (5, .call (Fn.cast (SFewSt x 3 hx) (congrArg vb hc13)) ky_2)] [(3, vi .i64 act), (4, .t (.c (.d (.sl 2 (picks.map ziD))))), (5, vp 0 0), (6, vp 1 0), (7, vp 2 0), (10, vb false), (36, vb true)] [(0, .box (sysC s)), (1, .box [.d (.sl 1 (x.locs.map intD)), .d (.sl 2 (x.vals.map ziD))]), (2, .box [.d (.sl 1 (y.locs.map intD)), .d (.sl 2 (y.vals.map ziD))])] (by kernel_rfl) h ?_; clear h; intro a w h
    refine condS true h rfl (fun hc => ?_) (fun hc => ?_)
    ·clear hc
     refine rSeq fam0ok 6 [] [(3, vi .i64 act), (4, .t (.c (.d (.sl 2 (picks.map ziD))))), (5, vp 0 0), (6, vp 1 0), (7, vp 2 0), (10, vb true)] [(0, .box (sysC s)), (1, .box [.d (.sl 1 (x.locs.map intD)), .d (.sl 2 (x.vals.map ziD))]), (2, .box [.d (.sl 1 (y.locs.map intD)), .d (.sl 2 (y.vals.map ziD))])] (by kernel_rfl) h ?_; clear h; intro a w h
     refine wp_ret ?_
     refine then_r ?_
     refine retS [.c (.d (.raw (.bool true)))] h Exit.ret (.inl rfl)  rfl ⟨RV.tmp _ _ rfl, trivial⟩ ?_ (by kernel_rfl) (by kernel_rfl)
     rfl
    ·cases hc
  ·have hc14 := hc; clear hc
   refine rSeq fam0ok 6 [(1, .call (Fn.cast (SFewSys s 3 hs) (congrArg vb hc14)) ky_1)] [(3, vi .i64 act), (4, .t (.c (.d (.sl 2 (picks.map ziD))))), (5, vp 0 0), (6, vp 1 0), (7, vp 2 0), (10, vb false), (36, vb true)] [(0, .box (sysC s)), (1, .box [.d (.sl 1 (x.locs.map intD)), .d (.sl 2 (x.vals.map ziD))]), (2, .box [.d (.sl 1 (y.locs.map intD)), .d (.sl 2 (y.vals.map ziD))])] (by kernel_rfl) h ?_; clear h; intro a w h
   refine condS true h rfl (fun hc => ?_) (fun hc => ?_)
   ·clear hc
    refine rSeq fam0ok 6 [] [(3, vi .i64 act), (4, .t (.c (.d (.sl 2 (picks.map ziD))))), (5, vp 0 0), (6, vp 1 0), (7, vp 2 0), (10, vb true)] [(0, .box (sysC s)), (1, .box [.d (.sl 1 (x.locs.map intD)), .d (.sl 2 (x.vals.map ziD))]), (2, .box [.d (.sl 1 (y.locs.map intD)), .d (.sl 2 (y.vals.map ziD))])] (by kernel_rfl) h ?_; clear h; intro a w h
    refine wp_ret ?_
    refine then_r ?_
    refine retS [.c (.d (.raw (.bool true)))] h Exit.ret (.inl rfl)  rfl ⟨RV.tmp _ _ rfl, trivial⟩ ?_ (by kernel_rfl) (by kernel_rfl)
    rfl
   ·cases hc
end Go.Proofs.YtmohlifepfjmdaaGreat.S
end
section
namespace Go.Proofs.YtmohlifepfjmdaaGreat.S
open Go.RowKit

section
variable {w : World} {n : Nat}
theorem rep_raw {t e : TypeId} (hu : Tryz.prog.underlying t = some (.slice e)) : RepN w n t rawD (fun _ => True) := fun H enc base spare held fuel cs x hn hx => by
 rcases DataW.trod_slice hu hx with ⟨rfl, _⟩ | ⟨a, len, cap, elems, rest, m, rfl, rfl, _⟩
 ·exact ⟨.raw _, trivial, DR.raw _ rfl, trivial⟩
 ·exact ⟨.raw _, trivial, DR.raw _ rfl, trivial⟩
theorem rep_ZIl : RepN w n 41 (slD 2 ziD) (fun xs => xs.length ≤ maxLen ∧ ∀ x ∈ xs, Lb x.abs) :=
 rep_slice (k := 2) Tryz.underlying41 (by kernel_rfl) (by decide) (fun _ => rfl) rep_ZI
theorem rep_strs : RepN w n 22 (slD 1 strD) (fun xs => xs.length ≤ maxLen ∧ ∀ x ∈ xs, x.size ≤ maxLen) :=
 rep_slice (k := 1) Tryz.underlying22 (by kernel_rfl) (by decide) (fun _ => rfl) (rep_str Tryz.underlying9)
theorem rep_Rel : RepN w n 32 RelD.d (fun r => TLb r.t) :=
 ((rep_struct (n := n) Tryz.underlying32 (by kernel_rfl) (.cons (k0 := 3) rfl (by kernel_rfl) rep_Term (.cons (k0 := 1) rfl (by kernel_rfl) (rep_bool Tryz.underlying4) .nil))).map (fun p => ⟨p.1, p.2.1⟩) (fun _ => rfl) fun _ h => h.1).mono (Nat.le_succ n)
theorem rep_Form : ∀ {n : Nat}, RepN w n 35 FormD.d FormD.lb
 | 0 => RepN.zero
 | n + 1 => (rep_struct (n := n) Tryz.underlying35 (by kernel_rfl) (.cons (k0 := 1) rfl (by kernel_rfl) (rep_i64 Tryz.underlying3) (.cons (k0 := 4) rfl (by kernel_rfl) rep_Rel (.cons (k0 := 1) rfl (by kernel_rfl) (rep_slice (k := 6) Tryz.underlying33 (by kernel_rfl) (by decide) FormD.d_len rep_Form) .nil)))).map (fun p => ⟨p.1, p.2.1, p.2.2.1⟩) (fun _ => (FormD.d_eq _).trans rfl) fun _ h => (FormD.lb_eq _).2 ⟨⟨h.2.1, Nat.le_trans h.2.2.1.1 (by decide)⟩, h.2.2.1.2⟩
theorem rep_Bound : RepN w n 76 BoundD.d (fun b => Lb b.lo.abs ∧ Lb b.hi.abs) :=
 ((rep_struct (n := n) Tryz.underlying76 (by kernel_rfl) (.cons (k0 := 1) rfl (by kernel_rfl) (rep_bool Tryz.underlying4) (.cons (k0 := 2) rfl (by kernel_rfl) rep_ZI (.cons (k0 := 2) rfl (by kernel_rfl) rep_ZI .nil)))).map (fun p => ⟨p.1, p.2.1, p.2.2.1⟩) (fun _ => rfl) fun _ h => ⟨h.2.1, h.2.2.1⟩).mono (Nat.le_succ n)
theorem rep_Move : RepN w n 81 MoveD.d (fun m => TLb m.t) :=
 ((rep_struct (n := n) Tryz.underlying81 (by kernel_rfl) (.cons (k0 := 1) rfl (by kernel_rfl) (rep_i64 Tryz.underlying3) (.cons (k0 := 1) rfl (by kernel_rfl) (rep_bool Tryz.underlying4) (.cons (k0 := 3) rfl (by kernel_rfl) rep_Term .nil)))).map (fun p => ⟨p.1, p.2.1, p.2.2.1⟩) (fun _ => rfl) fun _ h => h.2.2.1).mono (Nat.le_succ n)
theorem rep_Moves : RepN w n 77 (slD 5 MoveD.d) (fun xs => xs.length ≤ maxLen ∧ ∀ x ∈ xs, TLb x.t) :=
 rep_slice (k := 5) Tryz.underlying77 (by kernel_rfl) (by decide) (fun _ => rfl) rep_Move
theorem rep_Bounds : RepN w n 23 (slD 5 BoundD.d) (fun xs => xs.length ≤ maxLen ∧ ∀ x ∈ xs, Lb x.lo.abs ∧ Lb x.hi.abs) :=
 rep_slice (k := 5) Tryz.underlying23 (by kernel_rfl) (by decide) (fun _ => rfl) rep_Bound
theorem rep_Act : RepN w n 79 ActD.d (fun c => c.guard.lb ∧ c.moves.length ≤ maxLen ∧ ∀ m ∈ c.moves, TLb m.t) :=
 ((rep_struct (n := n) Tryz.underlying79 (by kernel_rfl) (.cons (k0 := 1) rfl (by kernel_rfl) (rep_i64 Tryz.underlying3) (.cons (k0 := 1) rfl (by kernel_rfl) (rep_i64 Tryz.underlying3) (.cons (k0 := 1) rfl (by kernel_rfl) (rep_i64 Tryz.underlying3) (.cons (k0 := 6) rfl (by kernel_rfl) rep_Form (.cons (k0 := 1) rfl (by kernel_rfl) rep_Moves .nil)))))).map (fun p => ⟨p.1, p.2.1, p.2.2.1, p.2.2.2.1, p.2.2.2.2.1⟩) (fun _ => by rw [FormD.d_eq]; rfl) fun _ h => ⟨h.2.2.2.1, h.2.2.2.2.1⟩).mono (Nat.le_succ n)
theorem rep_Proc : RepN w n 96 ProcD.d (fun _ => True) :=
 ((rep_struct (n := n) Tryz.underlying96 (by kernel_rfl) (.cons (k0 := 1) rfl (by kernel_rfl) (rep_str Tryz.underlying9) (.cons (k0 := 1) rfl (by kernel_rfl) rep_strs (.cons (k0 := 1) rfl (by kernel_rfl) (rep_raw Tryz.underlying94) .nil)))).map (fun p => ⟨p.1, p.2.1, p.2.2.1⟩) (fun _ => rfl) fun _ _ => trivial).mono (Nat.le_succ n)
theorem rep_Procs : RepN w n 36 (slD 3 ProcD.d) (fun xs => xs.length ≤ maxLen ∧ ∀ x ∈ xs, True) :=
 rep_slice (k := 3) Tryz.underlying36 (by kernel_rfl) (by decide) (fun _ => rfl) rep_Proc
theorem rep_Acts : RepN w n 37 (slD 10 ActD.d) (fun xs => xs.length ≤ maxLen ∧ ∀ x ∈ xs, x.guard.lb ∧ x.moves.length ≤ maxLen ∧ ∀ m ∈ x.moves, TLb m.t) :=
 rep_slice (k := 10) Tryz.underlying37 (by kernel_rfl) (by decide) (fun _ => rfl) rep_Act
theorem rep_Sys : RepN w n 39 SysD.d SysRd :=
 ((rep_struct (n := n) Tryz.underlying39 (by kernel_rfl) (.cons (k0 := 1) rfl (by kernel_rfl) rep_strs (.cons (k0 := 1) rfl (by kernel_rfl) rep_Bounds (.cons (k0 := 6) rfl (by kernel_rfl) rep_Form (.cons (k0 := 1) rfl (by kernel_rfl) rep_Procs (.cons (k0 := 1) rfl (by kernel_rfl) rep_Acts .nil)))))).map (fun p => ⟨p.1, p.2.1, p.2.2.1, p.2.2.2.1, p.2.2.2.2.1⟩) (fun _ => by rw [FormD.d_eq]; rfl) fun _ h => ⟨h.2.2.1, h.2.1.2, fun c hc => ⟨(h.2.2.2.2.1.2 c hc).1, (h.2.2.2.2.1.2 c hc).2.2⟩, ⟨Nat.le_trans h.2.1.1 (by decide), Nat.le_trans h.2.2.2.2.1.1 (by decide)⟩, fun c hc => Nat.le_trans (h.2.2.2.2.1.2 c hc).2.1 (by decide)⟩).mono (Nat.le_succ n)
theorem rep_State : RepN w n 43 StD.d StRd :=
 ((rep_struct (n := n) Tryz.underlying43 (by kernel_rfl) (.cons (k0 := 1) rfl (by kernel_rfl) rep_ints (.cons (k0 := 1) rfl (by kernel_rfl) rep_ZIl .nil))).map (fun p => ⟨p.1, p.2.1⟩) (fun _ => rfl) fun _ h => ⟨h.2.1.2, Nat.le_trans h.2.1.1 (by decide)⟩).mono (Nat.le_succ n)
end
theorem SKripkeStepsW (s : SysD) (x y : StD) (act : Int) (picks : List ZI) (hs : SysRd s) (hx : StRd x) (hy : StRd y) (hp : picks.length ≤ maxLen ∧ ∀ z ∈ picks, Lb z.abs) : Fn Tryz.prog 3 [] [vd (SysD.d s), vd (StD.d x), vd (StD.d y), vi .i64 act, .t (.c (.d (.sl 2 (picks.map ziD))))] (vb true) [] :=
 SKripkeSteps s x y act picks hs hx hy hp.2 (Nat.le_trans hp.1 (by decide))
end Go.Proofs.YtmohlifepfjmdaaGreat.S
end
section
namespace Go.Proofs.YtmohlifepfjmdaaGreat.kripkeStepsDone
open Go.ChangeShapes Go.WideShapes Go.ChangeAt Go.RowKit
open Go.ChangeMaps (open_string shut_string)
open Go.Proofs.YtmohlifepfjmdaaGreat.S

theorem own : ownKnob Tryz.prog.godebug = none := by kernel_rfl
theorem laidOut : laidOutB Tryz.prog = true := by kernel_rfl

theorem lifted (os : Os) (started : os.Started) (H : Type) (enc : TypeId × Value → H) :
  ReturnsInHanded {} Tryz.checked os 3 .any (Rows.kripkeStepsSpec.pre6 enc Tryz.prog Tryz.f3 Rows.kripkeStepsRow.domain false) (Rows.kripkeStepsSpec.post enc Tryz.prog Tryz.f3 false true false false) := by
 refine returnsInHanded_of_change (C := Tryz.checked) own started (by kernel_rfl) Tryz.func3
  (ChangeSpec.witness6 (enc := enc) (C := Tryz.checked) false ⟨#[], #[.agg #[.slice none 0 0, .slice none 0 0, .int .i64 0, .slice none 0 0, .bool false, .slice none 0 0, .bool false, .slice none 0 0, .slice none 0 0, .slice none 0 0], .agg #[.slice none 0 0, .slice none 0 0], .agg #[.slice none 0 0, .slice none 0 0], .int .i64 0, .slice none 0 0], []⟩ 12 (by kernel_rfl) (by kernel_rfl) (by kernel_rfl) (by kernel_rfl)) ?_
 intro W base args ds gs before hval0 hW hcnd _
 have hval : ∀ (j : Nat) t v, Tryz.f3.params[j]? = some t → args[j]? = some v → Value.okWide Tryz.prog W .any base t v := hval0
 have hW' := hW
 obtain ⟨p, q, hA0, hV, rfl, hfz, hnd⟩ := hW
 have hA : DataW.TrodAll enc Tryz.prog W 0 (fun _ => true) true Tryz.f3.params.toList args.toList ds p := hA0
 rw [Tryz.params3] at hA hval
 obtain ⟨v0, vs0, d0, ds0, p0, q0, hargs, rfl, rfl, h0, r0⟩ := trodAll_cons hA
 obtain ⟨v1, vs1, d1, ds1, p1, q1, rfl, rfl, rfl, h1, r1⟩ := trodAll_cons r0
 obtain ⟨v2, vs2, d2, ds2, p2, q2, rfl, rfl, rfl, h2, r2⟩ := trodAll_cons r1
 obtain ⟨v3, vs3, d3, ds3, p3, q3, rfl, rfl, rfl, h3, r3⟩ := trodAll_cons r2
 obtain ⟨v4, vs4, d4, ds4, p4, q4, rfl, rfl, rfl, h4, r4⟩ := trodAll_cons r3
 obtain ⟨rfl, rfl, rfl⟩ := trodAll_nil r4
 obtain rfl : args = #[v0, v1, v2, v3, v4] := by cases args; simp_all
 obtain ⟨rfl, rfl⟩ := trodVars_none hV
 have k0 := h0
 have lt0 : ∀ x ∈ p0, x.block < W.heap.size := by obtain ⟨m, hm⟩ := k0; exact DataW.trod_lt m _ _ _ hm
 obtain ⟨a0, cs0, g0, rfl, dr0⟩ := rep_agg Tryz.underlying39 (fun _ => rep_Sys) (hval 0 39 v0 rfl rfl) h0
 have k1 := h1
 have lt1 : ∀ x ∈ p1, x.block < W.heap.size := by obtain ⟨m, hm⟩ := k1; exact DataW.trod_lt m _ _ _ hm
 obtain ⟨a1, cs1, g1, rfl, dr1⟩ := rep_agg Tryz.underlying43 (fun _ => rep_State) (hval 1 43 v1 rfl rfl) h1
 have k2 := h2
 have lt2 : ∀ x ∈ p2, x.block < W.heap.size := by obtain ⟨m, hm⟩ := k2; exact DataW.trod_lt m _ _ _ hm
 obtain ⟨a2, cs2, g2, rfl, dr2⟩ := rep_agg Tryz.underlying43 (fun _ => rep_State) (hval 2 43 v2 rfl rfl) h2
 obtain ⟨a3, rfl, rfl, rfl, g30⟩ := open_int Tryz.underlying3 (hval 3 3 v3 rfl rfl) h3
 have g3 : -9223372036854775808 ≤ a3 ∧ a3 ≤ 9223372036854775807 := by have := bounds_i64 g30; omega
 have k4 := h4
 have lt4 : ∀ x ∈ p4, x.block < W.heap.size := by obtain ⟨m, hm⟩ := k4; exact DataW.trod_lt m _ _ _ hm
 obtain ⟨a4, ao4, len4, cap4, g4, rfl, dr4⟩ := rep_one Tryz.underlying41 (fun _ => rep_ZIl) (hval 4 41 v4 rfl rfl) h4
 clear hA0 hval0
 refine ((SKripkeStepsW a0 a1 a2 a3 a4 g0 g1 g2 g4).calls (w := W) (vals := [.agg ⟨cs0⟩, .agg ⟨cs1⟩, .agg ⟨cs2⟩, .int .i64 a3, .slice ao4 len4 cap4]) fun B => ⟨dr_vd dr0 B, dr_vd dr1 B, dr_vd dr2 B, DR.raw _ rfl, dr4, trivial⟩).mono fun e W' ⟨he, bel⟩ => ?_
 subst he
 exact ⟨_, rfl, _, _, _, [], _, [], hW', trodAll_mk1 (shut_bool Tryz.underlying4 _), (trodAll_cons_mk (Below.trod laidOut (by kernel_rfl) (of_decide_eq_true (by kernel_rfl)) k0 bel lt0) (trodAll_cons_mk (Below.trod laidOut (by kernel_rfl) (of_decide_eq_true (by kernel_rfl)) k1 bel lt1) (trodAll_cons_mk (Below.trod laidOut (by kernel_rfl) (of_decide_eq_true (by kernel_rfl)) k2 bel lt2) (trodAll_cons_mk (shut_int Tryz.underlying3 g30) (trodAll_cons_mk (Below.trod laidOut (by kernel_rfl) (of_decide_eq_true (by kernel_rfl)) k4 bel lt4) trodAll_mk0))))), rfl, bel.below.frame _, fun h => by cases h⟩

theorem over : Rows.kripkeStepsRow.holds Tryz.pinned (OpenSpec.ofChange Rows.kripkeStepsSpec) :=
 OpenClaim.holds_of_wide 3 Tryz.f3 rfl rfl rfl rfl rfl rfl rfl ⟨rfl, rfl, rfl, rfl, rfl⟩ rfl rfl rfl rfl rfl (by kernel_rfl) Tryz.func3 (by kernel_rfl)
  (of_decide_eq_true (by kernel_rfl)) (by unfold Func.isWrapper; first | (rw [if_pos (by decide +kernel)]; kernel_rfl) | (rw [if_neg (by decide +kernel)]; exact ⟨rfl, rfl⟩))
  (fun os started H enc _ => lifted os started H enc)

theorem proved : Rows.KripkeStepsSaid := over
end Go.Proofs.YtmohlifepfjmdaaGreat.kripkeStepsDone
end
