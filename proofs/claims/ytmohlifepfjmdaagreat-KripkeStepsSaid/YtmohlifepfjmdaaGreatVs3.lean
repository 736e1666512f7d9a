/-
  Part 3 of the proof of the statement KripkeSteps: the walk through the program and the references lifted to the given row. It holds for every input.
-/
import Derived.Test.YtmohlifepfjmdaaGreatVs2
set_option maxRecDepth 100000
section
namespace Go.Proofs.YtmohlifepfjmdaaGreat.S
open Go.RowKit

theorem kb_0 : SlT Tryz.prog 33 35 6 := SlT.mk' Tryz.underlying33 (by kernel_rfl)
theorem kb_1 : ElZ Tryz.prog 33 35 6 := ElZ.mk' Tryz.underlying33 _ _ rfl rfl (by kernel_rfl) (by kernel_rfl) (by kernel_rfl) (by decide)
section
variable {P : Program}
theorem TyOk.fnc {t : TypeId} {z : C} {dd : TypeDesc} (hu : P.underlying t = some dd) (ha : (match dd with | .struct _ | .array _ _ => true | _ => false) = false) (hs : (P.info? t).map (·.size) = some 1) (hz : Zero P t [z]) : TyOk P t ⟨1, false, [], [z], 4⟩ :=
 ⟨Sz.mk' hs hu _ ha.symm, fun k off n ag h => (by simp at h), fun _ => hz, fun h => absurd rfl h, fun h => (by cases h), fun h => (by cases h), fun h => (by cases h), fun k h => (by cases h)⟩
theorem Op.makeFs {d : Nat} {fn : Go.Fn} (ts : List (Nat × Nat × Nat)) {ty : TypeId} {pos af gd} :
  OpOk P ⟨some d, .makeFunc fn #[] ⟨ts.map fun p => .tmp p.1⟩, ty, pos, af, gd⟩ { rs := ts.map fun p => (p.1, vp p.2.1 p.2.2), ws := [(d, some (.t (.c (.fn fn [] (ts.map fun p => A.ptr p.2.1 p.2.2)))))] } :=
 OpOk.value d _ rfl rfl rfl fun e f H B a w hok hr => by
  refine ⟨.func fn #[] ⟨ts.map fun p => a.eval (.tmp p.1)⟩, ?_, [], ts.map fun p => a.eval (.tmp p.1), rfl, trivial, ?_⟩
  ·simp [execOp, Instr.makeFunc, Function.comp_def]
  ·have h1 : ∀ p ∈ ts, AR H B (.ptr p.2.1 p.2.2) (a.eval (.tmp p.1)) := fun p hp => hok.slot p.1 _ (hr.1 (p.1, vp p.2.1 p.2.2) (List.mem_map.2 ⟨p, hp, rfl⟩))
   clear hr
   induction ts with
   | nil => trivial
   | cons p ts ih => exact ⟨h1 p (by simp), ih fun q hq => h1 q (by simp [hq])⟩
end
theorem all_take {α : Type} {q : α → Bool} {xs : List α} {j : Nat} {x : α} (h : xs[j]? = some x) : (xs.take (j + 1)).all q = ((xs.take j).all q && q x) := by
 have e : xs.take (j + 1) = xs.take j ++ [x] := by rw [List.take_add_one, h]; rfl
 rw [e, List.all_append]; simp
theorem all_step {α : Type} {q : α → Bool} {xs : List α} {j : Nat} {x : α} (h : xs[j]? = some x) (h1 : (xs.take j).all q = true) (h2 : q x = true) : (xs.take (j + 1)).all q = true := by rw [all_take h, h1, h2]; rfl
theorem all_stop {α : Type} {q : α → Bool} {xs : List α} {j : Nat} {x : α} (h : xs[j]? = some x) (h2 : q x = false) : xs.all q = false := by
 cases h3 : xs.all q with
 | false => rfl
 | true => rw [List.all_eq_true.1 h3 x (List.mem_of_getElem? h)] at h2; cases h2
theorem all_end {α : Type} {q : α → Bool} {xs : List α} {j : Nat} (hj : ¬ (j : Int) < (xs.length : Int)) (h1 : (xs.take j).all q = true) : xs.all q = true := by rwa [List.take_of_length_le (by omega)] at h1
theorem any_step {α : Type} {q : α → Bool} {xs : List α} {j : Nat} {x : α} (h : xs[j]? = some x) (h1 : (xs.take j).any q = false) (h2 : q x = false) : (xs.take (j + 1)).any q = false := by
 have e : xs.take (j + 1) = xs.take j ++ [x] := by rw [List.take_add_one, h]; rfl
 rw [e, List.any_append, h1]; simp [h2]
theorem any_stop {α : Type} {q : α → Bool} {xs : List α} {j : Nat} {x : α} (h : xs[j]? = some x) (h2 : q x = true) : xs.any q = true := List.any_eq_true.2 ⟨x, List.mem_of_getElem? h, h2⟩
theorem any_end {α : Type} {q : α → Bool} {xs : List α} {j : Nat} (hj : ¬ (j : Int) < (xs.length : Int)) (h1 : (xs.take j).any q = false) : xs.any q = false := by rwa [List.take_of_length_le (by omega)] at h1
def cnt {α : Type} (k : Int) (xs : List α) : List α := if k = 4 ∨ k = 5 then xs else if k = 3 then xs.take 1 else []
theorem cnt_map {α β : Type} (g : α → β) (k : Int) (xs : List α) : cnt k (xs.map g) = (cnt k xs).map g := by unfold cnt; split; rfl; split; rw [List.map_take]; rfl
theorem cnt_mem {α : Type} {k : Int} {xs : List α} {x : α} (h : x ∈ cnt k xs) : x ∈ xs := by
 unfold cnt at h
 split at h
 ·exact h
 ·split at h
  ·exact List.mem_of_mem_take h
  ·cases h
theorem cnt_len {α : Type} (k : Int) (xs : List α) : (cnt k xs).length ≤ xs.length := by
 unfold cnt; split; exact Nat.le_refl _; split; rw [List.length_take]; omega; exact Nat.zero_le _
def sizeGo (lim : Int) : List (Int → Int) → Int → Int
  | [], n => n
  | s :: ss, n => if n ≤ lim then sizeGo lim ss (n + s (lim - n)) else n
def FormD.size (f : FormD) : Int → Int := f.fold fun k _ _ ss lim => sizeGo lim (cnt k ss) 1
theorem FormD.size_eq (f : FormD) (lim : Int) : f.size lim = sizeGo lim ((cnt f.kind f.kids).map FormD.size) 1 := by
 have := congrFun (FormD.fold_eq (fun k _ _ (ss : List (Int → Int)) lim => sizeGo lim (cnt k ss) 1) f) lim
 rw [cnt_map] at this; exact this
theorem sizeGo_bd {lim : Int} : ∀ (ss : List (Int → Int)) (n : Int), (∀ s ∈ ss, ∀ l, 0 ≤ l → 1 ≤ s l ∧ s l ≤ l + 1) → 1 ≤ n → n ≤ lim + 1 → 1 ≤ sizeGo lim ss n ∧ sizeGo lim ss n ≤ lim + 1
 | [], n, _, h1, h2 => ⟨h1, h2⟩
 | s :: ss, n, h, h1, h2 => by
  unfold sizeGo
  split
  ·rename_i hn
   have := h s (by simp) (lim - n) (by omega)
   exact sizeGo_bd ss _ (fun t ht => h t (by simp [ht])) (by omega) (by omega)
  ·exact ⟨h1, h2⟩
theorem FormD.size_bd (f : FormD) : ∀ lim : Int, 0 ≤ lim → 1 ≤ f.size lim ∧ f.size lim ≤ lim + 1 :=
 FormD.ind (P := fun f => ∀ lim : Int, 0 ≤ lim → 1 ≤ f.size lim ∧ f.size lim ≤ lim + 1) (fun k r ks ih lim hl => by
  rw [FormD.size_eq]
  refine sizeGo_bd _ _ (fun s hs => ?_) (by omega) (by omega)
  obtain ⟨g, hg, rfl⟩ := List.mem_map.1 hs
  exact ih g (cnt_mem hg)) f
theorem sizeGo_at {lim n : Int} {ss : List (Int → Int)} {j : Nat} {s : Int → Int} (h : ss[j]? = some s) (hn : n ≤ lim) : sizeGo lim (ss.drop j) n = sizeGo lim (ss.drop (j + 1)) (n + s (lim - n)) := by
 obtain ⟨hj, rfl⟩ := List.getElem?_eq_some_iff.1 h
 rw [List.drop_eq_getElem_cons hj, sizeGo, if_pos hn]
theorem sizeGo_out {lim n : Int} {ss : List (Int → Int)} (h : ¬ n ≤ lim ∨ ss = []) : sizeGo lim ss n = n := by
 cases ss with
 | nil => rfl
 | cons s ss => rw [sizeGo, if_neg (h.resolve_right (by simp))]
def fewR (L : Int) (r : RelD) : Bool := decide ((r.t.parts.length : Int) ≤ 20) && decide ((r.t.k.abs.length : Int) ≤ L) && r.t.parts.all fun p => decide ((p.c.abs.length : Int) ≤ L)
def FormD.few (L : Int) (f : FormD) : Bool := f.fold fun k r _ bs => (!(k == 2) || fewR L r) && (cnt k bs).all id
theorem FormD.few_eq (L : Int) (f : FormD) : f.few L = ((!(f.kind == 2) || fewR L f.r) && (cnt f.kind f.kids).all (FormD.few L)) := by
 have := FormD.fold_eq (fun k r _ (bs : List Bool) => (!(k == 2) || fewR L r) && (cnt k bs).all id) f
 rw [cnt_map, List.all_map] at this; exact this
def fewF (f : FormD) (most L : Int) : Bool := !decide (f.size most > most) && f.few L
def relOk (vs : List ZI) (r : RelD) : Bool := if r.eq = true then sgn (valT r.t vs) == 0 else decide (sgn (valT r.t vs) ≥ 0)
def FormD.holds (vs : List ZI) (f : FormD) : Bool := f.fold fun k r _ bs => if k = 0 then true else if k = 2 then relOk vs r else if k = 3 then (match bs with | [] => false | b :: _ => !b) else if k = 4 then bs.all id else if k = 5 then bs.any id else false
theorem FormD.holds_eq (vs : List ZI) (f : FormD) : f.holds vs = if f.kind = 0 then true else if f.kind = 2 then relOk vs f.r else if f.kind = 3 then (match f.kids with | [] => false | g :: _ => !g.holds vs) else if f.kind = 4 then f.kids.all (FormD.holds vs) else if f.kind = 5 then f.kids.any (FormD.holds vs) else false := by
 have := FormD.fold_eq (fun k r _ (bs : List Bool) => if k = 0 then true else if k = 2 then relOk vs r else if k = 3 then (match bs with | [] => false | b :: _ => !b) else if k = 4 then bs.all id else if k = 5 then bs.any id else false) f
 rw [List.all_map, List.any_map] at this
 refine this.trans ?_
 cases f.kids <;> rfl
def TokR (L : Nat) (r : RelD) : Prop := TOk 20 L r.t
def FormD.ok (L : Nat) (f : FormD) : Prop := f.fold fun k r _ ps => (k = 2 → TokR L r) ∧ ∀ p ∈ cnt k ps, p
theorem FormD.ok_eq (L : Nat) (f : FormD) : f.ok L ↔ (f.kind = 2 → TokR L f.r) ∧ ∀ g ∈ cnt f.kind f.kids, g.ok L := by
 have := FormD.fold_eq (fun k r _ (ps : List Prop) => (k = 2 → TokR L r) ∧ ∀ p ∈ cnt k ps, p) f
 rw [cnt_map] at this
 unfold FormD.ok
 rw [this]
 refine and_congr_right fun _ => ⟨fun h g hg => h _ (List.mem_map.2 ⟨g, hg, rfl⟩), fun h p hp => ?_⟩
 obtain ⟨g, hg, rfl⟩ := List.mem_map.1 hp
 exact h g hg
def FormD.lb (f : FormD) : Prop := f.fold fun _ r ks ps => (TLb r.t ∧ ks.length ≤ 9223372036854775807) ∧ ∀ p ∈ ps, p
theorem FormD.lb_eq (f : FormD) : f.lb ↔ (TLb f.r.t ∧ f.kids.length ≤ 9223372036854775807) ∧ ∀ g ∈ f.kids, g.lb := by
 have := FormD.fold_eq (fun _ r ks (ps : List Prop) => (TLb r.t ∧ ks.length ≤ 9223372036854775807) ∧ ∀ p ∈ ps, p) f
 unfold FormD.lb
 rw [this]
 refine and_congr_right fun _ => ⟨fun h g hg => h _ (List.mem_map.2 ⟨g, hg, rfl⟩), fun h p hp => ?_⟩
 obtain ⟨g, hg, rfl⟩ := List.mem_map.1 hp
 exact h g hg
theorem fewR_ok {L : Nat} {r : RelD} (h : fewR L r = true) (hl : TLb r.t) : TokR L r := by
 simp only [fewR, Bool.and_eq_true, decide_eq_true_eq, List.all_eq_true] at h
 exact ⟨by omega, fun p hp => ⟨hl.2 p hp, by have := h.2 p hp; omega⟩, hl.1, by omega⟩
theorem FormD.few_ok {L : Nat} (f : FormD) : f.few L = true → f.lb → f.ok L :=
 FormD.ind (P := fun f => f.few L = true → f.lb → f.ok L) (fun k r ks ih h hl => by
  rw [FormD.few_eq, Bool.and_eq_true] at h
  rw [FormD.lb_eq] at hl
  rw [FormD.ok_eq]
  refine ⟨fun hk => fewR_ok (by have := h.1; rw [show ((FormD.mk k r ks).kind == 2) = true from by rw [hk]; rfl] at this; simpa using this) hl.1.1, fun g hg => ih g (cnt_mem hg) (List.all_eq_true.1 h.2 g hg) (hl.2 g (cnt_mem hg))⟩) f
set_option maxHeartbeats 4000000 in
theorem SKids (f : FormD)  : Fn Tryz.prog 84 [] [.t (.agg ([.d (.raw (.int .i64 f.kind)), .d (.sl 3 (f.r.t.parts.map Part.d))] ++ zi f.r.t.k ++ [.d (.raw (.bool f.r.eq)), .d (.sl 6 (f.kids.map FormD.d))]))] (.t (.c (.d (.sl 6 ((cnt f.kind f.kids).map FormD.d))))) [] := by
 refine Fn.body Tryz.func84 rfl 26 rfl fun w H B a h => ?_
 refine rSeq fam0ok 0 [] [(1, vp 0 0), (2, .t (.c (.d (.raw nilV))))] [(0, .box ([.d (.raw (.int .i64 f.kind)), .d (.sl 3 (f.r.t.parts.map Part.d))] ++ zi f.r.t.k ++ [.d (.raw (.bool f.r.eq)), .d (.sl 6 (f.kids.map FormD.d))]))] (by kernel_rfl) h ?_; clear h; intro a w h
 refine wp_seq ?_
 rcases Bool.eq_false_or_eq_true (f.kind == 4) with hc | hc
 ·have hc1 := hc; clear hc
  have hc1' := hc1; (try simp at hc1')
  refine rSeq fam0ok 1 [(2, .cmp (op := .eql) (m := f.kind) (n := 4) (b := true) .i64 hc1)] [(1, vp 0 0), (2, .t (.c (.d (.raw nilV)))), (10, vb true)] [(0, .box ([.d (.raw (.int .i64 f.kind)), .d (.sl 3 (f.r.t.parts.map Part.d))] ++ zi f.r.t.k ++ [.d (.raw (.bool f.r.eq)), .d (.sl 6 (f.kids.map FormD.d))]))] (by kernel_rfl) h ?_; clear h; intro a w h
  refine condS true h rfl (fun hc => ?_) (fun hc => ?_)
  ·clear hc
   refine rSeq fam0ok 1 [] [(1, vp 0 0), (2, .t (.c (.d (.sl 6 (f.kids.map FormD.d)))))] [(0, .box ([.d (.raw (.int .i64 f.kind)), .d (.sl 3 (f.r.t.parts.map Part.d))] ++ zi f.r.t.k ++ [.d (.raw (.bool f.r.eq)), .d (.sl 6 (f.kids.map FormD.d))]))] (by kernel_rfl) h ?_; clear h; intro a w h
   refine wp_ret ?_
   refine then_r ?_
   refine retS [.c (.d (.sl 6 (f.kids.map FormD.d)))] h Exit.ret (.inl rfl)  rfl ⟨RV.tmp _ _ rfl, trivial⟩ ?_ (by kernel_rfl) (by kernel_rfl)
   have p4 :  f.kind = 4 := by have := hc1; simpa using this
   have hz : (cnt f.kind f.kids) = f.kids := by unfold cnt; rw [if_pos (by omega)]
   rw [hz]; first | done | rfl
  ·cases hc
 ·have hc2 := hc; clear hc
  have hc2' := hc2; (try simp at hc2')
  refine rSeq fam0ok 1 [(2, .cmp (op := .eql) (m := f.kind) (n := 4) (b := false) .i64 hc2)] [(1, vp 0 0), (2, .t (.c (.d (.raw nilV)))), (10, vb (f.kind == 5))] [(0, .box ([.d (.raw (.int .i64 f.kind)), .d (.sl 3 (f.r.t.parts.map Part.d))] ++ zi f.r.t.k ++ [.d (.raw (.bool f.r.eq)), .d (.sl 6 (f.kids.map FormD.d))]))] (by kernel_rfl) h ?_; clear h; intro a w h
  refine condS (f.kind == 5) h rfl (fun hc => ?_) (fun hc => ?_)
  ·have hc3 := hc; clear hc
   have hc3' := hc3; (try simp at hc3')
   refine rSeq fam0ok 1 [] [(1, vp 0 0), (2, .t (.c (.d (.sl 6 (f.kids.map FormD.d)))))] [(0, .box ([.d (.raw (.int .i64 f.kind)), .d (.sl 3 (f.r.t.parts.map Part.d))] ++ zi f.r.t.k ++ [.d (.raw (.bool f.r.eq)), .d (.sl 6 (f.kids.map FormD.d))]))] (by kernel_rfl) h ?_; clear h; intro a w h
   refine wp_ret ?_
   refine then_r ?_
   refine retS [.c (.d (.sl 6 (f.kids.map FormD.d)))] h Exit.ret (.inl rfl)  rfl ⟨RV.tmp _ _ rfl, trivial⟩ ?_ (by kernel_rfl) (by kernel_rfl)
   have p4 : ¬ f.kind = 4 := by have := hc2; simpa using this
   have p5 :  f.kind = 5 := by have := hc3; simpa using this
   have hz : (cnt f.kind f.kids) = f.kids := by unfold cnt; rw [if_pos (by omega)]
   rw [hz]; first | done | rfl
  ·have hc4 := hc; clear hc
   have hc4' := hc4; (try simp at hc4')
   refine wp_skip ?_
   refine then_n ?_
   refine wp_seq ?_
   rcases Bool.eq_false_or_eq_true (f.kind == 3) with hc | hc
   ·have hc5 := hc; clear hc
    have hc5' := hc5; (try simp at hc5')
    refine rSeq fam0ok 1 [(2, .cmp (op := .eql) (m := f.kind) (n := 3) (b := true) .i64 hc5), (6, .len (c := (.d (.sl 6 (f.kids.map FormD.d)))) (n := f.kids.length) (lenC_map _ _ _))] [(1, vp 0 0), (2, .t (.c (.d (.raw nilV)))), (21, vb (decide ((f.kids.length : Int) > 0)))] [(0, .box ([.d (.raw (.int .i64 f.kind)), .d (.sl 3 (f.r.t.parts.map Part.d))] ++ zi f.r.t.k ++ [.d (.raw (.bool f.r.eq)), .d (.sl 6 (f.kids.map FormD.d))]))] (by kernel_rfl) h ?_; clear h; intro a w h
    refine condS (decide ((f.kids.length : Int) > 0)) h rfl (fun hc => ?_) (fun hc => ?_)
    ·have hc6 := hc; clear hc
     have hc6' := of_decide_eq_true hc6
     refine rSeq fam0ok 1 [(2, .gen _ _ _ fun _ _ _ _ => Op.sliceD (d := 24) (t := 23) (l := 0) (h := 1) (rows := f.kids.map FormD.d) (rows' := (f.kids.take 1).map FormD.d) kb_0 (BO.no _) (BO.yes _ (OV.const (.int .i64 1) rfl)) (by first | omega | (simp at *; omega)) (by first | omega | (simp only [List.length_map]; omega) | (simp at *; omega)) (by simp [List.map_take]))] [(2, .t (.c (.d (.sl 6 ((f.kids.take 1).map FormD.d)))))] [] (by kernel_rfl) h ?_; clear h; intro a w h
     refine wp_ret ?_
     refine then_r ?_
     refine retS [.c (.d (.sl 6 ((f.kids.take 1).map FormD.d)))] h Exit.ret (.inl rfl)  rfl ⟨RV.tmp _ _ rfl, trivial⟩ ?_ (by kernel_rfl) (by kernel_rfl)
     have p4 : ¬ f.kind = 4 := by have := hc2; simpa using this
     have p5 : ¬ f.kind = 5 := by have := hc4; simpa using this
     have p3 :  f.kind = 3 := by have := hc5; simpa using this
     have hz : (cnt f.kind f.kids) = (f.kids.take 1) := by unfold cnt; rw [if_neg (by omega), if_pos (by omega)]
     rw [hz]; first | done | rfl
    ·have hc7 := hc; clear hc
     have hc7' := of_decide_eq_false hc7
     refine wp_skip ?_
     refine then_n ?_
     refine rSeq fam0ok 1 [(0, .gen _ _ _ fun _ _ _ _ => Op.buildED (d := 25) kb_1)] [(2, .t (.c (.d (.sl 6 ([].map FormD.d)))))] [] (by kernel_rfl) h ?_; clear h; intro a w h
     refine wp_ret ?_
     refine retS [.c (.d (.sl 6 ([].map FormD.d)))] h Exit.ret (.inl rfl)  rfl ⟨RV.tmp _ _ rfl, trivial⟩ ?_ (by kernel_rfl) (by kernel_rfl)
     have p4 : ¬ f.kind = 4 := by have := hc2; simpa using this
     have p5 : ¬ f.kind = 5 := by have := hc4; simpa using this
     have p3 :  f.kind = 3 := by have := hc5; simpa using this
     have hz : (cnt f.kind f.kids) = [] := by unfold cnt; rw [if_neg (by omega), if_pos (by omega), List.length_eq_zero_iff.1 (show f.kids.length = 0 by have := of_decide_eq_false hc7; omega)]; rfl
     rw [hz]; first | done | rfl
   ·have hc8 := hc; clear hc
    have hc8' := hc8; (try simp at hc8')
    refine rSeq fam0ok 1 [(2, .cmp (op := .eql) (m := f.kind) (n := 3) (b := false) .i64 hc8)] [(1, vp 0 0), (2, .t (.c (.d (.raw nilV)))), (21, vb false)] [(0, .box ([.d (.raw (.int .i64 f.kind)), .d (.sl 3 (f.r.t.parts.map Part.d))] ++ zi f.r.t.k ++ [.d (.raw (.bool f.r.eq)), .d (.sl 6 (f.kids.map FormD.d))]))] (by kernel_rfl) h ?_; clear h; intro a w h
    refine condS false h rfl (fun hc => ?_) (fun hc => ?_)
    ·cases hc
    ·clear hc
     refine wp_skip ?_
     refine then_n ?_
     refine rSeq fam0ok 1 [(0, .gen _ _ _ fun _ _ _ _ => Op.buildED (d := 25) kb_1)] [(2, .t (.c (.d (.sl 6 ([].map FormD.d)))))] [] (by kernel_rfl) h ?_; clear h; intro a w h
     refine wp_ret ?_
     refine retS [.c (.d (.sl 6 ([].map FormD.d)))] h Exit.ret (.inl rfl)  rfl ⟨RV.tmp _ _ rfl, trivial⟩ ?_ (by kernel_rfl) (by kernel_rfl)
     have p4 : ¬ f.kind = 4 := by have := hc2; simpa using this
     have p5 : ¬ f.kind = 5 := by have := hc4; simpa using this
     have p3 : ¬ f.kind = 3 := by have := hc8; simpa using this
     have hz : (cnt f.kind f.kids) = [] := by unfold cnt; rw [if_neg (by omega), if_neg (by omega)]
     rw [hz]; first | done | rfl
end Go.Proofs.YtmohlifepfjmdaaGreat.S
end
section
namespace Go.Proofs.YtmohlifepfjmdaaGreat.S
open Go.RowKit

theorem kc_0 : Bodied Tryz.prog 84 := Bodied.mk' (by kernel_rfl)
theorem kc_2 : Bodied Tryz.prog 55 := Bodied.mk' (by kernel_rfl)
theorem kc_3 : SlT Tryz.prog 129 32 4 := SlT.mk' Tryz.underlying129 (by kernel_rfl)
theorem kc_5 : ElZ Tryz.prog 129 32 4 := ElZ.mk' Tryz.underlying129 _ _ rfl rfl (by kernel_rfl) (by kernel_rfl) (by kernel_rfl) (by decide)
theorem kc_6 : Bodied Tryz.prog 85 := Bodied.mk' (by kernel_rfl)
theorem kc_7 : Bodied Tryz.prog 56 := Bodied.mk' (by kernel_rfl)
def fltV (j : Nat) (ps : List Part) : List Part := ps.filter fun p => decide (0 ≤ p.v ∧ p.v < (j : Int))
theorem fltV_succ (vs : List ZI) (j : Nat) : ∀ ps : List Part, valP vs (fltV (j + 1) ps) = valP vs (fltV j ps) + coefZ ps j * valAt vs j
 | [] => by simp [fltV, valP, coefZ]
 | p :: ps => by
  have ih := fltV_succ vs j ps
  simp only [fltV] at ih ⊢
  simp only [List.filter_cons, coefZ, Int.add_mul]
  by_cases h1 : 0 ≤ p.v ∧ p.v < (j : Int)
  ·rw [if_pos (decide_eq_true (by omega)), if_pos (decide_eq_true h1), if_neg (by omega)]
   simp only [valP, ih]; omega
  ·by_cases h2 : p.v = (j : Int)
   ·rw [if_pos (decide_eq_true (by omega)), if_neg (by simpa using h1), if_pos (by omega)]
    simp only [valP, ih, h2]; omega
   ·rw [if_neg (by rw [decide_eq_true_eq]; omega), if_neg (by simpa using h1), if_neg (by omega), ih]; omega
theorem fltV_all (vs : List ZI) : ∀ ps : List Part, valP vs (fltV vs.length ps) = valP vs ps
 | [] => rfl
 | p :: ps => by
  have ih := fltV_all vs ps
  simp only [fltV] at ih ⊢
  simp only [List.filter_cons]
  by_cases h1 : 0 ≤ p.v ∧ p.v < (vs.length : Int)
  ·rw [if_pos (decide_eq_true h1)]; simp only [valP, ih]
  ·rw [if_neg (by simpa using h1), ih, valP]
   by_cases h2 : 0 ≤ p.v
   ·rw [valAt_out (by omega)]; omega
   ·rw [valAt_neg (by omega)]; omega
theorem fltV_zero (ps : List Part) : fltV 0 ps = [] := by
 unfold fltV; rw [List.filter_eq_nil_iff]; intro p _; rw [decide_eq_true_eq]; omega
theorem fltV_mem {j : Nat} {ps : List Part} : ∀ p ∈ fltV j ps, p ∈ ps := fun p hp => (List.mem_filter.1 hp).1
theorem fltV_len (j : Nat) (ps : List Part) : (fltV j ps).length ≤ ps.length := List.length_filter_le _ _
set_option maxHeartbeats 4000000 in
theorem SSize0 (f : FormD) (lim : Int) (ih : ∀ g ∈ f.kids, ∀ l : Int, 0 ≤ l → l ≤ 1000 → Fn Tryz.prog 55 [] [.t (.agg ([.d (.raw (.int .i64 g.kind)), .d (.sl 3 (g.r.t.parts.map Part.d))] ++ zi g.r.t.k ++ [.d (.raw (.bool g.r.eq)), .d (.sl 6 (g.kids.map FormD.d))])), vi .i64 l] (vi .i64 (g.size l)) []) (h0 : 0 ≤ lim) (h1 : lim ≤ 1000) (hk : f.kids.length ≤ 9223372036854775807) : Fn Tryz.prog 55 [] [.t (.agg ([.d (.raw (.int .i64 f.kind)), .d (.sl 3 (f.r.t.parts.map Part.d))] ++ zi f.r.t.k ++ [.d (.raw (.bool f.r.eq)), .d (.sl 6 (f.kids.map FormD.d))])), vi .i64 lim] (vi .i64 (f.size lim)) [] := by
 have lk := cnt_len f.kind f.kids
 refine Fn.body Tryz.func55 rfl 32 rfl fun w H B a h => ?_
 refine rSeq fam0ok 0 [] [(1, vi .i64 lim), (2, vp 0 0), (4, vi .i64 0)] [(0, .box ([.d (.raw (.int .i64 f.kind)), .d (.sl 3 (f.r.t.parts.map Part.d))] ++ zi f.r.t.k ++ [.d (.raw (.bool f.r.eq)), .d (.sl 6 (f.kids.map FormD.d))]))] (by kernel_rfl) h ?_; clear h; intro a w h
 refine rSeq fam0ok 1 [] [(1, vi .i64 lim), (2, vp 0 0), (4, vi .i64 0), (5, vi .i64 1)] [(0, .box ([.d (.raw (.int .i64 f.kind)), .d (.sl 3 (f.r.t.parts.map Part.d))] ++ zi f.r.t.k ++ [.d (.raw (.bool f.r.eq)), .d (.sl 6 (f.kids.map FormD.d))]))] (by kernel_rfl) h ?_; clear h; intro a w h
 refine rSeq fam0ok 1 [(1, .call (SKids f) kc_0)] [(1, vi .i64 lim), (4, vi .i64 0), (5, vi .i64 1), (6, .t (.c (.d (.sl 6 ((cnt f.kind f.kids).map FormD.d)))))] [] (by kernel_rfl) h ?_; clear h; intro a w h
 refine wp_seq ?_
 refine rSeq fam0ok 1 [] [(1, vi .i64 lim), (4, vi .i64 0), (5, vi .i64 1), (6, .t (.c (.d (.sl 6 ((cnt f.kind f.kids).map FormD.d))))), (7, vi .i64 0)] [] (by kernel_rfl) h ?_; clear h; intro a w h
 refine wp_block ?_
 refine loopS (ι := (Nat) × (Int)) (fun (z_ : (Nat) × (Int)) => match z_ with | (j, n) => j ≤ (cnt f.kind f.kids).length ∧ f.size lim = sizeGo lim (((cnt f.kind f.kids).map FormD.size).drop j) n ∧ 1 ≤ n ∧ n ≤ lim + 1)
   (fun (z_ : (Nat) × (Int)) => match z_ with | (j, n) => [(1, vi .i64 lim), (4, vi .i64 0), (5, vi .i64 n), (6, .t (.c (.d (.sl 6 ((cnt f.kind f.kids).map FormD.d))))), (7, vi .i64 (j : Int))])
   (fun (z_ : (Nat) × (Int)) => match z_ with | (j, n) => [])
   (fun (z_ : (Nat) × (Int)) => match z_ with | (j, n) => (cnt f.kind f.kids).length - j) (0, 1) ?_ h (by kernel_rfl) (by kernel_rfl) ?_
 ·exact ⟨Nat.zero_le _, FormD.size_eq f lim, by omega, by omega⟩
 ·clear h; rintro ⟨j, n⟩ a w hI h
  change St _ (F.of [(1, vi .i64 lim), (4, vi .i64 0), (5, vi .i64 n), (6, .t (.c (.d (.sl 6 ((cnt f.kind f.kids).map FormD.d))))), (7, vi .i64 (j : Int))] []) a w at h
  obtain ⟨hI1, hI2, hI3, hI4⟩ := hI
  refine wp_seq ?_
  rcases Bool.eq_false_or_eq_true (decide ((j : Int) < ((cnt f.kind f.kids).length : Int))) with hc | hc
  ·have hc1 := hc; clear hc
   have hc1' := of_decide_eq_true hc1
   refine rSeq fam0ok 1 [(2, .len (c := (.d (.sl 6 ((cnt f.kind f.kids).map FormD.d)))) (n := (cnt f.kind f.kids).length) (lenC_map _ _ _)), (3, .cmp (op := .lss) (m := (j : Int)) (n := ((cnt f.kind f.kids).length : Int)) (b := true) .i64 hc1)] [(1, vi .i64 lim), (4, vi .i64 0), (5, vi .i64 n), (6, .t (.c (.d (.sl 6 ((cnt f.kind f.kids).map FormD.d))))), (7, vi .i64 (j : Int)), (18, vb (decide (n ≤ lim)))] [] (by kernel_rfl) h ?_; clear h; intro a w h
   refine condS (decide (n ≤ lim)) h rfl (fun hc => ?_) (fun hc => ?_)
   ·have hc2 := hc; clear hc
    have hc2' := of_decide_eq_true hc2
    refine wp_skip ?_
    refine then_n ?_
    refine wp_seq ?_
    refine wp_block ?_
    obtain ⟨x2, hx2⟩ : ∃ z_ : FormD, (cnt f.kind f.kids)[j]? = some z_ := ⟨_, List.getElem?_eq_getElem (by first | omega | (simp at *; omega))⟩
    have bz : 0 ≤ lim - n → 1 ≤ x2.size (lim - n) ∧ x2.size (lim - n) ≤ lim - n + 1 := x2.size_bd (lim - n)
    refine rS fam0ok 1 [(3, .gen _ _ _ fun _ _ _ _ => Op.idxD (d := 24) (t := 22) (k := .i64) kb_0 ((map_at hx2 (f := FormD.d)).trans (congrArg some (FormD.d_eq x2))) (OV.tmp 23 _)), (7, .sub .i64 (m := lim) (n := n) (i64_id (by omega) (by omega))), (8, .call (ih x2 (cnt_mem (List.mem_of_getElem? hx2)) (lim - n) (by omega) (by omega)) kc_2), (9, .add .i64 (m := n) (n := (x2.size (lim - n))) (i64_id (by omega) (by omega)))] [(1, vi .i64 lim), (4, vi .i64 0), (5, vi .i64 (n + (x2.size (lim - n)))), (6, .t (.c (.d (.sl 6 ((cnt f.kind f.kids).map FormD.d))))), (7, vi .i64 (j : Int))] [] (by kernel_rfl) h ?_; clear h; intro a w h
    refine block_n ?_
    refine then_n ?_
    refine rS fam0ok 1 [(1, .add .i64 (m := (j : Int)) (n := 1) (i64_id (by omega) (by omega)))] [(1, vi .i64 lim), (4, vi .i64 0), (5, vi .i64 (n + (x2.size (lim - n)))), (6, .t (.c (.d (.sl 6 ((cnt f.kind f.kids).map FormD.d))))), (7, vi .i64 ((j : Int) + 1))] [] (by kernel_rfl) h ?_; clear h; intro a w h
    refine then_n ?_
    refine roundS (x := (j, n)) (y := ((j + 1), n + x2.size (lim - n))) h ?_ ?_ (by kernel_rfl) (by kernel_rfl)
    ·exact ⟨by have := at_lt hx2; omega, by rw [hI2, sizeGo_at (map_at hx2 (f := FormD.size)) (by omega)], by have := bz (by omega); omega, by have := bz (by omega); omega⟩
    ·show (cnt f.kind f.kids).length - (j + 1) < (cnt f.kind f.kids).length - j
     have := at_lt hx2; omega
   ·have hc3 := hc; clear hc
    have hc3' := of_decide_eq_false hc3
    refine wp_exit ?_
    refine then_x ?_
    refine then_x ?_
    refine inBlock_exit ?_
    refine then_n ?_
    refine rSeq fam0ok 1 [] [(4, vi .i64 n)] [] (by kernel_rfl) h ?_; clear h; intro a w h
    refine wp_ret ?_
    refine retS [.c (.d (.raw (.int .i64 n)))] h Exit.ret (.inl rfl)  rfl ⟨RV.tmp _ _ rfl, trivial⟩ ?_ (by kernel_rfl) (by kernel_rfl)
    have hz : f.size lim = n := by
     rw [hI2]; refine sizeGo_out ?_
     by_cases hn : n ≤ lim
     ·right; exact List.drop_of_length_le (by rw [List.length_map]; first | omega | (simp_all; omega))
     ·exact .inl hn
    rw [hz]; first | done | rfl
  ·have hc4 := hc; clear hc
   have hc4' := of_decide_eq_false hc4
   refine rSeq fam0ok 1 [(2, .len (c := (.d (.sl 6 ((cnt f.kind f.kids).map FormD.d)))) (n := (cnt f.kind f.kids).length) (lenC_map _ _ _)), (3, .cmp (op := .lss) (m := (j : Int)) (n := ((cnt f.kind f.kids).length : Int)) (b := false) .i64 hc4)] [(1, vi .i64 lim), (4, vi .i64 0), (5, vi .i64 n), (6, .t (.c (.d (.sl 6 ((cnt f.kind f.kids).map FormD.d))))), (7, vi .i64 (j : Int)), (18, vb false)] [] (by kernel_rfl) h ?_; clear h; intro a w h
   refine condS false h rfl (fun hc => ?_) (fun hc => ?_)
   ·cases hc
   ·clear hc
    refine wp_exit ?_
    refine then_x ?_
    refine then_x ?_
    refine inBlock_exit ?_
    refine then_n ?_
    refine rSeq fam0ok 1 [] [(4, vi .i64 n)] [] (by kernel_rfl) h ?_; clear h; intro a w h
    refine wp_ret ?_
    refine retS [.c (.d (.raw (.int .i64 n)))] h Exit.ret (.inl rfl)  rfl ⟨RV.tmp _ _ rfl, trivial⟩ ?_ (by kernel_rfl) (by kernel_rfl)
    have hz : f.size lim = n := by
     rw [hI2]; refine sizeGo_out ?_
     by_cases hn : n ≤ lim
     ·right; exact List.drop_of_length_le (by rw [List.length_map]; first | omega | (simp_all; omega))
     ·exact .inl hn
    rw [hz]; first | done | rfl
theorem SSize (f : FormD) : f.lb → ∀ lim : Int, 0 ≤ lim → lim ≤ 1000 → Fn Tryz.prog 55 [] [.t (.agg ([.d (.raw (.int .i64 f.kind)), .d (.sl 3 (f.r.t.parts.map Part.d))] ++ zi f.r.t.k ++ [.d (.raw (.bool f.r.eq)), .d (.sl 6 (f.kids.map FormD.d))])), vi .i64 lim] (vi .i64 (f.size lim)) [] :=
 FormD.ind (P := fun f => f.lb → ∀ lim : Int, 0 ≤ lim → lim ≤ 1000 → Fn Tryz.prog 55 [] [.t (.agg ([.d (.raw (.int .i64 f.kind)), .d (.sl 3 (f.r.t.parts.map Part.d))] ++ zi f.r.t.k ++ [.d (.raw (.bool f.r.eq)), .d (.sl 6 (f.kids.map FormD.d))])), vi .i64 lim] (vi .i64 (f.size lim)) []) (fun k r ks ih hl lim h0 h1 => by
  have hl := (FormD.lb_eq _).1 hl
  exact SSize0 ⟨k, r, ks⟩ lim (fun g hg l g0 g1 => ih g hg (hl.2 g hg) l g0 g1) h0 h1 hl.1.2) f
def fewRs (rs : List RelD) (most L : Int) : Bool := decide ((rs.length : Int) ≤ most) && rs.all (fewR L)
set_option maxHeartbeats 4000000 in
theorem SFewRs (rs : List RelD) (most L : Int) (hl : rs.length ≤ 1000) : Fn Tryz.prog 85 [] [.t (.c (.d (.sl 4 (rs.map RelD.d)))), vi .i64 most, vi .i64 L] (vb (fewRs rs most L)) [] := by
 refine Fn.body Tryz.func85 rfl 64 rfl fun w H B a h => ?_
 refine rSeq fam0ok 0 [] [(0, .t (.c (.d (.sl 4 (rs.map RelD.d))))), (1, vi .i64 most), (2, vi .i64 L), (6, vb false)] [] (by kernel_rfl) h ?_; clear h; intro a w h
 refine wp_seq ?_
 refine rSeq fam0ok 0 [(1, .len (c := (.d (.sl 4 (rs.map RelD.d)))) (n := rs.length) (lenC_map _ _ _))] [(0, .t (.c (.d (.sl 4 (rs.map RelD.d))))), (2, vi .i64 L), (6, vb false), (12, vb (decide ((rs.length : Int) > most)))] [] (by kernel_rfl) h ?_; clear h; intro a w h
 refine condS (decide ((rs.length : Int) > most)) h rfl (fun hc => ?_) (fun hc => ?_)
 ·have hc1 := hc; clear hc
  have hc1' := of_decide_eq_true hc1
  refine rSeq fam0ok 0 [] [(0, .t (.c (.d (.sl 4 (rs.map RelD.d))))), (2, vi .i64 L), (6, vb false)] [] (by kernel_rfl) h ?_; clear h; intro a w h
  refine wp_ret ?_
  refine then_r ?_
  refine retS [.c (.d (.raw (.bool false)))] h Exit.ret (.inl rfl)  rfl ⟨RV.tmp _ _ rfl, trivial⟩ ?_ (by kernel_rfl) (by kernel_rfl)
  rw [show fewRs rs most L = false from by unfold fewRs; rw [decide_eq_false (by have := of_decide_eq_true hc1; omega)]; rfl]; first | done | rfl
 ·have hc2 := hc; clear hc
  have hc2' := of_decide_eq_false hc2
  refine wp_skip ?_
  refine then_n ?_
  refine wp_seq ?_
  refine rSeq fam0ok 0 [] [(0, .t (.c (.d (.sl 4 (rs.map RelD.d))))), (2, vi .i64 L), (6, vb false), (7, vi .i64 0)] [] (by kernel_rfl) h ?_; clear h; intro a w h
  refine wp_block ?_
  refine loopS (ι := (Nat)) (fun (z_ : (Nat)) => match z_ with | j => j ≤ rs.length ∧ (rs.take j).all (fewR L) = true)
    (fun (z_ : (Nat)) => match z_ with | j => [(0, .t (.c (.d (.sl 4 (rs.map RelD.d))))), (2, vi .i64 L), (7, vi .i64 (j : Int))])
    (fun (z_ : (Nat)) => match z_ with | j => [])
    (fun (z_ : (Nat)) => match z_ with | j => rs.length - j) 0 ?_ h (by kernel_rfl) (by kernel_rfl) ?_
  ·exact ⟨Nat.zero_le _, rfl⟩
  ·clear h; rintro j a w hI h
   change St _ (F.of [(0, .t (.c (.d (.sl 4 (rs.map RelD.d))))), (2, vi .i64 L), (7, vi .i64 (j : Int))] []) a w at h
   obtain ⟨hI1, hI2⟩ := hI
   refine wp_seq ?_
   refine rSeq fam0ok 0 [(2, .len (c := (.d (.sl 4 (rs.map RelD.d)))) (n := rs.length) (lenC_map _ _ _))] [(0, .t (.c (.d (.sl 4 (rs.map RelD.d))))), (2, vi .i64 L), (7, vi .i64 (j : Int)), (16, vb (decide ((j : Int) < (rs.length : Int))))] [] (by kernel_rfl) h ?_; clear h; intro a w h
   refine condS (decide ((j : Int) < (rs.length : Int))) h rfl (fun hc => ?_) (fun hc => ?_)
   ·have hc3 := hc; clear hc
    have hc3' := of_decide_eq_true hc3
    refine wp_skip ?_
    refine then_n ?_
    refine wp_seq ?_
    refine wp_block ?_
    refine wp_seq ?_
    obtain ⟨x1, hx1⟩ : ∃ z_ : RelD, rs[j]? = some z_ := ⟨_, List.getElem?_eq_getElem (by first | omega | (simp at *; omega))⟩
    rcases Bool.eq_false_or_eq_true (decide ((x1.t.parts.length : Int) > 20)) with hc | hc
    ·have hc4 := hc; clear hc
     have hc4' := of_decide_eq_true hc4
     refine rSeq fam0ok 0 [(2, .gen _ _ _ fun _ _ _ _ => Op.idxD (d := 21) (t := 19) (k := .i64) kc_3 (map_at hx1 (f := RelD.d)) (OV.tmp 20 _)), (6, .len (c := (.d (.sl 3 (x1.t.parts.map Part.d)))) (n := x1.t.parts.length) (lenC_map _ _ _)), (7, .cmp (op := .gtr) (m := (x1.t.parts.length : Int)) (n := 20) (b := true) .i64 hc4)] [(0, .t (.c (.d (.sl 4 (rs.map RelD.d))))), (2, vi .i64 L), (7, vi .i64 (j : Int)), (38, vb true)] [] (by kernel_rfl) h ?_; clear h; intro a w h
     refine condS true h rfl (fun hc => ?_) (fun hc => ?_)
     ·clear hc
      refine rSeq fam0ok 0 [] [(0, .t (.c (.d (.sl 4 (rs.map RelD.d))))), (2, vi .i64 L), (6, vb false), (7, vi .i64 (j : Int))] [] (by kernel_rfl) h ?_; clear h; intro a w h
      refine wp_ret ?_
      refine then_r ?_
      refine block_r ?_
      refine then_r ?_
      refine then_r ?_
      refine block_r ?_
      refine then_r ?_
      refine retS [.c (.d (.raw (.bool false)))] h Exit.ret (.inl rfl)  rfl ⟨RV.tmp _ _ rfl, trivial⟩ ?_ (by kernel_rfl) (by kernel_rfl)
      rw [show fewRs rs most L = false from by unfold fewRs; rw [all_stop hx1 (show fewR L x1 = false from by rw [fewR, decide_eq_false (by have := of_decide_eq_true hc4; omega)]; rfl), Bool.and_false]]; first | done | rfl
     ·cases hc
    ·have hc5 := hc; clear hc
     have hc5' := of_decide_eq_false hc5
     refine rSeq fam0ok 0 [(2, .gen _ _ _ fun _ _ _ _ => Op.idxD (d := 21) (t := 19) (k := .i64) kc_3 (map_at hx1 (f := RelD.d)) (OV.tmp 20 _)), (6, .len (c := (.d (.sl 3 (x1.t.parts.map Part.d)))) (n := x1.t.parts.length) (lenC_map _ _ _)), (7, .cmp (op := .gtr) (m := (x1.t.parts.length : Int)) (n := 20) (b := false) .i64 hc5), (11, .gen _ _ _ fun _ _ _ _ => Op.idxD (d := 30) (t := 28) (k := .i64) kc_3 (map_at hx1 (f := RelD.d)) (OV.tmp 29 _)), (16, .len (nsl_len x1.t.k.abs))] [(0, .t (.c (.d (.sl 4 (rs.map RelD.d))))), (2, vi .i64 L), (7, vi .i64 (j : Int)), (38, vb (decide ((x1.t.k.abs.length : Int) > L)))] [] (by kernel_rfl) h ?_; clear h; intro a w h
     refine condS (decide ((x1.t.k.abs.length : Int) > L)) h rfl (fun hc => ?_) (fun hc => ?_)
     ·have hc6 := hc; clear hc
      have hc6' := of_decide_eq_true hc6
      refine rSeq fam0ok 0 [] [(0, .t (.c (.d (.sl 4 (rs.map RelD.d))))), (2, vi .i64 L), (6, vb false), (7, vi .i64 (j : Int))] [] (by kernel_rfl) h ?_; clear h; intro a w h
      refine wp_ret ?_
      refine then_r ?_
      refine block_r ?_
      refine then_r ?_
      refine then_r ?_
      refine block_r ?_
      refine then_r ?_
      refine retS [.c (.d (.raw (.bool false)))] h Exit.ret (.inl rfl)  rfl ⟨RV.tmp _ _ rfl, trivial⟩ ?_ (by kernel_rfl) (by kernel_rfl)
      rw [show fewRs rs most L = false from by unfold fewRs; rw [all_stop hx1 (show fewR L x1 = false from by rw [fewR, decide_eq_false (p := (_ : Int) ≤ L) (by have := of_decide_eq_true hc6; omega), Bool.and_false]; rfl), Bool.and_false]]; first | done | rfl
     ·have hc7 := hc; clear hc
      have hc7' := of_decide_eq_false hc7
      refine wp_skip ?_
      refine then_n ?_
      refine rSeq fam0ok 0 [] [(0, .t (.c (.d (.sl 4 (rs.map RelD.d))))), (2, vi .i64 L), (7, vi .i64 (j : Int)), (8, vi .i64 0)] [] (by kernel_rfl) h ?_; clear h; intro a w h
      refine wp_block ?_
      have hjr := hI1
      refine loopS (ι := (Nat)) (fun (z_ : (Nat)) => match z_ with | i => i ≤ x1.t.parts.length ∧ (x1.t.parts.take i).all (fun p => decide ((p.c.abs.length : Int) ≤ L)) = true)
        (fun (z_ : (Nat)) => match z_ with | i => [(0, .t (.c (.d (.sl 4 (rs.map RelD.d))))), (2, vi .i64 L), (7, vi .i64 (j : Int)), (8, vi .i64 (i : Int))])
        (fun (z_ : (Nat)) => match z_ with | i => [])
        (fun (z_ : (Nat)) => match z_ with | i => x1.t.parts.length - i) 0 ?_ h (by kernel_rfl) (by kernel_rfl) ?_
      ·exact ⟨Nat.zero_le _, rfl⟩
      ·clear h; rintro i a w hI h
       change St _ (F.of [(0, .t (.c (.d (.sl 4 (rs.map RelD.d))))), (2, vi .i64 L), (7, vi .i64 (j : Int)), (8, vi .i64 (i : Int))] []) a w at h
       obtain ⟨hJ1, hJ2⟩ := hI
       refine wp_seq ?_
       refine rSeq fam0ok 0 [(3, .gen _ _ _ fun _ _ _ _ => Op.idxD (d := 42) (t := 40) (k := .i64) kc_3 (map_at hx1 (f := RelD.d)) (OV.tmp 41 _)), (7, .len (c := (.d (.sl 3 (x1.t.parts.map Part.d)))) (n := x1.t.parts.length) (lenC_map _ _ _))] [(0, .t (.c (.d (.sl 4 (rs.map RelD.d))))), (2, vi .i64 L), (7, vi .i64 (j : Int)), (8, vi .i64 (i : Int)), (47, vb (decide ((i : Int) < (x1.t.parts.length : Int))))] [] (by kernel_rfl) h ?_; clear h; intro a w h
       refine condS (decide ((i : Int) < (x1.t.parts.length : Int))) h rfl (fun hc => ?_) (fun hc => ?_)
       ·have hc8 := hc; clear hc
        have hc8' := of_decide_eq_true hc8
        refine wp_skip ?_
        refine then_n ?_
        refine wp_seq ?_
        refine wp_block ?_
        obtain ⟨x2, hx2⟩ : ∃ z_ : Part, x1.t.parts[i]? = some z_ := ⟨_, List.getElem?_eq_getElem (by first | omega | (simp at *; omega))⟩
        refine rSeq fam0ok 0 [(2, .gen _ _ _ fun _ _ _ _ => Op.idxD (d := 52) (t := 50) (k := .i64) kc_3 (map_at hx1 (f := RelD.d)) (OV.tmp 51 _)), (7, .gen _ _ _ fun _ _ _ _ => Op.idxD (d := 57) (t := 55) (k := .i64) ta_0 (map_at hx2 (f := Part.d)) (OV.tmp 56 _)), (11, .len (nsl_len x2.c.abs))] [(0, .t (.c (.d (.sl 4 (rs.map RelD.d))))), (2, vi .i64 L), (7, vi .i64 (j : Int)), (8, vi .i64 (i : Int)), (63, vb (decide ((x2.c.abs.length : Int) > L)))] [] (by kernel_rfl) h ?_; clear h; intro a w h
        refine condS (decide ((x2.c.abs.length : Int) > L)) h rfl (fun hc => ?_) (fun hc => ?_)
        ·have hc9 := hc; clear hc
         have hc9' := of_decide_eq_true hc9
         refine rSeq fam0ok 0 [] [(0, .t (.c (.d (.sl 4 (rs.map RelD.d))))), (2, vi .i64 L), (6, vb false), (7, vi .i64 (j : Int)), (8, vi .i64 (i : Int))] [] (by kernel_rfl) h ?_; clear h; intro a w h
         refine wp_ret ?_
         refine block_r ?_
         refine then_r ?_
         refine then_r ?_
         refine block_r ?_
         refine block_r ?_
         refine then_r ?_
         refine then_r ?_
         refine block_r ?_
         refine then_r ?_
         refine retS [.c (.d (.raw (.bool false)))] h Exit.ret (.inl rfl)  rfl ⟨RV.tmp _ _ rfl, trivial⟩ ?_ (by kernel_rfl) (by kernel_rfl)
         rw [show fewRs rs most L = false from by unfold fewRs; rw [all_stop hx1 (show fewR L x1 = false from by rw [fewR, all_stop hx2 (decide_eq_false (by have := of_decide_eq_true hc9; omega)), Bool.and_false]), Bool.and_false]]; first | done | rfl
        ·have hc10 := hc; clear hc
         have hc10' := of_decide_eq_false hc10
         refine wp_skip ?_
         refine block_n ?_
         refine then_n ?_
         refine rS fam0ok 0 [(1, .add .i64 (m := (i : Int)) (n := 1) (i64_id (by omega) (by omega)))] [(0, .t (.c (.d (.sl 4 (rs.map RelD.d))))), (2, vi .i64 L), (7, vi .i64 (j : Int)), (8, vi .i64 ((i : Int) + 1))] [] (by kernel_rfl) h ?_; clear h; intro a w h
         refine then_n ?_
         refine roundS (x := i) (y := i + 1) h ?_ ?_ (by kernel_rfl) (by kernel_rfl)
         ·exact ⟨by have := at_lt hx2; omega, all_step hx2 hJ2 (decide_eq_true (by have := of_decide_eq_false hc10; omega))⟩
         ·show x1.t.parts.length - (i + 1) < x1.t.parts.length - i
          have := at_lt hx2; omega
       ·have hc11 := hc; clear hc
        have hc11' := of_decide_eq_false hc11
        refine wp_exit ?_
        refine then_x ?_
        refine then_x ?_
        refine inBlock_exit ?_
        refine block_n ?_
        refine then_n ?_
        refine rS fam0ok 0 [(1, .add .i64 (m := (j : Int)) (n := 1) (i64_id (by omega) (by omega)))] [(0, .t (.c (.d (.sl 4 (rs.map RelD.d))))), (2, vi .i64 L), (7, vi .i64 ((j : Int) + 1))] [] (by kernel_rfl) h ?_; clear h; intro a w h
        refine then_n ?_
        refine roundS (x := j) (y := j + 1) h ?_ ?_ (by kernel_rfl) (by kernel_rfl)
        ·exact ⟨by have := at_lt hx1; omega, all_step hx1 hI2 (by rw [fewR, decide_eq_true (by have := of_decide_eq_false hc5; omega), decide_eq_true (by have := of_decide_eq_false hc7; omega), all_end (of_decide_eq_false hc11) hJ2]; rfl)⟩
        ·show rs.length - (j + 1) < rs.length - j
         have := at_lt hx1; omega
   ·have hc12 := hc; clear hc
    have hc12' := of_decide_eq_false hc12
    refine wp_exit ?_
    refine then_x ?_
    refine then_x ?_
    refine inBlock_exit ?_
    refine then_n ?_
    refine rSeq fam0ok 0 [] [(6, vb true)] [] (by kernel_rfl) h ?_; clear h; intro a w h
    refine wp_ret ?_
    refine retS [.c (.d (.raw (.bool true)))] h Exit.ret (.inl rfl)  rfl ⟨RV.tmp _ _ rfl, trivial⟩ ?_ (by kernel_rfl) (by kernel_rfl)
    rw [show fewRs rs most L = true from by unfold fewRs; rw [decide_eq_true (by have := of_decide_eq_false hc2; omega), all_end (of_decide_eq_false hc12) hI2]; rfl]; first | done | rfl
theorem fewRs_one (r : RelD) (L : Int) : fewRs [r] 1 L = fewR L r := by simp [fewRs]
set_option maxHeartbeats 4000000 in
theorem Sfew0 (f : FormD) (L : Int) (ih : ∀ g ∈ f.kids, Fn Tryz.prog 56 [] [.t (.agg ([.d (.raw (.int .i64 g.kind)), .d (.sl 3 (g.r.t.parts.map Part.d))] ++ zi g.r.t.k ++ [.d (.raw (.bool g.r.eq)), .d (.sl 6 (g.kids.map FormD.d))])), vi .i64 L] (vb (g.few L)) []) (hk : f.kids.length ≤ 9223372036854775807) : Fn Tryz.prog 56 [] [.t (.agg ([.d (.raw (.int .i64 f.kind)), .d (.sl 3 (f.r.t.parts.map Part.d))] ++ zi f.r.t.k ++ [.d (.raw (.bool f.r.eq)), .d (.sl 6 (f.kids.map FormD.d))])), vi .i64 L] (vb (f.few L)) [] := by
 have lk := cnt_len f.kind f.kids
 refine Fn.body Tryz.func56 rfl 33 rfl fun w H B a h => ?_
 refine rSeq fam0ok 0 [] [(1, vi .i64 L), (2, vp 0 0), (4, vb false)] [(0, .box ([.d (.raw (.int .i64 f.kind)), .d (.sl 3 (f.r.t.parts.map Part.d))] ++ zi f.r.t.k ++ [.d (.raw (.bool f.r.eq)), .d (.sl 6 (f.kids.map FormD.d))]))] (by kernel_rfl) h ?_; clear h; intro a w h
 refine wp_seq ?_
 rcases Bool.eq_false_or_eq_true (f.kind == 2) with hc | hc
 ·have hc1 := hc; clear hc
  have hc1' := hc1; (try simp at hc1')
  refine rSeq fam0ok 1 [(2, .cmp (op := .eql) (m := f.kind) (n := 2) (b := true) .i64 hc1), (6, .gen _ _ _ fun _ _ _ _ => Op.buildD (d := 13) (len := 1) (rows := [f.r].map RelD.d) (rs := [(12, .t (.agg ([.d (.sl 3 (f.r.t.parts.map Part.d))] ++ zi f.r.t.k ++ [.d (.raw (.bool f.r.eq))])))]) kc_5 (.cons (i := 0) (OV.tmp 12 _) (.nil)) (by kernel_rfl) rfl (by simp [RelD.d]) (by decide) (by decide)), (8, .call (Fn.cast (SFewRs [f.r] 1 L (by simp)) (congrArg vb (fewRs_one f.r L))) kc_6)] [(1, vi .i64 L), (2, vp 0 0), (4, vb false), (17, vb (!(fewR L f.r)))] [(0, .box ([.d (.raw (.int .i64 f.kind)), .d (.sl 3 (f.r.t.parts.map Part.d))] ++ zi f.r.t.k ++ [.d (.raw (.bool f.r.eq)), .d (.sl 6 (f.kids.map FormD.d))]))] (by kernel_rfl) h ?_; clear h; intro a w h
  refine condS (!(fewR L f.r)) h rfl (fun hc => ?_) (fun hc => ?_)
  ·have hc2 := hc; clear hc
   have hc2' := hc2; (try simp at hc2')
   refine rSeq fam0ok 1 [] [(1, vi .i64 L), (2, vp 0 0), (4, vb false)] [(0, .box ([.d (.raw (.int .i64 f.kind)), .d (.sl 3 (f.r.t.parts.map Part.d))] ++ zi f.r.t.k ++ [.d (.raw (.bool f.r.eq)), .d (.sl 6 (f.kids.map FormD.d))]))] (by kernel_rfl) h ?_; clear h; intro a w h
   refine wp_ret ?_
   refine then_r ?_
   refine retS [.c (.d (.raw (.bool false)))] h Exit.ret (.inl rfl)  rfl ⟨RV.tmp _ _ rfl, trivial⟩ ?_ (by kernel_rfl) (by kernel_rfl)
   have hz : f.few L = false := by rw [FormD.few_eq, (show (!(f.kind == 2) || fewR L f.r) = false from by rw [hc1]; rw [(show (fewR L f.r) = false from by simpa using hc2)]; rfl)]; rfl
   rw [hz]; first | done | rfl
  ·have hc3 := hc; clear hc
   have hc3' := hc3; (try simp at hc3')
   refine wp_skip ?_
   refine then_n ?_
   refine rSeq fam0ok 1 [(1, .call (SKids f) kc_0)] [(1, vi .i64 L), (4, vb false), (5, .t (.c (.d (.sl 6 ((cnt f.kind f.kids).map FormD.d)))))] [] (by kernel_rfl) h ?_; clear h; intro a w h
   refine wp_seq ?_
   refine rSeq fam0ok 1 [] [(1, vi .i64 L), (4, vb false), (5, .t (.c (.d (.sl 6 ((cnt f.kind f.kids).map FormD.d))))), (6, vi .i64 0)] [] (by kernel_rfl) h ?_; clear h; intro a w h
   refine wp_block ?_
   refine loopS (ι := (Nat)) (fun (z_ : (Nat)) => match z_ with | j => j ≤ (cnt f.kind f.kids).length ∧ ((cnt f.kind f.kids).take j).all (FormD.few L) = true)
     (fun (z_ : (Nat)) => match z_ with | j => [(1, vi .i64 L), (5, .t (.c (.d (.sl 6 ((cnt f.kind f.kids).map FormD.d))))), (6, vi .i64 (j : Int))])
     (fun (z_ : (Nat)) => match z_ with | j => [])
     (fun (z_ : (Nat)) => match z_ with | j => (cnt f.kind f.kids).length - j) 0 ?_ h (by kernel_rfl) (by kernel_rfl) ?_
   ·exact ⟨Nat.zero_le _, rfl⟩
   ·clear h; rintro j a w hI h
    change St _ (F.of [(1, vi .i64 L), (5, .t (.c (.d (.sl 6 ((cnt f.kind f.kids).map FormD.d))))), (6, vi .i64 (j : Int))] []) a w at h
    obtain ⟨hI1, hI2⟩ := hI
    refine wp_seq ?_
    refine rSeq fam0ok 1 [(2, .len (c := (.d (.sl 6 ((cnt f.kind f.kids).map FormD.d)))) (n := (cnt f.kind f.kids).length) (lenC_map _ _ _))] [(1, vi .i64 L), (5, .t (.c (.d (.sl 6 ((cnt f.kind f.kids).map FormD.d))))), (6, vi .i64 (j : Int)), (23, vb (decide ((j : Int) < ((cnt f.kind f.kids).length : Int))))] [] (by kernel_rfl) h ?_; clear h; intro a w h
    refine condS (decide ((j : Int) < ((cnt f.kind f.kids).length : Int))) h rfl (fun hc => ?_) (fun hc => ?_)
    ·have hc4 := hc; clear hc
     have hc4' := of_decide_eq_true hc4
     refine wp_skip ?_
     refine then_n ?_
     refine wp_seq ?_
     refine wp_block ?_
     obtain ⟨x3, hx3⟩ : ∃ z_ : FormD, (cnt f.kind f.kids)[j]? = some z_ := ⟨_, List.getElem?_eq_getElem (by first | omega | (simp at *; omega))⟩
     refine rSeq fam0ok 1 [(2, .gen _ _ _ fun _ _ _ _ => Op.idxD (d := 28) (t := 26) (k := .i64) kb_0 ((map_at hx3 (f := FormD.d)).trans (congrArg some (FormD.d_eq x3))) (OV.tmp 27 _)), (5, .call (ih x3 (cnt_mem (List.mem_of_getElem? hx3))) kc_7)] [(1, vi .i64 L), (5, .t (.c (.d (.sl 6 ((cnt f.kind f.kids).map FormD.d))))), (6, vi .i64 (j : Int)), (32, vb (!(FormD.few L x3)))] [] (by kernel_rfl) h ?_; clear h; intro a w h
     refine condS (!(FormD.few L x3)) h rfl (fun hc => ?_) (fun hc => ?_)
     ·have hc5 := hc; clear hc
      have hc5' := hc5; (try simp at hc5')
      refine rSeq fam0ok 1 [] [(1, vi .i64 L), (4, vb false), (5, .t (.c (.d (.sl 6 ((cnt f.kind f.kids).map FormD.d))))), (6, vi .i64 (j : Int))] [] (by kernel_rfl) h ?_; clear h; intro a w h
      refine wp_ret ?_
      refine block_r ?_
      refine then_r ?_
      refine then_r ?_
      refine block_r ?_
      refine then_r ?_
      refine retS [.c (.d (.raw (.bool false)))] h Exit.ret (.inl rfl)  rfl ⟨RV.tmp _ _ rfl, trivial⟩ ?_ (by kernel_rfl) (by kernel_rfl)
      have hz : f.few L = false := by rw [FormD.few_eq, all_stop hx3 (show (FormD.few L x3) = false from by simpa using hc5), Bool.and_false]
      rw [hz]; first | done | rfl
     ·have hc6 := hc; clear hc
      have hc6' := hc6; (try simp at hc6')
      refine wp_skip ?_
      refine block_n ?_
      refine then_n ?_
      refine rS fam0ok 1 [(1, .add .i64 (m := (j : Int)) (n := 1) (i64_id (by omega) (by omega)))] [(1, vi .i64 L), (5, .t (.c (.d (.sl 6 ((cnt f.kind f.kids).map FormD.d))))), (6, vi .i64 ((j : Int) + 1))] [] (by kernel_rfl) h ?_; clear h; intro a w h
      refine then_n ?_
      refine roundS (x := j) (y := j + 1) h ?_ ?_ (by kernel_rfl) (by kernel_rfl)
      ·exact ⟨by have := at_lt hx3; omega, all_step hx3 hI2 (show (FormD.few L x3) = true from by simpa using hc6)⟩
      ·show (cnt f.kind f.kids).length - (j + 1) < (cnt f.kind f.kids).length - j
       have := at_lt hx3; omega
    ·have hc7 := hc; clear hc
     have hc7' := of_decide_eq_false hc7
     refine wp_exit ?_
     refine then_x ?_
     refine then_x ?_
     refine inBlock_exit ?_
     refine then_n ?_
     refine rSeq fam0ok 1 [] [(4, vb true)] [] (by kernel_rfl) h ?_; clear h; intro a w h
     refine wp_ret ?_
     refine retS [.c (.d (.raw (.bool true)))] h Exit.ret (.inl rfl)  rfl ⟨RV.tmp _ _ rfl, trivial⟩ ?_ (by kernel_rfl) (by kernel_rfl)
     have hz : f.few L = true := by rw [FormD.few_eq, (show (!(f.kind == 2) || fewR L f.r) = true from by rw [hc1]; rw [(show (fewR L f.r) = true from by simpa using hc3)]; rfl), all_end (of_decide_eq_false hc7) hI2]; rfl
     rw [hz]; first | done | rfl
 ·have hc8 := hc; clear hc
  have hc8' := hc8; (try simp at hc8')
  refine rSeq fam0ok 1 [(2, .cmp (op := .eql) (m := f.kind) (n := 2) (b := false) .i64 hc8)] [(1, vi .i64 L), (2, vp 0 0), (4, vb false), (17, vb false)] [(0, .box ([.d (.raw (.int .i64 f.kind)), .d (.sl 3 (f.r.t.parts.map Part.d))] ++ zi f.r.t.k ++ [.d (.raw (.bool f.r.eq)), .d (.sl 6 (f.kids.map FormD.d))]))] (by kernel_rfl) h ?_; clear h; intro a w h
  refine condS false h rfl (fun hc => ?_) (fun hc => ?_)
  ·cases hc
  ·clear hc
   refine wp_skip ?_
   refine then_n ?_
   refine rSeq fam0ok 1 [(1, .call (SKids f) kc_0)] [(1, vi .i64 L), (4, vb false), (5, .t (.c (.d (.sl 6 ((cnt f.kind f.kids).map FormD.d)))))] [] (by kernel_rfl) h ?_; clear h; intro a w h
   refine wp_seq ?_
   refine rSeq fam0ok 1 [] [(1, vi .i64 L), (4, vb false), (5, .t (.c (.d (.sl 6 ((cnt f.kind f.kids).map FormD.d))))), (6, vi .i64 0)] [] (by kernel_rfl) h ?_; clear h; intro a w h
   refine wp_block ?_
   refine loopS (ι := (Nat)) (fun (z_ : (Nat)) => match z_ with | j => j ≤ (cnt f.kind f.kids).length ∧ ((cnt f.kind f.kids).take j).all (FormD.few L) = true)
     (fun (z_ : (Nat)) => match z_ with | j => [(1, vi .i64 L), (5, .t (.c (.d (.sl 6 ((cnt f.kind f.kids).map FormD.d))))), (6, vi .i64 (j : Int))])
     (fun (z_ : (Nat)) => match z_ with | j => [])
     (fun (z_ : (Nat)) => match z_ with | j => (cnt f.kind f.kids).length - j) 0 ?_ h (by kernel_rfl) (by kernel_rfl) ?_
   ·exact ⟨Nat.zero_le _, rfl⟩
   ·clear h; rintro j a w hI h
    change St _ (F.of [(1, vi .i64 L), (5, .t (.c (.d (.sl 6 ((cnt f.kind f.kids).map FormD.d))))), (6, vi .i64 (j : Int))] []) a w at h
    obtain ⟨hI1, hI2⟩ := hI
    refine wp_seq ?_
    refine rSeq fam0ok 1 [(2, .len (c := (.d (.sl 6 ((cnt f.kind f.kids).map FormD.d)))) (n := (cnt f.kind f.kids).length) (lenC_map _ _ _))] [(1, vi .i64 L), (5, .t (.c (.d (.sl 6 ((cnt f.kind f.kids).map FormD.d))))), (6, vi .i64 (j : Int)), (23, vb (decide ((j : Int) < ((cnt f.kind f.kids).length : Int))))] [] (by kernel_rfl) h ?_; clear h; intro a w h
    refine condS (decide ((j : Int) < ((cnt f.kind f.kids).length : Int))) h rfl (fun hc => ?_) (fun hc => ?_)
    ·have hc9 := hc; clear hc
     have hc9' := of_decide_eq_true hc9
     refine wp_skip ?_
     refine then_n ?_
     refine wp_seq ?_
     refine wp_block ?_
     obtain ⟨x6, hx6⟩ : ∃ z_ : FormD, (cnt f.kind f.kids)[j]? = some z_ := ⟨_, List.getElem?_eq_getElem (by first | omega | (simp at *; omega))⟩
     refine rSeq fam0ok 1 [(2, .gen _ _ _ fun _ _ _ _ => Op.idxD (d := 28) (t := 26) (k := .i64) kb_0 ((map_at hx6 (f := FormD.d)).trans (congrArg some (FormD.d_eq x6))) (OV.tmp 27 _)), (5, .call (ih x6 (cnt_mem (List.mem_of_getElem? hx6))) kc_7)] [(1, vi .i64 L), (5, .t (.c (.d (.sl 6 ((cnt f.kind f.kids).map FormD.d))))), (6, vi .i64 (j : Int)), (32, vb (!(FormD.few L x6)))] [] (by kernel_rfl) h ?_; clear h; intro a w h
     refine condS (!(FormD.few L x6)) h rfl (fun hc => ?_) (fun hc => ?_)
     ·have hc10 := hc; clear hc
      have hc10' := hc10; (try simp at hc10')
      refine rSeq fam0ok 1 [] [(1, vi .i64 L), (4, vb false), (5, .t (.c (.d (.sl 6 ((cnt f.kind f.kids).map FormD.d))))), (6, vi .i64 (j : Int))] [] (by kernel_rfl) h ?_; clear h; intro a w h
      refine wp_ret ?_
      refine block_r ?_
      refine then_r ?_
      refine then_r ?_
      refine block_r ?_
      refine then_r ?_
      refine retS [.c (.d (.raw (.bool false)))] h Exit.ret (.inl rfl)  rfl ⟨RV.tmp _ _ rfl, trivial⟩ ?_ (by kernel_rfl) (by kernel_rfl)
      have hz : f.few L = false := by rw [FormD.few_eq, all_stop hx6 (show (FormD.few L x6) = false from by simpa using hc10), Bool.and_false]
      rw [hz]; first | done | rfl
     ·have hc11 := hc; clear hc
      have hc11' := hc11; (try simp at hc11')
      refine wp_skip ?_
      refine block_n ?_
      refine then_n ?_
      refine rS fam0ok 1 [(1, .add .i64 (m := (j : Int)) (n := 1) (i64_id (by omega) (by omega)))] [(1, vi .i64 L), (5, .t (.c (.d (.sl 6 ((cnt f.kind f.kids).map FormD.d))))), (6, vi .i64 ((j : Int) + 1))] [] (by kernel_rfl) h ?_; clear h; intro a w h
      refine then_n ?_
      refine roundS (x := j) (y := j + 1) h ?_ ?_ (by kernel_rfl) (by kernel_rfl)
      ·exact ⟨by have := at_lt hx6; omega, all_step hx6 hI2 (show (FormD.few L x6) = true from by simpa using hc11)⟩
      ·show (cnt f.kind f.kids).length - (j + 1) < (cnt f.kind f.kids).length - j
       have := at_lt hx6; omega
    ·have hc12 := hc; clear hc
     have hc12' := of_decide_eq_false hc12
     refine wp_exit ?_
     refine then_x ?_
     refine then_x ?_
     refine inBlock_exit ?_
     refine then_n ?_
     refine rSeq fam0ok 1 [] [(4, vb true)] [] (by kernel_rfl) h ?_; clear h; intro a w h
     refine wp_ret ?_
     refine retS [.c (.d (.raw (.bool true)))] h Exit.ret (.inl rfl)  rfl ⟨RV.tmp _ _ rfl, trivial⟩ ?_ (by kernel_rfl) (by kernel_rfl)
     have hz : f.few L = true := by rw [FormD.few_eq, (show (!(f.kind == 2) || fewR L f.r) = true from by rw [hc8]; rfl), all_end (of_decide_eq_false hc12) hI2]; rfl
     rw [hz]; first | done | rfl
theorem Sfew (L : Int) (f : FormD) : f.lb → Fn Tryz.prog 56 [] [.t (.agg ([.d (.raw (.int .i64 f.kind)), .d (.sl 3 (f.r.t.parts.map Part.d))] ++ zi f.r.t.k ++ [.d (.raw (.bool f.r.eq)), .d (.sl 6 (f.kids.map FormD.d))])), vi .i64 L] (vb (f.few L)) [] :=
 FormD.ind (P := fun f => f.lb → Fn Tryz.prog 56 [] [.t (.agg ([.d (.raw (.int .i64 f.kind)), .d (.sl 3 (f.r.t.parts.map Part.d))] ++ zi f.r.t.k ++ [.d (.raw (.bool f.r.eq)), .d (.sl 6 (f.kids.map FormD.d))])), vi .i64 L] (vb (f.few L)) []) (fun k r ks ih hl => by
  have hl := (FormD.lb_eq _).1 hl
  exact Sfew0 ⟨k, r, ks⟩ L (fun g hg => ih g hg (hl.2 g hg)) hl.1.2) f
set_option maxHeartbeats 4000000 in
theorem SFewF (f : FormD) (most L : Int) (hl : f.lb) (h0 : 0 ≤ most) (h1 : most ≤ 1000) : Fn Tryz.prog 24 [] [.t (.agg ([.d (.raw (.int .i64 f.kind)), .d (.sl 3 (f.r.t.parts.map Part.d))] ++ zi f.r.t.k ++ [.d (.raw (.bool f.r.eq)), .d (.sl 6 (f.kids.map FormD.d))])), vi .i64 most, vi .i64 L] (vb (fewF f most L)) [] := by
 refine Fn.body Tryz.func24 rfl 15 rfl fun w H B a h => ?_
 refine rSeq fam0ok 0 [] [(1, vi .i64 most), (2, vi .i64 L), (3, vp 0 0), (6, vb false)] [(0, .box ([.d (.raw (.int .i64 f.kind)), .d (.sl 3 (f.r.t.parts.map Part.d))] ++ zi f.r.t.k ++ [.d (.raw (.bool f.r.eq)), .d (.sl 6 (f.kids.map FormD.d))]))] (by kernel_rfl) h ?_; clear h; intro a w h
 refine wp_seq ?_
 refine rSeq fam0ok 1 [(2, .call (SSize f hl most h0 h1) kc_2)] [(2, vi .i64 L), (3, vp 0 0), (6, vb false), (11, vb (decide (f.size most > most)))] [(0, .box ([.d (.raw (.int .i64 f.kind)), .d (.sl 3 (f.r.t.parts.map Part.d))] ++ zi f.r.t.k ++ [.d (.raw (.bool f.r.eq)), .d (.sl 6 (f.kids.map FormD.d))]))] (by kernel_rfl) h ?_; clear h; intro a w h
 refine condS (decide (f.size most > most)) h rfl (fun hc => ?_) (fun hc => ?_)
 ·have hc1 := hc; clear hc
  have hc1' := of_decide_eq_true hc1
  refine rSeq fam0ok 1 [] [(2, vi .i64 L), (3, vp 0 0), (6, vb false)] [(0, .box ([.d (.raw (.int .i64 f.kind)), .d (.sl 3 (f.r.t.parts.map Part.d))] ++ zi f.r.t.k ++ [.d (.raw (.bool f.r.eq)), .d (.sl 6 (f.kids.map FormD.d))]))] (by kernel_rfl) h ?_; clear h; intro a w h
  refine wp_ret ?_
  refine then_r ?_
  refine retS [.c (.d (.raw (.bool false)))] h Exit.ret (.inl rfl)  rfl ⟨RV.tmp _ _ rfl, trivial⟩ ?_ (by kernel_rfl) (by kernel_rfl)
  unfold fewF; rw [hc1]; first | done | rfl
 ·have hc2 := hc; clear hc
  have hc2' := of_decide_eq_false hc2
  refine wp_skip ?_
  refine then_n ?_
  refine rSeq fam0ok 1 [(2, .call (Sfew L f hl) kc_7)] [(6, vb (f.few L))] [] (by kernel_rfl) h ?_; clear h; intro a w h
  refine wp_ret ?_
  refine retS [.c (.d (.raw (.bool (f.few L))))] h Exit.ret (.inl rfl)  rfl ⟨RV.tmp _ _ rfl, trivial⟩ ?_ (by kernel_rfl) (by kernel_rfl)
  unfold fewF; rw [hc2]; first | done | rfl
set_option maxHeartbeats 4000000 in
theorem SRValue (t : Term) (vs : List ZI) {n L M : Nat} (ht : TOk n L t) (hn : n ≤ 1000) (hL : L + M ≤ 20000) (hv : VOk M vs) : Fn Tryz.prog 41 [] [.t (.agg ([.d (.sl 3 (t.parts.map Part.d))] ++ zi t.k)), .t (.c (.d (.sl 2 (vs.map ziD))))] (vz (ZI.of (valT t vs))) [] := by
 have kt := ht.kl
 have lnv := hv.1
 refine Fn.body Tryz.func41 rfl 27 rfl fun w H B a h => ?_
 refine rSeq fam0ok 0 [] [(1, .t (.c (.d (.sl 2 (vs.map ziD))))), (2, vp 0 0), (4, vp 1 0)] [(0, .box ([.d (.sl 3 (t.parts.map Part.d))] ++ zi t.k)), (1, .box [.d (.raw (.bool false)), .d (nsl [])])] (by kernel_rfl) h ?_; clear h; intro a w h
 refine rSeq fam0ok 2 [] [(1, .t (.c (.d (.sl 2 (vs.map ziD))))), (2, vp 0 0), (4, vp 1 0), (5, vp 2 0)] [(0, .box ([.d (.sl 3 (t.parts.map Part.d))] ++ zi t.k)), (1, .box [.d (.raw (.bool false)), .d (nsl [])]), (2, .box (zi t.k))] (by kernel_rfl) h ?_; clear h; intro a w h
 refine wp_seq ?_
 refine rSeq fam0ok 3 [] [(1, .t (.c (.d (.sl 2 (vs.map ziD))))), (2, vp 0 0), (4, vp 1 0), (5, vp 2 0), (6, vi .i64 0)] [(0, .box ([.d (.sl 3 (t.parts.map Part.d))] ++ zi t.k)), (1, .box [.d (.raw (.bool false)), .d (nsl [])]), (2, .box (zi t.k))] (by kernel_rfl) h ?_; clear h; intro a w h
 refine wp_block ?_
 refine loopS (ι := (Nat) × (ZI)) (fun (z_ : (Nat) × (ZI)) => match z_ with | (j, out) => j ≤ vs.length ∧ out.val = t.k.val + valP vs (fltV j t.parts) ∧ Lb out.abs ∧ out.abs.length ≤ L + M + 2)
   (fun (z_ : (Nat) × (ZI)) => match z_ with | (j, out) => [(1, .t (.c (.d (.sl 2 (vs.map ziD))))), (2, vp 0 0), (4, vp 1 0), (5, vp 2 0), (6, vi .i64 (j : Int))])
   (fun (z_ : (Nat) × (ZI)) => match z_ with | (j, out) => [(0, .box ([.d (.sl 3 (t.parts.map Part.d))] ++ zi t.k)), (1, .box [.d (.raw (.bool false)), .d (nsl [])]), (2, .box (zi out))])
   (fun (z_ : (Nat) × (ZI)) => match z_ with | (j, out) => vs.length - j) (0, t.k) ?_ h (by kernel_rfl) (by kernel_rfl) ?_
 ·exact ⟨Nat.zero_le _, by rw [fltV_zero]; simp [valP], ht.kb, by omega⟩
 ·clear h; rintro ⟨j, out⟩ a w hI h
  change St _ (F.of [(1, .t (.c (.d (.sl 2 (vs.map ziD))))), (2, vp 0 0), (4, vp 1 0), (5, vp 2 0), (6, vi .i64 (j : Int))] [(0, .box ([.d (.sl 3 (t.parts.map Part.d))] ++ zi t.k)), (1, .box [.d (.raw (.bool false)), .d (nsl [])]), (2, .box (zi out))]) a w at h
  obtain ⟨hI1, vo, ho, lo⟩ := hI
  refine wp_seq ?_
  refine rSeq fam0ok 3 [(2, .len (c := (.d (.sl 2 (vs.map ziD)))) (n := vs.length) (lenC_map _ _ _))] [(1, .t (.c (.d (.sl 2 (vs.map ziD))))), (2, vp 0 0), (4, vp 1 0), (5, vp 2 0), (6, vi .i64 (j : Int)), (12, vb (decide ((j : Int) < (vs.length : Int))))] [(0, .box ([.d (.sl 3 (t.parts.map Part.d))] ++ zi t.k)), (1, .box [.d (.raw (.bool false)), .d (nsl [])]), (2, .box (zi out))] (by kernel_rfl) h ?_; clear h; intro a w h
  refine condS (decide ((j : Int) < (vs.length : Int))) h rfl (fun hc => ?_) (fun hc => ?_)
  ·have hc1 := hc; clear hc
   have hc1' := of_decide_eq_true hc1
   refine wp_skip ?_
   refine then_n ?_
   refine wp_seq ?_
   refine wp_block ?_
   obtain ⟨r1, er1, vr1, or1, lr1⟩ := mkZ (v := coefZ t.parts (j : Int)) (m := L + 1) (coef_len (ht.mono hn (Nat.le_refl L)).psok (j : Int))
   obtain ⟨x2, hx2⟩ : ∃ z_ : ZI, vs[j]? = some z_ := ⟨_, List.getElem?_eq_getElem (by first | omega | (simp at *; omega))⟩
   obtain ⟨ox2, lx2⟩ := hv.get hx2
   obtain ⟨r3, er3, vr3, or3, lr3⟩ := mkZ (v := r1.val * x2.val) (m := r1.abs.length + x2.abs.length) (len_mul or1 ox2)
   obtain ⟨r4, er4, vr4, or4, lr4⟩ := mkZ (v := out.val + r3.val) (m := out.abs.length + r3.abs.length + 1) (len_add ho or3)
   refine rS fam0ok 3 [(3, .call (Fn.cast (SCoef t (j : Int) (ht.mono hn (show L ≤ 40000 by omega)).psok) (congrArg vz er1.symm)) tb_4), (6, .gen _ _ _ fun _ _ _ _ => Op.idxD (d := 21) (t := 19) (k := .i64) tt_6 (map_at hx2 (f := ziD)) (OV.tmp 20 _)), (8, .call (Fn.cast (SRMul r1 x2 or1 ox2 (by omega) (by omega)) (congrArg vz er3.symm)) zs_18), (9, .call (Fn.cast (SRAdd out r3 ho or3 (by omega) (by omega)) (congrArg vz er4.symm)) ib_5)] [(1, .t (.c (.d (.sl 2 (vs.map ziD))))), (2, vp 0 0), (4, vp 1 0), (5, vp 2 0), (6, vi .i64 (j : Int))] [(0, .box ([.d (.sl 3 (t.parts.map Part.d))] ++ zi t.k)), (1, .box [.d (.raw (.bool false)), .d (nsl [])]), (2, .box (zi r4))] (by kernel_rfl) h ?_; clear h; intro a w h
   refine block_n ?_
   refine then_n ?_
   refine rS fam0ok 3 [(1, .add .i64 (m := (j : Int)) (n := 1) (i64_id (by omega) (by omega)))] [(1, .t (.c (.d (.sl 2 (vs.map ziD))))), (2, vp 0 0), (4, vp 1 0), (5, vp 2 0), (6, vi .i64 ((j : Int) + 1))] [(0, .box ([.d (.sl 3 (t.parts.map Part.d))] ++ zi t.k)), (1, .box [.d (.raw (.bool false)), .d (nsl [])]), (2, .box (zi r4))] (by kernel_rfl) h ?_; clear h; intro a w h
   refine then_n ?_
   refine roundS (x := (j, out)) (y := ((j + 1), r4)) h ?_ ?_ (by kernel_rfl) (by kernel_rfl)
   ·have := at_lt hx2
    have hvz : r4.val = t.k.val + valP vs (fltV (j + 1) t.parts) := by rw [vr4, vr3, vr1, vo, fltV_succ, valAt_some (v := (j : Int)) rfl hx2, Int.add_assoc]
    exact ⟨by omega, hvz, or4, by rw [er4]; exact Nat.le_trans (by rw [← vr4, hvz]; exact val_len ht hn hv fltV_mem (fltV_len _ _)) (by omega)⟩
   ·show vs.length - (j + 1) < vs.length - j
    have := at_lt hx2; omega
  ·have hc2 := hc; clear hc
   have hc2' := of_decide_eq_false hc2
   refine wp_exit ?_
   refine then_x ?_
   refine then_x ?_
   refine inBlock_exit ?_
   refine then_n ?_
   obtain ⟨r5, er5, vr5, or5, lr5⟩ := mkZ (v := out.val) (m := out.abs.length) (len_id ho)
   refine rSeq fam0ok 3 [(1, .call (Fn.cast (SRClean out ho (by omega)) (congrArg vz er5.symm)) tb_7)] [(4, vp 1 0)] [(1, .box (zi r5))] (by kernel_rfl) h ?_; clear h; intro a w h
   refine wp_ret ?_
   refine retS [.agg (zi r5)] h Exit.ret (.inl rfl)  rfl ⟨RV.agg _ 1 0 _ _ _ _ ia_1 rfl rfl rfl rfl, trivial⟩ ?_ (by kernel_rfl) (by kernel_rfl)
   have hz : out.val = valT t vs := by rw [vo, show j = vs.length by first | omega | (simp_all; omega), fltV_all]; rfl
   first | (rw [er5, hz]; done) | (rw [er5, hz]; rfl) | (rw [hz]; done) | (rw [hz]; rfl)
end Go.Proofs.YtmohlifepfjmdaaGreat.S
end
section
namespace Go.Proofs.YtmohlifepfjmdaaGreat.S
open Go.RowKit
def fam1tb : Tb := [(24, ⟨1, false, [], [.d (.raw nilV)], 1⟩), (4, ⟨1, false, [], [.d (.raw (.bool false))], 3⟩), (26, ⟨1, false, [], [.d (nsl [])], 1⟩), (28, ⟨2, true, [(0, 1, false), (1, 1, false)], [.d (.raw (.bool false)), .d (nsl [])], 0⟩), (30, ⟨3, true, [(0, 1, false), (1, 2, true)], [.d (.raw nilV), .d (.raw (.bool false)), .d (nsl [])], 0⟩), (32, ⟨4, true, [(0, 3, true), (3, 1, false)], [.d (.raw nilV), .d (.raw (.bool false)), .d (nsl []), .d (.raw (.bool false))], 0⟩), (3, ⟨1, false, [], [.d (.raw (.int .i64 0))], 13⟩), (33, ⟨1, false, [], [.d (.raw nilV)], 1⟩), (35, ⟨6, true, [(0, 1, false), (1, 4, true), (5, 1, false)], [.d (.raw (.int .i64 0)), .d (.raw nilV), .d (.raw (.bool false)), .d (nsl []), .d (.raw (.bool false)), .d (.raw nilV)], 0⟩), (41, ⟨1, false, [], [.d (.raw nilV)], 1⟩), (123, ⟨1, false, [], [.d (.raw .nilFunc)], 4⟩)]
theorem fam1ok : TbOk Tryz.prog fam1tb := ⟨TyOk.slc Tryz.underlying24 (by kernel_rfl) ⟨(.slice none 0 0 : Value), [.slice none 0 0], by kernel_rfl, rfl, (fun _ _ => ⟨DR.raw _ rfl, trivial⟩)⟩,
 TyOk.bl Tryz.underlying4 (by kernel_rfl) ⟨(.bool false : Value), [.bool false], by kernel_rfl, rfl, (fun _ _ => ⟨DR.raw _ rfl, trivial⟩)⟩,
 TyOk.slc Tryz.underlying26 (by kernel_rfl) ⟨(.slice none 0 0 : Value), [.slice none 0 0], by kernel_rfl, rfl, (fun _ _ => ⟨DR.nil _ _ _ (fun _ => rfl) (Nat.zero_le _), trivial⟩)⟩,
 TyOk.st Tryz.underlying28 (by kernel_rfl) ⟨⟨by decide, Fd.mk' _ _ Tryz.underlying28 rfl rfl (Sz.mk' (by kernel_rfl) Tryz.underlying4 _ rfl)⟩, ⟨by decide, Fd.mk' _ _ Tryz.underlying28 rfl rfl (Sz.mk' (by kernel_rfl) Tryz.underlying26 _ rfl)⟩, trivial⟩ ⟨(Value.agg #[.bool false, .slice none 0 0]), [.bool false, .slice none 0 0], by kernel_rfl, rfl, (fun _ _ => ⟨DR.raw _ rfl, DR.nil _ _ _ (fun _ => rfl) (Nat.zero_le _), trivial⟩)⟩ ⟨_, Tryz.underlying28, ⟨⟨rfl, by kernel_rfl⟩, ⟨rfl, by kernel_rfl⟩, trivial⟩⟩,
 TyOk.st Tryz.underlying30 (by kernel_rfl) ⟨⟨by decide, Fd.mk' _ _ Tryz.underlying30 rfl rfl (Sz.mk' (by kernel_rfl) Tryz.underlying24 _ rfl)⟩, ⟨by decide, Fd.mk' _ _ Tryz.underlying30 rfl rfl (Sz.mk' (by kernel_rfl) Tryz.underlying28 _ rfl)⟩, trivial⟩ ⟨(Value.agg #[.slice none 0 0, .bool false, .slice none 0 0]), [.slice none 0 0, .bool false, .slice none 0 0], by kernel_rfl, rfl, (fun _ _ => ⟨DR.raw _ rfl, DR.raw _ rfl, DR.nil _ _ _ (fun _ => rfl) (Nat.zero_le _), trivial⟩)⟩ ⟨_, Tryz.underlying30, ⟨⟨rfl, by kernel_rfl⟩, ⟨rfl, by kernel_rfl⟩, trivial⟩⟩,
 TyOk.st Tryz.underlying32 (by kernel_rfl) ⟨⟨by decide, Fd.mk' _ _ Tryz.underlying32 rfl rfl (Sz.mk' (by kernel_rfl) Tryz.underlying30 _ rfl)⟩, ⟨by decide, Fd.mk' _ _ Tryz.underlying32 rfl rfl (Sz.mk' (by kernel_rfl) Tryz.underlying4 _ rfl)⟩, trivial⟩ ⟨(Value.agg #[.slice none 0 0, .bool false, .slice none 0 0, .bool false]), [.slice none 0 0, .bool false, .slice none 0 0, .bool false], by kernel_rfl, rfl, (fun _ _ => ⟨DR.raw _ rfl, DR.raw _ rfl, DR.nil _ _ _ (fun _ => rfl) (Nat.zero_le _), DR.raw _ rfl, trivial⟩)⟩ ⟨_, Tryz.underlying32, ⟨⟨rfl, by kernel_rfl⟩, ⟨rfl, by kernel_rfl⟩, trivial⟩⟩,
 TyOk.int Tryz.underlying3 rfl (by kernel_rfl) ⟨(.int .i64 0 : Value), [.int .i64 0], by kernel_rfl, rfl, (fun _ _ => ⟨DR.raw _ rfl, trivial⟩)⟩,
 TyOk.slc Tryz.underlying33 (by kernel_rfl) ⟨(.slice none 0 0 : Value), [.slice none 0 0], by kernel_rfl, rfl, (fun _ _ => ⟨DR.raw _ rfl, trivial⟩)⟩,
 TyOk.st Tryz.underlying35 (by kernel_rfl) ⟨⟨by decide, Fd.mk' _ _ Tryz.underlying35 rfl rfl (Sz.mk' (by kernel_rfl) Tryz.underlying3 _ rfl)⟩, ⟨by decide, Fd.mk' _ _ Tryz.underlying35 rfl rfl (Sz.mk' (by kernel_rfl) Tryz.underlying32 _ rfl)⟩, ⟨by decide, Fd.mk' _ _ Tryz.underlying35 rfl rfl (Sz.mk' (by kernel_rfl) Tryz.underlying33 _ rfl)⟩, trivial⟩ ⟨(Value.agg #[.int .i64 0, .slice none 0 0, .bool false, .slice none 0 0, .bool false, .slice none 0 0]), [.int .i64 0, .slice none 0 0, .bool false, .slice none 0 0, .bool false, .slice none 0 0], by kernel_rfl, rfl, (fun _ _ => ⟨DR.raw _ rfl, DR.raw _ rfl, DR.raw _ rfl, DR.nil _ _ _ (fun _ => rfl) (Nat.zero_le _), DR.raw _ rfl, DR.raw _ rfl, trivial⟩)⟩ ⟨_, Tryz.underlying35, ⟨⟨rfl, by kernel_rfl⟩, ⟨rfl, by kernel_rfl⟩, ⟨rfl, by kernel_rfl⟩, trivial⟩⟩,
 TyOk.slc Tryz.underlying41 (by kernel_rfl) ⟨(.slice none 0 0 : Value), [.slice none 0 0], by kernel_rfl, rfl, (fun _ _ => ⟨DR.raw _ rfl, trivial⟩)⟩,
 TyOk.fnc Tryz.underlying123 rfl (by kernel_rfl) ⟨(.nilFunc : Value), [.nilFunc], by kernel_rfl, rfl, (fun _ _ => ⟨DR.raw _ rfl, trivial⟩)⟩,
 trivial⟩
end Go.Proofs.YtmohlifepfjmdaaGreat.S
end
section
namespace Go.Proofs.YtmohlifepfjmdaaGreat.S
open Go.RowKit

theorem ke_0 : Bodied Tryz.prog 67 := Bodied.mk' (by kernel_rfl)
theorem ke_2 : Bodied Tryz.prog 41 := Bodied.mk' (by kernel_rfl)
theorem ke_4 : Bodied Tryz.prog 48 := Bodied.mk' (by kernel_rfl)
theorem ke_5 : Bodied Tryz.prog 77 := Bodied.mk' (by kernel_rfl)
theorem ke_7 : Bodied Tryz.prog 99 := Bodied.mk' (by kernel_rfl)
theorem ke_8 : Bodied Tryz.prog 80 := Bodied.mk' (by kernel_rfl)
theorem ke_9 : Bodied Tryz.prog 81 := Bodied.mk' (by kernel_rfl)
theorem ke_10 : Bodied Tryz.prog 49 := Bodied.mk' (by kernel_rfl)
theorem ke_11 : Bodied Tryz.prog 78 := Bodied.mk' (by kernel_rfl)
theorem ke_12 : Bodied Tryz.prog 79 := Bodied.mk' (by kernel_rfl)
set_option maxHeartbeats 4000000 in
theorem SrelHolds (r : RelD) (vs : List ZI) {L M : Nat} (hL : L + M ≤ 20000) (hv : VOk M vs) (hr : TokR L r) : Fn Tryz.prog 78 [] [.t (.agg ([.d (.sl 3 (r.t.parts.map Part.d))] ++ zi r.t.k ++ [.d (.raw (.bool r.eq))])), .t (.c (.d (.sl 2 (vs.map ziD))))] (vb (relOk vs r)) [] := by
 refine Fn.body Tryz.func78 rfl 22 rfl fun w H B a h => ?_
 refine rSeq fam1ok 0 [] [(1, .t (.c (.d (.sl 2 (vs.map ziD))))), (2, vp 0 0), (4, vb false)] [(0, .box ([.d (.sl 3 (r.t.parts.map Part.d))] ++ zi r.t.k ++ [.d (.raw (.bool r.eq))]))] (by kernel_rfl) h ?_; clear h; intro a w h
 obtain ⟨r1, er1, vr1, or1, lr1⟩ := mkZ (v := valT r.t vs) (m := L + M + 2) (Nat.le_trans (val_len hr (by decide) hv (fun p hp => hp) (Nat.le_refl _)) (by omega))
 refine rSeq fam1ok 1 [(3, .call (Fn.cast (SValue r.t vs hr (by decide) hL hv) (congrArg vz er1.symm)) ke_0), (4, .call (SSign r1 or1 (by omega)) td_6)] [(2, vp 0 0), (4, vb false), (5, vi .i64 (sgn r1.val))] [(0, .box ([.d (.sl 3 (r.t.parts.map Part.d))] ++ zi r.t.k ++ [.d (.raw (.bool r.eq))]))] (by kernel_rfl) h ?_; clear h; intro a w h
 rcases Bool.eq_false_or_eq_true (sgn r1.val == 0) with hc | hc
 ·have hc1 := hc; clear hc
  have hc1' := hc1; (try simp at hc1')
  refine rSeq fam1ok 1 [(1, .cmp (op := .eql) (m := (sgn r1.val)) (n := 0) (b := true) .i64 hc1)] [(4, vb true)] [] (by kernel_rfl) h ?_; clear h; intro a w h
  refine wp_ret ?_
  refine retS [.c (.d (.raw (.bool true)))] h Exit.ret (.inl rfl)  rfl ⟨RV.tmp _ _ rfl, trivial⟩ ?_ (by kernel_rfl) (by kernel_rfl)
  have hz : relOk vs r = (true) := by
   unfold relOk; rw [← vr1]
   cases he : r.eq <;> simp_all <;> omega
  rw [hz]; first | done | rfl
 ·have hc2 := hc; clear hc
  have hc2' := hc2; (try simp at hc2')
  rcases Bool.eq_false_or_eq_true r.eq with hc | hc
  ·have hc3 := hc; clear hc
   rw [hc3] at h
   refine rSeq fam1ok 1 [(1, .cmp (op := .eql) (m := (sgn r1.val)) (n := 0) (b := false) .i64 hc2)] [(4, vb false)] [] (by kernel_rfl) h ?_; clear h; intro a w h
   refine wp_ret ?_
   refine retS [.c (.d (.raw (.bool false)))] h Exit.ret (.inl rfl)  rfl ⟨RV.tmp _ _ rfl, trivial⟩ ?_ (by kernel_rfl) (by kernel_rfl)
   have hz : relOk vs r = (false) := by
    unfold relOk; rw [← vr1]
    cases he : r.eq <;> simp_all <;> omega
   rw [hz]; first | done | rfl
  ·have hc4 := hc; clear hc
   rw [hc4] at h
   refine rSeq fam1ok 1 [(1, .cmp (op := .eql) (m := (sgn r1.val)) (n := 0) (b := false) .i64 hc2)] [(4, vb (decide (sgn r1.val > 0)))] [] (by kernel_rfl) h ?_; clear h; intro a w h
   refine wp_ret ?_
   refine retS [.c (.d (.raw (.bool (decide (sgn r1.val > 0)))))] h Exit.ret (.inl rfl)  rfl ⟨RV.tmp _ _ rfl, trivial⟩ ?_ (by kernel_rfl) (by kernel_rfl)
   have hz : relOk vs r = (decide (sgn r1.val > 0)) := by
    unfold relOk; rw [← vr1]
    cases he : r.eq <;> simp_all <;> omega
   rw [hz]; first | done | rfl
set_option maxHeartbeats 4000000 in
theorem SRrelHolds (r : RelD) (vs : List ZI) {L M : Nat} (hL : L + M ≤ 20000) (hv : VOk M vs) (hr : TokR L r) : Fn Tryz.prog 81 [] [.t (.agg ([.d (.sl 3 (r.t.parts.map Part.d))] ++ zi r.t.k ++ [.d (.raw (.bool r.eq))])), .t (.c (.d (.sl 2 (vs.map ziD))))] (vb (relOk vs r)) [] := by
 refine Fn.body Tryz.func81 rfl 17 rfl fun w H B a h => ?_
 refine rSeq fam1ok 0 [] [(1, .t (.c (.d (.sl 2 (vs.map ziD))))), (2, vp 0 0), (4, vb false)] [(0, .box ([.d (.sl 3 (r.t.parts.map Part.d))] ++ zi r.t.k ++ [.d (.raw (.bool r.eq))]))] (by kernel_rfl) h ?_; clear h; intro a w h
 obtain ⟨r1, er1, vr1, or1, lr1⟩ := mkZ (v := valT r.t vs) (m := L + M + 2) (Nat.le_trans (val_len hr (by decide) hv (fun p hp => hp) (Nat.le_refl _)) (by omega))
 refine rSeq fam1ok 1 [(3, .call (Fn.cast (SRValue r.t vs hr (by decide) hL hv) (congrArg vz er1.symm)) ke_2), (4, .call (SRSign r1 or1 (by omega)) ib_0)] [(2, vp 0 0), (4, vb false), (5, vi .i64 (sgn r1.val))] [(0, .box ([.d (.sl 3 (r.t.parts.map Part.d))] ++ zi r.t.k ++ [.d (.raw (.bool r.eq))]))] (by kernel_rfl) h ?_; clear h; intro a w h
 refine wp_seq ?_
 refine rSeq fam1ok 1 [] [(4, vb false), (5, vi .i64 (sgn r1.val)), (12, vb r.eq)] [] (by kernel_rfl) h ?_; clear h; intro a w h
 refine condS r.eq h rfl (fun hc => ?_) (fun hc => ?_)
 ·have hc1 := hc; clear hc
  refine rSeq fam1ok 1 [] [(4, vb (sgn r1.val == 0)), (5, vi .i64 (sgn r1.val))] [] (by kernel_rfl) h ?_; clear h; intro a w h
  refine wp_ret ?_
  refine then_r ?_
  refine retS [.c (.d (.raw (.bool (sgn r1.val == 0))))] h Exit.ret (.inl rfl)  rfl ⟨RV.tmp _ _ rfl, trivial⟩ ?_ (by kernel_rfl) (by kernel_rfl)
  have hz : relOk vs r = (sgn r1.val == 0) := by
   unfold relOk; rw [← vr1]
   cases he : r.eq <;> simp_all <;> omega
  rw [hz]; first | done | rfl
 ·have hc2 := hc; clear hc
  refine wp_skip ?_
  refine then_n ?_
  refine rSeq fam1ok 1 [] [(4, vb (decide (sgn r1.val ≥ 0)))] [] (by kernel_rfl) h ?_; clear h; intro a w h
  refine wp_ret ?_
  refine retS [.c (.d (.raw (.bool (decide (sgn r1.val ≥ 0)))))] h Exit.ret (.inl rfl)  rfl ⟨RV.tmp _ _ rfl, trivial⟩ ?_ (by kernel_rfl) (by kernel_rfl)
  have hz : relOk vs r = (decide (sgn r1.val ≥ 0)) := by
   unfold relOk; rw [← vr1]
   cases he : r.eq <;> simp_all <;> omega
  rw [hz]; first | done | rfl
set_option maxHeartbeats 4000000 in
theorem SHolds1 (g : FormD) (vs : List ZI) (hg : Fn Tryz.prog 48 [] [.t (.agg ([.d (.raw (.int .i64 g.kind)), .d (.sl 3 (g.r.t.parts.map Part.d))] ++ zi g.r.t.k ++ [.d (.raw (.bool g.r.eq)), .d (.sl 6 (g.kids.map FormD.d))])), .t (.c (.d (.sl 2 (vs.map ziD))))] (vb (FormD.holds vs g)) []) : Fn Tryz.prog 77 [(1, .box [.d (.sl 2 (vs.map ziD))])] [.t (.agg ([.d (.raw (.int .i64 g.kind)), .d (.sl 3 (g.r.t.parts.map Part.d))] ++ zi g.r.t.k ++ [.d (.raw (.bool g.r.eq)), .d (.sl 6 (g.kids.map FormD.d))])), vp 1 0] (vb (FormD.holds vs g)) [(1, .box [.d (.sl 2 (vs.map ziD))])] := by
 refine Fn.body Tryz.func77 rfl 7 rfl fun w H B a h => ?_
 refine rSeq fam1ok 5 [] [(1, vp 1 0), (2, vp 5 0), (3, vb false)] [(1, .box [.d (.sl 2 (vs.map ziD))]), (5, .box ([.d (.raw (.int .i64 g.kind)), .d (.sl 3 (g.r.t.parts.map Part.d))] ++ zi g.r.t.k ++ [.d (.raw (.bool g.r.eq)), .d (.sl 6 (g.kids.map FormD.d))]))] (by kernel_rfl) h ?_; clear h; intro a w h
 refine rSeq fam1ok 6 [(2, .call (hg) ke_4)] [(3, vb (FormD.holds vs g))] [(1, .box [.d (.sl 2 (vs.map ziD))])] (by kernel_rfl) h ?_; clear h; intro a w h
 refine wp_ret ?_
 refine retS [.c (.d (.raw (.bool (FormD.holds vs g))))] h Exit.ret (.inl rfl)  rfl ⟨RV.tmp _ _ rfl, trivial⟩ ?_ (by kernel_rfl) (by kernel_rfl)
 rfl
set_option maxHeartbeats 4000000 in
theorem SHolds2 (g : FormD) (vs : List ZI) (hg : Fn Tryz.prog 48 [] [.t (.agg ([.d (.raw (.int .i64 g.kind)), .d (.sl 3 (g.r.t.parts.map Part.d))] ++ zi g.r.t.k ++ [.d (.raw (.bool g.r.eq)), .d (.sl 6 (g.kids.map FormD.d))])), .t (.c (.d (.sl 2 (vs.map ziD))))] (vb (FormD.holds vs g)) []) : Fn Tryz.prog 80 [(2, .box [.fn (.func 77) [] [.ptr 1 0]]), (1, .box [.d (.sl 2 (vs.map ziD))])] [.t (.agg ([.d (.raw (.int .i64 g.kind)), .d (.sl 3 (g.r.t.parts.map Part.d))] ++ zi g.r.t.k ++ [.d (.raw (.bool g.r.eq)), .d (.sl 6 (g.kids.map FormD.d))])), vp 2 0] (vb (!FormD.holds vs g)) [(2, .box [.fn (.func 77) [] [.ptr 1 0]]), (1, .box [.d (.sl 2 (vs.map ziD))])] := by
 refine Fn.body Tryz.func80 rfl 8 rfl fun w H B a h => ?_
 refine rSeq fam1ok 5 [] [(1, vp 2 0), (2, vp 5 0), (3, vb false)] [(2, .box [.fn (.func 77) [] [.ptr 1 0]]), (1, .box [.d (.sl 2 (vs.map ziD))]), (5, .box ([.d (.raw (.int .i64 g.kind)), .d (.sl 3 (g.r.t.parts.map Part.d))] ++ zi g.r.t.k ++ [.d (.raw (.bool g.r.eq)), .d (.sl 6 (g.kids.map FormD.d))]))] (by kernel_rfl) h ?_; clear h; intro a w h
 refine rSeq fam1ok 6 [(2, .gen _ _ _ fun _ _ _ _ => Op.callV (d := 6) (t := 4) (cap := [.ptr 1 0]) (args := [.t (.agg ([.d (.raw (.int .i64 g.kind)), .d (.sl 3 (g.r.t.parts.map Part.d))] ++ zi g.r.t.k ++ [.d (.raw (.bool g.r.eq)), .d (.sl 6 (g.kids.map FormD.d))]))]) (rs := [(5, .t (.agg ([.d (.raw (.int .i64 g.kind)), .d (.sl 3 (g.r.t.parts.map Part.d))] ++ zi g.r.t.k ++ [.d (.raw (.bool g.r.eq)), .d (.sl 6 (g.kids.map FormD.d))])))]) (tys := #[35]) (SHolds1 g vs hg) ke_5 (OVs.cons (OV.tmp 5 _) (OVs.nil)))] [(3, vb (!(FormD.holds vs g)))] [(2, .box [.fn (.func 77) [] [.ptr 1 0]]), (1, .box [.d (.sl 2 (vs.map ziD))])] (by kernel_rfl) h ?_; clear h; intro a w h
 refine wp_ret ?_
 refine retS [.c (.d (.raw (.bool (!(FormD.holds vs g)))))] h Exit.ret (.inl rfl)  rfl ⟨RV.tmp _ _ rfl, trivial⟩ ?_ (by kernel_rfl) (by kernel_rfl)
 rfl
set_option maxHeartbeats 4000000 in
theorem SIdxH1 (pr : FormD → Bool) (xs : List FormD) (vs : List ZI) (hf : ∀ x ∈ xs, Fn Tryz.prog 77 [(1, .box [.d (.sl 2 (vs.map ziD))])] [.t (.agg ([.d (.raw (.int .i64 x.kind)), .d (.sl 3 (x.r.t.parts.map Part.d))] ++ zi x.r.t.k ++ [.d (.raw (.bool x.r.eq)), .d (.sl 6 (x.kids.map FormD.d))])), vp 1 0] (vb (pr x)) [(1, .box [.d (.sl 2 (vs.map ziD))])]) (hl : xs.length ≤ 9223372036854775807) : Fn Tryz.prog 99 [(1, .box [.d (.sl 2 (vs.map ziD))])] [.t (.c (.d (.sl 6 (xs.map FormD.d)))), .t (.c (.fn (.func 77) [] [.ptr 1 0]))] (vi .i64 (idxB pr xs 0)) [(1, .box [.d (.sl 2 (vs.map ziD))])] := by
 refine Fn.body Tryz.func99 rfl 19 rfl fun w H B a h => ?_
 refine rSeq fam1ok 5 [] [(0, .t (.c (.d (.sl 6 (xs.map FormD.d))))), (1, .t (.c (.fn (.func 77) [] [.ptr 1 0]))), (4, vi .i64 0)] [(1, .box [.d (.sl 2 (vs.map ziD))])] (by kernel_rfl) h ?_; clear h; intro a w h
 refine wp_seq ?_
 refine rSeq fam1ok 5 [(1, .len (c := (.d (.sl 6 (xs.map FormD.d)))) (n := xs.length) (lenC_map _ _ _))] [(0, .t (.c (.d (.sl 6 (xs.map FormD.d))))), (1, .t (.c (.fn (.func 77) [] [.ptr 1 0]))), (4, vi .i64 0), (7, vi .i64 (xs.length : Int)), (8, vi .i64 0)] [(1, .box [.d (.sl 2 (vs.map ziD))])] (by kernel_rfl) h ?_; clear h; intro a w h
 refine wp_block ?_
 refine loopS (ι := (Nat)) (fun (z_ : (Nat)) => match z_ with | j => j ≤ xs.length ∧ idxB pr xs 0 = idxB pr (xs.drop j) j)
   (fun (z_ : (Nat)) => match z_ with | j => [(0, .t (.c (.d (.sl 6 (xs.map FormD.d))))), (1, .t (.c (.fn (.func 77) [] [.ptr 1 0]))), (7, vi .i64 (xs.length : Int)), (8, vi .i64 (j : Int))])
   (fun (z_ : (Nat)) => match z_ with | j => [(1, .box [.d (.sl 2 (vs.map ziD))])])
   (fun (z_ : (Nat)) => match z_ with | j => xs.length - j) 0 ?_ h (by kernel_rfl) (by kernel_rfl) ?_
 ·exact ⟨Nat.zero_le _, rfl⟩
 ·clear h; rintro j a w hI h
  change St _ (F.of [(0, .t (.c (.d (.sl 6 (xs.map FormD.d))))), (1, .t (.c (.fn (.func 77) [] [.ptr 1 0]))), (7, vi .i64 (xs.length : Int)), (8, vi .i64 (j : Int))] [(1, .box [.d (.sl 2 (vs.map ziD))])]) a w at h
  obtain ⟨hI1, hI2⟩ := hI
  refine rSeq fam1ok 5 [] [(0, .t (.c (.d (.sl 6 (xs.map FormD.d))))), (1, .t (.c (.fn (.func 77) [] [.ptr 1 0]))), (7, vi .i64 (xs.length : Int)), (8, vi .i64 (j : Int)), (9, vb (decide ((j : Int) < (xs.length : Int))))] [(1, .box [.d (.sl 2 (vs.map ziD))])] (by kernel_rfl) h ?_; clear h; intro a w h
  refine wp_seq ?_
  refine condS (decide ((j : Int) < (xs.length : Int))) h rfl (fun hc => ?_) (fun hc => ?_)
  ·have hc1 := hc; clear hc
   have hc1' := of_decide_eq_true hc1
   refine wp_skip ?_
   refine then_n ?_
   refine wp_seq ?_
   refine wp_block ?_
   refine rSeq fam1ok 5 [] [(0, .t (.c (.d (.sl 6 (xs.map FormD.d))))), (1, .t (.c (.fn (.func 77) [] [.ptr 1 0]))), (5, vi .i64 (j : Int)), (7, vi .i64 (xs.length : Int)), (8, vi .i64 (j : Int))] [(1, .box [.d (.sl 2 (vs.map ziD))])] (by kernel_rfl) h ?_; clear h; intro a w h
   obtain ⟨x1, hx1⟩ : ∃ z_ : FormD, xs[j]? = some z_ := ⟨_, List.getElem?_eq_getElem (by first | omega | (simp at *; omega))⟩
   refine rSeq fam1ok 5 [(3, .gen _ _ _ fun _ _ _ _ => Op.idxD (d := 14) (t := 12) (k := .i64) kb_0 ((map_at hx1 (f := FormD.d)).trans (congrArg some (FormD.d_eq x1))) (OV.tmp 13 _)), (5, .gen _ _ _ fun _ _ _ _ => Op.callV (d := 16) (t := 11) (cap := [.ptr 1 0]) (args := [.t (.agg ([.d (.raw (.int .i64 x1.kind)), .d (.sl 3 (x1.r.t.parts.map Part.d))] ++ zi x1.r.t.k ++ [.d (.raw (.bool x1.r.eq)), .d (.sl 6 (x1.kids.map FormD.d))]))]) (rs := [(15, .t (.agg ([.d (.raw (.int .i64 x1.kind)), .d (.sl 3 (x1.r.t.parts.map Part.d))] ++ zi x1.r.t.k ++ [.d (.raw (.bool x1.r.eq)), .d (.sl 6 (x1.kids.map FormD.d))])))]) (tys := #[35]) (hf x1 (List.mem_of_getElem? hx1)) ke_5 (OVs.cons (OV.tmp 15 _) (OVs.nil)))] [(0, .t (.c (.d (.sl 6 (xs.map FormD.d))))), (1, .t (.c (.fn (.func 77) [] [.ptr 1 0]))), (5, vi .i64 (j : Int)), (7, vi .i64 (xs.length : Int)), (8, vi .i64 (j : Int)), (16, vb (pr x1))] [(1, .box [.d (.sl 2 (vs.map ziD))])] (by kernel_rfl) h ?_; clear h; intro a w h
   refine condS (pr x1) h rfl (fun hc => ?_) (fun hc => ?_)
   ·have hc2 := hc; clear hc
    refine rSeq fam1ok 5 [] [(0, .t (.c (.d (.sl 6 (xs.map FormD.d))))), (1, .t (.c (.fn (.func 77) [] [.ptr 1 0]))), (4, vi .i64 (j : Int)), (7, vi .i64 (xs.length : Int)), (8, vi .i64 (j : Int))] [(1, .box [.d (.sl 2 (vs.map ziD))])] (by kernel_rfl) h ?_; clear h; intro a w h
    refine wp_ret ?_
    refine block_r ?_
    refine then_r ?_
    refine then_r ?_
    refine block_r ?_
    refine then_r ?_
    refine retS [.c (.d (.raw (.int .i64 (j : Int))))] h Exit.ret (.inl rfl)  rfl ⟨RV.tmp _ _ rfl, trivial⟩ ?_ (by kernel_rfl) (by kernel_rfl)
    have hz : idxB pr xs 0 = (j : Int) := by rw [hI2, idxB_at hx1, if_pos hc2]
    rw [hz]; first | done | rfl
   ·have hc3 := hc; clear hc
    refine wp_skip ?_
    refine block_n ?_
    refine then_n ?_
    refine rS fam1ok 5 [(0, .add .i64 (m := (j : Int)) (n := 1) (i64_id (by omega) (by omega)))] [(0, .t (.c (.d (.sl 6 (xs.map FormD.d))))), (1, .t (.c (.fn (.func 77) [] [.ptr 1 0]))), (7, vi .i64 (xs.length : Int)), (8, vi .i64 ((j : Int) + 1))] [(1, .box [.d (.sl 2 (vs.map ziD))])] (by kernel_rfl) h ?_; clear h; intro a w h
    refine then_n ?_
    refine roundS (x := j) (y := j + 1) h ?_ ?_ (by kernel_rfl) (by kernel_rfl)
    ·exact ⟨by have := at_lt hx1; omega, by rw [hI2, idxB_at hx1, if_neg (by rw [hc3]; exact Bool.noConfusion)]⟩
    ·simp; omega
  ·have hc4 := hc; clear hc
   have hc4' := of_decide_eq_false hc4
   refine wp_exit ?_
   refine then_x ?_
   refine then_x ?_
   refine inBlock_exit ?_
   refine then_n ?_
   refine rSeq fam1ok 5 [] [(4, vi .i64 (-1))] [(1, .box [.d (.sl 2 (vs.map ziD))])] (by kernel_rfl) h ?_; clear h; intro a w h
   refine wp_ret ?_
   refine retS [.c (.d (.raw (.int .i64 (-1))))] h Exit.ret (.inl rfl)  rfl ⟨RV.tmp _ _ rfl, trivial⟩ ?_ (by kernel_rfl) (by kernel_rfl)
   have hz : idxB pr xs 0 = -1 := by rw [hI2, List.drop_of_length_le (by omega)]; rfl
   rw [hz]; first | done | rfl
set_option maxHeartbeats 4000000 in
theorem SAnyH1 (pr : FormD → Bool) (xs : List FormD) (vs : List ZI) (hf : ∀ x ∈ xs, Fn Tryz.prog 77 [(1, .box [.d (.sl 2 (vs.map ziD))])] [.t (.agg ([.d (.raw (.int .i64 x.kind)), .d (.sl 3 (x.r.t.parts.map Part.d))] ++ zi x.r.t.k ++ [.d (.raw (.bool x.r.eq)), .d (.sl 6 (x.kids.map FormD.d))])), vp 1 0] (vb (pr x)) [(1, .box [.d (.sl 2 (vs.map ziD))])]) (hl : xs.length ≤ 9223372036854775807) : Fn Tryz.prog 79 [(1, .box [.d (.sl 2 (vs.map ziD))])] [.t (.c (.d (.sl 6 (xs.map FormD.d)))), .t (.c (.fn (.func 77) [] [.ptr 1 0]))] (vb (xs.any pr)) [(1, .box [.d (.sl 2 (vs.map ziD))])] := by
 refine Fn.body Tryz.func79 rfl 9 rfl fun w H B a h => ?_
 refine rSeq fam1ok 5 [] [(0, .t (.c (.d (.sl 6 (xs.map FormD.d))))), (1, .t (.c (.fn (.func 77) [] [.ptr 1 0]))), (4, vb false)] [(1, .box [.d (.sl 2 (vs.map ziD))])] (by kernel_rfl) h ?_; clear h; intro a w h
 refine rSeq fam1ok 5 [(2, .call (SIdxH1 pr xs vs hf  hl) ke_7)] [(4, vb (decide (idxB pr xs 0 ≥ 0)))] [(1, .box [.d (.sl 2 (vs.map ziD))])] (by kernel_rfl) h ?_; clear h; intro a w h
 refine wp_ret ?_
 refine retS [.c (.d (.raw (.bool (decide (idxB pr xs 0 ≥ 0)))))] h Exit.ret (.inl rfl)  rfl ⟨RV.tmp _ _ rfl, trivial⟩ ?_ (by kernel_rfl) (by kernel_rfl)
 rw [← idxB_any]; first | done | rfl
set_option maxHeartbeats 4000000 in
theorem SIdxH2 (pr : FormD → Bool) (xs : List FormD) (vs : List ZI) (hf : ∀ x ∈ xs, Fn Tryz.prog 80 [(2, .box [.fn (.func 77) [] [.ptr 1 0]]), (1, .box [.d (.sl 2 (vs.map ziD))])] [.t (.agg ([.d (.raw (.int .i64 x.kind)), .d (.sl 3 (x.r.t.parts.map Part.d))] ++ zi x.r.t.k ++ [.d (.raw (.bool x.r.eq)), .d (.sl 6 (x.kids.map FormD.d))])), vp 2 0] (vb (pr x)) [(2, .box [.fn (.func 77) [] [.ptr 1 0]]), (1, .box [.d (.sl 2 (vs.map ziD))])]) (hl : xs.length ≤ 9223372036854775807) : Fn Tryz.prog 99 [(2, .box [.fn (.func 77) [] [.ptr 1 0]]), (1, .box [.d (.sl 2 (vs.map ziD))])] [.t (.c (.d (.sl 6 (xs.map FormD.d)))), .t (.c (.fn (.func 80) [] [.ptr 2 0]))] (vi .i64 (idxB pr xs 0)) [(2, .box [.fn (.func 77) [] [.ptr 1 0]]), (1, .box [.d (.sl 2 (vs.map ziD))])] := by
 refine Fn.body Tryz.func99 rfl 19 rfl fun w H B a h => ?_
 refine rSeq fam1ok 5 [] [(0, .t (.c (.d (.sl 6 (xs.map FormD.d))))), (1, .t (.c (.fn (.func 80) [] [.ptr 2 0]))), (4, vi .i64 0)] [(2, .box [.fn (.func 77) [] [.ptr 1 0]]), (1, .box [.d (.sl 2 (vs.map ziD))])] (by kernel_rfl) h ?_; clear h; intro a w h
 refine wp_seq ?_
 refine rSeq fam1ok 5 [(1, .len (c := (.d (.sl 6 (xs.map FormD.d)))) (n := xs.length) (lenC_map _ _ _))] [(0, .t (.c (.d (.sl 6 (xs.map FormD.d))))), (1, .t (.c (.fn (.func 80) [] [.ptr 2 0]))), (4, vi .i64 0), (7, vi .i64 (xs.length : Int)), (8, vi .i64 0)] [(2, .box [.fn (.func 77) [] [.ptr 1 0]]), (1, .box [.d (.sl 2 (vs.map ziD))])] (by kernel_rfl) h ?_; clear h; intro a w h
 refine wp_block ?_
 refine loopS (ι := (Nat)) (fun (z_ : (Nat)) => match z_ with | j => j ≤ xs.length ∧ idxB pr xs 0 = idxB pr (xs.drop j) j)
   (fun (z_ : (Nat)) => match z_ with | j => [(0, .t (.c (.d (.sl 6 (xs.map FormD.d))))), (1, .t (.c (.fn (.func 80) [] [.ptr 2 0]))), (7, vi .i64 (xs.length : Int)), (8, vi .i64 (j : Int))])
   (fun (z_ : (Nat)) => match z_ with | j => [(2, .box [.fn (.func 77) [] [.ptr 1 0]]), (1, .box [.d (.sl 2 (vs.map ziD))])])
   (fun (z_ : (Nat)) => match z_ with | j => xs.length - j) 0 ?_ h (by kernel_rfl) (by kernel_rfl) ?_
 ·exact ⟨Nat.zero_le _, rfl⟩
 ·clear h; rintro j a w hI h
  change St _ (F.of [(0, .t (.c (.d (.sl 6 (xs.map FormD.d))))), (1, .t (.c (.fn (.func 80) [] [.ptr 2 0]))), (7, vi .i64 (xs.length : Int)), (8, vi .i64 (j : Int))] [(2, .box [.fn (.func 77) [] [.ptr 1 0]]), (1, .box [.d (.sl 2 (vs.map ziD))])]) a w at h
  obtain ⟨hI1, hI2⟩ := hI
  refine rSeq fam1ok 5 [] [(0, .t (.c (.d (.sl 6 (xs.map FormD.d))))), (1, .t (.c (.fn (.func 80) [] [.ptr 2 0]))), (7, vi .i64 (xs.length : Int)), (8, vi .i64 (j : Int)), (9, vb (decide ((j : Int) < (xs.length : Int))))] [(2, .box [.fn (.func 77) [] [.ptr 1 0]]), (1, .box [.d (.sl 2 (vs.map ziD))])] (by kernel_rfl) h ?_; clear h; intro a w h
  refine wp_seq ?_
  refine condS (decide ((j : Int) < (xs.length : Int))) h rfl (fun hc => ?_) (fun hc => ?_)
  ·have hc1 := hc; clear hc
   have hc1' := of_decide_eq_true hc1
   refine wp_skip ?_
   refine then_n ?_
   refine wp_seq ?_
   refine wp_block ?_
   refine rSeq fam1ok 5 [] [(0, .t (.c (.d (.sl 6 (xs.map FormD.d))))), (1, .t (.c (.fn (.func 80) [] [.ptr 2 0]))), (5, vi .i64 (j : Int)), (7, vi .i64 (xs.length : Int)), (8, vi .i64 (j : Int))] [(2, .box [.fn (.func 77) [] [.ptr 1 0]]), (1, .box [.d (.sl 2 (vs.map ziD))])] (by kernel_rfl) h ?_; clear h; intro a w h
   obtain ⟨x1, hx1⟩ : ∃ z_ : FormD, xs[j]? = some z_ := ⟨_, List.getElem?_eq_getElem (by first | omega | (simp at *; omega))⟩
   refine rSeq fam1ok 5 [(3, .gen _ _ _ fun _ _ _ _ => Op.idxD (d := 14) (t := 12) (k := .i64) kb_0 ((map_at hx1 (f := FormD.d)).trans (congrArg some (FormD.d_eq x1))) (OV.tmp 13 _)), (5, .gen _ _ _ fun _ _ _ _ => Op.callV (d := 16) (t := 11) (cap := [.ptr 2 0]) (args := [.t (.agg ([.d (.raw (.int .i64 x1.kind)), .d (.sl 3 (x1.r.t.parts.map Part.d))] ++ zi x1.r.t.k ++ [.d (.raw (.bool x1.r.eq)), .d (.sl 6 (x1.kids.map FormD.d))]))]) (rs := [(15, .t (.agg ([.d (.raw (.int .i64 x1.kind)), .d (.sl 3 (x1.r.t.parts.map Part.d))] ++ zi x1.r.t.k ++ [.d (.raw (.bool x1.r.eq)), .d (.sl 6 (x1.kids.map FormD.d))])))]) (tys := #[35]) (hf x1 (List.mem_of_getElem? hx1)) ke_8 (OVs.cons (OV.tmp 15 _) (OVs.nil)))] [(0, .t (.c (.d (.sl 6 (xs.map FormD.d))))), (1, .t (.c (.fn (.func 80) [] [.ptr 2 0]))), (5, vi .i64 (j : Int)), (7, vi .i64 (xs.length : Int)), (8, vi .i64 (j : Int)), (16, vb (pr x1))] [(2, .box [.fn (.func 77) [] [.ptr 1 0]]), (1, .box [.d (.sl 2 (vs.map ziD))])] (by kernel_rfl) h ?_; clear h; intro a w h
   refine condS (pr x1) h rfl (fun hc => ?_) (fun hc => ?_)
   ·have hc2 := hc; clear hc
    refine rSeq fam1ok 5 [] [(0, .t (.c (.d (.sl 6 (xs.map FormD.d))))), (1, .t (.c (.fn (.func 80) [] [.ptr 2 0]))), (4, vi .i64 (j : Int)), (7, vi .i64 (xs.length : Int)), (8, vi .i64 (j : Int))] [(2, .box [.fn (.func 77) [] [.ptr 1 0]]), (1, .box [.d (.sl 2 (vs.map ziD))])] (by kernel_rfl) h ?_; clear h; intro a w h
    refine wp_ret ?_
    refine block_r ?_
    refine then_r ?_
    refine then_r ?_
    refine block_r ?_
    refine then_r ?_
    refine retS [.c (.d (.raw (.int .i64 (j : Int))))] h Exit.ret (.inl rfl)  rfl ⟨RV.tmp _ _ rfl, trivial⟩ ?_ (by kernel_rfl) (by kernel_rfl)
    have hz : idxB pr xs 0 = (j : Int) := by rw [hI2, idxB_at hx1, if_pos hc2]
    rw [hz]; first | done | rfl
   ·have hc3 := hc; clear hc
    refine wp_skip ?_
    refine block_n ?_
    refine then_n ?_
    refine rS fam1ok 5 [(0, .add .i64 (m := (j : Int)) (n := 1) (i64_id (by omega) (by omega)))] [(0, .t (.c (.d (.sl 6 (xs.map FormD.d))))), (1, .t (.c (.fn (.func 80) [] [.ptr 2 0]))), (7, vi .i64 (xs.length : Int)), (8, vi .i64 ((j : Int) + 1))] [(2, .box [.fn (.func 77) [] [.ptr 1 0]]), (1, .box [.d (.sl 2 (vs.map ziD))])] (by kernel_rfl) h ?_; clear h; intro a w h
    refine then_n ?_
    refine roundS (x := j) (y := j + 1) h ?_ ?_ (by kernel_rfl) (by kernel_rfl)
    ·exact ⟨by have := at_lt hx1; omega, by rw [hI2, idxB_at hx1, if_neg (by rw [hc3]; exact Bool.noConfusion)]⟩
    ·simp; omega
  ·have hc4 := hc; clear hc
   have hc4' := of_decide_eq_false hc4
   refine wp_exit ?_
   refine then_x ?_
   refine then_x ?_
   refine inBlock_exit ?_
   refine then_n ?_
   refine rSeq fam1ok 5 [] [(4, vi .i64 (-1))] [(2, .box [.fn (.func 77) [] [.ptr 1 0]]), (1, .box [.d (.sl 2 (vs.map ziD))])] (by kernel_rfl) h ?_; clear h; intro a w h
   refine wp_ret ?_
   refine retS [.c (.d (.raw (.int .i64 (-1))))] h Exit.ret (.inl rfl)  rfl ⟨RV.tmp _ _ rfl, trivial⟩ ?_ (by kernel_rfl) (by kernel_rfl)
   have hz : idxB pr xs 0 = -1 := by rw [hI2, List.drop_of_length_le (by omega)]; rfl
   rw [hz]; first | done | rfl
set_option maxHeartbeats 4000000 in
theorem SAnyH2 (pr : FormD → Bool) (xs : List FormD) (vs : List ZI) (hf : ∀ x ∈ xs, Fn Tryz.prog 80 [(2, .box [.fn (.func 77) [] [.ptr 1 0]]), (1, .box [.d (.sl 2 (vs.map ziD))])] [.t (.agg ([.d (.raw (.int .i64 x.kind)), .d (.sl 3 (x.r.t.parts.map Part.d))] ++ zi x.r.t.k ++ [.d (.raw (.bool x.r.eq)), .d (.sl 6 (x.kids.map FormD.d))])), vp 2 0] (vb (pr x)) [(2, .box [.fn (.func 77) [] [.ptr 1 0]]), (1, .box [.d (.sl 2 (vs.map ziD))])]) (hl : xs.length ≤ 9223372036854775807) : Fn Tryz.prog 79 [(2, .box [.fn (.func 77) [] [.ptr 1 0]]), (1, .box [.d (.sl 2 (vs.map ziD))])] [.t (.c (.d (.sl 6 (xs.map FormD.d)))), .t (.c (.fn (.func 80) [] [.ptr 2 0]))] (vb (xs.any pr)) [(2, .box [.fn (.func 77) [] [.ptr 1 0]]), (1, .box [.d (.sl 2 (vs.map ziD))])] := by
 refine Fn.body Tryz.func79 rfl 9 rfl fun w H B a h => ?_
 refine rSeq fam1ok 5 [] [(0, .t (.c (.d (.sl 6 (xs.map FormD.d))))), (1, .t (.c (.fn (.func 80) [] [.ptr 2 0]))), (4, vb false)] [(2, .box [.fn (.func 77) [] [.ptr 1 0]]), (1, .box [.d (.sl 2 (vs.map ziD))])] (by kernel_rfl) h ?_; clear h; intro a w h
 refine rSeq fam1ok 5 [(2, .call (SIdxH2 pr xs vs hf  hl) ke_7)] [(4, vb (decide (idxB pr xs 0 ≥ 0)))] [(2, .box [.fn (.func 77) [] [.ptr 1 0]]), (1, .box [.d (.sl 2 (vs.map ziD))])] (by kernel_rfl) h ?_; clear h; intro a w h
 refine wp_ret ?_
 refine retS [.c (.d (.raw (.bool (decide (idxB pr xs 0 ≥ 0)))))] h Exit.ret (.inl rfl)  rfl ⟨RV.tmp _ _ rfl, trivial⟩ ?_ (by kernel_rfl) (by kernel_rfl)
 rw [← idxB_any]; first | done | rfl
theorem mem_take1 {α : Type} {xs : List α} {x : α} (h : xs[0]? = some x) : x ∈ xs.take 1 := by
 cases xs with
 | nil => cases h
 | cons y ys => simp at h; subst h; simp
theorem cons_of_at {α : Type} {xs : List α} {x : α} (h : xs[0]? = some x) : ∃ tl, xs = x :: tl := by
 cases xs with
 | nil => cases h
 | cons y ys => simp at h; subst h; exact ⟨ys, rfl⟩
set_option maxHeartbeats 4000000 in
theorem SRHolds0 (f : FormD) (vs : List ZI) {L M : Nat} (ih : ∀ g ∈ f.kids, g.ok L → Fn Tryz.prog 49 [] [.t (.agg ([.d (.raw (.int .i64 g.kind)), .d (.sl 3 (g.r.t.parts.map Part.d))] ++ zi g.r.t.k ++ [.d (.raw (.bool g.r.eq)), .d (.sl 6 (g.kids.map FormD.d))])), .t (.c (.d (.sl 2 (vs.map ziD))))] (vb (FormD.holds vs g)) []) (hL : L + M ≤ 20000) (hv : VOk M vs) (hf : f.ok L) (hk : f.kids.length ≤ 9223372036854775807) : Fn Tryz.prog 49 [] [.t (.agg ([.d (.raw (.int .i64 f.kind)), .d (.sl 3 (f.r.t.parts.map Part.d))] ++ zi f.r.t.k ++ [.d (.raw (.bool f.r.eq)), .d (.sl 6 (f.kids.map FormD.d))])), .t (.c (.d (.sl 2 (vs.map ziD))))] (vb (f.holds vs)) [] := by
 refine Fn.body Tryz.func49 rfl 65 rfl fun w H B a h => ?_
 refine rSeq fam1ok 0 [] [(1, .t (.c (.d (.sl 2 (vs.map ziD))))), (2, vp 0 0), (4, vb false)] [(0, .box ([.d (.raw (.int .i64 f.kind)), .d (.sl 3 (f.r.t.parts.map Part.d))] ++ zi f.r.t.k ++ [.d (.raw (.bool f.r.eq)), .d (.sl 6 (f.kids.map FormD.d))]))] (by kernel_rfl) h ?_; clear h; intro a w h
 refine wp_seq ?_
 refine rSeq fam1ok 1 [] [(1, .t (.c (.d (.sl 2 (vs.map ziD))))), (2, vp 0 0), (4, vb false), (8, vi .i64 f.kind)] [(0, .box ([.d (.raw (.int .i64 f.kind)), .d (.sl 3 (f.r.t.parts.map Part.d))] ++ zi f.r.t.k ++ [.d (.raw (.bool f.r.eq)), .d (.sl 6 (f.kids.map FormD.d))]))] (by kernel_rfl) h ?_; clear h; intro a w h
 refine wp_block ?_
 refine rSeq fam1ok 1 [] [(1, .t (.c (.d (.sl 2 (vs.map ziD))))), (2, vp 0 0), (4, vb false), (8, vi .i64 f.kind), (9, vb (f.kind == 0))] [(0, .box ([.d (.raw (.int .i64 f.kind)), .d (.sl 3 (f.r.t.parts.map Part.d))] ++ zi f.r.t.k ++ [.d (.raw (.bool f.r.eq)), .d (.sl 6 (f.kids.map FormD.d))]))] (by kernel_rfl) h ?_; clear h; intro a w h
 refine condS (f.kind == 0) h rfl (fun hc => ?_) (fun hc => ?_)
 ·have hc1 := hc; clear hc
  have hc1' := hc1; (try simp at hc1')
  refine rSeq fam1ok 1 [] [(4, vb true)] [] (by kernel_rfl) h ?_; clear h; intro a w h
  refine wp_ret ?_
  refine block_r ?_
  refine then_r ?_
  refine retS [.c (.d (.raw (.bool true)))] h Exit.ret (.inl rfl)  rfl ⟨RV.tmp _ _ rfl, trivial⟩ ?_ (by kernel_rfl) (by kernel_rfl)
  have hz : f.holds vs = (true) := by rw [FormD.holds_eq, if_pos (by omega)]; first | done | rfl
  rw [hz]; first | done | rfl
 ·have hc2 := hc; clear hc
  have hc2' := hc2; (try simp at hc2')
  refine rSeq fam1ok 1 [] [(1, .t (.c (.d (.sl 2 (vs.map ziD))))), (2, vp 0 0), (4, vb false), (8, vi .i64 f.kind), (11, vb (f.kind == 2))] [(0, .box ([.d (.raw (.int .i64 f.kind)), .d (.sl 3 (f.r.t.parts.map Part.d))] ++ zi f.r.t.k ++ [.d (.raw (.bool f.r.eq)), .d (.sl 6 (f.kids.map FormD.d))]))] (by kernel_rfl) h ?_; clear h; intro a w h
  refine condS (f.kind == 2) h rfl (fun hc => ?_) (fun hc => ?_)
  ·have hc3 := hc; clear hc
   have hc3' := hc3; (try simp at hc3')
   refine rSeq fam1ok 1 [(3, .call (SRrelHolds f.r vs hL hv (((FormD.ok_eq L f).1 hf).1 (by omega))) ke_9)] [(4, vb (relOk vs f.r))] [] (by kernel_rfl) h ?_; clear h; intro a w h
   refine wp_ret ?_
   refine block_r ?_
   refine then_r ?_
   refine retS [.c (.d (.raw (.bool (relOk vs f.r))))] h Exit.ret (.inl rfl)  rfl ⟨RV.tmp _ _ rfl, trivial⟩ ?_ (by kernel_rfl) (by kernel_rfl)
   have hz : f.holds vs = (relOk vs f.r) := by rw [FormD.holds_eq, if_neg (by omega), if_pos (by omega)]; first | done | rfl
   rw [hz]; first | done | rfl
  ·have hc4 := hc; clear hc
   have hc4' := hc4; (try simp at hc4')
   refine rSeq fam1ok 1 [] [(1, .t (.c (.d (.sl 2 (vs.map ziD))))), (2, vp 0 0), (4, vb false), (8, vi .i64 f.kind), (17, vb (f.kind == 3))] [(0, .box ([.d (.raw (.int .i64 f.kind)), .d (.sl 3 (f.r.t.parts.map Part.d))] ++ zi f.r.t.k ++ [.d (.raw (.bool f.r.eq)), .d (.sl 6 (f.kids.map FormD.d))]))] (by kernel_rfl) h ?_; clear h; intro a w h
   refine condS (f.kind == 3) h rfl (fun hc => ?_) (fun hc => ?_)
   ·have hc5 := hc; clear hc
    have hc5' := hc5; (try simp at hc5')
    rcases Bool.eq_false_or_eq_true (decide ((f.kids.length : Int) > 0)) with hc | hc
    ·have hc6 := hc; clear hc
     have hc6' := of_decide_eq_true hc6
     obtain ⟨x2, hx2⟩ : ∃ z_ : FormD, f.kids[0]? = some z_ := ⟨_, List.getElem?_eq_getElem (by first | omega | (simp at *; omega))⟩
     refine rSeq fam1ok 1 [(2, .len (c := (.d (.sl 6 (f.kids.map FormD.d)))) (n := f.kids.length) (lenC_map _ _ _)), (3, .cmp (op := .gtr) (m := (f.kids.length : Int)) (n := 0) (b := true) .i64 hc6), (7, .gen _ _ _ fun _ _ _ _ => Op.idxD (d := 26) (t := 25) (k := .i64) kb_0 ((map_at hx2 (f := FormD.d)).trans (congrArg some (FormD.d_eq x2))) (OV.const (.int .i64 0) rfl)), (10, .call (ih x2 (List.mem_of_getElem? hx2) (((FormD.ok_eq L f).1 hf).2 _ (by unfold cnt; first | (rw [if_pos (by omega)]; exact List.mem_of_getElem? hx2) | (rw [if_neg (by omega), if_pos (by omega)]; exact mem_take1 hx2)))) ke_10)] [(4, vb (!(FormD.holds vs x2)))] [] (by kernel_rfl) h ?_; clear h; intro a w h
     refine wp_ret ?_
     refine block_r ?_
     refine then_r ?_
     refine retS [.c (.d (.raw (.bool (!(FormD.holds vs x2)))))] h Exit.ret (.inl rfl)  rfl ⟨RV.tmp _ _ rfl, trivial⟩ ?_ (by kernel_rfl) (by kernel_rfl)
     have hz : f.holds vs = (!(FormD.holds vs x2)) := by rw [FormD.holds_eq, if_neg (by omega), if_neg (by omega), if_pos (by omega)]; obtain ⟨tl, htl⟩ := cons_of_at hx2; rw [htl]; first | done | rfl
     rw [hz]; first | done | rfl
    ·have hc7 := hc; clear hc
     have hc7' := of_decide_eq_false hc7
     refine rSeq fam1ok 1 [(2, .len (c := (.d (.sl 6 (f.kids.map FormD.d)))) (n := f.kids.length) (lenC_map _ _ _)), (3, .cmp (op := .gtr) (m := (f.kids.length : Int)) (n := 0) (b := false) .i64 hc7)] [(4, vb false)] [] (by kernel_rfl) h ?_; clear h; intro a w h
     refine wp_ret ?_
     refine block_r ?_
     refine then_r ?_
     refine retS [.c (.d (.raw (.bool false)))] h Exit.ret (.inl rfl)  rfl ⟨RV.tmp _ _ rfl, trivial⟩ ?_ (by kernel_rfl) (by kernel_rfl)
     have hz : f.holds vs = (false) := by rw [FormD.holds_eq, if_neg (by omega), if_neg (by omega), if_pos (by omega)]; rw [List.length_eq_zero_iff.1 (show f.kids.length = 0 by have := of_decide_eq_false hc7; omega)]; first | done | rfl
     rw [hz]; first | done | rfl
   ·have hc8 := hc; clear hc
    have hc8' := hc8; (try simp at hc8')
    refine rSeq fam1ok 1 [] [(1, .t (.c (.d (.sl 2 (vs.map ziD))))), (2, vp 0 0), (4, vb false), (8, vi .i64 f.kind), (32, vb (f.kind == 4))] [(0, .box ([.d (.raw (.int .i64 f.kind)), .d (.sl 3 (f.r.t.parts.map Part.d))] ++ zi f.r.t.k ++ [.d (.raw (.bool f.r.eq)), .d (.sl 6 (f.kids.map FormD.d))]))] (by kernel_rfl) h ?_; clear h; intro a w h
    refine condS (f.kind == 4) h rfl (fun hc => ?_) (fun hc => ?_)
    ·have hc9 := hc; clear hc
     have hc9' := hc9; (try simp at hc9')
     refine wp_seq ?_
     refine rSeq fam1ok 1 [] [(1, .t (.c (.d (.sl 2 (vs.map ziD))))), (2, vp 0 0), (4, vb false), (5, vi .i64 0)] [(0, .box ([.d (.raw (.int .i64 f.kind)), .d (.sl 3 (f.r.t.parts.map Part.d))] ++ zi f.r.t.k ++ [.d (.raw (.bool f.r.eq)), .d (.sl 6 (f.kids.map FormD.d))]))] (by kernel_rfl) h ?_; clear h; intro a w h
     refine wp_block ?_
     refine loopS (ι := (Nat)) (fun (z_ : (Nat)) => match z_ with | j => j ≤ f.kids.length ∧ (f.kids.take j).all (FormD.holds vs) = true)
       (fun (z_ : (Nat)) => match z_ with | j => [(1, .t (.c (.d (.sl 2 (vs.map ziD))))), (2, vp 0 0), (5, vi .i64 (j : Int))])
       (fun (z_ : (Nat)) => match z_ with | j => [(0, .box ([.d (.raw (.int .i64 f.kind)), .d (.sl 3 (f.r.t.parts.map Part.d))] ++ zi f.r.t.k ++ [.d (.raw (.bool f.r.eq)), .d (.sl 6 (f.kids.map FormD.d))]))])
       (fun (z_ : (Nat)) => match z_ with | j => f.kids.length - j) 0 ?_ h (by kernel_rfl) (by kernel_rfl) ?_
     ·exact ⟨Nat.zero_le _, rfl⟩
     ·clear h; rintro j a w hI h
      change St _ (F.of [(1, .t (.c (.d (.sl 2 (vs.map ziD))))), (2, vp 0 0), (5, vi .i64 (j : Int))] [(0, .box ([.d (.raw (.int .i64 f.kind)), .d (.sl 3 (f.r.t.parts.map Part.d))] ++ zi f.r.t.k ++ [.d (.raw (.bool f.r.eq)), .d (.sl 6 (f.kids.map FormD.d))]))]) a w at h
      obtain ⟨hI1, hI2⟩ := hI
      refine wp_seq ?_
      refine rSeq fam1ok 1 [(3, .len (c := (.d (.sl 6 (f.kids.map FormD.d)))) (n := f.kids.length) (lenC_map _ _ _))] [(1, .t (.c (.d (.sl 2 (vs.map ziD))))), (2, vp 0 0), (5, vi .i64 (j : Int)), (38, vb (decide ((j : Int) < (f.kids.length : Int))))] [(0, .box ([.d (.raw (.int .i64 f.kind)), .d (.sl 3 (f.r.t.parts.map Part.d))] ++ zi f.r.t.k ++ [.d (.raw (.bool f.r.eq)), .d (.sl 6 (f.kids.map FormD.d))]))] (by kernel_rfl) h ?_; clear h; intro a w h
      refine condS (decide ((j : Int) < (f.kids.length : Int))) h rfl (fun hc => ?_) (fun hc => ?_)
      ·have hc10 := hc; clear hc
       have hc10' := of_decide_eq_true hc10
       refine wp_skip ?_
       refine then_n ?_
       refine wp_seq ?_
       refine wp_block ?_
       obtain ⟨x4, hx4⟩ : ∃ z_ : FormD, f.kids[j]? = some z_ := ⟨_, List.getElem?_eq_getElem (by first | omega | (simp at *; omega))⟩
       refine rSeq fam1ok 1 [(3, .gen _ _ _ fun _ _ _ _ => Op.idxD (d := 44) (t := 42) (k := .i64) kb_0 ((map_at hx4 (f := FormD.d)).trans (congrArg some (FormD.d_eq x4))) (OV.tmp 43 _)), (6, .call (ih x4 (List.mem_of_getElem? hx4) (((FormD.ok_eq L f).1 hf).2 _ (by unfold cnt; first | (rw [if_pos (by omega)]; exact List.mem_of_getElem? hx4) | (rw [if_neg (by omega), if_pos (by omega)]; exact mem_take1 hx4)))) ke_10)] [(1, .t (.c (.d (.sl 2 (vs.map ziD))))), (2, vp 0 0), (5, vi .i64 (j : Int)), (48, vb (!(FormD.holds vs x4)))] [(0, .box ([.d (.raw (.int .i64 f.kind)), .d (.sl 3 (f.r.t.parts.map Part.d))] ++ zi f.r.t.k ++ [.d (.raw (.bool f.r.eq)), .d (.sl 6 (f.kids.map FormD.d))]))] (by kernel_rfl) h ?_; clear h; intro a w h
       refine condS (!(FormD.holds vs x4)) h rfl (fun hc => ?_) (fun hc => ?_)
       ·have hc11 := hc; clear hc
        have hc11' := hc11; (try simp at hc11')
        refine rSeq fam1ok 1 [] [(1, .t (.c (.d (.sl 2 (vs.map ziD))))), (2, vp 0 0), (4, vb false), (5, vi .i64 (j : Int))] [(0, .box ([.d (.raw (.int .i64 f.kind)), .d (.sl 3 (f.r.t.parts.map Part.d))] ++ zi f.r.t.k ++ [.d (.raw (.bool f.r.eq)), .d (.sl 6 (f.kids.map FormD.d))]))] (by kernel_rfl) h ?_; clear h; intro a w h
        refine wp_ret ?_
        refine block_r ?_
        refine then_r ?_
        refine then_r ?_
        refine block_r ?_
        refine then_r ?_
        refine block_r ?_
        refine then_r ?_
        refine retS [.c (.d (.raw (.bool false)))] h Exit.ret (.inl rfl)  rfl ⟨RV.tmp _ _ rfl, trivial⟩ ?_ (by kernel_rfl) (by kernel_rfl)
        have hz : f.holds vs = (false) := by rw [FormD.holds_eq, if_neg (by omega), if_neg (by omega), if_neg (by omega), if_pos (by omega)]; exact all_stop hx4 (show (FormD.holds vs x4) = false from by simpa using hc11)
        rw [hz]; first | done | rfl
       ·have hc12 := hc; clear hc
        have hc12' := hc12; (try simp at hc12')
        refine wp_skip ?_
        refine block_n ?_
        refine then_n ?_
        refine rS fam1ok 1 [(1, .add .i64 (m := (j : Int)) (n := 1) (i64_id (by omega) (by omega)))] [(1, .t (.c (.d (.sl 2 (vs.map ziD))))), (2, vp 0 0), (5, vi .i64 ((j : Int) + 1))] [(0, .box ([.d (.raw (.int .i64 f.kind)), .d (.sl 3 (f.r.t.parts.map Part.d))] ++ zi f.r.t.k ++ [.d (.raw (.bool f.r.eq)), .d (.sl 6 (f.kids.map FormD.d))]))] (by kernel_rfl) h ?_; clear h; intro a w h
        refine then_n ?_
        refine roundS (x := j) (y := j + 1) h ?_ ?_ (by kernel_rfl) (by kernel_rfl)
        ·exact ⟨by have := at_lt hx4; omega, all_step hx4 hI2 (show (FormD.holds vs x4) = true from by simpa using hc12)⟩
        ·show f.kids.length - (j + 1) < f.kids.length - j
         have := at_lt hx4; omega
      ·have hc13 := hc; clear hc
       have hc13' := of_decide_eq_false hc13
       refine wp_exit ?_
       refine then_x ?_
       refine then_x ?_
       refine inBlock_exit ?_
       refine then_n ?_
       refine rSeq fam1ok 1 [] [(4, vb true)] [] (by kernel_rfl) h ?_; clear h; intro a w h
       refine wp_ret ?_
       refine block_r ?_
       refine then_r ?_
       refine retS [.c (.d (.raw (.bool true)))] h Exit.ret (.inl rfl)  rfl ⟨RV.tmp _ _ rfl, trivial⟩ ?_ (by kernel_rfl) (by kernel_rfl)
       have hz : f.holds vs = (true) := by rw [FormD.holds_eq, if_neg (by omega), if_neg (by omega), if_neg (by omega), if_pos (by omega)]; exact all_end (of_decide_eq_false hc13) hI2
       rw [hz]; first | done | rfl
    ·have hc14 := hc; clear hc
     have hc14' := hc14; (try simp at hc14')
     refine rSeq fam1ok 1 [] [(1, .t (.c (.d (.sl 2 (vs.map ziD))))), (2, vp 0 0), (4, vb false), (49, vb (f.kind == 5))] [(0, .box ([.d (.raw (.int .i64 f.kind)), .d (.sl 3 (f.r.t.parts.map Part.d))] ++ zi f.r.t.k ++ [.d (.raw (.bool f.r.eq)), .d (.sl 6 (f.kids.map FormD.d))]))] (by kernel_rfl) h ?_; clear h; intro a w h
     refine condS (f.kind == 5) h rfl (fun hc => ?_) (fun hc => ?_)
     ·have hc15 := hc; clear hc
      have hc15' := hc15; (try simp at hc15')
      refine rSeq fam1ok 1 [] [(1, .t (.c (.d (.sl 2 (vs.map ziD))))), (2, vp 0 0), (4, vb false), (6, vi .i64 0)] [(0, .box ([.d (.raw (.int .i64 f.kind)), .d (.sl 3 (f.r.t.parts.map Part.d))] ++ zi f.r.t.k ++ [.d (.raw (.bool f.r.eq)), .d (.sl 6 (f.kids.map FormD.d))]))] (by kernel_rfl) h ?_; clear h; intro a w h
      refine wp_block ?_
      refine loopS (ι := (Nat)) (fun (z_ : (Nat)) => match z_ with | j => j ≤ f.kids.length ∧ (f.kids.take j).any (FormD.holds vs) = false)
        (fun (z_ : (Nat)) => match z_ with | j => [(1, .t (.c (.d (.sl 2 (vs.map ziD))))), (2, vp 0 0), (6, vi .i64 (j : Int))])
        (fun (z_ : (Nat)) => match z_ with | j => [(0, .box ([.d (.raw (.int .i64 f.kind)), .d (.sl 3 (f.r.t.parts.map Part.d))] ++ zi f.r.t.k ++ [.d (.raw (.bool f.r.eq)), .d (.sl 6 (f.kids.map FormD.d))]))])
        (fun (z_ : (Nat)) => match z_ with | j => f.kids.length - j) 0 ?_ h (by kernel_rfl) (by kernel_rfl) ?_
      ·exact ⟨Nat.zero_le _, rfl⟩
      ·clear h; rintro j a w hI h
       change St _ (F.of [(1, .t (.c (.d (.sl 2 (vs.map ziD))))), (2, vp 0 0), (6, vi .i64 (j : Int))] [(0, .box ([.d (.raw (.int .i64 f.kind)), .d (.sl 3 (f.r.t.parts.map Part.d))] ++ zi f.r.t.k ++ [.d (.raw (.bool f.r.eq)), .d (.sl 6 (f.kids.map FormD.d))]))]) a w at h
       obtain ⟨hI1, hI2⟩ := hI
       refine wp_seq ?_
       refine rSeq fam1ok 1 [(3, .len (c := (.d (.sl 6 (f.kids.map FormD.d)))) (n := f.kids.length) (lenC_map _ _ _))] [(1, .t (.c (.d (.sl 2 (vs.map ziD))))), (2, vp 0 0), (6, vi .i64 (j : Int)), (55, vb (decide ((j : Int) < (f.kids.length : Int))))] [(0, .box ([.d (.raw (.int .i64 f.kind)), .d (.sl 3 (f.r.t.parts.map Part.d))] ++ zi f.r.t.k ++ [.d (.raw (.bool f.r.eq)), .d (.sl 6 (f.kids.map FormD.d))]))] (by kernel_rfl) h ?_; clear h; intro a w h
       refine condS (decide ((j : Int) < (f.kids.length : Int))) h rfl (fun hc => ?_) (fun hc => ?_)
       ·have hc16 := hc; clear hc
        have hc16' := of_decide_eq_true hc16
        refine wp_skip ?_
        refine then_n ?_
        refine wp_seq ?_
        refine wp_block ?_
        obtain ⟨x6, hx6⟩ : ∃ z_ : FormD, f.kids[j]? = some z_ := ⟨_, List.getElem?_eq_getElem (by first | omega | (simp at *; omega))⟩
        refine rSeq fam1ok 1 [(3, .gen _ _ _ fun _ _ _ _ => Op.idxD (d := 61) (t := 59) (k := .i64) kb_0 ((map_at hx6 (f := FormD.d)).trans (congrArg some (FormD.d_eq x6))) (OV.tmp 60 _)), (6, .call (ih x6 (List.mem_of_getElem? hx6) (((FormD.ok_eq L f).1 hf).2 _ (by unfold cnt; first | (rw [if_pos (by omega)]; exact List.mem_of_getElem? hx6) | (rw [if_neg (by omega), if_pos (by omega)]; exact mem_take1 hx6)))) ke_10)] [(1, .t (.c (.d (.sl 2 (vs.map ziD))))), (2, vp 0 0), (6, vi .i64 (j : Int)), (64, vb (FormD.holds vs x6))] [(0, .box ([.d (.raw (.int .i64 f.kind)), .d (.sl 3 (f.r.t.parts.map Part.d))] ++ zi f.r.t.k ++ [.d (.raw (.bool f.r.eq)), .d (.sl 6 (f.kids.map FormD.d))]))] (by kernel_rfl) h ?_; clear h; intro a w h
        refine condS (FormD.holds vs x6) h rfl (fun hc => ?_) (fun hc => ?_)
        ·have hc17 := hc; clear hc
         refine rSeq fam1ok 1 [] [(1, .t (.c (.d (.sl 2 (vs.map ziD))))), (2, vp 0 0), (4, vb true), (6, vi .i64 (j : Int))] [(0, .box ([.d (.raw (.int .i64 f.kind)), .d (.sl 3 (f.r.t.parts.map Part.d))] ++ zi f.r.t.k ++ [.d (.raw (.bool f.r.eq)), .d (.sl 6 (f.kids.map FormD.d))]))] (by kernel_rfl) h ?_; clear h; intro a w h
         refine wp_ret ?_
         refine block_r ?_
         refine then_r ?_
         refine then_r ?_
         refine block_r ?_
         refine block_r ?_
         refine then_r ?_
         refine retS [.c (.d (.raw (.bool true)))] h Exit.ret (.inl rfl)  rfl ⟨RV.tmp _ _ rfl, trivial⟩ ?_ (by kernel_rfl) (by kernel_rfl)
         have hz : f.holds vs = (true) := by rw [FormD.holds_eq, if_neg (by omega), if_neg (by omega), if_neg (by omega), if_neg (by omega), if_pos (by omega)]; exact any_stop hx6 hc17
         rw [hz]; first | done | rfl
        ·have hc18 := hc; clear hc
         refine wp_skip ?_
         refine block_n ?_
         refine then_n ?_
         refine rS fam1ok 1 [(1, .add .i64 (m := (j : Int)) (n := 1) (i64_id (by omega) (by omega)))] [(1, .t (.c (.d (.sl 2 (vs.map ziD))))), (2, vp 0 0), (6, vi .i64 ((j : Int) + 1))] [(0, .box ([.d (.raw (.int .i64 f.kind)), .d (.sl 3 (f.r.t.parts.map Part.d))] ++ zi f.r.t.k ++ [.d (.raw (.bool f.r.eq)), .d (.sl 6 (f.kids.map FormD.d))]))] (by kernel_rfl) h ?_; clear h; intro a w h
         refine then_n ?_
         refine roundS (x := j) (y := j + 1) h ?_ ?_ (by kernel_rfl) (by kernel_rfl)
         ·exact ⟨by have := at_lt hx6; omega, any_step hx6 hI2 hc18⟩
         ·show f.kids.length - (j + 1) < f.kids.length - j
          have := at_lt hx6; omega
       ·have hc19 := hc; clear hc
        have hc19' := of_decide_eq_false hc19
        refine wp_exit ?_
        refine then_x ?_
        refine then_x ?_
        refine inBlock_exit ?_
        refine block_n ?_
        refine then_n ?_
        refine rSeq fam1ok 1 [] [(4, vb false)] [] (by kernel_rfl) h ?_; clear h; intro a w h
        refine wp_ret ?_
        refine retS [.c (.d (.raw (.bool false)))] h Exit.ret (.inl rfl)  rfl ⟨RV.tmp _ _ rfl, trivial⟩ ?_ (by kernel_rfl) (by kernel_rfl)
        have hz : f.holds vs = (false) := by rw [FormD.holds_eq, if_neg (by omega), if_neg (by omega), if_neg (by omega), if_neg (by omega), if_pos (by omega)]; exact any_end (of_decide_eq_false hc19) hI2
        rw [hz]; first | done | rfl
     ·have hc20 := hc; clear hc
      have hc20' := hc20; (try simp at hc20')
      refine wp_skip ?_
      refine block_n ?_
      refine then_n ?_
      refine rSeq fam1ok 1 [] [(4, vb false)] [] (by kernel_rfl) h ?_; clear h; intro a w h
      refine wp_ret ?_
      refine retS [.c (.d (.raw (.bool false)))] h Exit.ret (.inl rfl)  rfl ⟨RV.tmp _ _ rfl, trivial⟩ ?_ (by kernel_rfl) (by kernel_rfl)
      have hz : f.holds vs = (false) := by rw [FormD.holds_eq, if_neg (by omega), if_neg (by omega), if_neg (by omega), if_neg (by omega), if_neg (by omega)]; first | done | rfl
      rw [hz]; first | done | rfl
set_option maxHeartbeats 4000000 in
theorem SHolds0 (f : FormD) (vs : List ZI) {L M : Nat} (ih : ∀ g ∈ f.kids, g.ok L → Fn Tryz.prog 48 [] [.t (.agg ([.d (.raw (.int .i64 g.kind)), .d (.sl 3 (g.r.t.parts.map Part.d))] ++ zi g.r.t.k ++ [.d (.raw (.bool g.r.eq)), .d (.sl 6 (g.kids.map FormD.d))])), .t (.c (.d (.sl 2 (vs.map ziD))))] (vb (FormD.holds vs g)) []) (hL : L + M ≤ 20000) (hv : VOk M vs) (hf : f.ok L) (hk : f.kids.length ≤ 9223372036854775807) : Fn Tryz.prog 48 [] [.t (.agg ([.d (.raw (.int .i64 f.kind)), .d (.sl 3 (f.r.t.parts.map Part.d))] ++ zi f.r.t.k ++ [.d (.raw (.bool f.r.eq)), .d (.sl 6 (f.kids.map FormD.d))])), .t (.c (.d (.sl 2 (vs.map ziD))))] (vb (f.holds vs)) [] := by
 refine Fn.body Tryz.func48 rfl 45 rfl fun w H B a h => ?_
 refine rSeq fam1ok 0 [] [(2, vp 0 0), (3, vp 1 0), (4, vb false)] [(0, .box ([.d (.raw (.int .i64 f.kind)), .d (.sl 3 (f.r.t.parts.map Part.d))] ++ zi f.r.t.k ++ [.d (.raw (.bool f.r.eq)), .d (.sl 6 (f.kids.map FormD.d))])), (1, .box [.d (.sl 2 (vs.map ziD))])] (by kernel_rfl) h ?_; clear h; intro a w h
 refine rSeq fam1ok 2 [(0, .gen _ _ _ fun _ _ _ _ => Op.makeFs (d := 6) (fn := .func 77) [(3, 1, 0)])] [(2, vp 0 0), (3, vp 1 0), (4, vb false), (5, vp 2 0)] [(0, .box ([.d (.raw (.int .i64 f.kind)), .d (.sl 3 (f.r.t.parts.map Part.d))] ++ zi f.r.t.k ++ [.d (.raw (.bool f.r.eq)), .d (.sl 6 (f.kids.map FormD.d))])), (1, .box [.d (.sl 2 (vs.map ziD))]), (2, .box [.fn (.func 77) [] [.ptr 1 0]])] (by kernel_rfl) h ?_; clear h; intro a w h
 refine wp_seq ?_
 refine rSeq fam1ok 3 [] [(2, vp 0 0), (3, vp 1 0), (4, vb false), (5, vp 2 0), (8, vi .i64 f.kind)] [(0, .box ([.d (.raw (.int .i64 f.kind)), .d (.sl 3 (f.r.t.parts.map Part.d))] ++ zi f.r.t.k ++ [.d (.raw (.bool f.r.eq)), .d (.sl 6 (f.kids.map FormD.d))])), (1, .box [.d (.sl 2 (vs.map ziD))]), (2, .box [.fn (.func 77) [] [.ptr 1 0]])] (by kernel_rfl) h ?_; clear h; intro a w h
 refine wp_block ?_
 refine rSeq fam1ok 3 [] [(2, vp 0 0), (3, vp 1 0), (4, vb false), (5, vp 2 0), (8, vi .i64 f.kind), (9, vb (f.kind == 0))] [(0, .box ([.d (.raw (.int .i64 f.kind)), .d (.sl 3 (f.r.t.parts.map Part.d))] ++ zi f.r.t.k ++ [.d (.raw (.bool f.r.eq)), .d (.sl 6 (f.kids.map FormD.d))])), (1, .box [.d (.sl 2 (vs.map ziD))]), (2, .box [.fn (.func 77) [] [.ptr 1 0]])] (by kernel_rfl) h ?_; clear h; intro a w h
 refine condS (f.kind == 0) h rfl (fun hc => ?_) (fun hc => ?_)
 ·have hc1 := hc; clear hc
  have hc1' := hc1; (try simp at hc1')
  refine rSeq fam1ok 3 [] [(4, vb true)] [] (by kernel_rfl) h ?_; clear h; intro a w h
  refine wp_ret ?_
  refine block_r ?_
  refine then_r ?_
  refine retS [.c (.d (.raw (.bool true)))] h Exit.ret (.inl rfl)  rfl ⟨RV.tmp _ _ rfl, trivial⟩ ?_ (by kernel_rfl) (by kernel_rfl)
  have hz : f.holds vs = (true) := by rw [FormD.holds_eq, if_pos (by omega)]; first | done | rfl
  rw [hz]; first | done | rfl
 ·have hc2 := hc; clear hc
  have hc2' := hc2; (try simp at hc2')
  refine rSeq fam1ok 3 [] [(2, vp 0 0), (3, vp 1 0), (4, vb false), (5, vp 2 0), (8, vi .i64 f.kind), (11, vb (f.kind == 2))] [(0, .box ([.d (.raw (.int .i64 f.kind)), .d (.sl 3 (f.r.t.parts.map Part.d))] ++ zi f.r.t.k ++ [.d (.raw (.bool f.r.eq)), .d (.sl 6 (f.kids.map FormD.d))])), (1, .box [.d (.sl 2 (vs.map ziD))]), (2, .box [.fn (.func 77) [] [.ptr 1 0]])] (by kernel_rfl) h ?_; clear h; intro a w h
  refine condS (f.kind == 2) h rfl (fun hc => ?_) (fun hc => ?_)
  ·have hc3 := hc; clear hc
   have hc3' := hc3; (try simp at hc3')
   refine rSeq fam1ok 3 [(3, .call (SrelHolds f.r vs hL hv (((FormD.ok_eq L f).1 hf).1 (by omega))) ke_11)] [(4, vb (relOk vs f.r))] [] (by kernel_rfl) h ?_; clear h; intro a w h
   refine wp_ret ?_
   refine block_r ?_
   refine then_r ?_
   refine retS [.c (.d (.raw (.bool (relOk vs f.r))))] h Exit.ret (.inl rfl)  rfl ⟨RV.tmp _ _ rfl, trivial⟩ ?_ (by kernel_rfl) (by kernel_rfl)
   have hz : f.holds vs = (relOk vs f.r) := by rw [FormD.holds_eq, if_neg (by omega), if_pos (by omega)]; first | done | rfl
   rw [hz]; first | done | rfl
  ·have hc4 := hc; clear hc
   have hc4' := hc4; (try simp at hc4')
   refine rSeq fam1ok 3 [] [(2, vp 0 0), (4, vb false), (5, vp 2 0), (8, vi .i64 f.kind), (17, vb (f.kind == 3))] [(0, .box ([.d (.raw (.int .i64 f.kind)), .d (.sl 3 (f.r.t.parts.map Part.d))] ++ zi f.r.t.k ++ [.d (.raw (.bool f.r.eq)), .d (.sl 6 (f.kids.map FormD.d))])), (1, .box [.d (.sl 2 (vs.map ziD))]), (2, .box [.fn (.func 77) [] [.ptr 1 0]])] (by kernel_rfl) h ?_; clear h; intro a w h
   refine condS (f.kind == 3) h rfl (fun hc => ?_) (fun hc => ?_)
   ·have hc5 := hc; clear hc
    have hc5' := hc5; (try simp at hc5')
    rcases Bool.eq_false_or_eq_true (decide ((f.kids.length : Int) > 0)) with hc | hc
    ·have hc6 := hc; clear hc
     have hc6' := of_decide_eq_true hc6
     obtain ⟨x2, hx2⟩ : ∃ z_ : FormD, f.kids[0]? = some z_ := ⟨_, List.getElem?_eq_getElem (by first | omega | (simp at *; omega))⟩
     refine rSeq fam1ok 3 [(2, .len (c := (.d (.sl 6 (f.kids.map FormD.d)))) (n := f.kids.length) (lenC_map _ _ _)), (3, .cmp (op := .gtr) (m := (f.kids.length : Int)) (n := 0) (b := true) .i64 hc6), (8, .gen _ _ _ fun _ _ _ _ => Op.idxD (d := 27) (t := 26) (k := .i64) kb_0 ((map_at hx2 (f := FormD.d)).trans (congrArg some (FormD.d_eq x2))) (OV.const (.int .i64 0) rfl)), (10, .gen _ _ _ fun _ _ _ _ => Op.callV (d := 29) (t := 24) (cap := [.ptr 1 0]) (args := [.t (.agg ([.d (.raw (.int .i64 x2.kind)), .d (.sl 3 (x2.r.t.parts.map Part.d))] ++ zi x2.r.t.k ++ [.d (.raw (.bool x2.r.eq)), .d (.sl 6 (x2.kids.map FormD.d))]))]) (rs := [(28, .t (.agg ([.d (.raw (.int .i64 x2.kind)), .d (.sl 3 (x2.r.t.parts.map Part.d))] ++ zi x2.r.t.k ++ [.d (.raw (.bool x2.r.eq)), .d (.sl 6 (x2.kids.map FormD.d))])))]) (tys := #[35]) (SHolds1 x2 vs (ih x2 (List.mem_of_getElem? hx2) (((FormD.ok_eq L f).1 hf).2 _ (by unfold cnt; first | (rw [if_pos (by omega)]; exact List.mem_of_getElem? hx2) | (rw [if_neg (by omega), if_pos (by omega)]; exact mem_take1 hx2))))) ke_5 (OVs.cons (OV.tmp 28 _) (OVs.nil)))] [(4, vb (!(FormD.holds vs x2)))] [] (by kernel_rfl) h ?_; clear h; intro a w h
     refine wp_ret ?_
     refine block_r ?_
     refine then_r ?_
     refine retS [.c (.d (.raw (.bool (!(FormD.holds vs x2)))))] h Exit.ret (.inl rfl)  rfl ⟨RV.tmp _ _ rfl, trivial⟩ ?_ (by kernel_rfl) (by kernel_rfl)
     have hz : f.holds vs = (!(FormD.holds vs x2)) := by rw [FormD.holds_eq, if_neg (by omega), if_neg (by omega), if_pos (by omega)]; obtain ⟨tl, htl⟩ := cons_of_at hx2; rw [htl]; first | done | rfl
     rw [hz]; first | done | rfl
    ·have hc7 := hc; clear hc
     have hc7' := of_decide_eq_false hc7
     refine rSeq fam1ok 3 [(2, .len (c := (.d (.sl 6 (f.kids.map FormD.d)))) (n := f.kids.length) (lenC_map _ _ _)), (3, .cmp (op := .gtr) (m := (f.kids.length : Int)) (n := 0) (b := false) .i64 hc7)] [(4, vb false)] [] (by kernel_rfl) h ?_; clear h; intro a w h
     refine wp_ret ?_
     refine block_r ?_
     refine then_r ?_
     refine retS [.c (.d (.raw (.bool false)))] h Exit.ret (.inl rfl)  rfl ⟨RV.tmp _ _ rfl, trivial⟩ ?_ (by kernel_rfl) (by kernel_rfl)
     have hz : f.holds vs = (false) := by rw [FormD.holds_eq, if_neg (by omega), if_neg (by omega), if_pos (by omega)]; rw [List.length_eq_zero_iff.1 (show f.kids.length = 0 by have := of_decide_eq_false hc7; omega)]; first | done | rfl
     rw [hz]; first | done | rfl
   ·have hc8 := hc; clear hc
    have hc8' := hc8; (try simp at hc8')
    refine rSeq fam1ok 3 [] [(2, vp 0 0), (4, vb false), (5, vp 2 0), (8, vi .i64 f.kind), (32, vb (f.kind == 4))] [(0, .box ([.d (.raw (.int .i64 f.kind)), .d (.sl 3 (f.r.t.parts.map Part.d))] ++ zi f.r.t.k ++ [.d (.raw (.bool f.r.eq)), .d (.sl 6 (f.kids.map FormD.d))])), (1, .box [.d (.sl 2 (vs.map ziD))]), (2, .box [.fn (.func 77) [] [.ptr 1 0]])] (by kernel_rfl) h ?_; clear h; intro a w h
    refine condS (f.kind == 4) h rfl (fun hc => ?_) (fun hc => ?_)
    ·have hc9 := hc; clear hc
     have hc9' := hc9; (try simp at hc9')
     refine rSeq fam1ok 3 [(2, .gen _ _ _ fun _ _ _ _ => Op.makeFs (d := 36) (fn := .func 80) [(5, 2, 0)]), (3, .call (SAnyH2 (fun g => !FormD.holds vs g) f.kids vs (fun g hg => SHolds2 g vs (ih g hg (((FormD.ok_eq L f).1 hf).2 _ (by unfold cnt; rw [if_pos (by omega)]; exact hg)))) hk) ke_12)] [(4, vb (!(f.kids.any (fun g => !FormD.holds vs g))))] [] (by kernel_rfl) h ?_; clear h; intro a w h
     refine wp_ret ?_
     refine block_r ?_
     refine then_r ?_
     refine retS [.c (.d (.raw (.bool (!(f.kids.any (fun g => !FormD.holds vs g))))))] h Exit.ret (.inl rfl)  rfl ⟨RV.tmp _ _ rfl, trivial⟩ ?_ (by kernel_rfl) (by kernel_rfl)
     have hz : f.holds vs = (!(f.kids.any (fun g => !FormD.holds vs g))) := by rw [FormD.holds_eq, if_neg (by omega), if_neg (by omega), if_neg (by omega), if_pos (by omega)]; rw [List.all_eq_not_any_not]; first | done | rfl
     rw [hz]; first | done | rfl
    ·have hc10 := hc; clear hc
     have hc10' := hc10; (try simp at hc10')
     refine rSeq fam1ok 3 [] [(2, vp 0 0), (4, vb false), (5, vp 2 0), (39, vb (f.kind == 5))] [(0, .box ([.d (.raw (.int .i64 f.kind)), .d (.sl 3 (f.r.t.parts.map Part.d))] ++ zi f.r.t.k ++ [.d (.raw (.bool f.r.eq)), .d (.sl 6 (f.kids.map FormD.d))])), (1, .box [.d (.sl 2 (vs.map ziD))]), (2, .box [.fn (.func 77) [] [.ptr 1 0]])] (by kernel_rfl) h ?_; clear h; intro a w h
     refine condS (f.kind == 5) h rfl (fun hc => ?_) (fun hc => ?_)
     ·have hc11 := hc; clear hc
      have hc11' := hc11; (try simp at hc11')
      refine rSeq fam1ok 3 [(3, .call (SAnyH1 (FormD.holds vs) f.kids vs (fun g hg => SHolds1 g vs (ih g hg (((FormD.ok_eq L f).1 hf).2 _ (by unfold cnt; rw [if_pos (by omega)]; exact hg)))) hk) ke_12)] [(4, vb (f.kids.any (FormD.holds vs)))] [] (by kernel_rfl) h ?_; clear h; intro a w h
      refine wp_ret ?_
      refine block_r ?_
      refine then_r ?_
      refine retS [.c (.d (.raw (.bool (f.kids.any (FormD.holds vs)))))] h Exit.ret (.inl rfl)  rfl ⟨RV.tmp _ _ rfl, trivial⟩ ?_ (by kernel_rfl) (by kernel_rfl)
      have hz : f.holds vs = (f.kids.any (FormD.holds vs)) := by rw [FormD.holds_eq, if_neg (by omega), if_neg (by omega), if_neg (by omega), if_neg (by omega), if_pos (by omega)]; first | done | rfl
      rw [hz]; first | done | rfl
     ·have hc12 := hc; clear hc
      have hc12' := hc12; (try simp at hc12')
      refine wp_skip ?_
      refine block_n ?_
      refine then_n ?_
      refine rSeq fam1ok 3 [] [(4, vb false)] [] (by kernel_rfl) h ?_; clear h; intro a w h
      refine wp_ret ?_
      refine retS [.c (.d (.raw (.bool false)))] h Exit.ret (.inl rfl)  rfl ⟨RV.tmp _ _ rfl, trivial⟩ ?_ (by kernel_rfl) (by kernel_rfl)
      have hz : f.holds vs = (false) := by rw [FormD.holds_eq, if_neg (by omega), if_neg (by omega), if_neg (by omega), if_neg (by omega), if_neg (by omega)]; first | done | rfl
      rw [hz]; first | done | rfl
theorem SRHolds (vs : List ZI) {L M : Nat} (hL : L + M ≤ 20000) (hv : VOk M vs) (f : FormD) : f.lb → f.ok L → Fn Tryz.prog 49 [] [.t (.agg ([.d (.raw (.int .i64 f.kind)), .d (.sl 3 (f.r.t.parts.map Part.d))] ++ zi f.r.t.k ++ [.d (.raw (.bool f.r.eq)), .d (.sl 6 (f.kids.map FormD.d))])), .t (.c (.d (.sl 2 (vs.map ziD))))] (vb (FormD.holds vs f)) [] :=
 FormD.ind (P := fun f => f.lb → f.ok L → Fn Tryz.prog 49 [] [.t (.agg ([.d (.raw (.int .i64 f.kind)), .d (.sl 3 (f.r.t.parts.map Part.d))] ++ zi f.r.t.k ++ [.d (.raw (.bool f.r.eq)), .d (.sl 6 (f.kids.map FormD.d))])), .t (.c (.d (.sl 2 (vs.map ziD))))] (vb (FormD.holds vs f)) []) (fun k r ks ih hl hf => by
  have hl := (FormD.lb_eq _).1 hl
  exact SRHolds0 ⟨k, r, ks⟩ vs (fun g hg h => ih g hg (hl.2 g hg) h) hL hv hf hl.1.2) f
theorem SHolds (vs : List ZI) {L M : Nat} (hL : L + M ≤ 20000) (hv : VOk M vs) (f : FormD) : f.lb → f.ok L → Fn Tryz.prog 48 [] [.t (.agg ([.d (.raw (.int .i64 f.kind)), .d (.sl 3 (f.r.t.parts.map Part.d))] ++ zi f.r.t.k ++ [.d (.raw (.bool f.r.eq)), .d (.sl 6 (f.kids.map FormD.d))])), .t (.c (.d (.sl 2 (vs.map ziD))))] (vb (FormD.holds vs f)) [] :=
 FormD.ind (P := fun f => f.lb → f.ok L → Fn Tryz.prog 48 [] [.t (.agg ([.d (.raw (.int .i64 f.kind)), .d (.sl 3 (f.r.t.parts.map Part.d))] ++ zi f.r.t.k ++ [.d (.raw (.bool f.r.eq)), .d (.sl 6 (f.kids.map FormD.d))])), .t (.c (.d (.sl 2 (vs.map ziD))))] (vb (FormD.holds vs f)) []) (fun k r ks ih hl hf => by
  have hl := (FormD.lb_eq _).1 hl
  exact SHolds0 ⟨k, r, ks⟩ vs (fun g hg h => ih g hg (hl.2 g hg) h) hL hv hf hl.1.2) f
end Go.Proofs.YtmohlifepfjmdaaGreat.S
end
section
namespace Go.Proofs.YtmohlifepfjmdaaGreat.S
open Go.RowKit

theorem kf_0 : SlT Tryz.prog 23 76 5 := SlT.mk' Tryz.underlying23 (by kernel_rfl)
theorem kf_1 : Sz Tryz.prog 76 5 true := Sz.mk' (by kernel_rfl) Tryz.underlying76 _ rfl
theorem kf_2 : Bodied Tryz.prog 50 := Bodied.mk' (by kernel_rfl)
theorem kf_3 : Bodied Tryz.prog 51 := Bodied.mk' (by kernel_rfl)
theorem kf_5 : SlT Tryz.prog 36 96 3 := SlT.mk' Tryz.underlying36 (by kernel_rfl)
theorem kf_7 : Bodied Tryz.prog 44 := Bodied.mk' (by kernel_rfl)
def zero0 : ZI := ⟨false, []⟩
def bnd0 : BoundD := ⟨false, zero0, zero0⟩
def bndAt (s : SysD) (v : Nat) : BoundD := (s.bounds[v]?).getD bnd0
def withinB (b : BoundD) (n : ZI) : Bool := !b.is_ || (decide (cmpZ b.lo.val n.val ≤ 0) && decide (cmpZ n.val b.hi.val ≤ 0))
def nlocs (s : SysD) (i : Nat) : Nat := ((s.procs[i]?).map fun p => p.locs.length).getD 0
def locOk (s : SysD) (x : StD) (i : Nat) : Bool := decide (0 ≤ (x.locs[i]?).getD 0 ∧ (x.locs[i]?).getD 0 < (nlocs s i : Int))
def valOk (s : SysD) (x : StD) (v : Nat) : Bool := withinB (bndAt s v) ((x.vals[v]?).getD zero0)
def fits (s : SysD) (x : StD) : Bool := decide (x.locs.length = s.procs.length ∧ x.vals.length = s.vars.length) && (allN x.locs.length (locOk s x) && allN x.vals.length (valOk s x))
def first (s : SysD) (x : StD) : Bool := (fits s x && !x.locs.any fun l => l != 0) && s.init.holds x.vals
def sameS (x y : StD) : Bool := decide (x.locs = y.locs) && decide (x.vals.map ZI.val = y.vals.map ZI.val)
def ZOk (L : Nat) (z : ZI) : Prop := Lb z.abs ∧ z.abs.length ≤ L
structure ActOk (L : Nat) (a : ActD) : Prop where
  guard : a.guard.lb ∧ a.guard.ok L
  len : a.moves.length ≤ 20
  mv : ∀ m ∈ a.moves, TOk 20 L m.t
structure SysOk (L : Nat) (s : SysD) : Prop where
  vars : s.vars.length ≤ 8
  bnds : s.bounds.length ≤ 20
  procs : s.procs.length ≤ 6
  acts : s.acts.length ≤ 20
  bnd : ∀ b ∈ s.bounds, ZOk L b.lo ∧ ZOk L b.hi
  init : s.init.lb ∧ s.init.ok L
  act : ∀ a ∈ s.acts, ActOk L a
structure StOk (M : Nat) (x : StD) : Prop where
  locs : x.locs.length ≤ 10
  vals : x.vals.length ≤ 10
  val : ∀ z ∈ x.vals, ZOk M z
theorem StOk.vok {M : Nat} {x : StD} (h : StOk M x) : VOk M x.vals := ⟨Nat.le_trans h.vals (by decide), h.val⟩
theorem StOk.mono {M M' : Nat} {x : StD} (h : StOk M x) (hm : M ≤ M') : StOk M' x := ⟨h.locs, h.vals, fun z hz => ⟨(h.val z hz).1, Nat.le_trans (h.val z hz).2 hm⟩⟩
theorem ZOk.zero {L : Nat} : ZOk L zero0 := ⟨Lb_nil, Nat.zero_le _⟩
theorem bnd_ok {L : Nat} {s : SysD} (h : SysOk L s) (v : Nat) : ZOk L (bndAt s v).lo ∧ ZOk L (bndAt s v).hi := by
 unfold bndAt
 cases hb : s.bounds[v]? with
 | none => exact ⟨ZOk.zero, ZOk.zero⟩
 | some b => exact h.bnd b (List.mem_of_getElem? hb)
theorem cmpZ_geI (x y : Int) : decide (cmpZ x y ≥ 0) = decide (cmpZ y x ≤ 0) := by unfold cmpZ; split <;> split <;> (try split) <;> simp <;> omega
theorem cmpZ_0 (x y : Int) : (cmpZ x y == 0) = decide (x = y) := by unfold cmpZ; split; simp; omega; split <;> simp <;> omega
theorem cmpZ_n0 (x y : Int) : (cmpZ x y != 0) = !decide (x = y) := by rw [bne, cmpZ_0]
set_option maxHeartbeats 4000000 in
theorem Sbound (s : SysD) (v : Nat) (_hb : s.bounds.length ≤ 9223372036854775807) : Fn Tryz.prog 50 [] [.t (.agg (sysC s)), vi .i64 (v : Int)] (.t (.agg ([.d (.raw (.bool (bndAt s v).is_))] ++ zi (bndAt s v).lo ++ zi (bndAt s v).hi))) [] := by
 refine Fn.body Tryz.func50 rfl 16 rfl fun w H B a h => ?_
 refine rSeq fam0ok 0 [] [(1, vi .i64 (v : Int)), (2, vp 0 0), (4, vp 1 0)] [(0, .box (sysC s)), (1, .box [.d (.raw (.bool false)), .d (.raw (.bool false)), .d (nsl []), .d (.raw (.bool false)), .d (nsl [])])] (by kernel_rfl) h ?_; clear h; intro a w h
 refine wp_seq ?_
 refine rSeq fam0ok 2 [(3, .len (c := (.d (.sl 5 (s.bounds.map BoundD.d)))) (n := s.bounds.length) (lenC_map _ _ _))] [(1, vi .i64 (v : Int)), (2, vp 0 0), (4, vp 1 0), (9, vb (decide ((v : Int) < (s.bounds.length : Int))))] [(0, .box (sysC s)), (1, .box [.d (.raw (.bool false)), .d (.raw (.bool false)), .d (nsl []), .d (.raw (.bool false)), .d (nsl [])])] (by kernel_rfl) h ?_; clear h; intro a w h
 refine condS (decide ((v : Int) < (s.bounds.length : Int))) h rfl (fun hc => ?_) (fun hc => ?_)
 ·have hc1 := hc; clear hc
  have hc1' := of_decide_eq_true hc1
  obtain ⟨x1, hx1⟩ : ∃ z_ : BoundD, s.bounds[v]? = some z_ := ⟨_, List.getElem?_eq_getElem (by first | omega | (simp at *; omega))⟩
  refine rSeq fam0ok 2 [(3, .gen _ _ _ fun _ _ _ _ => Op.idxD (d := 13) (t := 11) (k := .i64) kf_0 (map_at hx1 (f := BoundD.d)) (OV.tmp 12 _))] [(4, vp 1 0)] [(1, .box ([.d (.raw (.bool x1.is_))] ++ zi x1.lo ++ zi x1.hi))] (by kernel_rfl) h ?_; clear h; intro a w h
  refine wp_ret ?_
  refine then_r ?_
  refine retS [.agg ([.d (.raw (.bool x1.is_))] ++ zi x1.lo ++ zi x1.hi)] h Exit.ret (.inl rfl)  rfl ⟨RV.agg _ 1 0 _ _ _ _ kf_1 rfl rfl rfl rfl, trivial⟩ ?_ (by kernel_rfl) (by kernel_rfl)
  have hz : bndAt s v = x1 := by unfold bndAt; rw [hx1]; rfl
  rw [hz]; first | done | rfl
 ·have hc2 := hc; clear hc
  have hc2' := of_decide_eq_false hc2
  refine wp_skip ?_
  refine then_n ?_
  refine rSeq fam0ok 2 [] [(4, vp 1 0)] [(1, .box [.d (.raw (.bool false)), .d (.raw (.bool false)), .d (nsl []), .d (.raw (.bool false)), .d (nsl [])])] (by kernel_rfl) h ?_; clear h; intro a w h
  refine wp_ret ?_
  refine retS [.agg [.d (.raw (.bool false)), .d (.raw (.bool false)), .d (nsl []), .d (.raw (.bool false)), .d (nsl [])]] h Exit.ret (.inl rfl)  rfl ⟨RV.agg _ 1 0 _ _ _ _ kf_1 rfl rfl rfl rfl, trivial⟩ ?_ (by kernel_rfl) (by kernel_rfl)
  have hz : bndAt s v = bnd0 := by unfold bndAt; rw [List.getElem?_eq_none (by have := of_decide_eq_false hc2; omega)]; rfl
  rw [hz]; first | done | rfl
set_option maxHeartbeats 4000000 in
theorem Swithin (s : SysD) (v : Nat) (n : ZI) {L M : Nat} (hL : L + M ≤ 10000) (hs : SysOk L s) (hn : ZOk M n) : Fn Tryz.prog 44 [] [.t (.agg (sysC s)), vi .i64 (v : Int), vz n] (vb (withinB (bndAt s v) n)) [] := by
 have lb1 := (bnd_ok hs v).1.2
 have lb2 := (bnd_ok hs v).2.2
 have ln := hn.2
 refine Fn.body Tryz.func44 rfl 28 rfl fun w H B a h => ?_
 refine rSeq fam0ok 0 [] [(1, vi .i64 (v : Int)), (3, vp 0 0), (5, vp 1 0), (6, vb false)] [(0, .box (sysC s)), (1, .box (zi n))] (by kernel_rfl) h ?_; clear h; intro a w h
 refine rSeq fam0ok 2 [(2, .call (Sbound s v (by have := hs.bnds; omega)) kf_2)] [(5, vp 1 0), (6, vb false), (7, vp 2 0)] [(1, .box (zi n)), (2, .box ([.d (.raw (.bool (bndAt s v).is_))] ++ zi (bndAt s v).lo ++ zi (bndAt s v).hi))] (by kernel_rfl) h ?_; clear h; intro a w h
 rcases Bool.eq_false_or_eq_true (bndAt s v).is_ with hc | hc
 ·have hc1 := hc; clear hc
  rw [hc1] at h
  rcases Bool.eq_false_or_eq_true (decide (cmpZ (bndAt s v).lo.val n.val ≤ 0)) with hc | hc
  ·have hc2 := hc; clear hc
   have hc2' := of_decide_eq_true hc2
   refine rSeq fam0ok 3 [(7, .call (SCmp (bndAt s v).lo n (bnd_ok hs v).1.1 hn.1 (by omega) (by omega)) kf_3), (8, .cmp (op := .leq) (m := (cmpZ (bndAt s v).lo.val n.val)) (n := 0) (b := true) .i64 hc2), (13, .call (SCmp n (bndAt s v).hi hn.1 (bnd_ok hs v).2.1 (by omega) (by omega)) kf_3)] [(6, vb (decide (cmpZ n.val (bndAt s v).hi.val ≤ 0)))] [] (by kernel_rfl) h ?_; clear h; intro a w h
   refine wp_ret ?_
   refine retS [.c (.d (.raw (.bool (decide (cmpZ n.val (bndAt s v).hi.val ≤ 0)))))] h Exit.ret (.inl rfl)  rfl ⟨RV.tmp _ _ rfl, trivial⟩ ?_ (by kernel_rfl) (by kernel_rfl)
   have hz : withinB (bndAt s v) n = (decide (cmpZ n.val (bndAt s v).hi.val ≤ 0)) := by
    unfold withinB; simp only [hc1, hc2]
    first | done | rfl
   rw [hz]; first | done | rfl
  ·have hc3 := hc; clear hc
   have hc3' := of_decide_eq_false hc3
   refine rSeq fam0ok 3 [(7, .call (SCmp (bndAt s v).lo n (bnd_ok hs v).1.1 hn.1 (by omega) (by omega)) kf_3), (8, .cmp (op := .leq) (m := (cmpZ (bndAt s v).lo.val n.val)) (n := 0) (b := false) .i64 hc3)] [(6, vb false)] [] (by kernel_rfl) h ?_; clear h; intro a w h
   refine wp_ret ?_
   refine retS [.c (.d (.raw (.bool false)))] h Exit.ret (.inl rfl)  rfl ⟨RV.tmp _ _ rfl, trivial⟩ ?_ (by kernel_rfl) (by kernel_rfl)
   have hz : withinB (bndAt s v) n = (false) := by
    unfold withinB; simp only [hc1, hc3]
    first | done | rfl
   rw [hz]; first | done | rfl
 ·have hc4 := hc; clear hc
  rw [hc4] at h
  refine rSeq fam0ok 3 [] [(6, vb true)] [] (by kernel_rfl) h ?_; clear h; intro a w h
  refine wp_ret ?_
  refine retS [.c (.d (.raw (.bool true)))] h Exit.ret (.inl rfl)  rfl ⟨RV.tmp _ _ rfl, trivial⟩ ?_ (by kernel_rfl) (by kernel_rfl)
  have hz : withinB (bndAt s v) n = (true) := by
   unfold withinB; simp only [hc4]
   first | done | rfl
  rw [hz]; first | done | rfl
set_option maxHeartbeats 4000000 in
theorem SFits (s : SysD) (x : StD) {L M : Nat} (hL : L + M ≤ 10000) (hs : SysOk L s) (hx : StOk M x) : Fn Tryz.prog 13 [] [.t (.agg (sysC s)), .t (.agg [.d (.sl 1 (x.locs.map intD)), .d (.sl 2 (x.vals.map ziD))])] (vb (fits s x)) [] := by
 have lx1 := hx.locs
 have lx2 := hx.vals
 have ls1 := hs.vars
 have ls2 := hs.procs
 refine Fn.body Tryz.func13 rfl 61 rfl fun w H B a h => ?_
 refine rSeq fam0ok 0 [] [(2, vp 0 0), (3, vp 1 0), (4, vb false)] [(0, .box (sysC s)), (1, .box [.d (.sl 1 (x.locs.map intD)), .d (.sl 2 (x.vals.map ziD))])] (by kernel_rfl) h ?_; clear h; intro a w h
 refine wp_seq ?_
 rcases Bool.eq_false_or_eq_true ((x.locs.length : Int) != (s.procs.length : Int)) with hc | hc
 ·have hc1 := hc; clear hc
  have hc1' := hc1; (try simp at hc1')
  refine rSeq fam0ok 2 [(2, .len (c := (.d (.sl 1 (x.locs.map intD)))) (n := x.locs.length) (lenC_map _ _ _)), (5, .len (c := (.d (.sl 3 (s.procs.map ProcD.d)))) (n := s.procs.length) (lenC_map _ _ _)), (6, .cmp (op := .neq) (m := (x.locs.length : Int)) (n := (s.procs.length : Int)) (b := true) .i64 hc1)] [(2, vp 0 0), (3, vp 1 0), (4, vb false), (24, vb true)] [(0, .box (sysC s)), (1, .box [.d (.sl 1 (x.locs.map intD)), .d (.sl 2 (x.vals.map ziD))])] (by kernel_rfl) h ?_; clear h; intro a w h
  refine condS true h rfl (fun hc => ?_) (fun hc => ?_)
  ·clear hc
   refine rSeq fam0ok 2 [] [(2, vp 0 0), (3, vp 1 0), (4, vb false)] [(0, .box (sysC s)), (1, .box [.d (.sl 1 (x.locs.map intD)), .d (.sl 2 (x.vals.map ziD))])] (by kernel_rfl) h ?_; clear h; intro a w h
   refine wp_ret ?_
   refine then_r ?_
   refine retS [.c (.d (.raw (.bool false)))] h Exit.ret (.inl rfl)  rfl ⟨RV.tmp _ _ rfl, trivial⟩ ?_ (by kernel_rfl) (by kernel_rfl)
   have hz : fits s x = false := by unfold fits; rw [decide_eq_false (by have := hc1; simp at this; omega)]; rfl
   rw [hz]; first | done | rfl
  ·cases hc
 ·have hc2 := hc; clear hc
  have hc2' := hc2; (try simp at hc2')
  refine rSeq fam0ok 2 [(2, .len (c := (.d (.sl 1 (x.locs.map intD)))) (n := x.locs.length) (lenC_map _ _ _)), (5, .len (c := (.d (.sl 3 (s.procs.map ProcD.d)))) (n := s.procs.length) (lenC_map _ _ _)), (6, .cmp (op := .neq) (m := (x.locs.length : Int)) (n := (s.procs.length : Int)) (b := false) .i64 hc2), (10, .len (c := (.d (.sl 2 (x.vals.map ziD)))) (n := x.vals.length) (lenC_map _ _ _)), (13, .len (c := (.d (.sl 1 (s.vars.map strD)))) (n := s.vars.length) (lenC_map _ _ _))] [(2, vp 0 0), (3, vp 1 0), (4, vb false), (24, vb ((x.vals.length : Int) != (s.vars.length : Int)))] [(0, .box (sysC s)), (1, .box [.d (.sl 1 (x.locs.map intD)), .d (.sl 2 (x.vals.map ziD))])] (by kernel_rfl) h ?_; clear h; intro a w h
  refine condS ((x.vals.length : Int) != (s.vars.length : Int)) h rfl (fun hc => ?_) (fun hc => ?_)
  ·have hc3 := hc; clear hc
   have hc3' := hc3; (try simp at hc3')
   refine rSeq fam0ok 2 [] [(2, vp 0 0), (3, vp 1 0), (4, vb false)] [(0, .box (sysC s)), (1, .box [.d (.sl 1 (x.locs.map intD)), .d (.sl 2 (x.vals.map ziD))])] (by kernel_rfl) h ?_; clear h; intro a w h
   refine wp_ret ?_
   refine then_r ?_
   refine retS [.c (.d (.raw (.bool false)))] h Exit.ret (.inl rfl)  rfl ⟨RV.tmp _ _ rfl, trivial⟩ ?_ (by kernel_rfl) (by kernel_rfl)
   have hz : fits s x = false := by unfold fits; rw [decide_eq_false (by have := hc3; simp at this; omega)]; rfl
   rw [hz]; first | done | rfl
  ·have hc4 := hc; clear hc
   have hc4' := hc4; (try simp at hc4')
   refine wp_skip ?_
   refine then_n ?_
   refine wp_seq ?_
   refine rSeq fam0ok 2 [(2, .len (c := (.d (.sl 1 (x.locs.map intD)))) (n := x.locs.length) (lenC_map _ _ _))] [(2, vp 0 0), (3, vp 1 0), (4, vb false), (26, .t (.c (.d (.sl 1 (x.locs.map intD))))), (27, vi .i64 (x.locs.length : Int)), (28, vi .i64 0)] [(0, .box (sysC s)), (1, .box [.d (.sl 1 (x.locs.map intD)), .d (.sl 2 (x.vals.map ziD))])] (by kernel_rfl) h ?_; clear h; intro a w h
   refine wp_block ?_
   refine loopS (ι := (Nat)) (fun (z_ : (Nat)) => match z_ with | j => j ≤ x.locs.length ∧ allN j (locOk s x) = true)
     (fun (z_ : (Nat)) => match z_ with | j => [(2, vp 0 0), (3, vp 1 0), (26, .t (.c (.d (.sl 1 (x.locs.map intD))))), (27, vi .i64 (x.locs.length : Int)), (28, vi .i64 (j : Int))])
     (fun (z_ : (Nat)) => match z_ with | j => [(0, .box (sysC s)), (1, .box [.d (.sl 1 (x.locs.map intD)), .d (.sl 2 (x.vals.map ziD))])])
     (fun (z_ : (Nat)) => match z_ with | j => x.locs.length - j) 0 ?_ h (by kernel_rfl) (by kernel_rfl) ?_
   ·exact ⟨Nat.zero_le _, rfl⟩
   ·clear h; rintro j a w hI h
    change St _ (F.of [(2, vp 0 0), (3, vp 1 0), (26, .t (.c (.d (.sl 1 (x.locs.map intD))))), (27, vi .i64 (x.locs.length : Int)), (28, vi .i64 (j : Int))] [(0, .box (sysC s)), (1, .box [.d (.sl 1 (x.locs.map intD)), .d (.sl 2 (x.vals.map ziD))])]) a w at h
    obtain ⟨hI1, hI2⟩ := hI
    refine rSeq fam0ok 2 [] [(2, vp 0 0), (3, vp 1 0), (26, .t (.c (.d (.sl 1 (x.locs.map intD))))), (27, vi .i64 (x.locs.length : Int)), (28, vi .i64 (j : Int)), (29, vb (decide ((j : Int) < (x.locs.length : Int))))] [(0, .box (sysC s)), (1, .box [.d (.sl 1 (x.locs.map intD)), .d (.sl 2 (x.vals.map ziD))])] (by kernel_rfl) h ?_; clear h; intro a w h
    refine wp_seq ?_
    refine condS (decide ((j : Int) < (x.locs.length : Int))) h rfl (fun hc => ?_) (fun hc => ?_)
    ·have hc5 := hc; clear hc
     have hc5' := of_decide_eq_true hc5
     refine wp_skip ?_
     refine then_n ?_
     refine wp_seq ?_
     refine wp_block ?_
     obtain ⟨x1, hx1⟩ : ∃ z_ : Int, x.locs[j]? = some z_ := ⟨_, List.getElem?_eq_getElem (by first | omega | (simp at *; omega))⟩
     refine rSeq fam0ok 2 [(1, .gen _ _ _ fun _ _ _ _ => Op.idxD (d := 31) (t := 26) (k := .i64) tb_1 (map_at hx1 (f := intD)) (OV.tmp 28 _))] [(2, vp 0 0), (3, vp 1 0), (5, vi .i64 (j : Int)), (6, vi .i64 x1), (26, .t (.c (.d (.sl 1 (x.locs.map intD))))), (27, vi .i64 (x.locs.length : Int)), (28, vi .i64 (j : Int))] [(0, .box (sysC s)), (1, .box [.d (.sl 1 (x.locs.map intD)), .d (.sl 2 (x.vals.map ziD))])] (by kernel_rfl) h ?_; clear h; intro a w h
     rcases Bool.eq_false_or_eq_true (decide (x1 < 0)) with hc | hc
     ·have hc6 := hc; clear hc
      have hc6' := of_decide_eq_true hc6
      refine rSeq fam0ok 2 [(1, .cmp (op := .lss) (m := x1) (n := 0) (b := true) .i64 hc6)] [(2, vp 0 0), (3, vp 1 0), (26, .t (.c (.d (.sl 1 (x.locs.map intD))))), (27, vi .i64 (x.locs.length : Int)), (28, vi .i64 (j : Int)), (45, vb true)] [(0, .box (sysC s)), (1, .box [.d (.sl 1 (x.locs.map intD)), .d (.sl 2 (x.vals.map ziD))])] (by kernel_rfl) h ?_; clear h; intro a w h
      refine condS true h rfl (fun hc => ?_) (fun hc => ?_)
      ·clear hc
       refine rSeq fam0ok 2 [] [(2, vp 0 0), (3, vp 1 0), (4, vb false), (26, .t (.c (.d (.sl 1 (x.locs.map intD))))), (27, vi .i64 (x.locs.length : Int)), (28, vi .i64 (j : Int))] [(0, .box (sysC s)), (1, .box [.d (.sl 1 (x.locs.map intD)), .d (.sl 2 (x.vals.map ziD))])] (by kernel_rfl) h ?_; clear h; intro a w h
       refine wp_ret ?_
       refine block_r ?_
       refine then_r ?_
       refine then_r ?_
       refine block_r ?_
       refine then_r ?_
       refine retS [.c (.d (.raw (.bool false)))] h Exit.ret (.inl rfl)  rfl ⟨RV.tmp _ _ rfl, trivial⟩ ?_ (by kernel_rfl) (by kernel_rfl)
       have hz : fits s x = false := by unfold fits; rw [decide_eq_true (by have h1 := hc2; have h2 := hc4; simp at h1 h2; omega), Bool.true_and]; rw [allN_fail (at_lt hx1) (show locOk s x j = false by unfold locOk nlocs; rw [hx1]; exact decide_eq_false (by have := of_decide_eq_true hc6; intro h; have := h.1; simp at this; omega))]; rfl
       rw [hz]; first | done | rfl
      ·cases hc
     ·have hc7 := hc; clear hc
      have hc7' := of_decide_eq_false hc7
      obtain ⟨x2, hx2⟩ : ∃ z_ : ProcD, s.procs[j]? = some z_ := ⟨_, List.getElem?_eq_getElem (by first | omega | (simp at *; omega))⟩
      refine rSeq fam0ok 2 [(1, .cmp (op := .lss) (m := x1) (n := 0) (b := false) .i64 hc7), (7, .gen _ _ _ fun _ _ _ _ => Op.idxD (d := 40) (t := 38) (k := .i64) kf_5 (map_at hx2 (f := ProcD.d)) (OV.tmp 39 _)), (10, .len (c := (.d (.sl 1 (x2.locs.map strD)))) (n := x2.locs.length) (lenC_map _ _ _))] [(2, vp 0 0), (3, vp 1 0), (26, .t (.c (.d (.sl 1 (x.locs.map intD))))), (27, vi .i64 (x.locs.length : Int)), (28, vi .i64 (j : Int)), (45, vb (decide (x1 ≥ (x2.locs.length : Int))))] [(0, .box (sysC s)), (1, .box [.d (.sl 1 (x.locs.map intD)), .d (.sl 2 (x.vals.map ziD))])] (by kernel_rfl) h ?_; clear h; intro a w h
      refine condS (decide (x1 ≥ (x2.locs.length : Int))) h rfl (fun hc => ?_) (fun hc => ?_)
      ·have hc8 := hc; clear hc
       have hc8' := of_decide_eq_true hc8
       refine rSeq fam0ok 2 [] [(2, vp 0 0), (3, vp 1 0), (4, vb false), (26, .t (.c (.d (.sl 1 (x.locs.map intD))))), (27, vi .i64 (x.locs.length : Int)), (28, vi .i64 (j : Int))] [(0, .box (sysC s)), (1, .box [.d (.sl 1 (x.locs.map intD)), .d (.sl 2 (x.vals.map ziD))])] (by kernel_rfl) h ?_; clear h; intro a w h
       refine wp_ret ?_
       refine block_r ?_
       refine then_r ?_
       refine then_r ?_
       refine block_r ?_
       refine then_r ?_
       refine retS [.c (.d (.raw (.bool false)))] h Exit.ret (.inl rfl)  rfl ⟨RV.tmp _ _ rfl, trivial⟩ ?_ (by kernel_rfl) (by kernel_rfl)
       have hz : fits s x = false := by unfold fits; rw [decide_eq_true (by have h1 := hc2; have h2 := hc4; simp at h1 h2; omega), Bool.true_and]; rw [allN_fail (at_lt hx1) (show locOk s x j = false by unfold locOk nlocs; rw [hx1, hx2]; exact decide_eq_false (by have := of_decide_eq_true hc8; intro h; have := h.2; simp at this; omega))]; rfl
       rw [hz]; first | done | rfl
      ·have hc9 := hc; clear hc
       have hc9' := of_decide_eq_false hc9
       refine wp_skip ?_
       refine block_n ?_
       refine then_n ?_
       refine rS fam0ok 2 [(0, .add .i64 (m := (j : Int)) (n := 1) (i64_id (by omega) (by omega)))] [(2, vp 0 0), (3, vp 1 0), (26, .t (.c (.d (.sl 1 (x.locs.map intD))))), (27, vi .i64 (x.locs.length : Int)), (28, vi .i64 ((j : Int) + 1))] [(0, .box (sysC s)), (1, .box [.d (.sl 1 (x.locs.map intD)), .d (.sl 2 (x.vals.map ziD))])] (by kernel_rfl) h ?_; clear h; intro a w h
       refine then_n ?_
       refine roundS (x := j) (y := j + 1) h ?_ ?_ (by kernel_rfl) (by kernel_rfl)
       ·have := at_lt hx1
        exact ⟨by omega, allN_step hI2 (by unfold locOk nlocs; rw [hx1, hx2]; exact decide_eq_true ⟨by have := of_decide_eq_false hc7; simpa using this, by have := of_decide_eq_false hc9; simpa using this⟩)⟩
       ·show x.locs.length - (j + 1) < x.locs.length - j
        have := at_lt hx1; omega
    ·have hc10 := hc; clear hc
     have hc10' := of_decide_eq_false hc10
     refine wp_exit ?_
     refine then_x ?_
     refine then_x ?_
     refine inBlock_exit ?_
     refine then_n ?_
     refine wp_seq ?_
     refine rSeq fam0ok 2 [(2, .len (c := (.d (.sl 2 (x.vals.map ziD)))) (n := x.vals.length) (lenC_map _ _ _))] [(2, vp 0 0), (48, .t (.c (.d (.sl 2 (x.vals.map ziD))))), (49, vi .i64 (x.vals.length : Int)), (50, vi .i64 0)] [(0, .box (sysC s))] (by kernel_rfl) h ?_; clear h; intro a w h
     refine wp_block ?_
     refine loopS (ι := (Nat)) (fun (z_ : (Nat)) => match z_ with | i => i ≤ x.vals.length ∧ allN i (valOk s x) = true)
       (fun (z_ : (Nat)) => match z_ with | i => [(2, vp 0 0), (48, .t (.c (.d (.sl 2 (x.vals.map ziD))))), (49, vi .i64 (x.vals.length : Int)), (50, vi .i64 (i : Int))])
       (fun (z_ : (Nat)) => match z_ with | i => [(0, .box (sysC s))])
       (fun (z_ : (Nat)) => match z_ with | i => x.vals.length - i) 0 ?_ h (by kernel_rfl) (by kernel_rfl) ?_
     ·exact ⟨Nat.zero_le _, rfl⟩
     ·clear h; rintro i a w hI h
      change St _ (F.of [(2, vp 0 0), (48, .t (.c (.d (.sl 2 (x.vals.map ziD))))), (49, vi .i64 (x.vals.length : Int)), (50, vi .i64 (i : Int))] [(0, .box (sysC s))]) a w at h
      obtain ⟨hJ1, hJ2⟩ := hI
      refine rSeq fam0ok 2 [] [(2, vp 0 0), (48, .t (.c (.d (.sl 2 (x.vals.map ziD))))), (49, vi .i64 (x.vals.length : Int)), (50, vi .i64 (i : Int)), (51, vb (decide ((i : Int) < (x.vals.length : Int))))] [(0, .box (sysC s))] (by kernel_rfl) h ?_; clear h; intro a w h
      refine wp_seq ?_
      refine condS (decide ((i : Int) < (x.vals.length : Int))) h rfl (fun hc => ?_) (fun hc => ?_)
      ·have hc11 := hc; clear hc
       have hc11' := of_decide_eq_true hc11
       refine wp_skip ?_
       refine then_n ?_
       refine wp_seq ?_
       refine wp_block ?_
       obtain ⟨x3, hx3⟩ : ∃ z_ : ZI, x.vals[i]? = some z_ := ⟨_, List.getElem?_eq_getElem (by first | omega | (simp at *; omega))⟩
       have gx3 := hx.val x3 (List.mem_of_getElem? hx3)
       refine rSeq fam0ok 2 [(1, .gen _ _ _ fun _ _ _ _ => Op.idxD (d := 53) (t := 48) (k := .i64) tt_6 (map_at hx3 (f := ziD)) (OV.tmp 50 _))] [(2, vp 0 0), (7, vi .i64 (i : Int)), (8, vp 2 0), (48, .t (.c (.d (.sl 2 (x.vals.map ziD))))), (49, vi .i64 (x.vals.length : Int)), (50, vi .i64 (i : Int))] [(0, .box (sysC s)), (2, .box (zi x3))] (by kernel_rfl) h ?_; clear h; intro a w h
       refine rSeq fam0ok 3 [(3, .call (Swithin s i x3 hL hs gx3) kf_7)] [(2, vp 0 0), (48, .t (.c (.d (.sl 2 (x.vals.map ziD))))), (49, vi .i64 (x.vals.length : Int)), (50, vi .i64 (i : Int)), (59, vb (!(withinB (bndAt s i) x3)))] [(0, .box (sysC s))] (by kernel_rfl) h ?_; clear h; intro a w h
       refine condS (!(withinB (bndAt s i) x3)) h rfl (fun hc => ?_) (fun hc => ?_)
       ·have hc12 := hc; clear hc
        have hc12' := hc12; (try simp at hc12')
        refine rSeq fam0ok 3 [] [(2, vp 0 0), (4, vb false), (48, .t (.c (.d (.sl 2 (x.vals.map ziD))))), (49, vi .i64 (x.vals.length : Int)), (50, vi .i64 (i : Int))] [(0, .box (sysC s))] (by kernel_rfl) h ?_; clear h; intro a w h
        refine wp_ret ?_
        refine block_r ?_
        refine then_r ?_
        refine then_r ?_
        refine block_r ?_
        refine then_r ?_
        refine retS [.c (.d (.raw (.bool false)))] h Exit.ret (.inl rfl)  rfl ⟨RV.tmp _ _ rfl, trivial⟩ ?_ (by kernel_rfl) (by kernel_rfl)
        have hz : fits s x = false := by unfold fits; rw [decide_eq_true (by have h1 := hc2; have h2 := hc4; simp at h1 h2; omega), Bool.true_and]; rw [allN_fail (at_lt hx3) (show valOk s x i = false by unfold valOk; rw [hx3]; exact (show (withinB (bndAt s i) x3) = false from by simpa using hc12)), Bool.and_false]
        rw [hz]; first | done | rfl
       ·have hc13 := hc; clear hc
        have hc13' := hc13; (try simp at hc13')
        refine wp_skip ?_
        refine block_n ?_
        refine then_n ?_
        refine rS fam0ok 3 [(0, .add .i64 (m := (i : Int)) (n := 1) (i64_id (by omega) (by omega)))] [(2, vp 0 0), (48, .t (.c (.d (.sl 2 (x.vals.map ziD))))), (49, vi .i64 (x.vals.length : Int)), (50, vi .i64 ((i : Int) + 1))] [(0, .box (sysC s))] (by kernel_rfl) h ?_; clear h; intro a w h
        refine then_n ?_
        refine roundS (x := i) (y := i + 1) h ?_ ?_ (by kernel_rfl) (by kernel_rfl)
        ·have := at_lt hx3
         exact ⟨by omega, allN_step hJ2 (by unfold valOk; rw [hx3]; exact (show (withinB (bndAt s i) x3) = true from by simpa using hc13))⟩
        ·show x.vals.length - (i + 1) < x.vals.length - i
         have := at_lt hx3; omega
      ·have hc14 := hc; clear hc
       have hc14' := of_decide_eq_false hc14
       refine wp_exit ?_
       refine then_x ?_
       refine then_x ?_
       refine inBlock_exit ?_
       refine then_n ?_
       refine rSeq fam0ok 3 [] [(4, vb true)] [] (by kernel_rfl) h ?_; clear h; intro a w h
       refine wp_ret ?_
       refine retS [.c (.d (.raw (.bool true)))] h Exit.ret (.inl rfl)  rfl ⟨RV.tmp _ _ rfl, trivial⟩ ?_ (by kernel_rfl) (by kernel_rfl)
       have hz : fits s x = true := by unfold fits; rw [decide_eq_true (by have h1 := hc2; have h2 := hc4; simp at h1 h2; omega), Bool.true_and]; rw [show x.locs.length = j by have := of_decide_eq_false hc10; omega, hI2, show x.vals.length = i by have := of_decide_eq_false hc14; omega, hJ2]; rfl
       rw [hz]; first | done | rfl
end Go.Proofs.YtmohlifepfjmdaaGreat.S
end
section
namespace Go.Proofs.YtmohlifepfjmdaaGreat.S
open Go.RowKit

theorem kg_3 : Bodied Tryz.prog 54 := Bodied.mk' (by kernel_rfl)
theorem kg_4 : Bodied Tryz.prog 52 := Bodied.mk' (by kernel_rfl)
theorem kg_5 : Bodied Tryz.prog 53 := Bodied.mk' (by kernel_rfl)
theorem kg_6 : Bodied Tryz.prog 47 := Bodied.mk' (by kernel_rfl)
theorem kg_7 : Bodied Tryz.prog 76 := Bodied.mk' (by kernel_rfl)
theorem kg_8 : Bodied Tryz.prog 46 := Bodied.mk' (by kernel_rfl)
theorem kg_9 : Bodied Tryz.prog 13 := Bodied.mk' (by kernel_rfl)
theorem map_take {α β : Type} {f : α → β} {xs ys : List α} {j : Nat} {a b : α} (hx : xs[j]? = some a) (hy : ys[j]? = some b) (h : (xs.take j).map f = (ys.take j).map f) (e : f a = f b) : (xs.take (j + 1)).map f = (ys.take (j + 1)).map f := by
 rw [List.take_add_one, List.take_add_one, hx, hy, List.map_append, List.map_append, h]; simp [e]
theorem map_ne {α β : Type} {f : α → β} {xs ys : List α} {j : Nat} {a b : α} (hx : xs[j]? = some a) (hy : ys[j]? = some b) (e : f a ≠ f b) : xs.map f ≠ ys.map f := by
 intro h
 have := congrArg (fun l => l[j]?) h
 simp only [List.getElem?_map, hx, hy, Option.map_some, Option.some.injEq] at this
 exact e this
theorem map_len_ne {α β : Type} {f : α → β} {xs ys : List α} (e : xs.length ≠ ys.length) : xs.map f ≠ ys.map f := fun h => e (by simpa using congrArg List.length h)
theorem map_end {α β : Type} {f : α → β} {xs ys : List α} {j : Nat} (hl : xs.length = ys.length) (hj : ¬ (j : Int) < (xs.length : Int)) (h : (xs.take j).map f = (ys.take j).map f) : xs.map f = ys.map f := by
 rwa [List.take_of_length_le (by omega), List.take_of_length_le (by omega)] at h
set_option maxHeartbeats 4000000 in
theorem SEqualI (xs ys : List Int) (hl : xs.length ≤ 9223372036854775807) : Fn Tryz.prog 52 [] [.t (.c (.d (.sl 1 (xs.map intD)))), .t (.c (.d (.sl 1 (ys.map intD))))] (vb (decide (xs.map (fun l : Int => l) = ys.map (fun l : Int => l)))) [] := by
 refine Fn.body Tryz.func52 rfl 26 rfl fun w H B a h => ?_
 refine rSeq fam0ok 0 [] [(0, .t (.c (.d (.sl 1 (xs.map intD))))), (1, .t (.c (.d (.sl 1 (ys.map intD))))), (4, vb false)] [] (by kernel_rfl) h ?_; clear h; intro a w h
 refine wp_seq ?_
 refine rSeq fam0ok 0 [(1, .len (c := (.d (.sl 1 (xs.map intD)))) (n := xs.length) (lenC_map _ _ _)), (3, .len (c := (.d (.sl 1 (ys.map intD)))) (n := ys.length) (lenC_map _ _ _))] [(0, .t (.c (.d (.sl 1 (xs.map intD))))), (1, .t (.c (.d (.sl 1 (ys.map intD))))), (4, vb false), (10, vb ((xs.length : Int) != (ys.length : Int)))] [] (by kernel_rfl) h ?_; clear h; intro a w h
 refine condS ((xs.length : Int) != (ys.length : Int)) h rfl (fun hc => ?_) (fun hc => ?_)
 ·have hc1 := hc; clear hc
  have hc1' := hc1; (try simp at hc1')
  refine rSeq fam0ok 0 [] [(0, .t (.c (.d (.sl 1 (xs.map intD))))), (1, .t (.c (.d (.sl 1 (ys.map intD))))), (4, vb false)] [] (by kernel_rfl) h ?_; clear h; intro a w h
  refine wp_ret ?_
  refine then_r ?_
  refine retS [.c (.d (.raw (.bool false)))] h Exit.ret (.inl rfl)  rfl ⟨RV.tmp _ _ rfl, trivial⟩ ?_ (by kernel_rfl) (by kernel_rfl)
  have hz : decide (xs.map (fun l : Int => l) = ys.map (fun l : Int => l)) = false := (decide_eq_false (map_len_ne (by have := hc1; simp at this; omega)))
  rw [hz]; first | done | rfl
 ·have hc2 := hc; clear hc
  have hc2' := hc2; (try simp at hc2')
  refine wp_skip ?_
  refine then_n ?_
  refine wp_seq ?_
  refine rSeq fam0ok 0 [(1, .len (c := (.d (.sl 1 (xs.map intD)))) (n := xs.length) (lenC_map _ _ _))] [(0, .t (.c (.d (.sl 1 (xs.map intD))))), (1, .t (.c (.d (.sl 1 (ys.map intD))))), (4, vb false), (12, vi .i64 (xs.length : Int)), (13, vi .i64 0)] [] (by kernel_rfl) h ?_; clear h; intro a w h
  refine wp_block ?_
  refine loopS (ι := (Nat)) (fun (z_ : (Nat)) => match z_ with | j => j ≤ xs.length ∧ (xs.take j).map (fun l : Int => l) = (ys.take j).map (fun l : Int => l))
    (fun (z_ : (Nat)) => match z_ with | j => [(0, .t (.c (.d (.sl 1 (xs.map intD))))), (1, .t (.c (.d (.sl 1 (ys.map intD))))), (12, vi .i64 (xs.length : Int)), (13, vi .i64 (j : Int))])
    (fun (z_ : (Nat)) => match z_ with | j => [])
    (fun (z_ : (Nat)) => match z_ with | j => xs.length - j) 0 ?_ h (by kernel_rfl) (by kernel_rfl) ?_
  ·exact ⟨Nat.zero_le _, rfl⟩
  ·clear h; rintro j a w hI h
   change St _ (F.of [(0, .t (.c (.d (.sl 1 (xs.map intD))))), (1, .t (.c (.d (.sl 1 (ys.map intD))))), (12, vi .i64 (xs.length : Int)), (13, vi .i64 (j : Int))] []) a w at h
   obtain ⟨hj1, hj2⟩ := hI
   refine rSeq fam0ok 0 [] [(0, .t (.c (.d (.sl 1 (xs.map intD))))), (1, .t (.c (.d (.sl 1 (ys.map intD))))), (12, vi .i64 (xs.length : Int)), (13, vi .i64 (j : Int)), (14, vb (decide ((j : Int) < (xs.length : Int))))] [] (by kernel_rfl) h ?_; clear h; intro a w h
   refine wp_seq ?_
   refine condS (decide ((j : Int) < (xs.length : Int))) h rfl (fun hc => ?_) (fun hc => ?_)
   ·have hc3 := hc; clear hc
    have hc3' := of_decide_eq_true hc3
    refine wp_skip ?_
    refine then_n ?_
    refine wp_seq ?_
    refine wp_block ?_
    refine rSeq fam0ok 0 [] [(0, .t (.c (.d (.sl 1 (xs.map intD))))), (1, .t (.c (.d (.sl 1 (ys.map intD))))), (5, vi .i64 (j : Int)), (12, vi .i64 (xs.length : Int)), (13, vi .i64 (j : Int))] [] (by kernel_rfl) h ?_; clear h; intro a w h
    obtain ⟨x1, hx1⟩ : ∃ z_ : Int, xs[j]? = some z_ := ⟨_, List.getElem?_eq_getElem (by first | omega | (simp at *; omega))⟩
    obtain ⟨x2, hx2⟩ : ∃ z_ : Int, ys[j]? = some z_ := ⟨_, List.getElem?_eq_getElem (by first | omega | (simp at *; omega))⟩
    refine rSeq fam0ok 0 [(2, .gen _ _ _ fun _ _ _ _ => Op.idxD (d := 18) (t := 16) (k := .i64) tb_1 (map_at hx1 (f := intD)) (OV.tmp 17 _)), (6, .gen _ _ _ fun _ _ _ _ => Op.idxD (d := 22) (t := 20) (k := .i64) tb_1 (map_at hx2 (f := intD)) (OV.tmp 21 _))] [(0, .t (.c (.d (.sl 1 (xs.map intD))))), (1, .t (.c (.d (.sl 1 (ys.map intD))))), (12, vi .i64 (xs.length : Int)), (13, vi .i64 (j : Int)), (24, vb (x1 != x2))] [] (by kernel_rfl) h ?_; clear h; intro a w h
    refine condS (x1 != x2) h rfl (fun hc => ?_) (fun hc => ?_)
    ·have hc4 := hc; clear hc
     have hc4' := hc4; (try simp at hc4')
     refine rSeq fam0ok 0 [] [(0, .t (.c (.d (.sl 1 (xs.map intD))))), (1, .t (.c (.d (.sl 1 (ys.map intD))))), (4, vb false), (12, vi .i64 (xs.length : Int)), (13, vi .i64 (j : Int))] [] (by kernel_rfl) h ?_; clear h; intro a w h
     refine wp_ret ?_
     refine block_r ?_
     refine then_r ?_
     refine then_r ?_
     refine block_r ?_
     refine then_r ?_
     refine retS [.c (.d (.raw (.bool false)))] h Exit.ret (.inl rfl)  rfl ⟨RV.tmp _ _ rfl, trivial⟩ ?_ (by kernel_rfl) (by kernel_rfl)
     have hz : decide (xs.map (fun l : Int => l) = ys.map (fun l : Int => l)) = false := (decide_eq_false (map_ne hx1 hx2 (by have := hc4; simpa using this)))
     rw [hz]; first | done | rfl
    ·have hc5 := hc; clear hc
     have hc5' := hc5; (try simp at hc5')
     refine wp_skip ?_
     refine block_n ?_
     refine then_n ?_
     refine rS fam0ok 0 [(0, .add .i64 (m := (j : Int)) (n := 1) (i64_id (by omega) (by omega)))] [(0, .t (.c (.d (.sl 1 (xs.map intD))))), (1, .t (.c (.d (.sl 1 (ys.map intD))))), (12, vi .i64 (xs.length : Int)), (13, vi .i64 ((j : Int) + 1))] [] (by kernel_rfl) h ?_; clear h; intro a w h
     refine then_n ?_
     refine roundS (x := j) (y := j + 1) h ?_ ?_ (by kernel_rfl) (by kernel_rfl)
     ·have := at_lt hx1
      exact ⟨by omega, map_take hx1 hx2 hj2 (by have := hc5; simpa using this)⟩
     ·show xs.length - (j + 1) < xs.length - j
      have := at_lt hx1; omega
   ·have hc6 := hc; clear hc
    have hc6' := of_decide_eq_false hc6
    refine wp_exit ?_
    refine then_x ?_
    refine then_x ?_
    refine inBlock_exit ?_
    refine then_n ?_
    refine rSeq fam0ok 0 [] [(4, vb true)] [] (by kernel_rfl) h ?_; clear h; intro a w h
    refine wp_ret ?_
    refine retS [.c (.d (.raw (.bool true)))] h Exit.ret (.inl rfl)  rfl ⟨RV.tmp _ _ rfl, trivial⟩ ?_ (by kernel_rfl) (by kernel_rfl)
    have hz : decide (xs.map (fun l : Int => l) = ys.map (fun l : Int => l)) = true := (decide_eq_true (map_end (by have := hc2; simp at this; omega) (of_decide_eq_false hc6) hj2))
    rw [hz]; first | done | rfl
set_option maxHeartbeats 4000000 in
theorem SSame1 (p q : ZI) {M : Nat} (hM : M ≤ 40000) (hp : ZOk M p) (hq : ZOk M q) : Fn Tryz.prog 54 [] [vz p, vz q] (vb (decide (p.val = q.val))) [] := by
 have la := hp.2
 have lb := hq.2
 refine Fn.body Tryz.func54 rfl 9 rfl fun w H B a h => ?_
 refine rSeq fam0ok 0 [] [(2, vp 0 0), (3, vp 1 0), (4, vb false)] [(0, .box (zi p)), (1, .box (zi q))] (by kernel_rfl) h ?_; clear h; intro a w h
 refine rSeq fam0ok 2 [(2, .call (SCmp p q hp.1 hq.1 (by omega) (by omega)) kf_3)] [(4, vb (cmpZ p.val q.val == 0))] [] (by kernel_rfl) h ?_; clear h; intro a w h
 refine wp_ret ?_
 refine retS [.c (.d (.raw (.bool (cmpZ p.val q.val == 0))))] h Exit.ret (.inl rfl)  rfl ⟨RV.tmp _ _ rfl, trivial⟩ ?_ (by kernel_rfl) (by kernel_rfl)
 rw [cmpZ_0]; first | done | rfl
set_option maxHeartbeats 4000000 in
theorem SEqualZ (xs ys : List ZI) {M : Nat} (hM : M ≤ 40000) (hxs : ∀ z ∈ xs, ZOk M z) (hys : ∀ z ∈ ys, ZOk M z) (hl : xs.length ≤ 9223372036854775807) : Fn Tryz.prog 53 [] [.t (.c (.d (.sl 2 (xs.map ziD)))), .t (.c (.d (.sl 2 (ys.map ziD)))), .t (.c (.fn (.func 54) [] []))] (vb (decide (xs.map ZI.val = ys.map ZI.val))) [] := by
 refine Fn.body Tryz.func53 rfl 32 rfl fun w H B a h => ?_
 refine rSeq fam0ok 0 [] [(0, .t (.c (.d (.sl 2 (xs.map ziD))))), (1, .t (.c (.d (.sl 2 (ys.map ziD))))), (2, .t (.c (.fn (.func 54) [] []))), (6, vb false)] [] (by kernel_rfl) h ?_; clear h; intro a w h
 refine wp_seq ?_
 refine rSeq fam0ok 0 [(1, .len (c := (.d (.sl 2 (xs.map ziD)))) (n := xs.length) (lenC_map _ _ _)), (3, .len (c := (.d (.sl 2 (ys.map ziD)))) (n := ys.length) (lenC_map _ _ _))] [(0, .t (.c (.d (.sl 2 (xs.map ziD))))), (1, .t (.c (.d (.sl 2 (ys.map ziD))))), (2, .t (.c (.fn (.func 54) [] []))), (6, vb false), (14, vb ((xs.length : Int) != (ys.length : Int)))] [] (by kernel_rfl) h ?_; clear h; intro a w h
 refine condS ((xs.length : Int) != (ys.length : Int)) h rfl (fun hc => ?_) (fun hc => ?_)
 ·have hc1 := hc; clear hc
  have hc1' := hc1; (try simp at hc1')
  refine rSeq fam0ok 0 [] [(0, .t (.c (.d (.sl 2 (xs.map ziD))))), (1, .t (.c (.d (.sl 2 (ys.map ziD))))), (2, .t (.c (.fn (.func 54) [] []))), (6, vb false)] [] (by kernel_rfl) h ?_; clear h; intro a w h
  refine wp_ret ?_
  refine then_r ?_
  refine retS [.c (.d (.raw (.bool false)))] h Exit.ret (.inl rfl)  rfl ⟨RV.tmp _ _ rfl, trivial⟩ ?_ (by kernel_rfl) (by kernel_rfl)
  have hz : decide (xs.map ZI.val = ys.map ZI.val) = false := (decide_eq_false (map_len_ne (by have := hc1; simp at this; omega)))
  rw [hz]; first | done | rfl
 ·have hc2 := hc; clear hc
  have hc2' := hc2; (try simp at hc2')
  refine wp_skip ?_
  refine then_n ?_
  refine wp_seq ?_
  refine rSeq fam0ok 0 [(1, .len (c := (.d (.sl 2 (xs.map ziD)))) (n := xs.length) (lenC_map _ _ _))] [(1, .t (.c (.d (.sl 2 (ys.map ziD))))), (2, .t (.c (.fn (.func 54) [] []))), (6, vb false), (15, .t (.c (.d (.sl 2 (xs.map ziD))))), (16, vi .i64 (xs.length : Int)), (17, vi .i64 0)] [] (by kernel_rfl) h ?_; clear h; intro a w h
  refine wp_block ?_
  refine loopS (ι := (Nat)) (fun (z_ : (Nat)) => match z_ with | j => j ≤ xs.length ∧ (xs.take j).map ZI.val = (ys.take j).map ZI.val)
    (fun (z_ : (Nat)) => match z_ with | j => [(1, .t (.c (.d (.sl 2 (ys.map ziD))))), (2, .t (.c (.fn (.func 54) [] []))), (15, .t (.c (.d (.sl 2 (xs.map ziD))))), (16, vi .i64 (xs.length : Int)), (17, vi .i64 (j : Int))])
    (fun (z_ : (Nat)) => match z_ with | j => [])
    (fun (z_ : (Nat)) => match z_ with | j => xs.length - j) 0 ?_ h (by kernel_rfl) (by kernel_rfl) ?_
  ·exact ⟨Nat.zero_le _, rfl⟩
  ·clear h; rintro j a w hI h
   change St _ (F.of [(1, .t (.c (.d (.sl 2 (ys.map ziD))))), (2, .t (.c (.fn (.func 54) [] []))), (15, .t (.c (.d (.sl 2 (xs.map ziD))))), (16, vi .i64 (xs.length : Int)), (17, vi .i64 (j : Int))] []) a w at h
   obtain ⟨hj1, hj2⟩ := hI
   refine rSeq fam0ok 0 [] [(1, .t (.c (.d (.sl 2 (ys.map ziD))))), (2, .t (.c (.fn (.func 54) [] []))), (15, .t (.c (.d (.sl 2 (xs.map ziD))))), (16, vi .i64 (xs.length : Int)), (17, vi .i64 (j : Int)), (18, vb (decide ((j : Int) < (xs.length : Int))))] [] (by kernel_rfl) h ?_; clear h; intro a w h
   refine wp_seq ?_
   refine condS (decide ((j : Int) < (xs.length : Int))) h rfl (fun hc => ?_) (fun hc => ?_)
   ·have hc3 := hc; clear hc
    have hc3' := of_decide_eq_true hc3
    refine wp_skip ?_
    refine then_n ?_
    refine wp_seq ?_
    refine wp_block ?_
    obtain ⟨x1, hx1⟩ : ∃ z_ : ZI, xs[j]? = some z_ := ⟨_, List.getElem?_eq_getElem (by first | omega | (simp at *; omega))⟩
    have gx1 := hxs x1 (List.mem_of_getElem? hx1)
    refine rSeq fam0ok 0 [(1, .gen _ _ _ fun _ _ _ _ => Op.idxD (d := 20) (t := 15) (k := .i64) tt_6 (map_at hx1 (f := ziD)) (OV.tmp 17 _))] [(1, .t (.c (.d (.sl 2 (ys.map ziD))))), (2, .t (.c (.fn (.func 54) [] []))), (7, vi .i64 (j : Int)), (8, vp 0 0), (15, .t (.c (.d (.sl 2 (xs.map ziD))))), (16, vi .i64 (xs.length : Int)), (17, vi .i64 (j : Int))] [(0, .box (zi x1))] (by kernel_rfl) h ?_; clear h; intro a w h
    obtain ⟨x2, hx2⟩ : ∃ z_ : ZI, ys[j]? = some z_ := ⟨_, List.getElem?_eq_getElem (by first | omega | (simp at *; omega))⟩
    have gx2 := hys x2 (List.mem_of_getElem? hx2)
    refine rSeq fam0ok 1 [(2, .gen _ _ _ fun _ _ _ _ => Op.idxD (d := 24) (t := 22) (k := .i64) tt_6 (map_at hx2 (f := ziD)) (OV.tmp 23 _))] [(1, .t (.c (.d (.sl 2 (ys.map ziD))))), (2, .t (.c (.fn (.func 54) [] []))), (8, vp 0 0), (9, vp 1 0), (15, .t (.c (.d (.sl 2 (xs.map ziD))))), (16, vi .i64 (xs.length : Int)), (17, vi .i64 (j : Int))] [(0, .box (zi x1)), (1, .box (zi x2))] (by kernel_rfl) h ?_; clear h; intro a w h
    refine rSeq fam0ok 2 [(3, .gen _ _ _ fun _ _ _ _ => Op.callV (d := 29) (t := 26) (cap := []) (args := [vz x1, vz x2]) (rs := [(27, vz x1), (28, vz x2)]) (tys := #[28, 28]) (SSame1 x1 x2 hM gx1 gx2) kg_3 (OVs.cons (OV.tmp 27 _) (OVs.cons (OV.tmp 28 _) (OVs.nil))))] [(1, .t (.c (.d (.sl 2 (ys.map ziD))))), (2, .t (.c (.fn (.func 54) [] []))), (15, .t (.c (.d (.sl 2 (xs.map ziD))))), (16, vi .i64 (xs.length : Int)), (17, vi .i64 (j : Int)), (30, vb (!(decide (x1.val = x2.val))))] [] (by kernel_rfl) h ?_; clear h; intro a w h
    refine condS (!(decide (x1.val = x2.val))) h rfl (fun hc => ?_) (fun hc => ?_)
    ·have hc4 := hc; clear hc
     have hc4' := hc4; (try simp at hc4')
     refine rSeq fam0ok 2 [] [(1, .t (.c (.d (.sl 2 (ys.map ziD))))), (2, .t (.c (.fn (.func 54) [] []))), (6, vb false), (15, .t (.c (.d (.sl 2 (xs.map ziD))))), (16, vi .i64 (xs.length : Int)), (17, vi .i64 (j : Int))] [] (by kernel_rfl) h ?_; clear h; intro a w h
     refine wp_ret ?_
     refine block_r ?_
     refine then_r ?_
     refine then_r ?_
     refine block_r ?_
     refine then_r ?_
     refine retS [.c (.d (.raw (.bool false)))] h Exit.ret (.inl rfl)  rfl ⟨RV.tmp _ _ rfl, trivial⟩ ?_ (by kernel_rfl) (by kernel_rfl)
     have hz : decide (xs.map ZI.val = ys.map ZI.val) = false := (decide_eq_false (map_ne hx1 hx2 (of_decide_eq_false (show (decide (x1.val = x2.val)) = false from by simpa using hc4))))
     rw [hz]; first | done | rfl
    ·have hc5 := hc; clear hc
     have hc5' := hc5; (try simp at hc5')
     refine wp_skip ?_
     refine block_n ?_
     refine then_n ?_
     refine rS fam0ok 2 [(0, .add .i64 (m := (j : Int)) (n := 1) (i64_id (by omega) (by omega)))] [(1, .t (.c (.d (.sl 2 (ys.map ziD))))), (2, .t (.c (.fn (.func 54) [] []))), (15, .t (.c (.d (.sl 2 (xs.map ziD))))), (16, vi .i64 (xs.length : Int)), (17, vi .i64 ((j : Int) + 1))] [] (by kernel_rfl) h ?_; clear h; intro a w h
     refine then_n ?_
     refine roundS (x := j) (y := j + 1) h ?_ ?_ (by kernel_rfl) (by kernel_rfl)
     ·have := at_lt hx1
      exact ⟨by omega, map_take hx1 hx2 hj2 (of_decide_eq_true (show (decide (x1.val = x2.val)) = true from by simpa using hc5))⟩
     ·show xs.length - (j + 1) < xs.length - j
      have := at_lt hx1; omega
   ·have hc6 := hc; clear hc
    have hc6' := of_decide_eq_false hc6
    refine wp_exit ?_
    refine then_x ?_
    refine then_x ?_
    refine inBlock_exit ?_
    refine then_n ?_
    refine rSeq fam0ok 2 [] [(6, vb true)] [] (by kernel_rfl) h ?_; clear h; intro a w h
    refine wp_ret ?_
    refine retS [.c (.d (.raw (.bool true)))] h Exit.ret (.inl rfl)  rfl ⟨RV.tmp _ _ rfl, trivial⟩ ?_ (by kernel_rfl) (by kernel_rfl)
    have hz : decide (xs.map ZI.val = ys.map ZI.val) = true := (decide_eq_true (map_end (by have := hc2; simp at this; omega) (of_decide_eq_false hc6) hj2))
    rw [hz]; first | done | rfl
set_option maxHeartbeats 4000000 in
theorem SSame (x y : StD) {M : Nat} (hM : M ≤ 40000) (hx : StOk M x) (hy : StOk M y) : Fn Tryz.prog 21 [] [.t (.agg [.d (.sl 1 (x.locs.map intD)), .d (.sl 2 (x.vals.map ziD))]), .t (.agg [.d (.sl 1 (y.locs.map intD)), .d (.sl 2 (y.vals.map ziD))])] (vb (sameS x y)) [] := by
 refine Fn.body Tryz.func21 rfl 17 rfl fun w H B a h => ?_
 refine rSeq fam0ok 0 [] [(2, vp 0 0), (3, vp 1 0), (4, vb false)] [(0, .box [.d (.sl 1 (x.locs.map intD)), .d (.sl 2 (x.vals.map ziD))]), (1, .box [.d (.sl 1 (y.locs.map intD)), .d (.sl 2 (y.vals.map ziD))])] (by kernel_rfl) h ?_; clear h; intro a w h
 rcases Bool.eq_false_or_eq_true (decide (x.locs = y.locs)) with hc | hc
 ·have hc1 := hc; clear hc
  have hc1' := of_decide_eq_true hc1
  refine rSeq fam0ok 2 [(4, .call (Fn.cast (Fn.cast (SEqualI x.locs y.locs (by have := hx.locs; omega)) (congrArg vb (show _ = decide (x.locs = y.locs) by simp))) (congrArg vb hc1)) kg_4), (10, .call (SEqualZ x.vals y.vals hM hx.val hy.val (by have := hx.vals; omega)) kg_5)] [(4, vb (decide (x.vals.map ZI.val = y.vals.map ZI.val)))] [] (by kernel_rfl) h ?_; clear h; intro a w h
  refine wp_ret ?_
  refine retS [.c (.d (.raw (.bool (decide (x.vals.map ZI.val = y.vals.map ZI.val)))))] h Exit.ret (.inl rfl)  rfl ⟨RV.tmp _ _ rfl, trivial⟩ ?_ (by kernel_rfl) (by kernel_rfl)
  have hz : sameS x y = (decide (x.vals.map ZI.val = y.vals.map ZI.val)) := by unfold sameS; rw [hc1]; rfl
  rw [hz]; first | done | rfl
 ·have hc2 := hc; clear hc
  have hc2' := of_decide_eq_false hc2
  refine rSeq fam0ok 2 [(4, .call (Fn.cast (Fn.cast (SEqualI x.locs y.locs (by have := hx.locs; omega)) (congrArg vb (show _ = decide (x.locs = y.locs) by simp))) (congrArg vb hc2)) kg_4)] [(4, vb false)] [] (by kernel_rfl) h ?_; clear h; intro a w h
  refine wp_ret ?_
  refine retS [.c (.d (.raw (.bool false)))] h Exit.ret (.inl rfl)  rfl ⟨RV.tmp _ _ rfl, trivial⟩ ?_ (by kernel_rfl) (by kernel_rfl)
  have hz : sameS x y = (false) := by unfold sameS; rw [hc2]; rfl
  rw [hz]; first | done | rfl
set_option maxHeartbeats 4000000 in
theorem SFirst1 (l : Int)  : Fn Tryz.prog 47 [] [vi .i64 l] (vb (l != 0)) [] := by
 refine Fn.body Tryz.func47 rfl 5 rfl fun w H B a h => ?_
 refine rSeq fam0ok 0 [] [(0, vi .i64 l), (2, vb false)] [] (by kernel_rfl) h ?_; clear h; intro a w h
 refine rSeq fam0ok 0 [] [(2, vb (l != 0))] [] (by kernel_rfl) h ?_; clear h; intro a w h
 refine wp_ret ?_
 refine retS [.c (.d (.raw (.bool (l != 0))))] h Exit.ret (.inl rfl)  rfl ⟨RV.tmp _ _ rfl, trivial⟩ ?_ (by kernel_rfl) (by kernel_rfl)
 rfl
set_option maxHeartbeats 4000000 in
theorem SIdxF1 (pr : Int → Bool) (xs : List Int) (hf : ∀ x ∈ xs, Fn Tryz.prog 47 [] [vi .i64 x] (vb (pr x)) []) (hl : xs.length ≤ 9223372036854775807) : Fn Tryz.prog 76 [] [.t (.c (.d (.sl 1 (xs.map intD)))), .t (.c (.fn (.func 47) [] []))] (vi .i64 (idxB pr xs 0)) [] := by
 refine Fn.body Tryz.func76 rfl 19 rfl fun w H B a h => ?_
 refine rSeq fam0ok 5 [] [(0, .t (.c (.d (.sl 1 (xs.map intD))))), (1, .t (.c (.fn (.func 47) [] []))), (4, vi .i64 0)] [] (by kernel_rfl) h ?_; clear h; intro a w h
 refine wp_seq ?_
 refine rSeq fam0ok 5 [(1, .len (c := (.d (.sl 1 (xs.map intD)))) (n := xs.length) (lenC_map _ _ _))] [(0, .t (.c (.d (.sl 1 (xs.map intD))))), (1, .t (.c (.fn (.func 47) [] []))), (4, vi .i64 0), (7, vi .i64 (xs.length : Int)), (8, vi .i64 0)] [] (by kernel_rfl) h ?_; clear h; intro a w h
 refine wp_block ?_
 refine loopS (ι := (Nat)) (fun (z_ : (Nat)) => match z_ with | j => j ≤ xs.length ∧ idxB pr xs 0 = idxB pr (xs.drop j) j)
   (fun (z_ : (Nat)) => match z_ with | j => [(0, .t (.c (.d (.sl 1 (xs.map intD))))), (1, .t (.c (.fn (.func 47) [] []))), (7, vi .i64 (xs.length : Int)), (8, vi .i64 (j : Int))])
   (fun (z_ : (Nat)) => match z_ with | j => [])
   (fun (z_ : (Nat)) => match z_ with | j => xs.length - j) 0 ?_ h (by kernel_rfl) (by kernel_rfl) ?_
 ·exact ⟨Nat.zero_le _, rfl⟩
 ·clear h; rintro j a w hI h
  change St _ (F.of [(0, .t (.c (.d (.sl 1 (xs.map intD))))), (1, .t (.c (.fn (.func 47) [] []))), (7, vi .i64 (xs.length : Int)), (8, vi .i64 (j : Int))] []) a w at h
  obtain ⟨hI1, hI2⟩ := hI
  refine rSeq fam0ok 5 [] [(0, .t (.c (.d (.sl 1 (xs.map intD))))), (1, .t (.c (.fn (.func 47) [] []))), (7, vi .i64 (xs.length : Int)), (8, vi .i64 (j : Int)), (9, vb (decide ((j : Int) < (xs.length : Int))))] [] (by kernel_rfl) h ?_; clear h; intro a w h
  refine wp_seq ?_
  refine condS (decide ((j : Int) < (xs.length : Int))) h rfl (fun hc => ?_) (fun hc => ?_)
  ·have hc1 := hc; clear hc
   have hc1' := of_decide_eq_true hc1
   refine wp_skip ?_
   refine then_n ?_
   refine wp_seq ?_
   refine wp_block ?_
   refine rSeq fam0ok 5 [] [(0, .t (.c (.d (.sl 1 (xs.map intD))))), (1, .t (.c (.fn (.func 47) [] []))), (5, vi .i64 (j : Int)), (7, vi .i64 (xs.length : Int)), (8, vi .i64 (j : Int))] [] (by kernel_rfl) h ?_; clear h; intro a w h
   obtain ⟨x1, hx1⟩ : ∃ z_ : Int, xs[j]? = some z_ := ⟨_, List.getElem?_eq_getElem (by first | omega | (simp at *; omega))⟩
   refine rSeq fam0ok 5 [(3, .gen _ _ _ fun _ _ _ _ => Op.idxD (d := 14) (t := 12) (k := .i64) tb_1 (map_at hx1 (f := intD)) (OV.tmp 13 _)), (5, .gen _ _ _ fun _ _ _ _ => Op.callV (d := 16) (t := 11) (cap := []) (args := [vi .i64 x1]) (rs := [(15, vi .i64 x1)]) (tys := #[3]) (hf x1 (List.mem_of_getElem? hx1)) kg_6 (OVs.cons (OV.tmp 15 _) (OVs.nil)))] [(0, .t (.c (.d (.sl 1 (xs.map intD))))), (1, .t (.c (.fn (.func 47) [] []))), (5, vi .i64 (j : Int)), (7, vi .i64 (xs.length : Int)), (8, vi .i64 (j : Int)), (16, vb (pr x1))] [] (by kernel_rfl) h ?_; clear h; intro a w h
   refine condS (pr x1) h rfl (fun hc => ?_) (fun hc => ?_)
   ·have hc2 := hc; clear hc
    refine rSeq fam0ok 5 [] [(0, .t (.c (.d (.sl 1 (xs.map intD))))), (1, .t (.c (.fn (.func 47) [] []))), (4, vi .i64 (j : Int)), (7, vi .i64 (xs.length : Int)), (8, vi .i64 (j : Int))] [] (by kernel_rfl) h ?_; clear h; intro a w h
    refine wp_ret ?_
    refine block_r ?_
    refine then_r ?_
    refine then_r ?_
    refine block_r ?_
    refine then_r ?_
    refine retS [.c (.d (.raw (.int .i64 (j : Int))))] h Exit.ret (.inl rfl)  rfl ⟨RV.tmp _ _ rfl, trivial⟩ ?_ (by kernel_rfl) (by kernel_rfl)
    have hz : idxB pr xs 0 = (j : Int) := by rw [hI2, idxB_at hx1, if_pos hc2]
    rw [hz]; first | done | rfl
   ·have hc3 := hc; clear hc
    refine wp_skip ?_
    refine block_n ?_
    refine then_n ?_
    refine rS fam0ok 5 [(0, .add .i64 (m := (j : Int)) (n := 1) (i64_id (by omega) (by omega)))] [(0, .t (.c (.d (.sl 1 (xs.map intD))))), (1, .t (.c (.fn (.func 47) [] []))), (7, vi .i64 (xs.length : Int)), (8, vi .i64 ((j : Int) + 1))] [] (by kernel_rfl) h ?_; clear h; intro a w h
    refine then_n ?_
    refine roundS (x := j) (y := j + 1) h ?_ ?_ (by kernel_rfl) (by kernel_rfl)
    ·exact ⟨by have := at_lt hx1; omega, by rw [hI2, idxB_at hx1, if_neg (by rw [hc3]; exact Bool.noConfusion)]⟩
    ·simp; omega
  ·have hc4 := hc; clear hc
   have hc4' := of_decide_eq_false hc4
   refine wp_exit ?_
   refine then_x ?_
   refine then_x ?_
   refine inBlock_exit ?_
   refine then_n ?_
   refine rSeq fam0ok 5 [] [(4, vi .i64 (-1))] [] (by kernel_rfl) h ?_; clear h; intro a w h
   refine wp_ret ?_
   refine retS [.c (.d (.raw (.int .i64 (-1))))] h Exit.ret (.inl rfl)  rfl ⟨RV.tmp _ _ rfl, trivial⟩ ?_ (by kernel_rfl) (by kernel_rfl)
   have hz : idxB pr xs 0 = -1 := by rw [hI2, List.drop_of_length_le (by omega)]; rfl
   rw [hz]; first | done | rfl
set_option maxHeartbeats 4000000 in
theorem SAnyF1 (pr : Int → Bool) (xs : List Int) (hf : ∀ x ∈ xs, Fn Tryz.prog 47 [] [vi .i64 x] (vb (pr x)) []) (hl : xs.length ≤ 9223372036854775807) : Fn Tryz.prog 46 [] [.t (.c (.d (.sl 1 (xs.map intD)))), .t (.c (.fn (.func 47) [] []))] (vb (xs.any pr)) [] := by
 refine Fn.body Tryz.func46 rfl 9 rfl fun w H B a h => ?_
 refine rSeq fam0ok 5 [] [(0, .t (.c (.d (.sl 1 (xs.map intD))))), (1, .t (.c (.fn (.func 47) [] []))), (4, vb false)] [] (by kernel_rfl) h ?_; clear h; intro a w h
 refine rSeq fam0ok 5 [(2, .call (SIdxF1 pr xs  hf  hl) kg_7)] [(4, vb (decide (idxB pr xs 0 ≥ 0)))] [] (by kernel_rfl) h ?_; clear h; intro a w h
 refine wp_ret ?_
 refine retS [.c (.d (.raw (.bool (decide (idxB pr xs 0 ≥ 0)))))] h Exit.ret (.inl rfl)  rfl ⟨RV.tmp _ _ rfl, trivial⟩ ?_ (by kernel_rfl) (by kernel_rfl)
 rw [← idxB_any]; first | done | rfl
set_option maxHeartbeats 4000000 in
theorem SFirst (s : SysD) (x : StD) {L M : Nat} (hL : L + M ≤ 10000) (hs : SysOk L s) (hx : StOk M x) : Fn Tryz.prog 15 [] [.t (.agg (sysC s)), .t (.agg [.d (.sl 1 (x.locs.map intD)), .d (.sl 2 (x.vals.map ziD))])] (vb (first s x)) [] := by
 refine Fn.body Tryz.func15 rfl 23 rfl fun w H B a h => ?_
 refine rSeq fam0ok 0 [] [(2, vp 0 0), (3, vp 1 0), (4, vb false)] [(0, .box (sysC s)), (1, .box [.d (.sl 1 (x.locs.map intD)), .d (.sl 2 (x.vals.map ziD))])] (by kernel_rfl) h ?_; clear h; intro a w h
 refine rSeq fam0ok 2 [(2, .call (SAnyF1 (fun l => l != 0) x.locs (fun l _ => SFirst1 l) (by have := hx.locs; omega)) kg_8)] [(2, vp 0 0), (3, vp 1 0), (4, vb false), (5, vb (x.locs.any fun l => l != 0))] [(0, .box (sysC s)), (1, .box [.d (.sl 1 (x.locs.map intD)), .d (.sl 2 (x.vals.map ziD))])] (by kernel_rfl) h ?_; clear h; intro a w h
 rcases Bool.eq_false_or_eq_true (fits s x) with hc | hc
 ·have hc1 := hc; clear hc
  rcases Bool.eq_false_or_eq_true (x.locs.any fun l => l != 0) with hc | hc
  ·have hc2 := hc; clear hc
   have hc2' := hc2; (try simp at hc2')
   rw [hc2] at h
   refine rSeq fam0ok 2 [(2, .call (Fn.cast (SFits s x hL hs hx) (congrArg vb hc1)) kg_9)] [(4, vb false)] [] (by kernel_rfl) h ?_; clear h; intro a w h
   refine wp_ret ?_
   refine retS [.c (.d (.raw (.bool false)))] h Exit.ret (.inl rfl)  rfl ⟨RV.tmp _ _ rfl, trivial⟩ ?_ (by kernel_rfl) (by kernel_rfl)
   have hz : first s x = (false) := by unfold first; rw [hc1]; rw [hc2]; rfl
   rw [hz]; first | done | rfl
  ·have hc3 := hc; clear hc
   have hc3' := hc3; (try simp at hc3')
   rw [hc3] at h
   refine rSeq fam0ok 2 [(2, .call (Fn.cast (SFits s x hL hs hx) (congrArg vb hc1)) kg_9), (12, .call (SHolds x.vals (L := L) (M := M) (by omega) hx.vok s.init hs.init.1 hs.init.2) ke_4)] [(4, vb (FormD.holds x.vals s.init))] [] (by kernel_rfl) h ?_; clear h; intro a w h
   refine wp_ret ?_
   refine retS [.c (.d (.raw (.bool (FormD.holds x.vals s.init))))] h Exit.ret (.inl rfl)  rfl ⟨RV.tmp _ _ rfl, trivial⟩ ?_ (by kernel_rfl) (by kernel_rfl)
   have hz : first s x = (FormD.holds x.vals s.init) := by unfold first; rw [hc1]; rw [hc3]; rfl
   rw [hz]; first | done | rfl
 ·have hc4 := hc; clear hc
  refine rSeq fam0ok 2 [(2, .call (Fn.cast (SFits s x hL hs hx) (congrArg vb hc4)) kg_9)] [(4, vb false)] [] (by kernel_rfl) h ?_; clear h; intro a w h
  refine wp_ret ?_
  refine retS [.c (.d (.raw (.bool false)))] h Exit.ret (.inl rfl)  rfl ⟨RV.tmp _ _ rfl, trivial⟩ ?_ (by kernel_rfl) (by kernel_rfl)
  have hz : first s x = (false) := by unfold first; rw [hc4]; rfl
  rw [hz]; first | done | rfl
end Go.Proofs.YtmohlifepfjmdaaGreat.S
end
section
namespace Go.Proofs.YtmohlifepfjmdaaGreat.S
open Go.RowKit

theorem kh_1 : Bodied Tryz.prog 43 := Bodied.mk' (by kernel_rfl)
theorem kh_5 : Bodied Tryz.prog 45 := Bodied.mk' (by kernel_rfl)
theorem kh_6 : Bodied Tryz.prog 14 := Bodied.mk' (by kernel_rfl)
set_option maxHeartbeats 4000000 in
theorem SRwithin (s : SysD) (v : Nat) (n : ZI) {L M : Nat} (hL : L + M ≤ 10000) (hs : SysOk L s) (hn : ZOk M n) : Fn Tryz.prog 45 [] [.t (.agg (sysC s)), vi .i64 (v : Int), vz n] (vb (withinB (bndAt s v) n)) [] := by
 have ln := hn.2
 have lbs := hs.bnds
 refine Fn.body Tryz.func45 rfl 41 rfl fun w H B a h => ?_
 refine rSeq fam0ok 0 [] [(1, vi .i64 (v : Int)), (3, vp 0 0), (5, vp 1 0), (6, vb false)] [(0, .box (sysC s)), (1, .box (zi n))] (by kernel_rfl) h ?_; clear h; intro a w h
 refine wp_seq ?_
 rcases Bool.eq_false_or_eq_true (decide ((v : Int) ≥ (s.bounds.length : Int))) with hc | hc
 ·have hc1 := hc; clear hc
  have hc1' := of_decide_eq_true hc1
  refine rSeq fam0ok 2 [(3, .len (c := (.d (.sl 5 (s.bounds.map BoundD.d)))) (n := s.bounds.length) (lenC_map _ _ _)), (4, .cmp (op := .geq) (m := (v : Int)) (n := (s.bounds.length : Int)) (b := true) .i64 hc1)] [(1, vi .i64 (v : Int)), (3, vp 0 0), (5, vp 1 0), (6, vb false), (20, vb true)] [(0, .box (sysC s)), (1, .box (zi n))] (by kernel_rfl) h ?_; clear h; intro a w h
  refine condS true h rfl (fun hc => ?_) (fun hc => ?_)
  ·clear hc
   refine rSeq fam0ok 2 [] [(1, vi .i64 (v : Int)), (3, vp 0 0), (5, vp 1 0), (6, vb true)] [(0, .box (sysC s)), (1, .box (zi n))] (by kernel_rfl) h ?_; clear h; intro a w h
   refine wp_ret ?_
   refine then_r ?_
   refine retS [.c (.d (.raw (.bool true)))] h Exit.ret (.inl rfl)  rfl ⟨RV.tmp _ _ rfl, trivial⟩ ?_ (by kernel_rfl) (by kernel_rfl)
   have hz : withinB (bndAt s v) n = (true) := by rw [show bndAt s v = bnd0 by unfold bndAt; rw [List.getElem?_eq_none (by have := of_decide_eq_true hc1; omega)]; rfl]; rfl
   rw [hz]; first | done | rfl
  ·cases hc
 ·have hc2 := hc; clear hc
  have hc2' := of_decide_eq_false hc2
  obtain ⟨x1, hx1⟩ : ∃ z_ : BoundD, s.bounds[v]? = some z_ := ⟨_, List.getElem?_eq_getElem (by first | omega | (simp at *; omega))⟩
  have gx1 := hs.bnd x1 (List.mem_of_getElem? hx1)
  have l1x1 := gx1.1.2
  have l2x1 := gx1.2.2
  refine rSeq fam0ok 2 [(3, .len (c := (.d (.sl 5 (s.bounds.map BoundD.d)))) (n := s.bounds.length) (lenC_map _ _ _)), (4, .cmp (op := .geq) (m := (v : Int)) (n := (s.bounds.length : Int)) (b := false) .i64 hc2), (9, .gen _ _ _ fun _ _ _ _ => Op.idxD (d := 16) (t := 14) (k := .i64) kf_0 (map_at hx1 (f := BoundD.d)) (OV.tmp 15 _))] [(1, vi .i64 (v : Int)), (3, vp 0 0), (5, vp 1 0), (6, vb false), (20, vb (!x1.is_))] [(0, .box (sysC s)), (1, .box (zi n))] (by kernel_rfl) h ?_; clear h; intro a w h
  refine condS (!x1.is_) h rfl (fun hc => ?_) (fun hc => ?_)
  ·have hc3 := hc; clear hc
   have hc3' := hc3; (try simp at hc3')
   refine rSeq fam0ok 2 [] [(1, vi .i64 (v : Int)), (3, vp 0 0), (5, vp 1 0), (6, vb true)] [(0, .box (sysC s)), (1, .box (zi n))] (by kernel_rfl) h ?_; clear h; intro a w h
   refine wp_ret ?_
   refine then_r ?_
   refine retS [.c (.d (.raw (.bool true)))] h Exit.ret (.inl rfl)  rfl ⟨RV.tmp _ _ rfl, trivial⟩ ?_ (by kernel_rfl) (by kernel_rfl)
   have hz : withinB (bndAt s v) n = (true) := by rw [show bndAt s v = x1 by unfold bndAt; rw [hx1]; rfl]; unfold withinB; rw [← cmpZ_geI]; simp only [hc3]; first | done | rfl
   rw [hz]; first | done | rfl
  ·have hc4 := hc; clear hc
   have hc4' := hc4; (try simp at hc4')
   refine wp_skip ?_
   refine then_n ?_
   rcases Bool.eq_false_or_eq_true (decide (cmpZ n.val x1.lo.val ≥ 0)) with hc | hc
   ·have hc5 := hc; clear hc
    have hc5' := of_decide_eq_true hc5
    refine rSeq fam0ok 2 [(4, .gen _ _ _ fun _ _ _ _ => Op.idxD (d := 25) (t := 23) (k := .i64) kf_0 (map_at hx1 (f := BoundD.d)) (OV.tmp 24 _)), (7, .call (SRCmp n x1.lo hn.1 gx1.1.1 (by omega) (by omega)) kh_1), (8, .cmp (op := .geq) (m := (cmpZ n.val x1.lo.val)) (n := 0) (b := true) .i64 hc5), (14, .gen _ _ _ fun _ _ _ _ => Op.idxD (d := 35) (t := 33) (k := .i64) kf_0 (map_at hx1 (f := BoundD.d)) (OV.tmp 34 _)), (17, .call (SRCmp n x1.hi hn.1 gx1.2.1 (by omega) (by omega)) kh_1)] [(6, vb (decide (cmpZ n.val x1.hi.val ≤ 0)))] [] (by kernel_rfl) h ?_; clear h; intro a w h
    refine wp_ret ?_
    refine retS [.c (.d (.raw (.bool (decide (cmpZ n.val x1.hi.val ≤ 0)))))] h Exit.ret (.inl rfl)  rfl ⟨RV.tmp _ _ rfl, trivial⟩ ?_ (by kernel_rfl) (by kernel_rfl)
    have hz : withinB (bndAt s v) n = (decide (cmpZ n.val x1.hi.val ≤ 0)) := by rw [show bndAt s v = x1 by unfold bndAt; rw [hx1]; rfl]; unfold withinB; rw [← cmpZ_geI]; simp only [hc4, hc5]; first | done | rfl
    rw [hz]; first | done | rfl
   ·have hc6 := hc; clear hc
    have hc6' := of_decide_eq_false hc6
    refine rSeq fam0ok 2 [(4, .gen _ _ _ fun _ _ _ _ => Op.idxD (d := 25) (t := 23) (k := .i64) kf_0 (map_at hx1 (f := BoundD.d)) (OV.tmp 24 _)), (7, .call (SRCmp n x1.lo hn.1 gx1.1.1 (by omega) (by omega)) kh_1), (8, .cmp (op := .geq) (m := (cmpZ n.val x1.lo.val)) (n := 0) (b := false) .i64 hc6)] [(6, vb false)] [] (by kernel_rfl) h ?_; clear h; intro a w h
    refine wp_ret ?_
    refine retS [.c (.d (.raw (.bool false)))] h Exit.ret (.inl rfl)  rfl ⟨RV.tmp _ _ rfl, trivial⟩ ?_ (by kernel_rfl) (by kernel_rfl)
    have hz : withinB (bndAt s v) n = (false) := by rw [show bndAt s v = x1 by unfold bndAt; rw [hx1]; rfl]; unfold withinB; rw [← cmpZ_geI]; simp only [hc4, hc6]; first | done | rfl
    rw [hz]; first | done | rfl
set_option maxHeartbeats 4000000 in
theorem SRFits (s : SysD) (x : StD) {L M : Nat} (hL : L + M ≤ 10000) (hs : SysOk L s) (hx : StOk M x) : Fn Tryz.prog 14 [] [.t (.agg (sysC s)), .t (.agg [.d (.sl 1 (x.locs.map intD)), .d (.sl 2 (x.vals.map ziD))])] (vb (fits s x)) [] := by
 have lx1 := hx.locs
 have lx2 := hx.vals
 have ls1 := hs.vars
 have ls2 := hs.procs
 refine Fn.body Tryz.func14 rfl 67 rfl fun w H B a h => ?_
 refine rSeq fam0ok 0 [] [(2, vp 0 0), (3, vp 1 0), (4, vb false)] [(0, .box (sysC s)), (1, .box [.d (.sl 1 (x.locs.map intD)), .d (.sl 2 (x.vals.map ziD))])] (by kernel_rfl) h ?_; clear h; intro a w h
 refine wp_seq ?_
 rcases Bool.eq_false_or_eq_true ((x.locs.length : Int) != (s.procs.length : Int)) with hc | hc
 ·have hc1 := hc; clear hc
  have hc1' := hc1; (try simp at hc1')
  refine rSeq fam0ok 2 [(2, .len (c := (.d (.sl 1 (x.locs.map intD)))) (n := x.locs.length) (lenC_map _ _ _)), (5, .len (c := (.d (.sl 3 (s.procs.map ProcD.d)))) (n := s.procs.length) (lenC_map _ _ _)), (6, .cmp (op := .neq) (m := (x.locs.length : Int)) (n := (s.procs.length : Int)) (b := true) .i64 hc1)] [(2, vp 0 0), (3, vp 1 0), (4, vb false), (22, vb true)] [(0, .box (sysC s)), (1, .box [.d (.sl 1 (x.locs.map intD)), .d (.sl 2 (x.vals.map ziD))])] (by kernel_rfl) h ?_; clear h; intro a w h
  refine condS true h rfl (fun hc => ?_) (fun hc => ?_)
  ·clear hc
   refine rSeq fam0ok 2 [] [(2, vp 0 0), (3, vp 1 0), (4, vb false)] [(0, .box (sysC s)), (1, .box [.d (.sl 1 (x.locs.map intD)), .d (.sl 2 (x.vals.map ziD))])] (by kernel_rfl) h ?_; clear h; intro a w h
   refine wp_ret ?_
   refine then_r ?_
   refine retS [.c (.d (.raw (.bool false)))] h Exit.ret (.inl rfl)  rfl ⟨RV.tmp _ _ rfl, trivial⟩ ?_ (by kernel_rfl) (by kernel_rfl)
   have hz : fits s x = false := by unfold fits; rw [decide_eq_false (by have := hc1; simp at this; omega)]; rfl
   rw [hz]; first | done | rfl
  ·cases hc
 ·have hc2 := hc; clear hc
  have hc2' := hc2; (try simp at hc2')
  refine rSeq fam0ok 2 [(2, .len (c := (.d (.sl 1 (x.locs.map intD)))) (n := x.locs.length) (lenC_map _ _ _)), (5, .len (c := (.d (.sl 3 (s.procs.map ProcD.d)))) (n := s.procs.length) (lenC_map _ _ _)), (6, .cmp (op := .neq) (m := (x.locs.length : Int)) (n := (s.procs.length : Int)) (b := false) .i64 hc2), (10, .len (c := (.d (.sl 2 (x.vals.map ziD)))) (n := x.vals.length) (lenC_map _ _ _)), (13, .len (c := (.d (.sl 1 (s.vars.map strD)))) (n := s.vars.length) (lenC_map _ _ _))] [(2, vp 0 0), (3, vp 1 0), (4, vb false), (22, vb ((x.vals.length : Int) != (s.vars.length : Int)))] [(0, .box (sysC s)), (1, .box [.d (.sl 1 (x.locs.map intD)), .d (.sl 2 (x.vals.map ziD))])] (by kernel_rfl) h ?_; clear h; intro a w h
  refine condS ((x.vals.length : Int) != (s.vars.length : Int)) h rfl (fun hc => ?_) (fun hc => ?_)
  ·have hc3 := hc; clear hc
   have hc3' := hc3; (try simp at hc3')
   refine rSeq fam0ok 2 [] [(2, vp 0 0), (3, vp 1 0), (4, vb false)] [(0, .box (sysC s)), (1, .box [.d (.sl 1 (x.locs.map intD)), .d (.sl 2 (x.vals.map ziD))])] (by kernel_rfl) h ?_; clear h; intro a w h
   refine wp_ret ?_
   refine then_r ?_
   refine retS [.c (.d (.raw (.bool false)))] h Exit.ret (.inl rfl)  rfl ⟨RV.tmp _ _ rfl, trivial⟩ ?_ (by kernel_rfl) (by kernel_rfl)
   have hz : fits s x = false := by unfold fits; rw [decide_eq_false (by have := hc3; simp at this; omega)]; rfl
   rw [hz]; first | done | rfl
  ·have hc4 := hc; clear hc
   have hc4' := hc4; (try simp at hc4')
   refine wp_skip ?_
   refine then_n ?_
   refine wp_seq ?_
   refine rSeq fam0ok 2 [] [(2, vp 0 0), (3, vp 1 0), (4, vb false), (5, vi .i64 0)] [(0, .box (sysC s)), (1, .box [.d (.sl 1 (x.locs.map intD)), .d (.sl 2 (x.vals.map ziD))])] (by kernel_rfl) h ?_; clear h; intro a w h
   refine wp_block ?_
   refine loopS (ι := (Nat)) (fun (z_ : (Nat)) => match z_ with | j => j ≤ x.locs.length ∧ allN j (locOk s x) = true)
     (fun (z_ : (Nat)) => match z_ with | j => [(2, vp 0 0), (3, vp 1 0), (5, vi .i64 (j : Int))])
     (fun (z_ : (Nat)) => match z_ with | j => [(0, .box (sysC s)), (1, .box [.d (.sl 1 (x.locs.map intD)), .d (.sl 2 (x.vals.map ziD))])])
     (fun (z_ : (Nat)) => match z_ with | j => x.locs.length - j) 0 ?_ h (by kernel_rfl) (by kernel_rfl) ?_
   ·exact ⟨Nat.zero_le _, rfl⟩
   ·clear h; rintro j a w hI h
    change St _ (F.of [(2, vp 0 0), (3, vp 1 0), (5, vi .i64 (j : Int))] [(0, .box (sysC s)), (1, .box [.d (.sl 1 (x.locs.map intD)), .d (.sl 2 (x.vals.map ziD))])]) a w at h
    obtain ⟨hI1, hI2⟩ := hI
    refine wp_seq ?_
    refine rSeq fam0ok 2 [(3, .len (c := (.d (.sl 1 (x.locs.map intD)))) (n := x.locs.length) (lenC_map _ _ _))] [(2, vp 0 0), (3, vp 1 0), (5, vi .i64 (j : Int)), (27, vb (decide ((j : Int) < (x.locs.length : Int))))] [(0, .box (sysC s)), (1, .box [.d (.sl 1 (x.locs.map intD)), .d (.sl 2 (x.vals.map ziD))])] (by kernel_rfl) h ?_; clear h; intro a w h
    refine condS (decide ((j : Int) < (x.locs.length : Int))) h rfl (fun hc => ?_) (fun hc => ?_)
    ·have hc5 := hc; clear hc
     have hc5' := of_decide_eq_true hc5
     refine wp_skip ?_
     refine then_n ?_
     refine wp_seq ?_
     refine wp_block ?_
     obtain ⟨x1, hx1⟩ : ∃ z_ : Int, x.locs[j]? = some z_ := ⟨_, List.getElem?_eq_getElem (by first | omega | (simp at *; omega))⟩
     rcases Bool.eq_false_or_eq_true (decide (x1 < 0)) with hc | hc
     ·have hc6 := hc; clear hc
      have hc6' := of_decide_eq_true hc6
      refine rSeq fam0ok 2 [(3, .gen _ _ _ fun _ _ _ _ => Op.idxD (d := 33) (t := 31) (k := .i64) tb_1 (map_at hx1 (f := intD)) (OV.tmp 32 _)), (5, .cmp (op := .lss) (m := x1) (n := 0) (b := true) .i64 hc6)] [(2, vp 0 0), (3, vp 1 0), (5, vi .i64 (j : Int)), (50, vb true)] [(0, .box (sysC s)), (1, .box [.d (.sl 1 (x.locs.map intD)), .d (.sl 2 (x.vals.map ziD))])] (by kernel_rfl) h ?_; clear h; intro a w h
      refine condS true h rfl (fun hc => ?_) (fun hc => ?_)
      ·clear hc
       refine rSeq fam0ok 2 [] [(2, vp 0 0), (3, vp 1 0), (4, vb false), (5, vi .i64 (j : Int))] [(0, .box (sysC s)), (1, .box [.d (.sl 1 (x.locs.map intD)), .d (.sl 2 (x.vals.map ziD))])] (by kernel_rfl) h ?_; clear h; intro a w h
       refine wp_ret ?_
       refine block_r ?_
       refine then_r ?_
       refine then_r ?_
       refine block_r ?_
       refine then_r ?_
       refine retS [.c (.d (.raw (.bool false)))] h Exit.ret (.inl rfl)  rfl ⟨RV.tmp _ _ rfl, trivial⟩ ?_ (by kernel_rfl) (by kernel_rfl)
       have hz : fits s x = false := by unfold fits; rw [decide_eq_true (by have h1 := hc2; have h2 := hc4; simp at h1 h2; omega), Bool.true_and]; rw [allN_fail (at_lt hx1) (show locOk s x j = false by unfold locOk nlocs; rw [hx1]; exact decide_eq_false (by have := of_decide_eq_true hc6; intro h; have := h.1; simp at this; omega))]; rfl
       rw [hz]; first | done | rfl
      ·cases hc
     ·have hc7 := hc; clear hc
      have hc7' := of_decide_eq_false hc7
      obtain ⟨x2, hx2⟩ : ∃ z_ : ProcD, s.procs[j]? = some z_ := ⟨_, List.getElem?_eq_getElem (by first | omega | (simp at *; omega))⟩
      refine rSeq fam0ok 2 [(3, .gen _ _ _ fun _ _ _ _ => Op.idxD (d := 33) (t := 31) (k := .i64) tb_1 (map_at hx1 (f := intD)) (OV.tmp 32 _)), (5, .cmp (op := .lss) (m := x1) (n := 0) (b := false) .i64 hc7), (10, .gen _ _ _ fun _ _ _ _ => Op.idxD (d := 40) (t := 38) (k := .i64) tb_1 (map_at hx1 (f := intD)) (OV.tmp 39 _)), (15, .gen _ _ _ fun _ _ _ _ => Op.idxD (d := 45) (t := 43) (k := .i64) kf_5 (map_at hx2 (f := ProcD.d)) (OV.tmp 44 _)), (18, .len (c := (.d (.sl 1 (x2.locs.map strD)))) (n := x2.locs.length) (lenC_map _ _ _))] [(2, vp 0 0), (3, vp 1 0), (5, vi .i64 (j : Int)), (50, vb (decide (x1 ≥ (x2.locs.length : Int))))] [(0, .box (sysC s)), (1, .box [.d (.sl 1 (x.locs.map intD)), .d (.sl 2 (x.vals.map ziD))])] (by kernel_rfl) h ?_; clear h; intro a w h
      refine condS (decide (x1 ≥ (x2.locs.length : Int))) h rfl (fun hc => ?_) (fun hc => ?_)
      ·have hc8 := hc; clear hc
       have hc8' := of_decide_eq_true hc8
       refine rSeq fam0ok 2 [] [(2, vp 0 0), (3, vp 1 0), (4, vb false), (5, vi .i64 (j : Int))] [(0, .box (sysC s)), (1, .box [.d (.sl 1 (x.locs.map intD)), .d (.sl 2 (x.vals.map ziD))])] (by kernel_rfl) h ?_; clear h; intro a w h
       refine wp_ret ?_
       refine block_r ?_
       refine then_r ?_
       refine then_r ?_
       refine block_r ?_
       refine then_r ?_
       refine retS [.c (.d (.raw (.bool false)))] h Exit.ret (.inl rfl)  rfl ⟨RV.tmp _ _ rfl, trivial⟩ ?_ (by kernel_rfl) (by kernel_rfl)
       have hz : fits s x = false := by unfold fits; rw [decide_eq_true (by have h1 := hc2; have h2 := hc4; simp at h1 h2; omega), Bool.true_and]; rw [allN_fail (at_lt hx1) (show locOk s x j = false by unfold locOk nlocs; rw [hx1, hx2]; exact decide_eq_false (by have := of_decide_eq_true hc8; intro h; have := h.2; simp at this; omega))]; rfl
       rw [hz]; first | done | rfl
      ·have hc9 := hc; clear hc
       have hc9' := of_decide_eq_false hc9
       refine wp_skip ?_
       refine block_n ?_
       refine then_n ?_
       refine rS fam0ok 2 [(1, .add .i64 (m := (j : Int)) (n := 1) (i64_id (by omega) (by omega)))] [(2, vp 0 0), (3, vp 1 0), (5, vi .i64 ((j : Int) + 1))] [(0, .box (sysC s)), (1, .box [.d (.sl 1 (x.locs.map intD)), .d (.sl 2 (x.vals.map ziD))])] (by kernel_rfl) h ?_; clear h; intro a w h
       refine then_n ?_
       refine roundS (x := j) (y := j + 1) h ?_ ?_ (by kernel_rfl) (by kernel_rfl)
       ·have := at_lt hx1
        exact ⟨by omega, allN_step hI2 (by unfold locOk nlocs; rw [hx1, hx2]; exact decide_eq_true ⟨by have := of_decide_eq_false hc7; simpa using this, by have := of_decide_eq_false hc9; simpa using this⟩)⟩
       ·show x.locs.length - (j + 1) < x.locs.length - j
        have := at_lt hx1; omega
    ·have hc10 := hc; clear hc
     have hc10' := of_decide_eq_false hc10
     refine wp_exit ?_
     refine then_x ?_
     refine then_x ?_
     refine inBlock_exit ?_
     refine then_n ?_
     refine wp_seq ?_
     refine rSeq fam0ok 2 [] [(2, vp 0 0), (3, vp 1 0), (6, vi .i64 0)] [(0, .box (sysC s)), (1, .box [.d (.sl 1 (x.locs.map intD)), .d (.sl 2 (x.vals.map ziD))])] (by kernel_rfl) h ?_; clear h; intro a w h
     refine wp_block ?_
     refine loopS (ι := (Nat)) (fun (z_ : (Nat)) => match z_ with | i => i ≤ x.vals.length ∧ allN i (valOk s x) = true)
       (fun (z_ : (Nat)) => match z_ with | i => [(2, vp 0 0), (3, vp 1 0), (6, vi .i64 (i : Int))])
       (fun (z_ : (Nat)) => match z_ with | i => [(0, .box (sysC s)), (1, .box [.d (.sl 1 (x.locs.map intD)), .d (.sl 2 (x.vals.map ziD))])])
       (fun (z_ : (Nat)) => match z_ with | i => x.vals.length - i) 0 ?_ h (by kernel_rfl) (by kernel_rfl) ?_
     ·exact ⟨Nat.zero_le _, rfl⟩
     ·clear h; rintro i a w hI h
      change St _ (F.of [(2, vp 0 0), (3, vp 1 0), (6, vi .i64 (i : Int))] [(0, .box (sysC s)), (1, .box [.d (.sl 1 (x.locs.map intD)), .d (.sl 2 (x.vals.map ziD))])]) a w at h
      obtain ⟨hJ1, hJ2⟩ := hI
      refine wp_seq ?_
      refine rSeq fam0ok 2 [(3, .len (c := (.d (.sl 2 (x.vals.map ziD)))) (n := x.vals.length) (lenC_map _ _ _))] [(2, vp 0 0), (3, vp 1 0), (6, vi .i64 (i : Int)), (55, vb (decide ((i : Int) < (x.vals.length : Int))))] [(0, .box (sysC s)), (1, .box [.d (.sl 1 (x.locs.map intD)), .d (.sl 2 (x.vals.map ziD))])] (by kernel_rfl) h ?_; clear h; intro a w h
      refine condS (decide ((i : Int) < (x.vals.length : Int))) h rfl (fun hc => ?_) (fun hc => ?_)
      ·have hc11 := hc; clear hc
       have hc11' := of_decide_eq_true hc11
       refine wp_skip ?_
       refine then_n ?_
       refine wp_seq ?_
       refine wp_block ?_
       obtain ⟨x3, hx3⟩ : ∃ z_ : ZI, x.vals[i]? = some z_ := ⟨_, List.getElem?_eq_getElem (by first | omega | (simp at *; omega))⟩
       have gx3 := hx.val x3 (List.mem_of_getElem? hx3)
       refine rSeq fam0ok 2 [(5, .gen _ _ _ fun _ _ _ _ => Op.idxD (d := 63) (t := 61) (k := .i64) tt_6 (map_at hx3 (f := ziD)) (OV.tmp 62 _)), (7, .call (SRwithin s i x3 hL hs gx3) kh_5)] [(2, vp 0 0), (3, vp 1 0), (6, vi .i64 (i : Int)), (66, vb (!(withinB (bndAt s i) x3)))] [(0, .box (sysC s)), (1, .box [.d (.sl 1 (x.locs.map intD)), .d (.sl 2 (x.vals.map ziD))])] (by kernel_rfl) h ?_; clear h; intro a w h
       refine condS (!(withinB (bndAt s i) x3)) h rfl (fun hc => ?_) (fun hc => ?_)
       ·have hc12 := hc; clear hc
        have hc12' := hc12; (try simp at hc12')
        refine rSeq fam0ok 2 [] [(2, vp 0 0), (3, vp 1 0), (4, vb false), (6, vi .i64 (i : Int))] [(0, .box (sysC s)), (1, .box [.d (.sl 1 (x.locs.map intD)), .d (.sl 2 (x.vals.map ziD))])] (by kernel_rfl) h ?_; clear h; intro a w h
        refine wp_ret ?_
        refine block_r ?_
        refine then_r ?_
        refine then_r ?_
        refine block_r ?_
        refine then_r ?_
        refine retS [.c (.d (.raw (.bool false)))] h Exit.ret (.inl rfl)  rfl ⟨RV.tmp _ _ rfl, trivial⟩ ?_ (by kernel_rfl) (by kernel_rfl)
        have hz : fits s x = false := by unfold fits; rw [decide_eq_true (by have h1 := hc2; have h2 := hc4; simp at h1 h2; omega), Bool.true_and]; rw [allN_fail (at_lt hx3) (show valOk s x i = false by unfold valOk; rw [hx3]; exact (show (withinB (bndAt s i) x3) = false from by simpa using hc12)), Bool.and_false]
        rw [hz]; first | done | rfl
       ·have hc13 := hc; clear hc
        have hc13' := hc13; (try simp at hc13')
        refine wp_skip ?_
        refine block_n ?_
        refine then_n ?_
        refine rS fam0ok 2 [(1, .add .i64 (m := (i : Int)) (n := 1) (i64_id (by omega) (by omega)))] [(2, vp 0 0), (3, vp 1 0), (6, vi .i64 ((i : Int) + 1))] [(0, .box (sysC s)), (1, .box [.d (.sl 1 (x.locs.map intD)), .d (.sl 2 (x.vals.map ziD))])] (by kernel_rfl) h ?_; clear h; intro a w h
        refine then_n ?_
        refine roundS (x := i) (y := i + 1) h ?_ ?_ (by kernel_rfl) (by kernel_rfl)
        ·have := at_lt hx3
         exact ⟨by omega, allN_step hJ2 (by unfold valOk; rw [hx3]; exact (show (withinB (bndAt s i) x3) = true from by simpa using hc13))⟩
        ·show x.vals.length - (i + 1) < x.vals.length - i
         have := at_lt hx3; omega
      ·have hc14 := hc; clear hc
       have hc14' := of_decide_eq_false hc14
       refine wp_exit ?_
       refine then_x ?_
       refine then_x ?_
       refine inBlock_exit ?_
       refine then_n ?_
       refine rSeq fam0ok 2 [] [(4, vb true)] [] (by kernel_rfl) h ?_; clear h; intro a w h
       refine wp_ret ?_
       refine retS [.c (.d (.raw (.bool true)))] h Exit.ret (.inl rfl)  rfl ⟨RV.tmp _ _ rfl, trivial⟩ ?_ (by kernel_rfl) (by kernel_rfl)
       have hz : fits s x = true := by unfold fits; rw [decide_eq_true (by have h1 := hc2; have h2 := hc4; simp at h1 h2; omega), Bool.true_and]; rw [show x.locs.length = j by have := of_decide_eq_false hc10; omega, hI2, show x.vals.length = i by have := of_decide_eq_false hc14; omega, hJ2]; rfl
       rw [hz]; first | done | rfl
set_option maxHeartbeats 4000000 in
theorem SRFirst (s : SysD) (x : StD) {L M : Nat} (hL : L + M ≤ 10000) (hs : SysOk L s) (hx : StOk M x) : Fn Tryz.prog 16 [] [.t (.agg (sysC s)), .t (.agg [.d (.sl 1 (x.locs.map intD)), .d (.sl 2 (x.vals.map ziD))])] (vb (first s x)) [] := by
 have lx1 := hx.locs
 have lx2 := hx.vals
 have ls1 := hs.vars
 have ls2 := hs.procs
 refine Fn.body Tryz.func16 rfl 29 rfl fun w H B a h => ?_
 refine rSeq fam0ok 0 [] [(2, vp 0 0), (3, vp 1 0), (4, vb false)] [(0, .box (sysC s)), (1, .box [.d (.sl 1 (x.locs.map intD)), .d (.sl 2 (x.vals.map ziD))])] (by kernel_rfl) h ?_; clear h; intro a w h
 refine wp_seq ?_
 refine rSeq fam0ok 2 [] [(2, vp 0 0), (3, vp 1 0), (4, vb false), (5, vi .i64 0)] [(0, .box (sysC s)), (1, .box [.d (.sl 1 (x.locs.map intD)), .d (.sl 2 (x.vals.map ziD))])] (by kernel_rfl) h ?_; clear h; intro a w h
 refine wp_block ?_
 refine loopS (ι := (Nat)) (fun (z_ : (Nat)) => match z_ with | j => j ≤ x.locs.length ∧ (x.locs.take j).any (fun l : Int => l != 0) = false)
   (fun (z_ : (Nat)) => match z_ with | j => [(2, vp 0 0), (3, vp 1 0), (5, vi .i64 (j : Int))])
   (fun (z_ : (Nat)) => match z_ with | j => [(0, .box (sysC s)), (1, .box [.d (.sl 1 (x.locs.map intD)), .d (.sl 2 (x.vals.map ziD))])])
   (fun (z_ : (Nat)) => match z_ with | j => x.locs.length - j) 0 ?_ h (by kernel_rfl) (by kernel_rfl) ?_
 ·exact ⟨Nat.zero_le _, rfl⟩
 ·clear h; rintro j a w hI h
  change St _ (F.of [(2, vp 0 0), (3, vp 1 0), (5, vi .i64 (j : Int))] [(0, .box (sysC s)), (1, .box [.d (.sl 1 (x.locs.map intD)), .d (.sl 2 (x.vals.map ziD))])]) a w at h
  obtain ⟨hI1, hI2⟩ := hI
  refine wp_seq ?_
  refine rSeq fam0ok 2 [(3, .len (c := (.d (.sl 1 (x.locs.map intD)))) (n := x.locs.length) (lenC_map _ _ _))] [(2, vp 0 0), (3, vp 1 0), (5, vi .i64 (j : Int)), (10, vb (decide ((j : Int) < (x.locs.length : Int))))] [(0, .box (sysC s)), (1, .box [.d (.sl 1 (x.locs.map intD)), .d (.sl 2 (x.vals.map ziD))])] (by kernel_rfl) h ?_; clear h; intro a w h
  refine condS (decide ((j : Int) < (x.locs.length : Int))) h rfl (fun hc => ?_) (fun hc => ?_)
  ·have hc1 := hc; clear hc
   have hc1' := of_decide_eq_true hc1
   refine wp_skip ?_
   refine then_n ?_
   refine wp_seq ?_
   refine wp_block ?_
   obtain ⟨x1, hx1⟩ : ∃ z_ : Int, x.locs[j]? = some z_ := ⟨_, List.getElem?_eq_getElem (by first | omega | (simp at *; omega))⟩
   refine rSeq fam0ok 2 [(3, .gen _ _ _ fun _ _ _ _ => Op.idxD (d := 16) (t := 14) (k := .i64) tb_1 (map_at hx1 (f := intD)) (OV.tmp 15 _))] [(2, vp 0 0), (3, vp 1 0), (5, vi .i64 (j : Int)), (18, vb (x1 != 0))] [(0, .box (sysC s)), (1, .box [.d (.sl 1 (x.locs.map intD)), .d (.sl 2 (x.vals.map ziD))])] (by kernel_rfl) h ?_; clear h; intro a w h
   refine condS (x1 != 0) h rfl (fun hc => ?_) (fun hc => ?_)
   ·have hc2 := hc; clear hc
    have hc2' := hc2; (try simp at hc2')
    refine rSeq fam0ok 2 [] [(2, vp 0 0), (3, vp 1 0), (4, vb false), (5, vi .i64 (j : Int))] [(0, .box (sysC s)), (1, .box [.d (.sl 1 (x.locs.map intD)), .d (.sl 2 (x.vals.map ziD))])] (by kernel_rfl) h ?_; clear h; intro a w h
    refine wp_ret ?_
    refine block_r ?_
    refine then_r ?_
    refine then_r ?_
    refine block_r ?_
    refine then_r ?_
    refine retS [.c (.d (.raw (.bool false)))] h Exit.ret (.inl rfl)  rfl ⟨RV.tmp _ _ rfl, trivial⟩ ?_ (by kernel_rfl) (by kernel_rfl)
    have hz : first s x = (false) := by unfold first; rw [any_stop (q := (fun l : Int => l != 0)) hx1 hc2, Bool.not_true, Bool.and_false]; rfl
    rw [hz]; first | done | rfl
   ·have hc3 := hc; clear hc
    have hc3' := hc3; (try simp at hc3')
    refine wp_skip ?_
    refine block_n ?_
    refine then_n ?_
    refine rS fam0ok 2 [(1, .add .i64 (m := (j : Int)) (n := 1) (i64_id (by omega) (by omega)))] [(2, vp 0 0), (3, vp 1 0), (5, vi .i64 ((j : Int) + 1))] [(0, .box (sysC s)), (1, .box [.d (.sl 1 (x.locs.map intD)), .d (.sl 2 (x.vals.map ziD))])] (by kernel_rfl) h ?_; clear h; intro a w h
    refine then_n ?_
    refine roundS (x := j) (y := j + 1) h ?_ ?_ (by kernel_rfl) (by kernel_rfl)
    ·exact ⟨by have := at_lt hx1; omega, any_step hx1 hI2 hc3⟩
    ·show x.locs.length - (j + 1) < x.locs.length - j
     have := at_lt hx1; omega
  ·have hc4 := hc; clear hc
   have hc4' := of_decide_eq_false hc4
   refine wp_exit ?_
   refine then_x ?_
   refine then_x ?_
   refine inBlock_exit ?_
   refine then_n ?_
   rcases Bool.eq_false_or_eq_true (fits s x) with hc | hc
   ·have hc5 := hc; clear hc
    refine rSeq fam0ok 2 [(2, .call (Fn.cast (SRFits s x hL hs hx) (congrArg vb hc5)) kh_6), (8, .call (SRHolds x.vals (L := L) (M := M) (by omega) hx.vok s.init hs.init.1 hs.init.2) ke_10)] [(4, vb (FormD.holds x.vals s.init))] [] (by kernel_rfl) h ?_; clear h; intro a w h
    refine wp_ret ?_
    refine retS [.c (.d (.raw (.bool (FormD.holds x.vals s.init))))] h Exit.ret (.inl rfl)  rfl ⟨RV.tmp _ _ rfl, trivial⟩ ?_ (by kernel_rfl) (by kernel_rfl)
    have hz : first s x = (FormD.holds x.vals s.init) := by unfold first; rw [hc5, any_end (q := (fun l : Int => l != 0)) (of_decide_eq_false hc4) hI2]; rfl
    rw [hz]; first | done | rfl
   ·have hc6 := hc; clear hc
    refine rSeq fam0ok 2 [(2, .call (Fn.cast (SRFits s x hL hs hx) (congrArg vb hc6)) kh_6)] [(4, vb false)] [] (by kernel_rfl) h ?_; clear h; intro a w h
    refine wp_ret ?_
    refine retS [.c (.d (.raw (.bool false)))] h Exit.ret (.inl rfl)  rfl ⟨RV.tmp _ _ rfl, trivial⟩ ?_ (by kernel_rfl) (by kernel_rfl)
    have hz : first s x = (false) := by unfold first; rw [hc6, any_end (q := (fun l : Int => l != 0)) (of_decide_eq_false hc4) hI2]; rfl
    rw [hz]; first | done | rfl
set_option maxHeartbeats 4000000 in
theorem SRSame18 (x y : StD) {M : Nat} (hM : M ≤ 40000) (hx : StOk M x) (hy : StOk M y) : Fn Tryz.prog 22 [] [.t (.agg [.d (.sl 1 (x.locs.map intD)), .d (.sl 2 (x.vals.map ziD))]), .t (.agg [.d (.sl 1 (y.locs.map intD)), .d (.sl 2 (y.vals.map ziD))])] (vb (sameS x y)) [] := by
 have lx1 := hx.locs
 have lx2 := hx.vals
 refine Fn.body Tryz.func22 rfl 60 rfl fun w H B a h => ?_
 refine rSeq fam0ok 0 [] [(2, vp 0 0), (3, vp 1 0), (4, vb false)] [(0, .box [.d (.sl 1 (x.locs.map intD)), .d (.sl 2 (x.vals.map ziD))]), (1, .box [.d (.sl 1 (y.locs.map intD)), .d (.sl 2 (y.vals.map ziD))])] (by kernel_rfl) h ?_; clear h; intro a w h
 refine wp_seq ?_
 rcases Bool.eq_false_or_eq_true ((x.locs.length : Int) != (y.locs.length : Int)) with hc | hc
 ·have hc1 := hc; clear hc
  have hc1' := hc1; (try simp at hc1')
  refine rSeq fam0ok 2 [(2, .len (c := (.d (.sl 1 (x.locs.map intD)))) (n := x.locs.length) (lenC_map _ _ _)), (5, .len (c := (.d (.sl 1 (y.locs.map intD)))) (n := y.locs.length) (lenC_map _ _ _)), (6, .cmp (op := .neq) (m := (x.locs.length : Int)) (n := (y.locs.length : Int)) (b := true) .i64 hc1)] [(2, vp 0 0), (3, vp 1 0), (4, vb false), (22, vb true)] [(0, .box [.d (.sl 1 (x.locs.map intD)), .d (.sl 2 (x.vals.map ziD))]), (1, .box [.d (.sl 1 (y.locs.map intD)), .d (.sl 2 (y.vals.map ziD))])] (by kernel_rfl) h ?_; clear h; intro a w h
  refine condS true h rfl (fun hc => ?_) (fun hc => ?_)
  ·clear hc
   refine rSeq fam0ok 2 [] [(2, vp 0 0), (3, vp 1 0), (4, vb false)] [(0, .box [.d (.sl 1 (x.locs.map intD)), .d (.sl 2 (x.vals.map ziD))]), (1, .box [.d (.sl 1 (y.locs.map intD)), .d (.sl 2 (y.vals.map ziD))])] (by kernel_rfl) h ?_; clear h; intro a w h
   refine wp_ret ?_
   refine then_r ?_
   refine retS [.c (.d (.raw (.bool false)))] h Exit.ret (.inl rfl)  rfl ⟨RV.tmp _ _ rfl, trivial⟩ ?_ (by kernel_rfl) (by kernel_rfl)
   have hz : sameS x y = false := by unfold sameS; rw [decide_eq_false (p := x.locs = y.locs) (fun h => by have := hc1; rw [h] at this; simp at this)]; rfl
   rw [hz]; first | done | rfl
  ·cases hc
 ·have hc2 := hc; clear hc
  have hc2' := hc2; (try simp at hc2')
  refine rSeq fam0ok 2 [(2, .len (c := (.d (.sl 1 (x.locs.map intD)))) (n := x.locs.length) (lenC_map _ _ _)), (5, .len (c := (.d (.sl 1 (y.locs.map intD)))) (n := y.locs.length) (lenC_map _ _ _)), (6, .cmp (op := .neq) (m := (x.locs.length : Int)) (n := (y.locs.length : Int)) (b := false) .i64 hc2), (10, .len (c := (.d (.sl 2 (x.vals.map ziD)))) (n := x.vals.length) (lenC_map _ _ _)), (13, .len (c := (.d (.sl 2 (y.vals.map ziD)))) (n := y.vals.length) (lenC_map _ _ _))] [(2, vp 0 0), (3, vp 1 0), (4, vb false), (22, vb ((x.vals.length : Int) != (y.vals.length : Int)))] [(0, .box [.d (.sl 1 (x.locs.map intD)), .d (.sl 2 (x.vals.map ziD))]), (1, .box [.d (.sl 1 (y.locs.map intD)), .d (.sl 2 (y.vals.map ziD))])] (by kernel_rfl) h ?_; clear h; intro a w h
  refine condS ((x.vals.length : Int) != (y.vals.length : Int)) h rfl (fun hc => ?_) (fun hc => ?_)
  ·have hc3 := hc; clear hc
   have hc3' := hc3; (try simp at hc3')
   refine rSeq fam0ok 2 [] [(2, vp 0 0), (3, vp 1 0), (4, vb false)] [(0, .box [.d (.sl 1 (x.locs.map intD)), .d (.sl 2 (x.vals.map ziD))]), (1, .box [.d (.sl 1 (y.locs.map intD)), .d (.sl 2 (y.vals.map ziD))])] (by kernel_rfl) h ?_; clear h; intro a w h
   refine wp_ret ?_
   refine then_r ?_
   refine retS [.c (.d (.raw (.bool false)))] h Exit.ret (.inl rfl)  rfl ⟨RV.tmp _ _ rfl, trivial⟩ ?_ (by kernel_rfl) (by kernel_rfl)
   have hz : sameS x y = false := by unfold sameS; rw [decide_eq_false (p := x.vals.map ZI.val = y.vals.map ZI.val) (map_len_ne (by have := hc3; simp at this; omega)), Bool.and_false]
   rw [hz]; first | done | rfl
  ·have hc4 := hc; clear hc
   have hc4' := hc4; (try simp at hc4')
   refine wp_skip ?_
   refine then_n ?_
   refine wp_seq ?_
   refine rSeq fam0ok 2 [] [(2, vp 0 0), (3, vp 1 0), (4, vb false), (5, vi .i64 0)] [(0, .box [.d (.sl 1 (x.locs.map intD)), .d (.sl 2 (x.vals.map ziD))]), (1, .box [.d (.sl 1 (y.locs.map intD)), .d (.sl 2 (y.vals.map ziD))])] (by kernel_rfl) h ?_; clear h; intro a w h
   refine wp_block ?_
   refine loopS (ι := (Nat)) (fun (z_ : (Nat)) => match z_ with | j => j ≤ x.locs.length ∧ (x.locs.take j).map (fun l : Int => l) = (y.locs.take j).map (fun l : Int => l))
     (fun (z_ : (Nat)) => match z_ with | j => [(2, vp 0 0), (3, vp 1 0), (5, vi .i64 (j : Int))])
     (fun (z_ : (Nat)) => match z_ with | j => [(0, .box [.d (.sl 1 (x.locs.map intD)), .d (.sl 2 (x.vals.map ziD))]), (1, .box [.d (.sl 1 (y.locs.map intD)), .d (.sl 2 (y.vals.map ziD))])])
     (fun (z_ : (Nat)) => match z_ with | j => x.locs.length - j) 0 ?_ h (by kernel_rfl) (by kernel_rfl) ?_
   ·exact ⟨Nat.zero_le _, rfl⟩
   ·clear h; rintro j a w hI h
    change St _ (F.of [(2, vp 0 0), (3, vp 1 0), (5, vi .i64 (j : Int))] [(0, .box [.d (.sl 1 (x.locs.map intD)), .d (.sl 2 (x.vals.map ziD))]), (1, .box [.d (.sl 1 (y.locs.map intD)), .d (.sl 2 (y.vals.map ziD))])]) a w at h
    obtain ⟨hj1, hj2⟩ := hI
    refine wp_seq ?_
    refine rSeq fam0ok 2 [(3, .len (c := (.d (.sl 1 (x.locs.map intD)))) (n := x.locs.length) (lenC_map _ _ _))] [(2, vp 0 0), (3, vp 1 0), (5, vi .i64 (j : Int)), (27, vb (decide ((j : Int) < (x.locs.length : Int))))] [(0, .box [.d (.sl 1 (x.locs.map intD)), .d (.sl 2 (x.vals.map ziD))]), (1, .box [.d (.sl 1 (y.locs.map intD)), .d (.sl 2 (y.vals.map ziD))])] (by kernel_rfl) h ?_; clear h; intro a w h
    refine condS (decide ((j : Int) < (x.locs.length : Int))) h rfl (fun hc => ?_) (fun hc => ?_)
    ·have hc5 := hc; clear hc
     have hc5' := of_decide_eq_true hc5
     refine wp_skip ?_
     refine then_n ?_
     refine wp_seq ?_
     refine wp_block ?_
     obtain ⟨x1, hx1⟩ : ∃ z_ : Int, x.locs[j]? = some z_ := ⟨_, List.getElem?_eq_getElem (by first | omega | (simp at *; omega))⟩
     obtain ⟨x2, hx2⟩ : ∃ z_ : Int, y.locs[j]? = some z_ := ⟨_, List.getElem?_eq_getElem (by first | omega | (simp at *; omega))⟩
     refine rSeq fam0ok 2 [(3, .gen _ _ _ fun _ _ _ _ => Op.idxD (d := 33) (t := 31) (k := .i64) tb_1 (map_at hx1 (f := intD)) (OV.tmp 32 _)), (8, .gen _ _ _ fun _ _ _ _ => Op.idxD (d := 38) (t := 36) (k := .i64) tb_1 (map_at hx2 (f := intD)) (OV.tmp 37 _))] [(2, vp 0 0), (3, vp 1 0), (5, vi .i64 (j : Int)), (40, vb (x1 != x2))] [(0, .box [.d (.sl 1 (x.locs.map intD)), .d (.sl 2 (x.vals.map ziD))]), (1, .box [.d (.sl 1 (y.locs.map intD)), .d (.sl 2 (y.vals.map ziD))])] (by kernel_rfl) h ?_; clear h; intro a w h
     refine condS (x1 != x2) h rfl (fun hc => ?_) (fun hc => ?_)
     ·have hc6 := hc; clear hc
      have hc6' := hc6; (try simp at hc6')
      refine rSeq fam0ok 2 [] [(2, vp 0 0), (3, vp 1 0), (4, vb false), (5, vi .i64 (j : Int))] [(0, .box [.d (.sl 1 (x.locs.map intD)), .d (.sl 2 (x.vals.map ziD))]), (1, .box [.d (.sl 1 (y.locs.map intD)), .d (.sl 2 (y.vals.map ziD))])] (by kernel_rfl) h ?_; clear h; intro a w h
      refine wp_ret ?_
      refine block_r ?_
      refine then_r ?_
      refine then_r ?_
      refine block_r ?_
      refine then_r ?_
      refine retS [.c (.d (.raw (.bool false)))] h Exit.ret (.inl rfl)  rfl ⟨RV.tmp _ _ rfl, trivial⟩ ?_ (by kernel_rfl) (by kernel_rfl)
      have hz : sameS x y = false := by unfold sameS; rw [decide_eq_false (p := x.locs = y.locs) (fun h => map_ne (f := (fun l : Int => l)) hx1 hx2 (by have := hc6; simpa using this) (by rw [h]))]; rfl
      rw [hz]; first | done | rfl
     ·have hc7 := hc; clear hc
      have hc7' := hc7; (try simp at hc7')
      refine wp_skip ?_
      refine block_n ?_
      refine then_n ?_
      refine rS fam0ok 2 [(1, .add .i64 (m := (j : Int)) (n := 1) (i64_id (by omega) (by omega)))] [(2, vp 0 0), (3, vp 1 0), (5, vi .i64 ((j : Int) + 1))] [(0, .box [.d (.sl 1 (x.locs.map intD)), .d (.sl 2 (x.vals.map ziD))]), (1, .box [.d (.sl 1 (y.locs.map intD)), .d (.sl 2 (y.vals.map ziD))])] (by kernel_rfl) h ?_; clear h; intro a w h
      refine then_n ?_
      refine roundS (x := j) (y := j + 1) h ?_ ?_ (by kernel_rfl) (by kernel_rfl)
      ·have := at_lt hx1
       exact ⟨by omega, map_take hx1 hx2 hj2 (by have := hc7; simpa using this)⟩
      ·show x.locs.length - (j + 1) < x.locs.length - j
       have := at_lt hx1; omega
    ·have hc8 := hc; clear hc
     have hc8' := of_decide_eq_false hc8
     refine wp_exit ?_
     refine then_x ?_
     refine then_x ?_
     refine inBlock_exit ?_
     refine then_n ?_
     refine wp_seq ?_
     refine rSeq fam0ok 2 [] [(2, vp 0 0), (3, vp 1 0), (6, vi .i64 0)] [(0, .box [.d (.sl 1 (x.locs.map intD)), .d (.sl 2 (x.vals.map ziD))]), (1, .box [.d (.sl 1 (y.locs.map intD)), .d (.sl 2 (y.vals.map ziD))])] (by kernel_rfl) h ?_; clear h; intro a w h
     refine wp_block ?_
     refine loopS (ι := (Nat)) (fun (z_ : (Nat)) => match z_ with | i => i ≤ x.vals.length ∧ (x.vals.take i).map ZI.val = (y.vals.take i).map ZI.val)
       (fun (z_ : (Nat)) => match z_ with | i => [(2, vp 0 0), (3, vp 1 0), (6, vi .i64 (i : Int))])
       (fun (z_ : (Nat)) => match z_ with | i => [(0, .box [.d (.sl 1 (x.locs.map intD)), .d (.sl 2 (x.vals.map ziD))]), (1, .box [.d (.sl 1 (y.locs.map intD)), .d (.sl 2 (y.vals.map ziD))])])
       (fun (z_ : (Nat)) => match z_ with | i => x.vals.length - i) 0 ?_ h (by kernel_rfl) (by kernel_rfl) ?_
     ·exact ⟨Nat.zero_le _, rfl⟩
     ·clear h; rintro i a w hI h
      change St _ (F.of [(2, vp 0 0), (3, vp 1 0), (6, vi .i64 (i : Int))] [(0, .box [.d (.sl 1 (x.locs.map intD)), .d (.sl 2 (x.vals.map ziD))]), (1, .box [.d (.sl 1 (y.locs.map intD)), .d (.sl 2 (y.vals.map ziD))])]) a w at h
      obtain ⟨hi1, hi2⟩ := hI
      refine wp_seq ?_
      refine rSeq fam0ok 2 [(3, .len (c := (.d (.sl 2 (x.vals.map ziD)))) (n := x.vals.length) (lenC_map _ _ _))] [(2, vp 0 0), (3, vp 1 0), (6, vi .i64 (i : Int)), (45, vb (decide ((i : Int) < (x.vals.length : Int))))] [(0, .box [.d (.sl 1 (x.locs.map intD)), .d (.sl 2 (x.vals.map ziD))]), (1, .box [.d (.sl 1 (y.locs.map intD)), .d (.sl 2 (y.vals.map ziD))])] (by kernel_rfl) h ?_; clear h; intro a w h
      refine condS (decide ((i : Int) < (x.vals.length : Int))) h rfl (fun hc => ?_) (fun hc => ?_)
      ·have hc9 := hc; clear hc
       have hc9' := of_decide_eq_true hc9
       refine wp_skip ?_
       refine then_n ?_
       refine wp_seq ?_
       refine wp_block ?_
       obtain ⟨x3, hx3⟩ : ∃ z_ : ZI, x.vals[i]? = some z_ := ⟨_, List.getElem?_eq_getElem (by first | omega | (simp at *; omega))⟩
       have gx3 := hx.val x3 (List.mem_of_getElem? hx3)
       have lx3 := gx3.2
       obtain ⟨x4, hx4⟩ : ∃ z_ : ZI, y.vals[i]? = some z_ := ⟨_, List.getElem?_eq_getElem (by first | omega | (simp at *; omega))⟩
       have gx4 := hy.val x4 (List.mem_of_getElem? hx4)
       have lx4 := gx4.2
       refine rSeq fam0ok 2 [(3, .gen _ _ _ fun _ _ _ _ => Op.idxD (d := 51) (t := 49) (k := .i64) tt_6 (map_at hx3 (f := ziD)) (OV.tmp 50 _)), (8, .gen _ _ _ fun _ _ _ _ => Op.idxD (d := 56) (t := 54) (k := .i64) tt_6 (map_at hx4 (f := ziD)) (OV.tmp 55 _)), (10, .call (SRCmp x3 x4 gx3.1 gx4.1 (by omega) (by omega)) kh_1)] [(2, vp 0 0), (3, vp 1 0), (6, vi .i64 (i : Int)), (59, vb (cmpZ x3.val x4.val != 0))] [(0, .box [.d (.sl 1 (x.locs.map intD)), .d (.sl 2 (x.vals.map ziD))]), (1, .box [.d (.sl 1 (y.locs.map intD)), .d (.sl 2 (y.vals.map ziD))])] (by kernel_rfl) h ?_; clear h; intro a w h
       refine condS (cmpZ x3.val x4.val != 0) h rfl (fun hc => ?_) (fun hc => ?_)
       ·have hc10 := hc; clear hc
        have hc10' := hc10; (try simp at hc10')
        refine rSeq fam0ok 2 [] [(2, vp 0 0), (3, vp 1 0), (4, vb false), (6, vi .i64 (i : Int))] [(0, .box [.d (.sl 1 (x.locs.map intD)), .d (.sl 2 (x.vals.map ziD))]), (1, .box [.d (.sl 1 (y.locs.map intD)), .d (.sl 2 (y.vals.map ziD))])] (by kernel_rfl) h ?_; clear h; intro a w h
        refine wp_ret ?_
        refine block_r ?_
        refine then_r ?_
        refine then_r ?_
        refine block_r ?_
        refine then_r ?_
        refine retS [.c (.d (.raw (.bool false)))] h Exit.ret (.inl rfl)  rfl ⟨RV.tmp _ _ rfl, trivial⟩ ?_ (by kernel_rfl) (by kernel_rfl)
        have hz : sameS x y = false := by unfold sameS; rw [decide_eq_true (p := x.locs = y.locs) (by have := map_end (by have := hc2; simp at this; omega) (of_decide_eq_false hc8) hj2; simpa using this)]; rw [decide_eq_false (p := x.vals.map ZI.val = y.vals.map ZI.val) (map_ne hx3 hx4 (by have := hc10; rw [cmpZ_n0] at this; simpa using this))]; rfl
        rw [hz]; first | done | rfl
       ·have hc11 := hc; clear hc
        have hc11' := hc11; (try simp at hc11')
        refine wp_skip ?_
        refine block_n ?_
        refine then_n ?_
        refine rS fam0ok 2 [(1, .add .i64 (m := (i : Int)) (n := 1) (i64_id (by omega) (by omega)))] [(2, vp 0 0), (3, vp 1 0), (6, vi .i64 ((i : Int) + 1))] [(0, .box [.d (.sl 1 (x.locs.map intD)), .d (.sl 2 (x.vals.map ziD))]), (1, .box [.d (.sl 1 (y.locs.map intD)), .d (.sl 2 (y.vals.map ziD))])] (by kernel_rfl) h ?_; clear h; intro a w h
        refine then_n ?_
        refine roundS (x := i) (y := i + 1) h ?_ ?_ (by kernel_rfl) (by kernel_rfl)
        ·have := at_lt hx3
         exact ⟨by omega, map_take hx3 hx4 hi2 (by have := hc11; rw [cmpZ_n0] at this; simpa using this)⟩
        ·show x.vals.length - (i + 1) < x.vals.length - i
         have := at_lt hx3; omega
      ·have hc12 := hc; clear hc
       have hc12' := of_decide_eq_false hc12
       refine wp_exit ?_
       refine then_x ?_
       refine then_x ?_
       refine inBlock_exit ?_
       refine then_n ?_
       refine rSeq fam0ok 2 [] [(4, vb true)] [] (by kernel_rfl) h ?_; clear h; intro a w h
       refine wp_ret ?_
       refine retS [.c (.d (.raw (.bool true)))] h Exit.ret (.inl rfl)  rfl ⟨RV.tmp _ _ rfl, trivial⟩ ?_ (by kernel_rfl) (by kernel_rfl)
       have hz : sameS x y = true := by unfold sameS; rw [decide_eq_true (p := x.locs = y.locs) (by have := map_end (by have := hc2; simp at this; omega) (of_decide_eq_false hc8) hj2; simpa using this)]; rw [decide_eq_true (p := x.vals.map ZI.val = y.vals.map ZI.val) (map_end (by have := hc4; simp at this; omega) (of_decide_eq_false hc12) hi2)]; rfl
       rw [hz]; first | done | rfl
end Go.Proofs.YtmohlifepfjmdaaGreat.S
end
section
namespace Go.Proofs.YtmohlifepfjmdaaGreat.S
open Go.RowKit

theorem ki_0 : Sz Tryz.prog 79 10 true := Sz.mk' (by kernel_rfl) Tryz.underlying79 _ rfl
theorem ki_1 : SlT Tryz.prog 37 79 10 := SlT.mk' Tryz.underlying37 (by kernel_rfl)
theorem ki_2 : SlT Tryz.prog 77 81 5 := SlT.mk' Tryz.underlying77 (by kernel_rfl)
theorem ki_3 : Bodied Tryz.prog 89 := Bodied.mk' (by kernel_rfl)
theorem ki_4 : Bodied Tryz.prog 88 := Bodied.mk' (by kernel_rfl)
theorem ki_5 : Sz Tryz.prog 81 5 true := Sz.mk' (by kernel_rfl) Tryz.underlying81 _ rfl
theorem ki_6 : Bodied Tryz.prog 66 := Bodied.mk' (by kernel_rfl)
def actAt (s : SysD) (i : Int) : Option ActD := if 0 ≤ i then s.acts[i.toNat]? else none
def form0 : FormD := ⟨0, ⟨⟨[], zero0⟩, false⟩, []⟩
def act0 : ActD := ⟨0, 0, 0, form0, []⟩
def mv0 : MoveD := ⟨0, false, ⟨[], zero0⟩⟩
def mvAt (a : ActD) (v : Nat) : Option MoveD := a.moves.find? fun m => m.v == (v : Int)
def freeAt (a : ActD) (v : Nat) : Bool := match mvAt a v with | some m => m.any | none => false
def newAt (x : StD) (a : ActD) (v : Nat) : ZI := match mvAt a v with | none => ZI.of ((x.vals[v]?).getD zero0).val | some m => if m.any = true then zero0 else ZI.of (valT m.t x.vals)
def there (s : SysD) (m : MoveD) : Bool := decide (m.v ≥ 0) && decide (m.v < (s.vars.length : Int))
def enabled (s : SysD) (x : StD) (c : ActD) : Bool := (fits s x && (decide (0 ≤ c.proc ∧ c.proc < (s.procs.length : Int)) && ((x.locs[c.proc.toNat]?).getD 0 == c.from_) && decide (0 ≤ c.to_ ∧ c.to_ < (nlocs s c.proc.toNat : Int)))) && (!(c.moves.any fun m => !there s m) && c.guard.holds x.vals)
theorem actAt_some {s : SysD} {i : Int} {a : ActD} (h : actAt s i = some a) : ∃ k : Nat, i = (k : Int) ∧ s.acts[k]? = some a := by
 unfold actAt at h
 split at h
 ·exact ⟨i.toNat, (Int.toNat_of_nonneg (by assumption)).symm, h⟩
 ·cases h
theorem actAt_none {s : SysD} {i : Int} (h : actAt s i = none) : i < 0 ∨ (s.acts.length : Int) ≤ i := by
 unfold actAt at h
 split at h
 ·have := List.getElem?_eq_none_iff.1 h; omega
 ·omega
theorem act_ok {L : Nat} {s : SysD} (hs : SysOk L s) {i : Int} {a : ActD} (h : actAt s i = some a) : ActOk L a := by
 obtain ⟨k, _, hk⟩ := actAt_some h
 exact hs.act a (List.mem_of_getElem? hk)
theorem mv_mem {a : ActD} {v : Nat} {m : MoveD} (h : mvAt a v = some m) : m ∈ a.moves := List.mem_of_find?_eq_some h
theorem new_ok {L M : Nat} {x : StD} {a : ActD} (ha : ActOk L a) (hx : StOk M x) (v : Nat) : ZOk (L + M + 2) (newAt x a v) := by
 unfold newAt
 split
 ·refine ⟨ZI.lb_of _, Nat.le_trans (ZI.len_of ?_) (Nat.le_trans (Nat.le_refl M) (by omega))⟩
  cases hv : x.vals[v]? with
  | none => exact pw_pos M
  | some z => have g := hx.val z (List.mem_of_getElem? hv); exact Nat.lt_of_lt_of_le (ZI.abs_lt g.1) (pw_le g.2)
 ·rename_i m hm
  split
  ·exact ZOk.zero
  ·exact ⟨ZI.lb_of _, Nat.le_trans (val_len (ha.mv m (mv_mem hm)) (by decide) hx.vok (fun p hp => hp) (Nat.le_refl _)) (by omega)⟩
set_option maxHeartbeats 4000000 in
theorem SactN (s : SysD) (i : Int) (hi : actAt s i = none) : Fn Tryz.prog 34 [] [.t (.agg (sysC s)), vi .i64 i] (.tup [.agg ([.d (.raw (.int .i64 act0.proc)), .d (.raw (.int .i64 act0.from_)), .d (.raw (.int .i64 act0.to_)), .d (.raw (.int .i64 act0.guard.kind)), .d (.sl 3 (act0.guard.r.t.parts.map Part.d))] ++ zi act0.guard.r.t.k ++ [.d (.raw (.bool act0.guard.r.eq)), .d (.sl 6 (act0.guard.kids.map FormD.d)), .d (.sl 5 (act0.moves.map MoveD.d))]), .c (.d (.raw (.bool false)))]) [] := by
 refine Fn.body Tryz.func34 rfl 21 rfl fun w H B a h => ?_
 refine rSeq fam0ok 0 [] [(1, vi .i64 i), (2, vp 0 0), (4, vp 1 0), (5, vb false)] [(0, .box (sysC s)), (1, .box [.d (.raw (.int .i64 0)), .d (.raw (.int .i64 0)), .d (.raw (.int .i64 0)), .d (.raw (.int .i64 0)), .d (.raw nilV), .d (.raw (.bool false)), .d (nsl []), .d (.raw (.bool false)), .d (.raw nilV), .d (.raw nilV)])] (by kernel_rfl) h ?_; clear h; intro a w h
 refine wp_seq ?_
 rcases Bool.eq_false_or_eq_true (decide (i < 0)) with hc | hc
 ·have hc1 := hc; clear hc
  have hc1' := of_decide_eq_true hc1
  refine rSeq fam0ok 2 [(1, .cmp (op := .lss) (m := i) (n := 0) (b := true) .i64 hc1)] [(1, vi .i64 i), (2, vp 0 0), (4, vp 1 0), (5, vb false), (14, vb true)] [(0, .box (sysC s)), (1, .box [.d (.raw (.int .i64 0)), .d (.raw (.int .i64 0)), .d (.raw (.int .i64 0)), .d (.raw (.int .i64 0)), .d (.raw nilV), .d (.raw (.bool false)), .d (nsl []), .d (.raw (.bool false)), .d (.raw nilV), .d (.raw nilV)])] (by kernel_rfl) h ?_; clear h; intro a w h
  refine condS true h rfl (fun hc => ?_) (fun hc => ?_)
  ·clear hc
   refine rSeq fam0ok 2 [] [(1, vi .i64 i), (2, vp 0 0), (4, vp 1 0), (5, vb false)] [(0, .box (sysC s)), (1, .box [.d (.raw (.int .i64 0)), .d (.raw (.int .i64 0)), .d (.raw (.int .i64 0)), .d (.raw (.int .i64 0)), .d (.raw nilV), .d (.raw (.bool false)), .d (nsl []), .d (.raw (.bool false)), .d (.raw nilV), .d (.raw nilV)])] (by kernel_rfl) h ?_; clear h; intro a w h
   refine wp_ret ?_
   refine then_r ?_
   replace h := nilDLs 1 4 3 [.d (.raw (.int .i64 0)), .d (.raw (.int .i64 0)), .d (.raw (.int .i64 0)), .d (.raw (.int .i64 0)), .d (.raw nilV), .d (.raw (.bool false)), .d (nsl []), .d (.raw (.bool false)), .d (.raw nilV), .d (.raw nilV)] [(1, vi .i64 i), (2, vp 0 0), (4, vp 1 0), (5, vb false)] [(0, .box (sysC s)), (1, .box [.d (.raw (.int .i64 0)), .d (.raw (.int .i64 0)), .d (.raw (.int .i64 0)), .d (.raw (.int .i64 0)), .d (.sl 3 ([].map Part.d)), .d (.raw (.bool false)), .d (nsl []), .d (.raw (.bool false)), .d (.raw nilV), .d (.raw nilV)])] h rfl rfl (by kernel_rfl) (by kernel_rfl)
   replace h := nilDLs 1 8 6 [.d (.raw (.int .i64 0)), .d (.raw (.int .i64 0)), .d (.raw (.int .i64 0)), .d (.raw (.int .i64 0)), .d (.sl 3 ([].map Part.d)), .d (.raw (.bool false)), .d (nsl []), .d (.raw (.bool false)), .d (.raw nilV), .d (.raw nilV)] [(1, vi .i64 i), (2, vp 0 0), (4, vp 1 0), (5, vb false)] [(0, .box (sysC s)), (1, .box [.d (.raw (.int .i64 0)), .d (.raw (.int .i64 0)), .d (.raw (.int .i64 0)), .d (.raw (.int .i64 0)), .d (.sl 3 ([].map Part.d)), .d (.raw (.bool false)), .d (nsl []), .d (.raw (.bool false)), .d (.sl 6 ([].map FormD.d)), .d (.raw nilV)])] h rfl rfl (by kernel_rfl) (by kernel_rfl)
   replace h := nilDLs 1 9 5 [.d (.raw (.int .i64 0)), .d (.raw (.int .i64 0)), .d (.raw (.int .i64 0)), .d (.raw (.int .i64 0)), .d (.sl 3 ([].map Part.d)), .d (.raw (.bool false)), .d (nsl []), .d (.raw (.bool false)), .d (.sl 6 ([].map FormD.d)), .d (.raw nilV)] [(1, vi .i64 i), (2, vp 0 0), (4, vp 1 0), (5, vb false)] [(0, .box (sysC s)), (1, .box [.d (.raw (.int .i64 0)), .d (.raw (.int .i64 0)), .d (.raw (.int .i64 0)), .d (.raw (.int .i64 0)), .d (.sl 3 ([].map Part.d)), .d (.raw (.bool false)), .d (nsl []), .d (.raw (.bool false)), .d (.sl 6 ([].map FormD.d)), .d (.sl 5 ([].map MoveD.d))])] h rfl rfl (by kernel_rfl) (by kernel_rfl)
   refine retS [.agg [.d (.raw (.int .i64 0)), .d (.raw (.int .i64 0)), .d (.raw (.int .i64 0)), .d (.raw (.int .i64 0)), .d (.sl 3 ([].map Part.d)), .d (.raw (.bool false)), .d (nsl []), .d (.raw (.bool false)), .d (.sl 6 ([].map FormD.d)), .d (.sl 5 ([].map MoveD.d))], .c (.d (.raw (.bool false)))] h Exit.ret (.inl rfl)  rfl ⟨RV.agg _ 1 0 _ _ _ _ ki_0 rfl rfl rfl rfl, RV.tmp _ _ rfl, trivial⟩ ?_ (by kernel_rfl) (by kernel_rfl)
   rfl
  ·cases hc
 ·have hc2 := hc; clear hc
  have hc2' := of_decide_eq_false hc2
  refine rSeq fam0ok 2 [(1, .cmp (op := .lss) (m := i) (n := 0) (b := false) .i64 hc2), (6, .len (c := (.d (.sl 10 (s.acts.map ActD.d)))) (n := s.acts.length) (lenC_map _ _ _)), (7, .cmp (op := .geq) (m := i) (n := (s.acts.length : Int)) (b := true) .i64 (decide_eq_true (by have := actAt_none hi; have := of_decide_eq_false hc2; omega)))] [(1, vi .i64 i), (2, vp 0 0), (4, vp 1 0), (5, vb false), (14, vb true)] [(0, .box (sysC s)), (1, .box [.d (.raw (.int .i64 0)), .d (.raw (.int .i64 0)), .d (.raw (.int .i64 0)), .d (.raw (.int .i64 0)), .d (.raw nilV), .d (.raw (.bool false)), .d (nsl []), .d (.raw (.bool false)), .d (.raw nilV), .d (.raw nilV)])] (by kernel_rfl) h ?_; clear h; intro a w h
  refine condS true h rfl (fun hc => ?_) (fun hc => ?_)
  ·clear hc
   refine rSeq fam0ok 2 [] [(1, vi .i64 i), (2, vp 0 0), (4, vp 1 0), (5, vb false)] [(0, .box (sysC s)), (1, .box [.d (.raw (.int .i64 0)), .d (.raw (.int .i64 0)), .d (.raw (.int .i64 0)), .d (.raw (.int .i64 0)), .d (.raw nilV), .d (.raw (.bool false)), .d (nsl []), .d (.raw (.bool false)), .d (.raw nilV), .d (.raw nilV)])] (by kernel_rfl) h ?_; clear h; intro a w h
   refine wp_ret ?_
   refine then_r ?_
   replace h := nilDLs 1 4 3 [.d (.raw (.int .i64 0)), .d (.raw (.int .i64 0)), .d (.raw (.int .i64 0)), .d (.raw (.int .i64 0)), .d (.raw nilV), .d (.raw (.bool false)), .d (nsl []), .d (.raw (.bool false)), .d (.raw nilV), .d (.raw nilV)] [(1, vi .i64 i), (2, vp 0 0), (4, vp 1 0), (5, vb false)] [(0, .box (sysC s)), (1, .box [.d (.raw (.int .i64 0)), .d (.raw (.int .i64 0)), .d (.raw (.int .i64 0)), .d (.raw (.int .i64 0)), .d (.sl 3 ([].map Part.d)), .d (.raw (.bool false)), .d (nsl []), .d (.raw (.bool false)), .d (.raw nilV), .d (.raw nilV)])] h rfl rfl (by kernel_rfl) (by kernel_rfl)
   replace h := nilDLs 1 8 6 [.d (.raw (.int .i64 0)), .d (.raw (.int .i64 0)), .d (.raw (.int .i64 0)), .d (.raw (.int .i64 0)), .d (.sl 3 ([].map Part.d)), .d (.raw (.bool false)), .d (nsl []), .d (.raw (.bool false)), .d (.raw nilV), .d (.raw nilV)] [(1, vi .i64 i), (2, vp 0 0), (4, vp 1 0), (5, vb false)] [(0, .box (sysC s)), (1, .box [.d (.raw (.int .i64 0)), .d (.raw (.int .i64 0)), .d (.raw (.int .i64 0)), .d (.raw (.int .i64 0)), .d (.sl 3 ([].map Part.d)), .d (.raw (.bool false)), .d (nsl []), .d (.raw (.bool false)), .d (.sl 6 ([].map FormD.d)), .d (.raw nilV)])] h rfl rfl (by kernel_rfl) (by kernel_rfl)
   replace h := nilDLs 1 9 5 [.d (.raw (.int .i64 0)), .d (.raw (.int .i64 0)), .d (.raw (.int .i64 0)), .d (.raw (.int .i64 0)), .d (.sl 3 ([].map Part.d)), .d (.raw (.bool false)), .d (nsl []), .d (.raw (.bool false)), .d (.sl 6 ([].map FormD.d)), .d (.raw nilV)] [(1, vi .i64 i), (2, vp 0 0), (4, vp 1 0), (5, vb false)] [(0, .box (sysC s)), (1, .box [.d (.raw (.int .i64 0)), .d (.raw (.int .i64 0)), .d (.raw (.int .i64 0)), .d (.raw (.int .i64 0)), .d (.sl 3 ([].map Part.d)), .d (.raw (.bool false)), .d (nsl []), .d (.raw (.bool false)), .d (.sl 6 ([].map FormD.d)), .d (.sl 5 ([].map MoveD.d))])] h rfl rfl (by kernel_rfl) (by kernel_rfl)
   refine retS [.agg [.d (.raw (.int .i64 0)), .d (.raw (.int .i64 0)), .d (.raw (.int .i64 0)), .d (.raw (.int .i64 0)), .d (.sl 3 ([].map Part.d)), .d (.raw (.bool false)), .d (nsl []), .d (.raw (.bool false)), .d (.sl 6 ([].map FormD.d)), .d (.sl 5 ([].map MoveD.d))], .c (.d (.raw (.bool false)))] h Exit.ret (.inl rfl)  rfl ⟨RV.agg _ 1 0 _ _ _ _ ki_0 rfl rfl rfl rfl, RV.tmp _ _ rfl, trivial⟩ ?_ (by kernel_rfl) (by kernel_rfl)
   rfl
  ·cases hc
set_option maxHeartbeats 4000000 in
theorem SactS0 (s : SysD) (k : Nat) (c : ActD) (hka : s.acts[k]? = some c) : Fn Tryz.prog 34 [] [.t (.agg (sysC s)), vi .i64 (k : Int)] (.tup [.agg ([.d (.raw (.int .i64 c.proc)), .d (.raw (.int .i64 c.from_)), .d (.raw (.int .i64 c.to_)), .d (.raw (.int .i64 c.guard.kind)), .d (.sl 3 (c.guard.r.t.parts.map Part.d))] ++ zi c.guard.r.t.k ++ [.d (.raw (.bool c.guard.r.eq)), .d (.sl 6 (c.guard.kids.map FormD.d)), .d (.sl 5 (c.moves.map MoveD.d))]), .c (.d (.raw (.bool true)))]) [] := by
 have lk := at_lt hka
 refine Fn.body Tryz.func34 rfl 21 rfl fun w H B a h => ?_
 refine rSeq fam0ok 0 [] [(1, vi .i64 (k : Int)), (2, vp 0 0), (4, vp 1 0), (5, vb false)] [(0, .box (sysC s)), (1, .box [.d (.raw (.int .i64 0)), .d (.raw (.int .i64 0)), .d (.raw (.int .i64 0)), .d (.raw (.int .i64 0)), .d (.raw nilV), .d (.raw (.bool false)), .d (nsl []), .d (.raw (.bool false)), .d (.raw nilV), .d (.raw nilV)])] (by kernel_rfl) h ?_; clear h; intro a w h
 refine wp_seq ?_
 refine rSeq fam0ok 2 [(1, .cmp (op := .lss) (m := (k : Int)) (n := 0) (b := false) .i64 (show (decide ((k : Int) < 0)) = false from decide_eq_false (by omega))), (6, .len (c := (.d (.sl 10 (s.acts.map ActD.d)))) (n := s.acts.length) (lenC_map _ _ _)), (7, .cmp (op := .geq) (m := (k : Int)) (n := (s.acts.length : Int)) (b := false) .i64 (show (decide ((k : Int) ≥ (s.acts.length : Int))) = false from decide_eq_false (by omega)))] [(1, vi .i64 (k : Int)), (2, vp 0 0), (4, vp 1 0), (5, vb false), (14, vb false)] [(0, .box (sysC s)), (1, .box [.d (.raw (.int .i64 0)), .d (.raw (.int .i64 0)), .d (.raw (.int .i64 0)), .d (.raw (.int .i64 0)), .d (.raw nilV), .d (.raw (.bool false)), .d (nsl []), .d (.raw (.bool false)), .d (.raw nilV), .d (.raw nilV)])] (by kernel_rfl) h ?_; clear h; intro a w h
 refine condS false h rfl (fun hc => ?_) (fun hc => ?_)
 ·cases hc
 ·clear hc
  refine wp_skip ?_
  refine then_n ?_
  refine rSeq fam0ok 2 [(3, .gen _ _ _ fun _ _ _ _ => Op.idxD (d := 19) (t := 17) (k := .i64) ki_1 (map_at hka (f := ActD.d)) (OV.tmp 18 _))] [(4, vp 1 0), (5, vb true)] [(1, .box ([.d (.raw (.int .i64 c.proc)), .d (.raw (.int .i64 c.from_)), .d (.raw (.int .i64 c.to_)), .d (.raw (.int .i64 c.guard.kind)), .d (.sl 3 (c.guard.r.t.parts.map Part.d))] ++ zi c.guard.r.t.k ++ [.d (.raw (.bool c.guard.r.eq)), .d (.sl 6 (c.guard.kids.map FormD.d)), .d (.sl 5 (c.moves.map MoveD.d))]))] (by kernel_rfl) h ?_; clear h; intro a w h
  refine wp_ret ?_
  refine retS [.agg ([.d (.raw (.int .i64 c.proc)), .d (.raw (.int .i64 c.from_)), .d (.raw (.int .i64 c.to_)), .d (.raw (.int .i64 c.guard.kind)), .d (.sl 3 (c.guard.r.t.parts.map Part.d))] ++ zi c.guard.r.t.k ++ [.d (.raw (.bool c.guard.r.eq)), .d (.sl 6 (c.guard.kids.map FormD.d)), .d (.sl 5 (c.moves.map MoveD.d))]), .c (.d (.raw (.bool true)))] h Exit.ret (.inl rfl)  rfl ⟨RV.agg _ 1 0 _ _ _ _ ki_0 rfl rfl rfl rfl, RV.tmp _ _ rfl, trivial⟩ ?_ (by kernel_rfl) (by kernel_rfl)
  rfl
theorem SactS (s : SysD) (i : Int) (c : ActD) (hi : actAt s i = some c) : Fn Tryz.prog 34 [] [.t (.agg (sysC s)), vi .i64 i] (.tup [.agg ([.d (.raw (.int .i64 c.proc)), .d (.raw (.int .i64 c.from_)), .d (.raw (.int .i64 c.to_)), .d (.raw (.int .i64 c.guard.kind)), .d (.sl 3 (c.guard.r.t.parts.map Part.d))] ++ zi c.guard.r.t.k ++ [.d (.raw (.bool c.guard.r.eq)), .d (.sl 6 (c.guard.kids.map FormD.d)), .d (.sl 5 (c.moves.map MoveD.d))]), .c (.d (.raw (.bool true)))]) [] := by
 obtain ⟨k, rfl, hk⟩ := actAt_some hi
 exact SactS0 s k c hk
set_option maxHeartbeats 4000000 in
theorem SKMove1 (m : MoveD) (v : Nat)  : Fn Tryz.prog 89 [(1, .box [.d (.raw (.int .i64 (v : Int)))])] [.t (.agg ([.d (.raw (.int .i64 m.v)), .d (.raw (.bool m.any)), .d (.sl 3 (m.t.parts.map Part.d))] ++ zi m.t.k)), vp 1 0] (vb (m.v == (v : Int))) [(1, .box [.d (.raw (.int .i64 (v : Int)))])] := by
 refine Fn.body Tryz.func89 rfl 8 rfl fun w H B a h => ?_
 refine rSeq fam0ok 5 [] [(1, vp 1 0), (2, vp 5 0), (3, vb false)] [(1, .box [.d (.raw (.int .i64 (v : Int)))]), (5, .box ([.d (.raw (.int .i64 m.v)), .d (.raw (.bool m.any)), .d (.sl 3 (m.t.parts.map Part.d))] ++ zi m.t.k))] (by kernel_rfl) h ?_; clear h; intro a w h
 refine rSeq fam0ok 6 [] [(3, vb (m.v == (v : Int)))] [(1, .box [.d (.raw (.int .i64 (v : Int)))])] (by kernel_rfl) h ?_; clear h; intro a w h
 refine wp_ret ?_
 refine retS [.c (.d (.raw (.bool (m.v == (v : Int)))))] h Exit.ret (.inl rfl)  rfl ⟨RV.tmp _ _ rfl, trivial⟩ ?_ (by kernel_rfl) (by kernel_rfl)
 rfl
set_option maxHeartbeats 4000000 in
theorem SIdxMV (pr : MoveD → Bool) (xs : List MoveD) (v : Nat) (hf : ∀ x ∈ xs, Fn Tryz.prog 89 [(1, .box [.d (.raw (.int .i64 (v : Int)))])] [.t (.agg ([.d (.raw (.int .i64 x.v)), .d (.raw (.bool x.any)), .d (.sl 3 (x.t.parts.map Part.d))] ++ zi x.t.k)), vp 1 0] (vb (pr x)) [(1, .box [.d (.raw (.int .i64 (v : Int)))])]) (hl : xs.length ≤ 9223372036854775807) : Fn Tryz.prog 88 [(1, .box [.d (.raw (.int .i64 (v : Int)))])] [.t (.c (.d (.sl 5 (xs.map MoveD.d)))), .t (.c (.fn (.func 89) [] [.ptr 1 0]))] (vi .i64 (idxB pr xs 0)) [(1, .box [.d (.raw (.int .i64 (v : Int)))])] := by
 refine Fn.body Tryz.func88 rfl 19 rfl fun w H B a h => ?_
 refine rSeq fam0ok 5 [] [(0, .t (.c (.d (.sl 5 (xs.map MoveD.d))))), (1, .t (.c (.fn (.func 89) [] [.ptr 1 0]))), (4, vi .i64 0)] [(1, .box [.d (.raw (.int .i64 (v : Int)))])] (by kernel_rfl) h ?_; clear h; intro a w h
 refine wp_seq ?_
 refine rSeq fam0ok 5 [(1, .len (c := (.d (.sl 5 (xs.map MoveD.d)))) (n := xs.length) (lenC_map _ _ _))] [(0, .t (.c (.d (.sl 5 (xs.map MoveD.d))))), (1, .t (.c (.fn (.func 89) [] [.ptr 1 0]))), (4, vi .i64 0), (7, vi .i64 (xs.length : Int)), (8, vi .i64 0)] [(1, .box [.d (.raw (.int .i64 (v : Int)))])] (by kernel_rfl) h ?_; clear h; intro a w h
 refine wp_block ?_
 refine loopS (ι := (Nat)) (fun (z_ : (Nat)) => match z_ with | j => j ≤ xs.length ∧ idxB pr xs 0 = idxB pr (xs.drop j) j)
   (fun (z_ : (Nat)) => match z_ with | j => [(0, .t (.c (.d (.sl 5 (xs.map MoveD.d))))), (1, .t (.c (.fn (.func 89) [] [.ptr 1 0]))), (7, vi .i64 (xs.length : Int)), (8, vi .i64 (j : Int))])
   (fun (z_ : (Nat)) => match z_ with | j => [(1, .box [.d (.raw (.int .i64 (v : Int)))])])
   (fun (z_ : (Nat)) => match z_ with | j => xs.length - j) 0 ?_ h (by kernel_rfl) (by kernel_rfl) ?_
 ·exact ⟨Nat.zero_le _, rfl⟩
 ·clear h; rintro j a w hI h
  change St _ (F.of [(0, .t (.c (.d (.sl 5 (xs.map MoveD.d))))), (1, .t (.c (.fn (.func 89) [] [.ptr 1 0]))), (7, vi .i64 (xs.length : Int)), (8, vi .i64 (j : Int))] [(1, .box [.d (.raw (.int .i64 (v : Int)))])]) a w at h
  obtain ⟨hI1, hI2⟩ := hI
  refine rSeq fam0ok 5 [] [(0, .t (.c (.d (.sl 5 (xs.map MoveD.d))))), (1, .t (.c (.fn (.func 89) [] [.ptr 1 0]))), (7, vi .i64 (xs.length : Int)), (8, vi .i64 (j : Int)), (9, vb (decide ((j : Int) < (xs.length : Int))))] [(1, .box [.d (.raw (.int .i64 (v : Int)))])] (by kernel_rfl) h ?_; clear h; intro a w h
  refine wp_seq ?_
  refine condS (decide ((j : Int) < (xs.length : Int))) h rfl (fun hc => ?_) (fun hc => ?_)
  ·have hc1 := hc; clear hc
   have hc1' := of_decide_eq_true hc1
   refine wp_skip ?_
   refine then_n ?_
   refine wp_seq ?_
   refine wp_block ?_
   refine rSeq fam0ok 5 [] [(0, .t (.c (.d (.sl 5 (xs.map MoveD.d))))), (1, .t (.c (.fn (.func 89) [] [.ptr 1 0]))), (5, vi .i64 (j : Int)), (7, vi .i64 (xs.length : Int)), (8, vi .i64 (j : Int))] [(1, .box [.d (.raw (.int .i64 (v : Int)))])] (by kernel_rfl) h ?_; clear h; intro a w h
   obtain ⟨x1, hx1⟩ : ∃ z_ : MoveD, xs[j]? = some z_ := ⟨_, List.getElem?_eq_getElem (by first | omega | (simp at *; omega))⟩
   refine rSeq fam0ok 5 [(3, .gen _ _ _ fun _ _ _ _ => Op.idxD (d := 14) (t := 12) (k := .i64) ki_2 (map_at hx1 (f := MoveD.d)) (OV.tmp 13 _)), (5, .gen _ _ _ fun _ _ _ _ => Op.callV (d := 16) (t := 11) (cap := [.ptr 1 0]) (args := [.t (.agg ([.d (.raw (.int .i64 x1.v)), .d (.raw (.bool x1.any)), .d (.sl 3 (x1.t.parts.map Part.d))] ++ zi x1.t.k))]) (rs := [(15, .t (.agg ([.d (.raw (.int .i64 x1.v)), .d (.raw (.bool x1.any)), .d (.sl 3 (x1.t.parts.map Part.d))] ++ zi x1.t.k)))]) (tys := #[81]) (hf x1 (List.mem_of_getElem? hx1)) ki_3 (OVs.cons (OV.tmp 15 _) (OVs.nil)))] [(0, .t (.c (.d (.sl 5 (xs.map MoveD.d))))), (1, .t (.c (.fn (.func 89) [] [.ptr 1 0]))), (5, vi .i64 (j : Int)), (7, vi .i64 (xs.length : Int)), (8, vi .i64 (j : Int)), (16, vb (pr x1))] [(1, .box [.d (.raw (.int .i64 (v : Int)))])] (by kernel_rfl) h ?_; clear h; intro a w h
   refine condS (pr x1) h rfl (fun hc => ?_) (fun hc => ?_)
   ·have hc2 := hc; clear hc
    refine rSeq fam0ok 5 [] [(0, .t (.c (.d (.sl 5 (xs.map MoveD.d))))), (1, .t (.c (.fn (.func 89) [] [.ptr 1 0]))), (4, vi .i64 (j : Int)), (7, vi .i64 (xs.length : Int)), (8, vi .i64 (j : Int))] [(1, .box [.d (.raw (.int .i64 (v : Int)))])] (by kernel_rfl) h ?_; clear h; intro a w h
    refine wp_ret ?_
    refine block_r ?_
    refine then_r ?_
    refine then_r ?_
    refine block_r ?_
    refine then_r ?_
    refine retS [.c (.d (.raw (.int .i64 (j : Int))))] h Exit.ret (.inl rfl)  rfl ⟨RV.tmp _ _ rfl, trivial⟩ ?_ (by kernel_rfl) (by kernel_rfl)
    have hz : idxB pr xs 0 = (j : Int) := by rw [hI2, idxB_at hx1, if_pos hc2]
    rw [hz]; first | done | rfl
   ·have hc3 := hc; clear hc
    refine wp_skip ?_
    refine block_n ?_
    refine then_n ?_
    refine rS fam0ok 5 [(0, .add .i64 (m := (j : Int)) (n := 1) (i64_id (by omega) (by omega)))] [(0, .t (.c (.d (.sl 5 (xs.map MoveD.d))))), (1, .t (.c (.fn (.func 89) [] [.ptr 1 0]))), (7, vi .i64 (xs.length : Int)), (8, vi .i64 ((j : Int) + 1))] [(1, .box [.d (.raw (.int .i64 (v : Int)))])] (by kernel_rfl) h ?_; clear h; intro a w h
    refine then_n ?_
    refine roundS (x := j) (y := j + 1) h ?_ ?_ (by kernel_rfl) (by kernel_rfl)
    ·exact ⟨by have := at_lt hx1; omega, by rw [hI2, idxB_at hx1, if_neg (by rw [hc3]; exact Bool.noConfusion)]⟩
    ·simp; omega
  ·have hc4 := hc; clear hc
   have hc4' := of_decide_eq_false hc4
   refine wp_exit ?_
   refine then_x ?_
   refine then_x ?_
   refine inBlock_exit ?_
   refine then_n ?_
   refine rSeq fam0ok 5 [] [(4, vi .i64 (-1))] [(1, .box [.d (.raw (.int .i64 (v : Int)))])] (by kernel_rfl) h ?_; clear h; intro a w h
   refine wp_ret ?_
   refine retS [.c (.d (.raw (.int .i64 (-1))))] h Exit.ret (.inl rfl)  rfl ⟨RV.tmp _ _ rfl, trivial⟩ ?_ (by kernel_rfl) (by kernel_rfl)
   have hz : idxB pr xs 0 = -1 := by rw [hI2, List.drop_of_length_le (by omega)]; rfl
   rw [hz]; first | done | rfl
set_option maxHeartbeats 4000000 in
theorem SmoveN0 (c : ActD) (v : Nat) (hl : c.moves.length ≤ 20) (hix : idxB (fun m => m.v == (v : Int)) c.moves 0 = -1) : Fn Tryz.prog 66 [] [.t (.agg ([.d (.raw (.int .i64 c.proc)), .d (.raw (.int .i64 c.from_)), .d (.raw (.int .i64 c.to_)), .d (.raw (.int .i64 c.guard.kind)), .d (.sl 3 (c.guard.r.t.parts.map Part.d))] ++ zi c.guard.r.t.k ++ [.d (.raw (.bool c.guard.r.eq)), .d (.sl 6 (c.guard.kids.map FormD.d)), .d (.sl 5 (c.moves.map MoveD.d))])), vi .i64 (v : Int)] (.tup [.agg ([.d (.raw (.int .i64 mv0.v)), .d (.raw (.bool mv0.any)), .d (.sl 3 (mv0.t.parts.map Part.d))] ++ zi mv0.t.k), .c (.d (.raw (.bool false)))]) [] := by
 refine Fn.body Tryz.func66 rfl 19 rfl fun w H B a h => ?_
 refine rSeq fam0ok 0 [] [(2, vp 0 0), (3, vp 1 0), (4, vp 2 0), (5, vb false)] [(0, .box ([.d (.raw (.int .i64 c.proc)), .d (.raw (.int .i64 c.from_)), .d (.raw (.int .i64 c.to_)), .d (.raw (.int .i64 c.guard.kind)), .d (.sl 3 (c.guard.r.t.parts.map Part.d))] ++ zi c.guard.r.t.k ++ [.d (.raw (.bool c.guard.r.eq)), .d (.sl 6 (c.guard.kids.map FormD.d)), .d (.sl 5 (c.moves.map MoveD.d))])), (1, .box [.d (.raw (.int .i64 (v : Int)))]), (2, .box [.d (.raw (.int .i64 0)), .d (.raw (.bool false)), .d (.raw nilV), .d (.raw (.bool false)), .d (nsl [])])] (by kernel_rfl) h ?_; clear h; intro a w h
 refine rSeq fam0ok 3 [(2, .gen _ _ _ fun _ _ _ _ => Op.makeFs (d := 9) (fn := .func 89) [(3, 1, 0)]), (3, .call (Fn.cast (SIdxMV (fun m => m.v == (v : Int)) c.moves v (fun m _ => SKMove1 m v) (by omega)) (congrArg (vi .i64) hix)) ki_4)] [(2, vp 0 0), (4, vp 2 0), (5, vb false), (6, vi .i64 (-1))] [(0, .box ([.d (.raw (.int .i64 c.proc)), .d (.raw (.int .i64 c.from_)), .d (.raw (.int .i64 c.to_)), .d (.raw (.int .i64 c.guard.kind)), .d (.sl 3 (c.guard.r.t.parts.map Part.d))] ++ zi c.guard.r.t.k ++ [.d (.raw (.bool c.guard.r.eq)), .d (.sl 6 (c.guard.kids.map FormD.d)), .d (.sl 5 (c.moves.map MoveD.d))])), (2, .box [.d (.raw (.int .i64 0)), .d (.raw (.bool false)), .d (.raw nilV), .d (.raw (.bool false)), .d (nsl [])])] (by kernel_rfl) h ?_; clear h; intro a w h
 refine wp_seq ?_
 refine rSeq fam0ok 3 [(1, .cmp (op := .lss) (m := (-1)) (n := 0) (b := true) .i64 rfl)] [(2, vp 0 0), (4, vp 2 0), (5, vb false), (6, vi .i64 (-1)), (12, vb true)] [(0, .box ([.d (.raw (.int .i64 c.proc)), .d (.raw (.int .i64 c.from_)), .d (.raw (.int .i64 c.to_)), .d (.raw (.int .i64 c.guard.kind)), .d (.sl 3 (c.guard.r.t.parts.map Part.d))] ++ zi c.guard.r.t.k ++ [.d (.raw (.bool c.guard.r.eq)), .d (.sl 6 (c.guard.kids.map FormD.d)), .d (.sl 5 (c.moves.map MoveD.d))])), (2, .box [.d (.raw (.int .i64 0)), .d (.raw (.bool false)), .d (.raw nilV), .d (.raw (.bool false)), .d (nsl [])])] (by kernel_rfl) h ?_; clear h; intro a w h
 refine condS true h rfl (fun hc => ?_) (fun hc => ?_)
 ·clear hc
  refine rSeq fam0ok 3 [] [(2, vp 0 0), (4, vp 2 0), (5, vb false), (6, vi .i64 (-1))] [(0, .box ([.d (.raw (.int .i64 c.proc)), .d (.raw (.int .i64 c.from_)), .d (.raw (.int .i64 c.to_)), .d (.raw (.int .i64 c.guard.kind)), .d (.sl 3 (c.guard.r.t.parts.map Part.d))] ++ zi c.guard.r.t.k ++ [.d (.raw (.bool c.guard.r.eq)), .d (.sl 6 (c.guard.kids.map FormD.d)), .d (.sl 5 (c.moves.map MoveD.d))])), (2, .box [.d (.raw (.int .i64 0)), .d (.raw (.bool false)), .d (.raw nilV), .d (.raw (.bool false)), .d (nsl [])])] (by kernel_rfl) h ?_; clear h; intro a w h
  refine wp_ret ?_
  refine then_r ?_
  replace h := nilDLs 2 2 3 [.d (.raw (.int .i64 0)), .d (.raw (.bool false)), .d (.raw nilV), .d (.raw (.bool false)), .d (nsl [])] [(2, vp 0 0), (4, vp 2 0), (5, vb false), (6, vi .i64 (-1))] [(0, .box ([.d (.raw (.int .i64 c.proc)), .d (.raw (.int .i64 c.from_)), .d (.raw (.int .i64 c.to_)), .d (.raw (.int .i64 c.guard.kind)), .d (.sl 3 (c.guard.r.t.parts.map Part.d))] ++ zi c.guard.r.t.k ++ [.d (.raw (.bool c.guard.r.eq)), .d (.sl 6 (c.guard.kids.map FormD.d)), .d (.sl 5 (c.moves.map MoveD.d))])), (2, .box [.d (.raw (.int .i64 0)), .d (.raw (.bool false)), .d (.sl 3 ([].map Part.d)), .d (.raw (.bool false)), .d (nsl [])])] h rfl rfl (by kernel_rfl) (by kernel_rfl)
  refine retS [.agg [.d (.raw (.int .i64 0)), .d (.raw (.bool false)), .d (.sl 3 ([].map Part.d)), .d (.raw (.bool false)), .d (nsl [])], .c (.d (.raw (.bool false)))] h Exit.ret (.inl rfl)  rfl ⟨RV.agg _ 2 0 _ _ _ _ ki_5 rfl rfl rfl rfl, RV.tmp _ _ rfl, trivial⟩ ?_ (by kernel_rfl) (by kernel_rfl)
  rfl
 ·cases hc
set_option maxHeartbeats 4000000 in
theorem SmoveS0 (c : ActD) (v : Nat) (m : MoveD) (k : Nat) (hl : c.moves.length ≤ 20) (hix : idxB (fun m => m.v == (v : Int)) c.moves 0 = (k : Int)) (hk : c.moves[k]? = some m) : Fn Tryz.prog 66 [] [.t (.agg ([.d (.raw (.int .i64 c.proc)), .d (.raw (.int .i64 c.from_)), .d (.raw (.int .i64 c.to_)), .d (.raw (.int .i64 c.guard.kind)), .d (.sl 3 (c.guard.r.t.parts.map Part.d))] ++ zi c.guard.r.t.k ++ [.d (.raw (.bool c.guard.r.eq)), .d (.sl 6 (c.guard.kids.map FormD.d)), .d (.sl 5 (c.moves.map MoveD.d))])), vi .i64 (v : Int)] (.tup [.agg ([.d (.raw (.int .i64 m.v)), .d (.raw (.bool m.any)), .d (.sl 3 (m.t.parts.map Part.d))] ++ zi m.t.k), .c (.d (.raw (.bool true)))]) [] := by
 have lk := at_lt hk
 refine Fn.body Tryz.func66 rfl 19 rfl fun w H B a h => ?_
 refine rSeq fam0ok 0 [] [(2, vp 0 0), (3, vp 1 0), (4, vp 2 0), (5, vb false)] [(0, .box ([.d (.raw (.int .i64 c.proc)), .d (.raw (.int .i64 c.from_)), .d (.raw (.int .i64 c.to_)), .d (.raw (.int .i64 c.guard.kind)), .d (.sl 3 (c.guard.r.t.parts.map Part.d))] ++ zi c.guard.r.t.k ++ [.d (.raw (.bool c.guard.r.eq)), .d (.sl 6 (c.guard.kids.map FormD.d)), .d (.sl 5 (c.moves.map MoveD.d))])), (1, .box [.d (.raw (.int .i64 (v : Int)))]), (2, .box [.d (.raw (.int .i64 0)), .d (.raw (.bool false)), .d (.raw nilV), .d (.raw (.bool false)), .d (nsl [])])] (by kernel_rfl) h ?_; clear h; intro a w h
 refine rSeq fam0ok 3 [(2, .gen _ _ _ fun _ _ _ _ => Op.makeFs (d := 9) (fn := .func 89) [(3, 1, 0)]), (3, .call (Fn.cast (SIdxMV (fun m => m.v == (v : Int)) c.moves v (fun m _ => SKMove1 m v) (by omega)) (congrArg (vi .i64) hix)) ki_4)] [(2, vp 0 0), (4, vp 2 0), (5, vb false), (6, vi .i64 (k : Int))] [(0, .box ([.d (.raw (.int .i64 c.proc)), .d (.raw (.int .i64 c.from_)), .d (.raw (.int .i64 c.to_)), .d (.raw (.int .i64 c.guard.kind)), .d (.sl 3 (c.guard.r.t.parts.map Part.d))] ++ zi c.guard.r.t.k ++ [.d (.raw (.bool c.guard.r.eq)), .d (.sl 6 (c.guard.kids.map FormD.d)), .d (.sl 5 (c.moves.map MoveD.d))])), (2, .box [.d (.raw (.int .i64 0)), .d (.raw (.bool false)), .d (.raw nilV), .d (.raw (.bool false)), .d (nsl [])])] (by kernel_rfl) h ?_; clear h; intro a w h
 refine wp_seq ?_
 refine rSeq fam0ok 3 [(1, .cmp (op := .lss) (m := (k : Int)) (n := 0) (b := false) .i64 (show (decide ((k : Int) < 0)) = false from decide_eq_false (by omega)))] [(2, vp 0 0), (4, vp 2 0), (5, vb false), (6, vi .i64 (k : Int)), (12, vb false)] [(0, .box ([.d (.raw (.int .i64 c.proc)), .d (.raw (.int .i64 c.from_)), .d (.raw (.int .i64 c.to_)), .d (.raw (.int .i64 c.guard.kind)), .d (.sl 3 (c.guard.r.t.parts.map Part.d))] ++ zi c.guard.r.t.k ++ [.d (.raw (.bool c.guard.r.eq)), .d (.sl 6 (c.guard.kids.map FormD.d)), .d (.sl 5 (c.moves.map MoveD.d))])), (2, .box [.d (.raw (.int .i64 0)), .d (.raw (.bool false)), .d (.raw nilV), .d (.raw (.bool false)), .d (nsl [])])] (by kernel_rfl) h ?_; clear h; intro a w h
 refine condS false h rfl (fun hc => ?_) (fun hc => ?_)
 ·cases hc
 ·clear hc
  refine wp_skip ?_
  refine then_n ?_
  refine rSeq fam0ok 3 [(3, .gen _ _ _ fun _ _ _ _ => Op.idxD (d := 17) (t := 15) (k := .i64) ki_2 (map_at hk (f := MoveD.d)) (OV.tmp 16 _))] [(4, vp 2 0), (5, vb true)] [(2, .box ([.d (.raw (.int .i64 m.v)), .d (.raw (.bool m.any)), .d (.sl 3 (m.t.parts.map Part.d))] ++ zi m.t.k))] (by kernel_rfl) h ?_; clear h; intro a w h
  refine wp_ret ?_
  refine retS [.agg ([.d (.raw (.int .i64 m.v)), .d (.raw (.bool m.any)), .d (.sl 3 (m.t.parts.map Part.d))] ++ zi m.t.k), .c (.d (.raw (.bool true)))] h Exit.ret (.inl rfl)  rfl ⟨RV.agg _ 2 0 _ _ _ _ ki_5 rfl rfl rfl rfl, RV.tmp _ _ rfl, trivial⟩ ?_ (by kernel_rfl) (by kernel_rfl)
  rfl
theorem SmoveN (c : ActD) (v : Nat) (hl : c.moves.length ≤ 20) (hm : mvAt c v = none) : Fn Tryz.prog 66 [] [.t (.agg ([.d (.raw (.int .i64 c.proc)), .d (.raw (.int .i64 c.from_)), .d (.raw (.int .i64 c.to_)), .d (.raw (.int .i64 c.guard.kind)), .d (.sl 3 (c.guard.r.t.parts.map Part.d))] ++ zi c.guard.r.t.k ++ [.d (.raw (.bool c.guard.r.eq)), .d (.sl 6 (c.guard.kids.map FormD.d)), .d (.sl 5 (c.moves.map MoveD.d))])), vi .i64 (v : Int)] (.tup [.agg ([.d (.raw (.int .i64 mv0.v)), .d (.raw (.bool mv0.any)), .d (.sl 3 (mv0.t.parts.map Part.d))] ++ zi mv0.t.k), .c (.d (.raw (.bool false)))]) [] := by
 rcases idxB_find (fun m => m.v == (v : Int)) c.moves with ⟨h1, _⟩ | ⟨k, m, _, _, h3⟩
 ·exact SmoveN0 c v hl h1
 ·unfold mvAt at hm; rw [hm] at h3; cases h3
theorem SmoveS (c : ActD) (v : Nat) (m : MoveD) (hl : c.moves.length ≤ 20) (hm : mvAt c v = some m) : Fn Tryz.prog 66 [] [.t (.agg ([.d (.raw (.int .i64 c.proc)), .d (.raw (.int .i64 c.from_)), .d (.raw (.int .i64 c.to_)), .d (.raw (.int .i64 c.guard.kind)), .d (.sl 3 (c.guard.r.t.parts.map Part.d))] ++ zi c.guard.r.t.k ++ [.d (.raw (.bool c.guard.r.eq)), .d (.sl 6 (c.guard.kids.map FormD.d)), .d (.sl 5 (c.moves.map MoveD.d))])), vi .i64 (v : Int)] (.tup [.agg ([.d (.raw (.int .i64 m.v)), .d (.raw (.bool m.any)), .d (.sl 3 (m.t.parts.map Part.d))] ++ zi m.t.k), .c (.d (.raw (.bool true)))]) [] := by
 rcases idxB_find (fun m => m.v == (v : Int)) c.moves with ⟨_, h2⟩ | ⟨k, m', h1, h2, h3⟩
 ·unfold mvAt at hm; rw [hm] at h2; cases h2
 ·unfold mvAt at hm
  rw [hm] at h3
  injection h3 with h3
  subst h3
  exact SmoveS0 c v m k hl h1 h2
set_option maxHeartbeats 4000000 in
theorem SafterN (x : StD) (c : ActD) (v : Nat) {L M : Nat} (hL : L + M ≤ 10000) (hc : ActOk L c) (hx : StOk M x) (hv : v < x.vals.length) (hm : mvAt c v = none) : Fn Tryz.prog 36 [] [.t (.agg [.d (.sl 1 (x.locs.map intD)), .d (.sl 2 (x.vals.map ziD))]), .t (.agg ([.d (.raw (.int .i64 c.proc)), .d (.raw (.int .i64 c.from_)), .d (.raw (.int .i64 c.to_)), .d (.raw (.int .i64 c.guard.kind)), .d (.sl 3 (c.guard.r.t.parts.map Part.d))] ++ zi c.guard.r.t.k ++ [.d (.raw (.bool c.guard.r.eq)), .d (.sl 6 (c.guard.kids.map FormD.d)), .d (.sl 5 (c.moves.map MoveD.d))])), vi .i64 (v : Int)] (.tup [.agg (zi (newAt x c v)), .c (.d (.raw (.bool (freeAt c v))))]) [] := by
 refine Fn.body Tryz.func36 rfl 41 rfl fun w H B a h => ?_
 refine rSeq fam0ok 0 [] [(2, vi .i64 (v : Int)), (3, vp 0 0), (4, vp 1 0), (6, vp 2 0), (7, vb false)] [(0, .box [.d (.sl 1 (x.locs.map intD)), .d (.sl 2 (x.vals.map ziD))]), (1, .box ([.d (.raw (.int .i64 c.proc)), .d (.raw (.int .i64 c.from_)), .d (.raw (.int .i64 c.to_)), .d (.raw (.int .i64 c.guard.kind)), .d (.sl 3 (c.guard.r.t.parts.map Part.d))] ++ zi c.guard.r.t.k ++ [.d (.raw (.bool c.guard.r.eq)), .d (.sl 6 (c.guard.kids.map FormD.d)), .d (.sl 5 (c.moves.map MoveD.d))])), (2, .box [.d (.raw (.bool false)), .d (nsl [])])] (by kernel_rfl) h ?_; clear h; intro a w h
 refine rSeq fam0ok 3 [(2, .call (SmoveN c v hc.len hm) ki_6)] [(2, vi .i64 (v : Int)), (3, vp 0 0), (6, vp 2 0), (7, vb false), (8, vp 3 0), (9, vb false)] [(0, .box [.d (.sl 1 (x.locs.map intD)), .d (.sl 2 (x.vals.map ziD))]), (2, .box [.d (.raw (.bool false)), .d (nsl [])]), (3, .box ([.d (.raw (.int .i64 mv0.v)), .d (.raw (.bool mv0.any)), .d (.sl 3 (mv0.t.parts.map Part.d))] ++ zi mv0.t.k))] (by kernel_rfl) h ?_; clear h; intro a w h
 refine wp_seq ?_
 refine wp_block ?_
 refine rSeq fam0ok 4 [] [(2, vi .i64 (v : Int)), (3, vp 0 0), (6, vp 2 0), (7, vb false), (8, vp 3 0), (16, vb true)] [(0, .box [.d (.sl 1 (x.locs.map intD)), .d (.sl 2 (x.vals.map ziD))]), (2, .box [.d (.raw (.bool false)), .d (nsl [])]), (3, .box ([.d (.raw (.int .i64 mv0.v)), .d (.raw (.bool mv0.any)), .d (.sl 3 (mv0.t.parts.map Part.d))] ++ zi mv0.t.k))] (by kernel_rfl) h ?_; clear h; intro a w h
 refine condS true h rfl (fun hc => ?_) (fun hc => ?_)
 ·clear hc
  obtain ⟨x2, hx2⟩ : ∃ z_ : ZI, x.vals[v]? = some z_ := ⟨_, List.getElem?_eq_getElem (by first | omega | (simp at *; omega))⟩
  have gx2 := hx.val x2 (List.mem_of_getElem? hx2)
  have lgx2 := gx2.2
  obtain ⟨r3, er3, vr3, or3, lr3⟩ := mkZ (v := x2.val) (m := M) (Nat.le_trans (len_id gx2.1) gx2.2)
  refine rSeq fam0ok 4 [(3, .gen _ _ _ fun _ _ _ _ => Op.idxD (d := 22) (t := 20) (k := .i64) tt_6 (map_at hx2 (f := ziD)) (OV.tmp 21 _)), (9, .gen _ _ _ fun _ _ _ _ => Op.idxD (d := 28) (t := 26) (k := .i64) tt_6 (map_at hx2 (f := ziD)) (OV.tmp 27 _)), (12, .call (Fn.cast ((show Fn _ _ _ _ (vz (ZI.of x2.val)) _ from SFrom x2.neg x2.abs gx2.1 (by omega))) (congrArg vz er3.symm)) ia_3)] [(3, vp 0 0), (6, vp 2 0), (7, vb false), (8, vp 3 0)] [(0, .box [.d (.sl 1 (x.locs.map intD)), .d (.sl 2 (x.vals.map ziD))]), (2, .box (zi r3)), (3, .box ([.d (.raw (.int .i64 mv0.v)), .d (.raw (.bool mv0.any)), .d (.sl 3 (mv0.t.parts.map Part.d))] ++ zi mv0.t.k))] (by kernel_rfl) h ?_; clear h; intro a w h
  refine wp_ret ?_
  refine block_r ?_
  refine then_r ?_
  refine retS [.agg (zi r3), .c (.d (.raw (.bool false)))] h Exit.ret (.inl rfl)  rfl ⟨RV.agg _ 2 0 _ _ _ _ ia_1 rfl rfl rfl rfl, RV.tmp _ _ rfl, trivial⟩ ?_ (by kernel_rfl) (by kernel_rfl)
  have hz : newAt x c v = r3 := by unfold newAt; rw [hm, er3, hx2]; rfl
  have hf : freeAt c v = false := by unfold freeAt; rw [hm]
  rw [hz, hf]; first | done | rfl
 ·cases hc
set_option maxHeartbeats 4000000 in
theorem SafterS (x : StD) (c : ActD) (v : Nat) (m : MoveD) {L M : Nat} (hL : L + M ≤ 10000) (hc : ActOk L c) (hx : StOk M x) (_hv : v < x.vals.length) (hm : mvAt c v = some m) : Fn Tryz.prog 36 [] [.t (.agg [.d (.sl 1 (x.locs.map intD)), .d (.sl 2 (x.vals.map ziD))]), .t (.agg ([.d (.raw (.int .i64 c.proc)), .d (.raw (.int .i64 c.from_)), .d (.raw (.int .i64 c.to_)), .d (.raw (.int .i64 c.guard.kind)), .d (.sl 3 (c.guard.r.t.parts.map Part.d))] ++ zi c.guard.r.t.k ++ [.d (.raw (.bool c.guard.r.eq)), .d (.sl 6 (c.guard.kids.map FormD.d)), .d (.sl 5 (c.moves.map MoveD.d))])), vi .i64 (v : Int)] (.tup [.agg (zi (newAt x c v)), .c (.d (.raw (.bool (freeAt c v))))]) [] := by
 refine Fn.body Tryz.func36 rfl 41 rfl fun w H B a h => ?_
 refine rSeq fam0ok 0 [] [(2, vi .i64 (v : Int)), (3, vp 0 0), (4, vp 1 0), (6, vp 2 0), (7, vb false)] [(0, .box [.d (.sl 1 (x.locs.map intD)), .d (.sl 2 (x.vals.map ziD))]), (1, .box ([.d (.raw (.int .i64 c.proc)), .d (.raw (.int .i64 c.from_)), .d (.raw (.int .i64 c.to_)), .d (.raw (.int .i64 c.guard.kind)), .d (.sl 3 (c.guard.r.t.parts.map Part.d))] ++ zi c.guard.r.t.k ++ [.d (.raw (.bool c.guard.r.eq)), .d (.sl 6 (c.guard.kids.map FormD.d)), .d (.sl 5 (c.moves.map MoveD.d))])), (2, .box [.d (.raw (.bool false)), .d (nsl [])])] (by kernel_rfl) h ?_; clear h; intro a w h
 refine rSeq fam0ok 3 [(2, .call (SmoveS c v m hc.len hm) ki_6)] [(2, vi .i64 (v : Int)), (3, vp 0 0), (6, vp 2 0), (7, vb false), (8, vp 3 0), (9, vb true)] [(0, .box [.d (.sl 1 (x.locs.map intD)), .d (.sl 2 (x.vals.map ziD))]), (2, .box [.d (.raw (.bool false)), .d (nsl [])]), (3, .box ([.d (.raw (.int .i64 m.v)), .d (.raw (.bool m.any)), .d (.sl 3 (m.t.parts.map Part.d))] ++ zi m.t.k))] (by kernel_rfl) h ?_; clear h; intro a w h
 refine wp_seq ?_
 refine wp_block ?_
 refine rSeq fam0ok 4 [] [(2, vi .i64 (v : Int)), (3, vp 0 0), (6, vp 2 0), (7, vb false), (8, vp 3 0), (16, vb false)] [(0, .box [.d (.sl 1 (x.locs.map intD)), .d (.sl 2 (x.vals.map ziD))]), (2, .box [.d (.raw (.bool false)), .d (nsl [])]), (3, .box ([.d (.raw (.int .i64 m.v)), .d (.raw (.bool m.any)), .d (.sl 3 (m.t.parts.map Part.d))] ++ zi m.t.k))] (by kernel_rfl) h ?_; clear h; intro a w h
 refine condS false h rfl (fun hc => ?_) (fun hc => ?_)
 ·cases hc
 ·clear hc
  refine rSeq fam0ok 4 [] [(3, vp 0 0), (6, vp 2 0), (7, vb false), (8, vp 3 0), (32, vb m.any)] [(0, .box [.d (.sl 1 (x.locs.map intD)), .d (.sl 2 (x.vals.map ziD))]), (2, .box [.d (.raw (.bool false)), .d (nsl [])]), (3, .box ([.d (.raw (.int .i64 m.v)), .d (.raw (.bool m.any)), .d (.sl 3 (m.t.parts.map Part.d))] ++ zi m.t.k))] (by kernel_rfl) h ?_; clear h; intro a w h
  refine condS m.any h rfl (fun hc => ?_) (fun hc => ?_)
  ·have hc1 := hc; clear hc
   refine rSeq fam0ok 4 [] [(3, vp 0 0), (6, vp 2 0), (7, vb true), (8, vp 3 0)] [(0, .box [.d (.sl 1 (x.locs.map intD)), .d (.sl 2 (x.vals.map ziD))]), (2, .box [.d (.raw (.bool false)), .d (nsl [])]), (3, .box ([.d (.raw (.int .i64 m.v)), .d (.raw (.bool m.any)), .d (.sl 3 (m.t.parts.map Part.d))] ++ zi m.t.k))] (by kernel_rfl) h ?_; clear h; intro a w h
   refine wp_ret ?_
   refine block_r ?_
   refine then_r ?_
   refine retS [.agg [.d (.raw (.bool false)), .d (nsl [])], .c (.d (.raw (.bool true)))] h Exit.ret (.inl rfl)  rfl ⟨RV.agg _ 2 0 _ _ _ _ ia_1 rfl rfl rfl rfl, RV.tmp _ _ rfl, trivial⟩ ?_ (by kernel_rfl) (by kernel_rfl)
   have hz : newAt x c v = zero0 := by unfold newAt; rw [hm]; simp only; rw [if_pos hc1]
   have hf : freeAt c v = true := by unfold freeAt; rw [hm]; exact hc1
   rw [hz, hf]; first | done | rfl
  ·have hc2 := hc; clear hc
   refine wp_skip ?_
   refine block_n ?_
   refine then_n ?_
   obtain ⟨r2, er2, vr2, or2, lr2⟩ := mkZ (v := valT m.t x.vals) (m := L + M + 2) (Nat.le_trans (val_len (hc.mv m (mv_mem hm)) (by decide) hx.vok (fun p hp => hp) (Nat.le_refl _)) (by omega))
   refine rSeq fam0ok 4 [(4, .call (Fn.cast (SValue m.t x.vals (hc.mv m (mv_mem hm)) (by decide) (by omega) hx.vok) (congrArg vz er2.symm)) ke_0)] [(6, vp 2 0), (7, vb false)] [(2, .box (zi r2))] (by kernel_rfl) h ?_; clear h; intro a w h
   refine wp_ret ?_
   refine retS [.agg (zi r2), .c (.d (.raw (.bool false)))] h Exit.ret (.inl rfl)  rfl ⟨RV.agg _ 2 0 _ _ _ _ ia_1 rfl rfl rfl rfl, RV.tmp _ _ rfl, trivial⟩ ?_ (by kernel_rfl) (by kernel_rfl)
   have hz : newAt x c v = r2 := by unfold newAt; rw [hm, er2]; simp only; rw [if_neg (by rw [hc2]; exact Bool.noConfusion)]
   have hf : freeAt c v = false := by unfold freeAt; rw [hm]; exact hc2
   rw [hz, hf]; first | done | rfl
theorem Safter (x : StD) (c : ActD) (v : Nat) {L M : Nat} (hL : L + M ≤ 10000) (hc : ActOk L c) (hx : StOk M x) (hv : v < x.vals.length) : Fn Tryz.prog 36 [] [.t (.agg [.d (.sl 1 (x.locs.map intD)), .d (.sl 2 (x.vals.map ziD))]), .t (.agg ([.d (.raw (.int .i64 c.proc)), .d (.raw (.int .i64 c.from_)), .d (.raw (.int .i64 c.to_)), .d (.raw (.int .i64 c.guard.kind)), .d (.sl 3 (c.guard.r.t.parts.map Part.d))] ++ zi c.guard.r.t.k ++ [.d (.raw (.bool c.guard.r.eq)), .d (.sl 6 (c.guard.kids.map FormD.d)), .d (.sl 5 (c.moves.map MoveD.d))])), vi .i64 (v : Int)] (.tup [.agg (zi (newAt x c v)), .c (.d (.raw (.bool (freeAt c v))))]) [] := by
 cases hm : mvAt c v with
 | none => exact SafterN x c v hL hc hx hv hm
 | some m => exact SafterS x c v m hL hc hx hv hm
end Go.Proofs.YtmohlifepfjmdaaGreat.S
end
section
namespace Go.Proofs.YtmohlifepfjmdaaGreat.S
open Go.RowKit
def fam2tb : Tb := [(3, ⟨1, false, [], [.d (.raw (.int .i64 0))], 13⟩), (4, ⟨1, false, [], [.d (.raw (.bool false))], 3⟩), (24, ⟨1, false, [], [.d (.raw nilV)], 1⟩), (26, ⟨1, false, [], [.d (nsl [])], 1⟩), (28, ⟨2, true, [(0, 1, false), (1, 1, false)], [.d (.raw (.bool false)), .d (nsl [])], 0⟩), (30, ⟨3, true, [(0, 1, false), (1, 2, true)], [.d (.raw nilV), .d (.raw (.bool false)), .d (nsl [])], 0⟩), (81, ⟨5, true, [(0, 1, false), (1, 1, false), (2, 3, true)], [.d (.raw (.int .i64 0)), .d (.raw (.bool false)), .d (.raw nilV), .d (.raw (.bool false)), .d (nsl [])], 0⟩), (22, ⟨1, false, [], [.d (.raw nilV)], 1⟩), (23, ⟨1, false, [], [.d (.raw nilV)], 1⟩), (32, ⟨4, true, [(0, 3, true), (3, 1, false)], [.d (.raw nilV), .d (.raw (.bool false)), .d (nsl []), .d (.raw (.bool false))], 0⟩), (33, ⟨1, false, [], [.d (.raw nilV)], 1⟩), (35, ⟨6, true, [(0, 1, false), (1, 4, true), (5, 1, false)], [.d (.raw (.int .i64 0)), .d (.raw nilV), .d (.raw (.bool false)), .d (nsl []), .d (.raw (.bool false)), .d (.raw nilV)], 0⟩), (36, ⟨1, false, [], [.d (.raw nilV)], 1⟩), (37, ⟨1, false, [], [.d (.raw nilV)], 1⟩), (39, ⟨10, true, [(0, 1, false), (1, 1, false), (2, 6, true), (8, 1, false), (9, 1, false)], [.d (.raw nilV), .d (.raw nilV), .d (.raw (.int .i64 0)), .d (.raw nilV), .d (.raw (.bool false)), .d (nsl []), .d (.raw (.bool false)), .d (.raw nilV), .d (.raw nilV), .d (.raw nilV)], 0⟩), (113, ⟨1, false, [], [.d (.raw .nilFunc)], 4⟩), (77, ⟨1, false, [], [.d (.raw nilV)], 1⟩), (40, ⟨1, false, [], [.d (.raw nilV)], 1⟩), (41, ⟨1, false, [], [.d (.raw nilV)], 1⟩), (43, ⟨2, true, [(0, 1, false), (1, 1, false)], [.d (.raw nilV), .d (.raw nilV)], 0⟩), (79, ⟨10, true, [(0, 1, false), (1, 1, false), (2, 1, false), (3, 6, true), (9, 1, false)], [.d (.raw (.int .i64 0)), .d (.raw (.int .i64 0)), .d (.raw (.int .i64 0)), .d (.raw (.int .i64 0)), .d (.raw nilV), .d (.raw (.bool false)), .d (nsl []), .d (.raw (.bool false)), .d (.raw nilV), .d (.raw nilV)], 0⟩), (9, ⟨1, false, [], [.d (.raw (.string ByteArray.empty))], 2⟩), (94, ⟨1, false, [], [.d (.raw nilV)], 1⟩), (96, ⟨3, true, [(0, 1, false), (1, 1, false), (2, 1, false)], [.d (.raw (.string ByteArray.empty)), .d (.raw nilV), .d (.raw nilV)], 0⟩)]
theorem fam2ok : TbOk Tryz.prog fam2tb := ⟨TyOk.int Tryz.underlying3 rfl (by kernel_rfl) ⟨(.int .i64 0 : Value), [.int .i64 0], by kernel_rfl, rfl, (fun _ _ => ⟨DR.raw _ rfl, trivial⟩)⟩,
 TyOk.bl Tryz.underlying4 (by kernel_rfl) ⟨(.bool false : Value), [.bool false], by kernel_rfl, rfl, (fun _ _ => ⟨DR.raw _ rfl, trivial⟩)⟩,
 TyOk.slc Tryz.underlying24 (by kernel_rfl) ⟨(.slice none 0 0 : Value), [.slice none 0 0], by kernel_rfl, rfl, (fun _ _ => ⟨DR.raw _ rfl, trivial⟩)⟩,
 TyOk.slc Tryz.underlying26 (by kernel_rfl) ⟨(.slice none 0 0 : Value), [.slice none 0 0], by kernel_rfl, rfl, (fun _ _ => ⟨DR.nil _ _ _ (fun _ => rfl) (Nat.zero_le _), trivial⟩)⟩,
 TyOk.st Tryz.underlying28 (by kernel_rfl) ⟨⟨by decide, Fd.mk' _ _ Tryz.underlying28 rfl rfl (Sz.mk' (by kernel_rfl) Tryz.underlying4 _ rfl)⟩, ⟨by decide, Fd.mk' _ _ Tryz.underlying28 rfl rfl (Sz.mk' (by kernel_rfl) Tryz.underlying26 _ rfl)⟩, trivial⟩ ⟨(Value.agg #[.bool false, .slice none 0 0]), [.bool false, .slice none 0 0], by kernel_rfl, rfl, (fun _ _ => ⟨DR.raw _ rfl, DR.nil _ _ _ (fun _ => rfl) (Nat.zero_le _), trivial⟩)⟩ ⟨_, Tryz.underlying28, ⟨⟨rfl, by kernel_rfl⟩, ⟨rfl, by kernel_rfl⟩, trivial⟩⟩,
 TyOk.st Tryz.underlying30 (by kernel_rfl) ⟨⟨by decide, Fd.mk' _ _ Tryz.underlying30 rfl rfl (Sz.mk' (by kernel_rfl) Tryz.underlying24 _ rfl)⟩, ⟨by decide, Fd.mk' _ _ Tryz.underlying30 rfl rfl (Sz.mk' (by kernel_rfl) Tryz.underlying28 _ rfl)⟩, trivial⟩ ⟨(Value.agg #[.slice none 0 0, .bool false, .slice none 0 0]), [.slice none 0 0, .bool false, .slice none 0 0], by kernel_rfl, rfl, (fun _ _ => ⟨DR.raw _ rfl, DR.raw _ rfl, DR.nil _ _ _ (fun _ => rfl) (Nat.zero_le _), trivial⟩)⟩ ⟨_, Tryz.underlying30, ⟨⟨rfl, by kernel_rfl⟩, ⟨rfl, by kernel_rfl⟩, trivial⟩⟩,
 TyOk.st Tryz.underlying81 (by kernel_rfl) ⟨⟨by decide, Fd.mk' _ _ Tryz.underlying81 rfl rfl (Sz.mk' (by kernel_rfl) Tryz.underlying3 _ rfl)⟩, ⟨by decide, Fd.mk' _ _ Tryz.underlying81 rfl rfl (Sz.mk' (by kernel_rfl) Tryz.underlying4 _ rfl)⟩, ⟨by decide, Fd.mk' _ _ Tryz.underlying81 rfl rfl (Sz.mk' (by kernel_rfl) Tryz.underlying30 _ rfl)⟩, trivial⟩ ⟨(Value.agg #[.int .i64 0, .bool false, .slice none 0 0, .bool false, .slice none 0 0]), [.int .i64 0, .bool false, .slice none 0 0, .bool false, .slice none 0 0], by kernel_rfl, rfl, (fun _ _ => ⟨DR.raw _ rfl, DR.raw _ rfl, DR.raw _ rfl, DR.raw _ rfl, DR.nil _ _ _ (fun _ => rfl) (Nat.zero_le _), trivial⟩)⟩ ⟨_, Tryz.underlying81, ⟨⟨rfl, by kernel_rfl⟩, ⟨rfl, by kernel_rfl⟩, ⟨rfl, by kernel_rfl⟩, trivial⟩⟩,
 TyOk.slc Tryz.underlying22 (by kernel_rfl) ⟨(.slice none 0 0 : Value), [.slice none 0 0], by kernel_rfl, rfl, (fun _ _ => ⟨DR.raw _ rfl, trivial⟩)⟩,
 TyOk.slc Tryz.underlying23 (by kernel_rfl) ⟨(.slice none 0 0 : Value), [.slice none 0 0], by kernel_rfl, rfl, (fun _ _ => ⟨DR.raw _ rfl, trivial⟩)⟩,
 TyOk.st Tryz.underlying32 (by kernel_rfl) ⟨⟨by decide, Fd.mk' _ _ Tryz.underlying32 rfl rfl (Sz.mk' (by kernel_rfl) Tryz.underlying30 _ rfl)⟩, ⟨by decide, Fd.mk' _ _ Tryz.underlying32 rfl rfl (Sz.mk' (by kernel_rfl) Tryz.underlying4 _ rfl)⟩, trivial⟩ ⟨(Value.agg #[.slice none 0 0, .bool false, .slice none 0 0, .bool false]), [.slice none 0 0, .bool false, .slice none 0 0, .bool false], by kernel_rfl, rfl, (fun _ _ => ⟨DR.raw _ rfl, DR.raw _ rfl, DR.nil _ _ _ (fun _ => rfl) (Nat.zero_le _), DR.raw _ rfl, trivial⟩)⟩ ⟨_, Tryz.underlying32, ⟨⟨rfl, by kernel_rfl⟩, ⟨rfl, by kernel_rfl⟩, trivial⟩⟩,
 TyOk.slc Tryz.underlying33 (by kernel_rfl) ⟨(.slice none 0 0 : Value), [.slice none 0 0], by kernel_rfl, rfl, (fun _ _ => ⟨DR.raw _ rfl, trivial⟩)⟩,
 TyOk.st Tryz.underlying35 (by kernel_rfl) ⟨⟨by decide, Fd.mk' _ _ Tryz.underlying35 rfl rfl (Sz.mk' (by kernel_rfl) Tryz.underlying3 _ rfl)⟩, ⟨by decide, Fd.mk' _ _ Tryz.underlying35 rfl rfl (Sz.mk' (by kernel_rfl) Tryz.underlying32 _ rfl)⟩, ⟨by decide, Fd.mk' _ _ Tryz.underlying35 rfl rfl (Sz.mk' (by kernel_rfl) Tryz.underlying33 _ rfl)⟩, trivial⟩ ⟨(Value.agg #[.int .i64 0, .slice none 0 0, .bool false, .slice none 0 0, .bool false, .slice none 0 0]), [.int .i64 0, .slice none 0 0, .bool false, .slice none 0 0, .bool false, .slice none 0 0], by kernel_rfl, rfl, (fun _ _ => ⟨DR.raw _ rfl, DR.raw _ rfl, DR.raw _ rfl, DR.nil _ _ _ (fun _ => rfl) (Nat.zero_le _), DR.raw _ rfl, DR.raw _ rfl, trivial⟩)⟩ ⟨_, Tryz.underlying35, ⟨⟨rfl, by kernel_rfl⟩, ⟨rfl, by kernel_rfl⟩, ⟨rfl, by kernel_rfl⟩, trivial⟩⟩,
 TyOk.slc Tryz.underlying36 (by kernel_rfl) ⟨(.slice none 0 0 : Value), [.slice none 0 0], by kernel_rfl, rfl, (fun _ _ => ⟨DR.raw _ rfl, trivial⟩)⟩,
 TyOk.slc Tryz.underlying37 (by kernel_rfl) ⟨(.slice none 0 0 : Value), [.slice none 0 0], by kernel_rfl, rfl, (fun _ _ => ⟨DR.raw _ rfl, trivial⟩)⟩,
 TyOk.st Tryz.underlying39 (by kernel_rfl) ⟨⟨by decide, Fd.mk' _ _ Tryz.underlying39 rfl rfl (Sz.mk' (by kernel_rfl) Tryz.underlying22 _ rfl)⟩, ⟨by decide, Fd.mk' _ _ Tryz.underlying39 rfl rfl (Sz.mk' (by kernel_rfl) Tryz.underlying23 _ rfl)⟩, ⟨by decide, Fd.mk' _ _ Tryz.underlying39 rfl rfl (Sz.mk' (by kernel_rfl) Tryz.underlying35 _ rfl)⟩, ⟨by decide, Fd.mk' _ _ Tryz.underlying39 rfl rfl (Sz.mk' (by kernel_rfl) Tryz.underlying36 _ rfl)⟩, ⟨by decide, Fd.mk' _ _ Tryz.underlying39 rfl rfl (Sz.mk' (by kernel_rfl) Tryz.underlying37 _ rfl)⟩, trivial⟩ ⟨(Value.agg #[.slice none 0 0, .slice none 0 0, .int .i64 0, .slice none 0 0, .bool false, .slice none 0 0, .bool false, .slice none 0 0, .slice none 0 0, .slice none 0 0]), [.slice none 0 0, .slice none 0 0, .int .i64 0, .slice none 0 0, .bool false, .slice none 0 0, .bool false, .slice none 0 0, .slice none 0 0, .slice none 0 0], by kernel_rfl, rfl, (fun _ _ => ⟨DR.raw _ rfl, DR.raw _ rfl, DR.raw _ rfl, DR.raw _ rfl, DR.raw _ rfl, DR.nil _ _ _ (fun _ => rfl) (Nat.zero_le _), DR.raw _ rfl, DR.raw _ rfl, DR.raw _ rfl, DR.raw _ rfl, trivial⟩)⟩ ⟨_, Tryz.underlying39, ⟨⟨rfl, by kernel_rfl⟩, ⟨rfl, by kernel_rfl⟩, ⟨rfl, by kernel_rfl⟩, ⟨rfl, by kernel_rfl⟩, ⟨rfl, by kernel_rfl⟩, trivial⟩⟩,
 TyOk.fnc Tryz.underlying113 rfl (by kernel_rfl) ⟨(.nilFunc : Value), [.nilFunc], by kernel_rfl, rfl, (fun _ _ => ⟨DR.raw _ rfl, trivial⟩)⟩,
 TyOk.slc Tryz.underlying77 (by kernel_rfl) ⟨(.slice none 0 0 : Value), [.slice none 0 0], by kernel_rfl, rfl, (fun _ _ => ⟨DR.raw _ rfl, trivial⟩)⟩,
 TyOk.slc Tryz.underlying40 (by kernel_rfl) ⟨(.slice none 0 0 : Value), [.slice none 0 0], by kernel_rfl, rfl, (fun _ _ => ⟨DR.raw _ rfl, trivial⟩)⟩,
 TyOk.slc Tryz.underlying41 (by kernel_rfl) ⟨(.slice none 0 0 : Value), [.slice none 0 0], by kernel_rfl, rfl, (fun _ _ => ⟨DR.raw _ rfl, trivial⟩)⟩,
 TyOk.st Tryz.underlying43 (by kernel_rfl) ⟨⟨by decide, Fd.mk' _ _ Tryz.underlying43 rfl rfl (Sz.mk' (by kernel_rfl) Tryz.underlying40 _ rfl)⟩, ⟨by decide, Fd.mk' _ _ Tryz.underlying43 rfl rfl (Sz.mk' (by kernel_rfl) Tryz.underlying41 _ rfl)⟩, trivial⟩ ⟨(Value.agg #[.slice none 0 0, .slice none 0 0]), [.slice none 0 0, .slice none 0 0], by kernel_rfl, rfl, (fun _ _ => ⟨DR.raw _ rfl, DR.raw _ rfl, trivial⟩)⟩ ⟨_, Tryz.underlying43, ⟨⟨rfl, by kernel_rfl⟩, ⟨rfl, by kernel_rfl⟩, trivial⟩⟩,
 TyOk.st Tryz.underlying79 (by kernel_rfl) ⟨⟨by decide, Fd.mk' _ _ Tryz.underlying79 rfl rfl (Sz.mk' (by kernel_rfl) Tryz.underlying3 _ rfl)⟩, ⟨by decide, Fd.mk' _ _ Tryz.underlying79 rfl rfl (Sz.mk' (by kernel_rfl) Tryz.underlying3 _ rfl)⟩, ⟨by decide, Fd.mk' _ _ Tryz.underlying79 rfl rfl (Sz.mk' (by kernel_rfl) Tryz.underlying3 _ rfl)⟩, ⟨by decide, Fd.mk' _ _ Tryz.underlying79 rfl rfl (Sz.mk' (by kernel_rfl) Tryz.underlying35 _ rfl)⟩, ⟨by decide, Fd.mk' _ _ Tryz.underlying79 rfl rfl (Sz.mk' (by kernel_rfl) Tryz.underlying77 _ rfl)⟩, trivial⟩ ⟨(Value.agg #[.int .i64 0, .int .i64 0, .int .i64 0, .int .i64 0, .slice none 0 0, .bool false, .slice none 0 0, .bool false, .slice none 0 0, .slice none 0 0]), [.int .i64 0, .int .i64 0, .int .i64 0, .int .i64 0, .slice none 0 0, .bool false, .slice none 0 0, .bool false, .slice none 0 0, .slice none 0 0], by kernel_rfl, rfl, (fun _ _ => ⟨DR.raw _ rfl, DR.raw _ rfl, DR.raw _ rfl, DR.raw _ rfl, DR.raw _ rfl, DR.raw _ rfl, DR.nil _ _ _ (fun _ => rfl) (Nat.zero_le _), DR.raw _ rfl, DR.raw _ rfl, DR.raw _ rfl, trivial⟩)⟩ ⟨_, Tryz.underlying79, ⟨⟨rfl, by kernel_rfl⟩, ⟨rfl, by kernel_rfl⟩, ⟨rfl, by kernel_rfl⟩, ⟨rfl, by kernel_rfl⟩, ⟨rfl, by kernel_rfl⟩, trivial⟩⟩,
 TyOk.str Tryz.underlying9 (by kernel_rfl) ⟨(.string ByteArray.empty : Value), [.string ByteArray.empty], by kernel_rfl, rfl, (fun _ _ => ⟨DR.raw _ rfl, trivial⟩)⟩,
 TyOk.slc Tryz.underlying94 (by kernel_rfl) ⟨(.slice none 0 0 : Value), [.slice none 0 0], by kernel_rfl, rfl, (fun _ _ => ⟨DR.raw _ rfl, trivial⟩)⟩,
 TyOk.st Tryz.underlying96 (by kernel_rfl) ⟨⟨by decide, Fd.mk' _ _ Tryz.underlying96 rfl rfl (Sz.mk' (by kernel_rfl) Tryz.underlying9 _ rfl)⟩, ⟨by decide, Fd.mk' _ _ Tryz.underlying96 rfl rfl (Sz.mk' (by kernel_rfl) Tryz.underlying22 _ rfl)⟩, ⟨by decide, Fd.mk' _ _ Tryz.underlying96 rfl rfl (Sz.mk' (by kernel_rfl) Tryz.underlying94 _ rfl)⟩, trivial⟩ ⟨(Value.agg #[.string ByteArray.empty, .slice none 0 0, .slice none 0 0]), [.string ByteArray.empty, .slice none 0 0, .slice none 0 0], by kernel_rfl, rfl, (fun _ _ => ⟨DR.raw _ rfl, DR.raw _ rfl, DR.raw _ rfl, trivial⟩)⟩ ⟨_, Tryz.underlying96, ⟨⟨rfl, by kernel_rfl⟩, ⟨rfl, by kernel_rfl⟩, ⟨rfl, by kernel_rfl⟩, trivial⟩⟩,
 trivial⟩
end Go.Proofs.YtmohlifepfjmdaaGreat.S
end
