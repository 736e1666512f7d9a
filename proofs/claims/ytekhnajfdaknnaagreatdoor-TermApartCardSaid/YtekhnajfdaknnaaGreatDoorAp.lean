/-
  The proof of the statement TermApart: the walk through the program and the references lifted to the given row. It holds for every input.
-/
import Derived.Test.YtekhnajfdaknnaaGreatDoorAp5
import Derived.Test.YtekhnajfdaknnaaGreatDoorAp2
import Derived.Test.YtekhnajfdaknnaaGreatDoorRows
import Derived.Test.YtekhnajfdaknnaaGreatDoorCards
import Derived.Test.YtekhnajfdaknnaaGreatDoorTie
import Derived.ProofKit
import Derived.LaidMore
import Derived.OpenShut
import Derived.SevenTiedAt
set_option maxRecDepth 100000
section
namespace Go.Proofs.YtekhnajfdaknnaaGreatDoor.S
open Go.RowKit

theorem ue_9 : Zero Tryz.prog 26 [.d (.raw (.bool false)), .d (nsl [])] := ⟨(Value.agg #[.bool false, .slice none 0 0]), [.bool false, .slice none 0 0], by kernel_rfl, rfl, (fun _ _ => ⟨DR.raw _ rfl, DR.nil _ _ _ (fun _ => rfl) (Nat.zero_le _), trivial⟩)⟩
def unitZ (j : Nat) (r : ZI) : List ZI := (List.replicate (j + 1) (⟨false, []⟩ : ZI)).set j r
theorem unit_at (j : Nat) (r : ZI) (v : Int) : valAt (unitZ j r) v = if v = (j : Int) ∧ 0 ≤ v then r.val else 0 := by
 unfold valAt unitZ
 by_cases h0 : 0 ≤ v
 ·rw [if_pos h0]
  by_cases h : v = (j : Int)
  ·rw [if_pos ⟨h, h0⟩, h, Int.toNat_natCast, List.getElem?_set_self (by simp)]; rfl
  ·rw [if_neg (fun e => h e.1), List.getElem?_set_ne (by omega), List.getElem?_replicate]
   split <;> rfl
 ·rw [if_neg h0, if_neg (fun e => h0 e.2)]
theorem valP_unit (j : Nat) (r : ZI) (hr : r.val = 1) : ∀ ps : List Part, valP (unitZ j r) ps = coefZ ps (j : Int)
 | [] => rfl
 | p :: ps => by
  simp only [valP, coefZ, valP_unit j r hr ps, unit_at]
  by_cases h : p.v = (j : Int)
  ·rw [if_pos ⟨h, by omega⟩, if_pos ⟨h, by omega⟩, hr, Int.mul_one]
  ·rw [if_neg (fun e => h e.1), if_neg (fun e => h e.1), Int.mul_zero]
theorem valP_unit2 (j : Nat) (r : ZI) (hr : r.val = 1) (ps : List Part) : valP ((List.replicate (j + 1) (⟨false, []⟩ : ZI)).set j r) ps = coefZ ps (j : Int) := valP_unit j r hr ps
theorem valT_nil (t : Term) : valT t [] = t.k.val := by
 unfold valT
 rw [valP_sum]
 show t.k.val + 0 = _
 omega
theorem unit_ok {j : Nat} {r : ZI} (hj : j ≤ 100) (hr : Lb r.abs) (lr : r.abs.length ≤ 2) : VOk 2 (unitZ j r) := by
 refine ⟨by unfold unitZ; rw [List.length_set, List.length_replicate]; omega, fun y hy => ?_⟩
 rcases List.mem_or_eq_of_mem_set hy with h | h
 ·rw [(List.mem_replicate.1 h).2]; exact ⟨Lb_nil, Nat.zero_le _⟩
 ·rw [h]; exact ⟨hr, lr⟩
def apZ (s t : Term) (j : Nat) : Bool := (cmpZ s.k.val t.k.val != 0) || (List.range j).any fun i => cmpZ (s.k.val + coefZ s.parts (i : Int)) (t.k.val + coefZ t.parts (i : Int)) != 0
theorem apZ_succ (s t : Term) (j : Nat) : apZ s t (j + 1) = (apZ s t j || (cmpZ (s.k.val + coefZ s.parts (j : Int)) (t.k.val + coefZ t.parts (j : Int)) != 0)) := by
 unfold apZ
 rw [List.range_succ, List.any_append, Bool.or_assoc]; simp
theorem cmpZ_ne {x y : Int} : (cmpZ x y != 0) = true ↔ x ≠ y := by
 unfold cmpZ
 split
 ·simp; omega
 ·split
  ·simp; omega
  ·simp; omega
theorem cmpP_zero {p q : Part} (h : cmpP p q = 0) : p.v = q.v ∧ p.c.val = q.c.val := by
 have h1 := @cmpZ_ne p.v q.v
 have h2 := @cmpZ_ne p.c.val q.c.val
 unfold cmpP orZ orZ orZ at h
 by_cases a : cmpZ p.v q.v = 0
 ·rw [if_neg (by simpa using a)] at h
  by_cases b : cmpZ p.c.val q.c.val = 0
  ·refine ⟨Classical.byContradiction fun e => ?_, Classical.byContradiction fun e => ?_⟩
   ·have := h1.2 e; rw [a] at this; exact absurd this (by decide)
   ·have := h2.2 e; rw [b] at this; exact absurd this (by decide)
  ·rw [if_pos b] at h; exact absurd h b
 ·rw [if_pos a] at h; exact absurd h a
theorem cmpPs_zero : ∀ {ps qs : List Part}, cmpPs ps qs = 0 → ∀ v, coefZ ps v = coefZ qs v
 | [], [], _, _ => rfl
 | [], _ :: _, h, _ => absurd (show (-1 : Int) = 0 from h) (by decide)
 | _ :: _, [], h, _ => absurd (show (1 : Int) = 0 from h) (by decide)
 | p :: ps, q :: qs, h, v => by
  simp only [cmpPs] at h
  by_cases a : cmpP p q = 0
  ·rw [if_neg (by simpa using a)] at h
   obtain ⟨h1, h2⟩ := cmpP_zero a
   simp only [coefZ, h1, h2, cmpPs_zero h v]
  ·rw [if_pos a] at h; exact absurd h a
theorem cmpT_zero {s t : Term} (h : cmpT s t = 0) : s.k.val = t.k.val ∧ ∀ v, coefZ s.parts v = coefZ t.parts v := by
 unfold cmpT orZ orZ orZ at h
 by_cases a : cmpPs (plainT s).parts (plainT t).parts = 0
 ·rw [if_neg (by simpa using a)] at h
  by_cases b : cmpZ (plainT s).k.val (plainT t).k.val = 0
  ·refine ⟨Classical.byContradiction fun e => ?_, fun v => ?_⟩
   ·have := cmpZ_ne.2 (show (plainT s).k.val ≠ (plainT t).k.val by rw [show (plainT s).k.val = s.k.val from ZI.val_of _, show (plainT t).k.val = t.k.val from ZI.val_of _]; exact e)
    rw [b] at this; exact absurd this (by decide)
   ·rw [← (plainT_parts s).2.2 v, ← (plainT_parts t).2.2 v]; exact cmpPs_zero a v
  ·rw [if_pos b] at h; exact absurd h b
 ·rw [if_pos a] at h; exact absurd h a
theorem coefZ_far {ps : List Part} {v : Int} (h : ∀ p ∈ ps, p.v ≠ v) : coefZ ps v = 0 := by
 induction ps with
 | nil => rfl
 | cons p ps ih => simp only [coefZ]; rw [if_neg (fun e => h p (by simp) e.1), ih (fun q hq => h q (by simp [hq]))]; rfl
theorem apart_law {s t : Term} (h : ∀ p ∈ s.parts ++ t.parts, p.v ≤ 40) : apZ s t 41 = (cmpT s t != 0) := by
 cases ha : apZ s t 41 with
 | true =>
  symm
  by_cases hc : cmpT s t = 0
  ·obtain ⟨h1, h2⟩ := cmpT_zero hc
   unfold apZ at ha
   rw [h1, cmpZ_self'] at ha
   simp only [h2, cmpZ_self'] at ha
   simp at ha
  ·simpa using hc
 | false =>
  unfold apZ at ha
  rw [Bool.or_eq_false_iff, List.any_eq_false] at ha
  obtain ⟨h1, h2⟩ := ha
  have hk : s.k.val = t.k.val := Classical.byContradiction fun e => by rw [cmpZ_ne.2 e] at h1; cases h1
  have hc : ∀ v, coefZ s.parts v = coefZ t.parts v := fun v => by
   by_cases h0 : 0 ≤ v
   ·by_cases h4 : v ≤ 40
    ·have h3 := h2 v.toNat (List.mem_range.2 (by omega))
     rw [Int.toNat_of_nonneg h0] at h3
     refine Classical.byContradiction fun e => h3 (cmpZ_ne.2 ?_)
     rw [hk]; omega
    ·rw [coefZ_far (v := v) (fun p hp e => h4 (by rw [← e]; exact h p (List.mem_append_left _ hp))), coefZ_far (v := v) (fun p hp e => h4 (by rw [← e]; exact h p (List.mem_append_right _ hp)))]
   ·have z1 : coefZ s.parts v = 0 := Classical.byContradiction fun e => h0 (coefZ_some e).1
    have z2 : coefZ t.parts v = 0 := Classical.byContradiction fun e => h0 (coefZ_some e).1
    rw [z1, z2]
  rw [cmpT_eq (plain_congr hc hk)]; rfl
theorem orZ_neg2 (a b c d : Int) (h : a = -c) (k : b = -d) : orZ [a, b] = -orZ [c, d] := by
 subst h k
 simp only [orZ]
 by_cases e : c = 0
 ·subst e; simp only [Int.neg_zero, ne_eq, not_true_eq_false, if_false]; by_cases f : d = 0
  ·subst f; simp
  ·rw [if_pos (by omega), if_pos f]
 ·rw [if_pos (by omega), if_pos e]
theorem cmpP_neg (p q : Part) : cmpP p q = -cmpP q p := orZ_neg2 _ _ _ _ (cmpZ_neg _ _) (cmpZ_neg _ _)
theorem cmpPs_neg : ∀ ps qs : List Part, cmpPs ps qs = -cmpPs qs ps
 | [], [] => rfl
 | [], _ :: _ => rfl
 | _ :: _, [] => rfl
 | p :: ps, q :: qs => by
  simp only [cmpPs]
  rw [cmpP_neg p q, cmpPs_neg ps qs]
  by_cases a : cmpP q p = 0
  ·rw [if_neg (by omega), if_neg (by omega)]
  ·rw [if_pos (by omega), if_pos a]
theorem cmpT_neg (s t : Term) : cmpT s t = -cmpT t s := orZ_neg2 _ _ _ _ (cmpPs_neg _ _) (cmpZ_neg _ _)
theorem or2_range {a b : Int} (h : -1 ≤ a ∧ a ≤ 1) (k : -1 ≤ b ∧ b ≤ 1) : -1 ≤ orZ [a, b] ∧ orZ [a, b] ≤ 1 := by
 simp only [orZ]
 split
 ·exact h
 ·split
  ·exact k
  ·omega
theorem cmpPs_range : ∀ ps qs : List Part, -1 ≤ cmpPs ps qs ∧ cmpPs ps qs ≤ 1
 | [], [] => by decide
 | [], _ :: _ => show (-1 : Int) ≤ -1 ∧ (-1 : Int) ≤ 1 by decide
 | _ :: _, [] => show (-1 : Int) ≤ 1 ∧ (1 : Int) ≤ 1 by decide
 | p :: ps, q :: qs => by
  simp only [cmpPs]
  split
  ·exact or2_range (cmpZ_range _ _) (cmpZ_range _ _)
  ·exact cmpPs_range ps qs
theorem cmpT_range (s t : Term) : -1 ≤ cmpT s t ∧ cmpT s t ≤ 1 := or2_range (cmpPs_range _ _) (cmpZ_range _ _)
theorem vok_nil : VOk 20 [] := ⟨Nat.zero_le _, fun y hy => by cases hy⟩
set_option maxHeartbeats 4000000 in
theorem STermApart (s t : Term) (fb : Bool) (hL : Fn Tryz.prog 8 [] [] (vb true) []) (hfb : fb = true ↔ ∀ t_ ∈ [s, t], Few1 t_) (hs : TLb s) (ht : TLb t) : Fn Tryz.prog 3 [] [.t (.agg ([.d (.sl 3 (s.parts.map Part.d))] ++ zi s.k)), .t (.agg ([.d (.sl 3 (t.parts.map Part.d))] ++ zi t.k))] (vb true) [] := by
 refine Fn.body Tryz.func3 rfl 77 rfl fun w H B a h => ?_
 refine rSeq fam0ok 5 [] [(2, vp 5 0), (3, vp 6 0), (4, vb false)] [(5, .box ([.d (.sl 3 (s.parts.map Part.d))] ++ zi s.k)), (6, .box ([.d (.sl 3 (t.parts.map Part.d))] ++ zi t.k))] (by kernel_rfl) h ?_; clear h; intro a w h
 refine wp_seq ?_
 refine rSeq fam0ok 7 [(0, .call (hL) ua_0)] [(2, vp 5 0), (3, vp 6 0), (4, vb false), (11, vb false)] [(5, .box ([.d (.sl 3 (s.parts.map Part.d))] ++ zi s.k)), (6, .box ([.d (.sl 3 (t.parts.map Part.d))] ++ zi t.k))] (by kernel_rfl) h ?_; clear h; intro a w h
 refine condS false h rfl (fun hc => ?_) (fun hc => ?_)
 ·cases hc
 ·clear hc
  refine wp_skip ?_
  refine then_n ?_
  refine wp_seq ?_
  refine rSeq fam0ok 7 [(2, .gen _ _ _ fun _ _ _ _ => Op.buildD (d := 14) (len := 2) (rows := [s, t].map Term.d) (rs := [(12, .t (.agg ([.d (.sl 3 (s.parts.map Part.d))] ++ zi s.k))), (13, .t (.agg ([.d (.sl 3 (t.parts.map Part.d))] ++ zi t.k)))]) tq_13 (.cons (i := 0) (OV.tmp 12 _) (.cons (i := 1) (OV.tmp 13 _) (.nil))) (by kernel_rfl) rfl (by simp [Term.d]) (by decide) (by decide)), (3, .call (Sfew [s, t] fb hfb (by simp)) ua_3)] [(2, vp 5 0), (3, vp 6 0), (4, vb false), (16, vb (!fb))] [(5, .box ([.d (.sl 3 (s.parts.map Part.d))] ++ zi s.k)), (6, .box ([.d (.sl 3 (t.parts.map Part.d))] ++ zi t.k))] (by kernel_rfl) h ?_; clear h; intro a w h
  refine condS (!fb) h rfl (fun hc => ?_) (fun hc => ?_)
  ·have hc1 := hc; clear hc
   have hc1' := hc1; (try simp at hc1')
   refine rSeq fam0ok 7 [] [(2, vp 5 0), (3, vp 6 0), (4, vb true)] [(5, .box ([.d (.sl 3 (s.parts.map Part.d))] ++ zi s.k)), (6, .box ([.d (.sl 3 (t.parts.map Part.d))] ++ zi t.k))] (by kernel_rfl) h ?_; clear h; intro a w h
   refine wp_ret ?_
   refine then_r ?_
   refine retS [.c (.d (.raw (.bool true)))] h Exit.ret (.inl rfl)  rfl ⟨RV.tmp _ _ rfl, trivial⟩ ?_ (by kernel_rfl) (by kernel_rfl)
   rfl
  ·have hc2 := hc; clear hc
   have hc2' := hc2; (try simp at hc2')
   have hfa := hs.few (hfb.1 (by simpa using hc2) s (by simp))
   have hfc := ht.few (hfb.1 (by simpa using hc2) t (by simp))
   have ln1 := hfa.len
   have ln2 := hfc.len
   have hla : (s.parts ++ t.parts).length = s.parts.length + t.parts.length := List.length_append
   refine wp_skip ?_
   refine then_n ?_
   refine wp_seq ?_
   refine rSeq fam0ok 7 [(0, .gen _ _ _ fun _ _ _ _ => Op.buildE (d := 17) (n := 7) tb_9), (3, .gen _ _ _ fun _ _ _ _ => Op.appOD (d := 20) (t := 17) (u := 19) (n := 7) (n' := 8) (len := 0) (len' := s.parts.length) (rows := [].map Part.d) (rows2 := s.parts.map Part.d) (rows' := s.parts.map Part.d) tb_10 (by first | exact (List.length_map _).symm | simp) (by first | (rw [List.length_append, List.length_map]; done) | simp) (by simp) (by simp [Part.d]) (by first | omega | (simp at *; done) | (simp at *; omega) | (simp; omega))), (6, .gen _ _ _ fun _ _ _ _ => Op.appODp (d := 23) (t := 20) (u := 22) (n := 8) (n' := 9) (len := s.parts.length) (rows := s.parts.map Part.d) (rows2 := t.parts.map Part.d) (rows' := (s.parts ++ t.parts).map Part.d) tb_10 (by first | exact (List.length_map _).symm | simp) (by simp) (by simp [Part.d]) (by first | omega | (simp at *; done) | (simp at *; omega) | (simp; omega))), (7, .len (c := (.d (.sl 3 ((s.parts ++ t.parts).map Part.d)))) (n := (s.parts ++ t.parts).length) (lenC_map _ _ _))] [(2, vp 5 0), (3, vp 6 0), (4, vb false), (23, .t (.c (.d (.sl 3 ((s.parts ++ t.parts).map Part.d))))), (24, vi .i64 ((s.parts ++ t.parts).length : Int)), (25, vi .i64 0)] [(5, .box ([.d (.sl 3 (s.parts.map Part.d))] ++ zi s.k)), (6, .box ([.d (.sl 3 (t.parts.map Part.d))] ++ zi t.k))] (by kernel_rfl) h ?_; clear h; intro a w h
   refine wp_block ?_
   refine loopS (ι := (Nat)) (fun (z_ : (Nat)) => match z_ with | j => j ≤ (s.parts ++ t.parts).length ∧ ∀ p ∈ (s.parts ++ t.parts).take j, p.v ≤ 40)
     (fun (z_ : (Nat)) => match z_ with | j => [(2, vp 5 0), (3, vp 6 0), (23, .t (.c (.d (.sl 3 ((s.parts ++ t.parts).map Part.d))))), (24, vi .i64 ((s.parts ++ t.parts).length : Int)), (25, vi .i64 (j : Int))])
     (fun (z_ : (Nat)) => match z_ with | j => [(5, .box ([.d (.sl 3 (s.parts.map Part.d))] ++ zi s.k)), (6, .box ([.d (.sl 3 (t.parts.map Part.d))] ++ zi t.k))])
     (fun (z_ : (Nat)) => match z_ with | j => (s.parts ++ t.parts).length - j) 0 ?_ h (by kernel_rfl) (by kernel_rfl) ?_
   ·exact ⟨Nat.zero_le _, by simp⟩
   ·clear h; rintro j a w hI h
    change St _ (F.of [(2, vp 5 0), (3, vp 6 0), (23, .t (.c (.d (.sl 3 ((s.parts ++ t.parts).map Part.d))))), (24, vi .i64 ((s.parts ++ t.parts).length : Int)), (25, vi .i64 (j : Int))] [(5, .box ([.d (.sl 3 (s.parts.map Part.d))] ++ zi s.k)), (6, .box ([.d (.sl 3 (t.parts.map Part.d))] ++ zi t.k))]) a w at h
    obtain ⟨hI1, hI2⟩ := hI
    refine rSeq fam0ok 10 [] [(2, vp 5 0), (3, vp 6 0), (23, .t (.c (.d (.sl 3 ((s.parts ++ t.parts).map Part.d))))), (24, vi .i64 ((s.parts ++ t.parts).length : Int)), (25, vi .i64 (j : Int)), (26, vb (decide ((j : Int) < ((s.parts ++ t.parts).length : Int))))] [(5, .box ([.d (.sl 3 (s.parts.map Part.d))] ++ zi s.k)), (6, .box ([.d (.sl 3 (t.parts.map Part.d))] ++ zi t.k))] (by kernel_rfl) h ?_; clear h; intro a w h
    refine wp_seq ?_
    refine condS (decide ((j : Int) < ((s.parts ++ t.parts).length : Int))) h rfl (fun hc => ?_) (fun hc => ?_)
    ·have hc3 := hc; clear hc
     have hc3' := of_decide_eq_true hc3
     refine wp_skip ?_
     refine then_n ?_
     refine wp_seq ?_
     refine wp_block ?_
     obtain ⟨x3, hx3⟩ : ∃ z_ : Part, (s.parts ++ t.parts)[j]? = some z_ := ⟨_, List.getElem?_eq_getElem (by first | omega | (simp at *; omega))⟩
     refine rSeq fam0ok 10 [(0, .gen _ _ _ fun _ _ _ _ => Op.idxD (d := 27) (t := 23) (k := .i64) ta_0 (map_at hx3 (f := Part.d)) (OV.tmp 25 _))] [(2, vp 5 0), (3, vp 6 0), (6, vp 10 0), (23, .t (.c (.d (.sl 3 ((s.parts ++ t.parts).map Part.d))))), (24, vi .i64 ((s.parts ++ t.parts).length : Int)), (25, vi .i64 (j : Int))] [(5, .box ([.d (.sl 3 (s.parts.map Part.d))] ++ zi s.k)), (6, .box ([.d (.sl 3 (t.parts.map Part.d))] ++ zi t.k)), (10, .box ([.d (.raw (.int .i64 x3.v))] ++ zi x3.c))] (by kernel_rfl) h ?_; clear h; intro a w h
     refine rSeq fam0ok 11 [] [(2, vp 5 0), (3, vp 6 0), (23, .t (.c (.d (.sl 3 ((s.parts ++ t.parts).map Part.d))))), (24, vi .i64 ((s.parts ++ t.parts).length : Int)), (25, vi .i64 (j : Int)), (31, vb (decide (x3.v > 40)))] [(5, .box ([.d (.sl 3 (s.parts.map Part.d))] ++ zi s.k)), (6, .box ([.d (.sl 3 (t.parts.map Part.d))] ++ zi t.k))] (by kernel_rfl) h ?_; clear h; intro a w h
     refine condS (decide (x3.v > 40)) h rfl (fun hc => ?_) (fun hc => ?_)
     ·have hc4 := hc; clear hc
      have hc4' := of_decide_eq_true hc4
      refine rSeq fam0ok 11 [] [(2, vp 5 0), (3, vp 6 0), (4, vb true), (23, .t (.c (.d (.sl 3 ((s.parts ++ t.parts).map Part.d))))), (24, vi .i64 ((s.parts ++ t.parts).length : Int)), (25, vi .i64 (j : Int))] [(5, .box ([.d (.sl 3 (s.parts.map Part.d))] ++ zi s.k)), (6, .box ([.d (.sl 3 (t.parts.map Part.d))] ++ zi t.k))] (by kernel_rfl) h ?_; clear h; intro a w h
      refine wp_ret ?_
      refine block_r ?_
      refine then_r ?_
      refine then_r ?_
      refine block_r ?_
      refine then_r ?_
      refine retS [.c (.d (.raw (.bool true)))] h Exit.ret (.inl rfl)  rfl ⟨RV.tmp _ _ rfl, trivial⟩ ?_ (by kernel_rfl) (by kernel_rfl)
      rfl
     ·have hc5 := hc; clear hc
      have hc5' := of_decide_eq_false hc5
      refine wp_skip ?_
      refine block_n ?_
      refine then_n ?_
      refine rS fam0ok 11 [(0, .add .i64 (m := (j : Int)) (n := 1) (i64_id (by omega) (by omega)))] [(2, vp 5 0), (3, vp 6 0), (23, .t (.c (.d (.sl 3 ((s.parts ++ t.parts).map Part.d))))), (24, vi .i64 ((s.parts ++ t.parts).length : Int)), (25, vi .i64 ((j : Int) + 1))] [(5, .box ([.d (.sl 3 (s.parts.map Part.d))] ++ zi s.k)), (6, .box ([.d (.sl 3 (t.parts.map Part.d))] ++ zi t.k))] (by kernel_rfl) h ?_; clear h; intro a w h
      refine then_n ?_
      refine roundS (x := j) (y := (j + 1)) h ?_ ?_ (by kernel_rfl) (by kernel_rfl)
      ·refine ⟨by have := at_lt hx3; omega, fun p hp => ?_⟩
       rw [List.take_add_one, hx3] at hp
       rcases List.mem_append.1 hp with hp | hp
       ·exact hI2 p hp
       ·have e := Option.mem_toList.1 hp
        injection e with e
        subst e
        omega
      ·show (s.parts ++ t.parts).length - (j + 1) < (s.parts ++ t.parts).length - j
       have := at_lt hx3; omega
    ·have hc6 := hc; clear hc
     have hc6' := of_decide_eq_false hc6
     refine wp_exit ?_
     refine then_x ?_
     refine then_x ?_
     refine inBlock_exit ?_
     refine then_n ?_
     have hall : ∀ p ∈ (s.parts ++ t.parts), p.v ≤ 40 := fun p hp => hI2 p (by rw [List.take_of_length_le (by omega)]; exact hp)
     obtain ⟨r4, er4, vr4, or4, lr4⟩ := mkZ (v := valT s []) (m := 41) (valT_len hfa (by decide) vok_nil)
     obtain ⟨r5, er5, vr5, or5, lr5⟩ := mkZ (v := valT t []) (m := 41) (valT_len hfc (by decide) vok_nil)
     refine rSeq fam0ok 11 [(1, .call (Fn.cast (Fn.nil2 (SValue s [] hfa (by decide) (by decide) vok_nil)) (congrArg vz er4.symm)) ty_6), (3, .call (Fn.cast (Fn.nil2 (SValue t [] hfc (by decide) (by decide) vok_nil)) (congrArg vz er5.symm)) ty_6), (4, .call (SRCmp r4 r5 or4 or5 (by omega) (by omega)) ub_1)] [(2, vp 5 0), (3, vp 6 0), (7, vb (cmpZ r4.val r5.val != 0))] [(5, .box ([.d (.sl 3 (s.parts.map Part.d))] ++ zi s.k)), (6, .box ([.d (.sl 3 (t.parts.map Part.d))] ++ zi t.k))] (by kernel_rfl) h ?_; clear h; intro a w h
     refine wp_seq ?_
     refine rSeq fam0ok 11 [] [(2, vp 5 0), (3, vp 6 0), (7, vb (cmpZ r4.val r5.val != 0)), (8, vi .i64 0)] [(5, .box ([.d (.sl 3 (s.parts.map Part.d))] ++ zi s.k)), (6, .box ([.d (.sl 3 (t.parts.map Part.d))] ++ zi t.k))] (by kernel_rfl) h ?_; clear h; intro a w h
     refine wp_block ?_
     refine loopS (ι := (Nat) × (Bool)) (fun (z_ : (Nat) × (Bool)) => match z_ with | (i, ap) => i ≤ 41 ∧ ap = apZ s t i)
       (fun (z_ : (Nat) × (Bool)) => match z_ with | (i, ap) => [(2, vp 5 0), (3, vp 6 0), (7, vb ap), (8, vi .i64 (i : Int))])
       (fun (z_ : (Nat) × (Bool)) => match z_ with | (i, ap) => [(5, .box ([.d (.sl 3 (s.parts.map Part.d))] ++ zi s.k)), (6, .box ([.d (.sl 3 (t.parts.map Part.d))] ++ zi t.k))])
       (fun (z_ : (Nat) × (Bool)) => match z_ with | (i, ap) => 41 - i) (0, cmpZ r4.val r5.val != 0) ?_ h (by kernel_rfl) (by kernel_rfl) ?_
     ·exact ⟨Nat.zero_le _, by rw [vr4, vr5]; simp [apZ, valT_nil]⟩
     ·clear h; rintro ⟨i, ap⟩ a w hI h
      change St _ (F.of [(2, vp 5 0), (3, vp 6 0), (7, vb ap), (8, vi .i64 (i : Int))] [(5, .box ([.d (.sl 3 (s.parts.map Part.d))] ++ zi s.k)), (6, .box ([.d (.sl 3 (t.parts.map Part.d))] ++ zi t.k))]) a w at h
      obtain ⟨hK1, hK2⟩ := hI
      refine wp_seq ?_
      refine rSeq fam0ok 11 [] [(2, vp 5 0), (3, vp 6 0), (7, vb ap), (8, vi .i64 (i : Int)), (40, vb (decide ((i : Int) ≤ 40)))] [(5, .box ([.d (.sl 3 (s.parts.map Part.d))] ++ zi s.k)), (6, .box ([.d (.sl 3 (t.parts.map Part.d))] ++ zi t.k))] (by kernel_rfl) h ?_; clear h; intro a w h
      refine condS (decide ((i : Int) ≤ 40)) h rfl (fun hc => ?_) (fun hc => ?_)
      ·have hc7 := hc; clear hc
       have hc7' := of_decide_eq_true hc7
       refine wp_skip ?_
       refine then_n ?_
       refine wp_seq ?_
       refine wp_block ?_
       refine rSeq fam0ok 11 [(1, .add .i64 (m := (i : Int)) (n := 1) (i64_id (by omega) (by omega))), (2, .gen _ _ _ fun _ _ _ _ => Op.makeO' (d := 45) (n := 11) (L := (i + 1)) (zs := [.raw (.bool false), nsl []]) (rows := (List.replicate (i + 1) (ZI.mk false [])).map ziD) ud_10 ue_9 rfl (OV.tmp 44 _) (OV.tmp 44 _) (by omega) (by rw [List.map_replicate]; rfl))] [(2, vp 5 0), (3, vp 6 0), (7, vb ap), (8, vi .i64 (i : Int)), (9, .t (.c (.own 11 (i + 1))))] [(5, .box ([.d (.sl 3 (s.parts.map Part.d))] ++ zi s.k)), (6, .box ([.d (.sl 3 (t.parts.map Part.d))] ++ zi t.k)), (11, .row 26 2 ((List.replicate (i + 1) (ZI.mk false [])).map ziD))] (by kernel_rfl) h ?_; clear h; intro a w h
       obtain ⟨r7, er7, vr7, or7, lr7⟩ := mkZ (v := 1) (m := 2) (ZI.len_of (by have := pw2; omega))
       have hu1 : r7.val = 1 := vr7
       obtain ⟨x8, hx8⟩ : ∃ z_ : ZI, (List.replicate (i + 1) (ZI.mk false []))[i]? = some z_ := ⟨_, List.getElem?_eq_getElem (by first | omega | (simp; done) | (simp at *; omega))⟩
       refine rSeq fam0ok 12 [(2, .call (Fn.cast (SROf 1 ⟨by omega, by omega⟩) (congrArg vz er7.symm)) tc_0), (3, .gen _ _ _ fun _ _ _ _ => Op.idxO (d := 49) (t := 46) (k := .i64) (n := 11) (len := (i + 1)) (i := i) tt_6 (by first | omega | (simp at *; omega)) (OV.tmp 47 _)), (4, .gen _ _ _ fun _ _ _ _ => Op.storeR (t := 49) (n := 11) (i := i) (fo := 0) (rty := 26) (es := 2) (r := ziD x8) (ds := [.raw (.bool r7.neg), nsl r7.abs]) (rs := [(48, vz r7)]) (rows := (List.replicate (i + 1) (ZI.mk false [])).map ziD) (rows' := ((List.replicate (i + 1) (ZI.mk false [])).set i r7).map ziD) ia_1 (OV.tmp 48 _) rfl rfl rfl (map_at hx8 (f := ziD)) (by simp [ziD]) (set_map (xs := (List.replicate (i + 1) (ZI.mk false []))) (F := ziD) i _ _ rfl))] [(2, vp 5 0), (3, vp 6 0), (7, vb ap), (8, vi .i64 (i : Int)), (9, .t (.c (.own 11 (i + 1))))] [(5, .box ([.d (.sl 3 (s.parts.map Part.d))] ++ zi s.k)), (6, .box ([.d (.sl 3 (t.parts.map Part.d))] ++ zi t.k)), (11, .row 26 2 (((List.replicate (i + 1) (ZI.mk false [])).set i r7).map ziD))] (by kernel_rfl) h ?_; clear h; intro a w h
       replace h := pubS 11 2 26 (((List.replicate (i + 1) (ZI.mk false [])).set i r7).map ziD) [(2, vp 5 0), (3, vp 6 0), (7, vb ap), (8, vi .i64 (i : Int)), (9, .t (.c (.d (.sl 2 (((List.replicate (i + 1) (ZI.mk false [])).set i r7).map ziD)))))] [(5, .box ([.d (.sl 3 (s.parts.map Part.d))] ++ zi s.k)), (6, .box ([.d (.sl 3 (t.parts.map Part.d))] ++ zi t.k))] h rfl (show AllEq _ [i + 1] from ⟨by first | exact (List.length_map _).symm | simp, trivial⟩) trivial (by kernel_rfl) (by kernel_rfl)
       rcases Bool.eq_false_or_eq_true ap with hc | hc
       ·have hc8 := hc; clear hc
        rw [hc8] at h
        refine rS fam0ok 12 [] [(2, vp 5 0), (3, vp 6 0), (7, vb true), (8, vi .i64 (i : Int))] [(5, .box ([.d (.sl 3 (s.parts.map Part.d))] ++ zi s.k)), (6, .box ([.d (.sl 3 (t.parts.map Part.d))] ++ zi t.k))] (by kernel_rfl) h ?_; clear h; intro a w h
        refine block_n ?_
        refine then_n ?_
        refine rS fam0ok 12 [(1, .add .i64 (m := (i : Int)) (n := 1) (i64_id (by omega) (by omega)))] [(2, vp 5 0), (3, vp 6 0), (7, vb true), (8, vi .i64 ((i : Int) + 1))] [(5, .box ([.d (.sl 3 (s.parts.map Part.d))] ++ zi s.k)), (6, .box ([.d (.sl 3 (t.parts.map Part.d))] ++ zi t.k))] (by kernel_rfl) h ?_; clear h; intro a w h
        refine then_n ?_
        refine roundS (x := (i, ap)) (y := ((i + 1), true)) h ?_ ?_ (by kernel_rfl) (by kernel_rfl)
        ·exact ⟨by omega, by rw [apZ_succ, ← hK2, hc8]; first | done | rfl⟩
        ·show 41 - (i + 1) < 41 - i
         omega
       ·have hc9 := hc; clear hc
        rw [hc9] at h
        obtain ⟨r9, er9, vr9, or9, lr9⟩ := mkZ (v := valT s ((List.replicate (i + 1) (ZI.mk false [])).set i r7)) (m := 41) (Nat.le_trans (valT_len hfa (by decide) (unit_ok (j := i) (by omega) or7 lr7)) (by decide))
        obtain ⟨r10, er10, vr10, or10, lr10⟩ := mkZ (v := valT t ((List.replicate (i + 1) (ZI.mk false [])).set i r7)) (m := 41) (Nat.le_trans (valT_len hfc (by decide) (unit_ok (j := i) (by omega) or7 lr7)) (by decide))
        refine rS fam0ok 12 [(4, .call (Fn.cast (SValue s ((List.replicate (i + 1) (ZI.mk false [])).set i r7) hfa (by decide) (show 20 + 2 ≤ 20000 by decide) (unit_ok (j := i) (by omega) or7 lr7)) (congrArg vz er9.symm)) ty_6), (7, .call (Fn.cast (SValue t ((List.replicate (i + 1) (ZI.mk false [])).set i r7) hfc (by decide) (show 20 + 2 ≤ 20000 by decide) (unit_ok (j := i) (by omega) or7 lr7)) (congrArg vz er10.symm)) ty_6), (8, .call (SRCmp r9 r10 or9 or10 (by omega) (by omega)) ub_1)] [(2, vp 5 0), (3, vp 6 0), (7, vb (cmpZ r9.val r10.val != 0)), (8, vi .i64 (i : Int))] [(5, .box ([.d (.sl 3 (s.parts.map Part.d))] ++ zi s.k)), (6, .box ([.d (.sl 3 (t.parts.map Part.d))] ++ zi t.k))] (by kernel_rfl) h ?_; clear h; intro a w h
        refine block_n ?_
        refine then_n ?_
        refine rS fam0ok 12 [(1, .add .i64 (m := (i : Int)) (n := 1) (i64_id (by omega) (by omega)))] [(2, vp 5 0), (3, vp 6 0), (7, vb (cmpZ r9.val r10.val != 0)), (8, vi .i64 ((i : Int) + 1))] [(5, .box ([.d (.sl 3 (s.parts.map Part.d))] ++ zi s.k)), (6, .box ([.d (.sl 3 (t.parts.map Part.d))] ++ zi t.k))] (by kernel_rfl) h ?_; clear h; intro a w h
        refine then_n ?_
        refine roundS (x := (i, ap)) (y := ((i + 1), cmpZ r9.val r10.val != 0)) h ?_ ?_ (by kernel_rfl) (by kernel_rfl)
        ·exact ⟨by omega, by rw [apZ_succ, ← hK2, hc9, Bool.false_or, vr9, vr10]; unfold valT; rw [valP_unit2 i r7 hu1, valP_unit2 i r7 hu1]⟩
        ·show 41 - (i + 1) < 41 - i
         omega
      ·have hc10 := hc; clear hc
       have hc10' := of_decide_eq_false hc10
       refine wp_exit ?_
       refine then_x ?_
       refine then_x ?_
       refine inBlock_exit ?_
       refine then_n ?_
       have hcr := cmpT_range t s
       refine rSeq fam0ok 12 [(3, .call (STCmp s t hfa hfc (by decide) (by decide)) tx_9), (5, .cmpb .eql (m := ap) (n := ((cmpT s t) != 0)) (b := true) (.inl ⟨rfl, (show (ap == ((cmpT s t) != 0)) = true from by rw [hK2, show i = 41 by omega, apart_law hall]; exact beq_self_eq_true _).symm⟩)), (9, .call (STCmp s t hfa hfc (by decide) (by decide)) tx_9), (12, .call (STCmp t s hfc hfa (by decide) (by decide)) tx_9), (13, .neg .i64 (m := (cmpT t s)) (i64_id (by omega) (by omega))), (14, .cmp (op := .eql) (m := (cmpT s t)) (n := (-(cmpT t s))) (b := true) .i64 (show ((cmpT s t) == (-(cmpT t s))) = true from by rw [cmpT_neg s t]; exact beq_self_eq_true _))] [(4, vb true)] [] (by kernel_rfl) h ?_; clear h; intro a w h
       refine wp_ret ?_
       refine retS [.c (.d (.raw (.bool true)))] h Exit.ret (.inl rfl)  rfl ⟨RV.tmp _ _ rfl, trivial⟩ ?_ (by kernel_rfl) (by kernel_rfl)
       rfl
theorem STermApartL (s t : Term) (hL : Fn Tryz.prog 8 [] [] (vb true) []) (hs : TLb s) (ht : TLb t) : Fn Tryz.prog 3 [] [vd s.d, vd t.d] (vb true) [] := by
 have key : ∃ f : Bool, f = true ↔ ∀ t_ ∈ [s, t], Few1 t_ := by
  by_cases h : ∀ t_ ∈ [s, t], Few1 t_
  ·exact ⟨true, fun _ => h, fun _ => rfl⟩
  ·exact ⟨false, fun e => (by cases e), fun e => absurd e h⟩
 obtain ⟨fb, hfb⟩ := key
 exact STermApart s t fb hL hfb hs ht
end Go.Proofs.YtekhnajfdaknnaaGreatDoor.S
end
section
namespace Go.Proofs.YtekhnajfdaknnaaGreatDoor.S
open Go.RowKit

open Go.ChangeShapes Go.WideShapes Go.ChangeAt
theorem SlookingC : Fn Tryz.prog 8 [] [] (vb true) [] := Slooking SText2x SName3
theorem STermApartW (s t : Term) (hs : TLb s) (ht : TLb t) : Fn Tryz.prog 3 [] [vd s.d, vd t.d] (vb true) [] := STermApartL s t SlookingC hs ht
end Go.Proofs.YtekhnajfdaknnaaGreatDoor.S
end
section
namespace Go.Proofs.YtekhnajfdaknnaaGreatDoor.termApartDone
open Go.ChangeShapes Go.WideShapes Go.ChangeAt Go.RowKit
open Go.ChangeMaps (open_string shut_string)
open Go.Proofs.YtekhnajfdaknnaaGreatDoor.S

theorem own : ownKnob Tryz.prog.godebug = none := by kernel_rfl
theorem laidOut : laidOutB Tryz.prog = true := by kernel_rfl

def laidL : List (String × DataW Unit) := [("math/bits.deBruijn32tab", Rows.laid_math_bits_deBruijn32tab), ("math/bits.deBruijn64tab", Rows.laid_math_bits_deBruijn64tab), ("internal/strconv.uint64pow10", Rows.laid_internal_strconv_uint64pow10)]
theorem door_met (os : Os) (args : Array Value) : laidMetH Tryz.prog laidL ((World.doorLaid Tryz.prog 400 os).forCall (fun _ _ => 0) ⟨#[], args, []⟩).memory :=
 laidMetH_of_parts3 (fuel := 8) (laidMet_of_run' 8 (by kernel_rfl) (by kernel_rfl)) (by kernel_rfl) (by kernel_rfl)

theorem lifted (os : Os) (started : os.Started) (H : Type) (enc : TypeId × Value → H) :
  ReturnsInHanded {} Tryz.checked os 3 .any (fun w args => (Rows.termApartSpec.pre enc Tryz.prog Tryz.f3 [] false w args ∧ laidMetH Tryz.prog laidL w) ∧ sizedMet enc Tryz.prog Tryz.f3 (OpenSpec.ofChange Rows.termApartSpec) false w args)
   (Rows.termApartSpec.post enc Tryz.prog Tryz.f3 false true false false) := by
 refine returnsInHanded_of_change_and (C := Tryz.checked) (X := fun w _ => laidMetH Tryz.prog laidL w) (fun _ _ _ hh h => h.of_heap hh) own started (by kernel_rfl) Tryz.func3
  (ChangeSpec.witness_shaped (enc := enc) (C := Tryz.checked) (os := os) (X := fun w _ => laidMetH Tryz.prog laidL w) false (World.doorLaid Tryz.prog 400 os) #[.agg #[.slice none 0 0, .bool false, .slice none 0 0], .agg #[.slice none 0 0, .bool false, .slice none 0 0]] 12 rfl (World.shaped_of_RefB (by kernel_rfl) (by kernel_rfl)) (by kernel_rfl) (by kernel_rfl) (by kernel_rfl) (door_met os _)) ?_
 intro W base args ds gs before hval0 hW _ _ hL _
 have hval : ∀ (j : Nat) t v, Tryz.f3.params[j]? = some t → args[j]? = some v → Value.okWide Tryz.prog W .any base t v := hval0
 have hW' := hW
 obtain ⟨p, q, hA0, hV, rfl, hfz, hnd⟩ := hW
 have hA : DataW.TrodAll enc Tryz.prog W 0 (fun _ => true) true Tryz.f3.params.toList args.toList ds p := hA0
 rw [Tryz.params3] at hA hval
 obtain ⟨v0, vs0, d0, ds0, p0, q0, hargs, rfl, rfl, h0, r0⟩ := trodAll_cons hA
 obtain ⟨v1, vs1, d1, ds1, p1, q1, rfl, rfl, rfl, h1, r1⟩ := trodAll_cons r0
 obtain ⟨rfl, rfl, rfl⟩ := trodAll_nil r1
 obtain rfl : args = #[v0, v1] := by cases args; simp_all
 obtain ⟨rfl, rfl⟩ := trodVars_none hV
 have k0 := h0
 have lt0 : ∀ x ∈ p0, x.block < W.heap.size := by obtain ⟨m, hm⟩ := k0; exact DataW.trod_lt m _ _ _ hm
 obtain ⟨a0, cs0, g0, rfl, dr0⟩ := rep_agg Tryz.underlying28 (fun _ => rep_Term) (hval 0 28 v0 rfl rfl) h0
 have k1 := h1
 have lt1 : ∀ x ∈ p1, x.block < W.heap.size := by obtain ⟨m, hm⟩ := k1; exact DataW.trod_lt m _ _ _ hm
 obtain ⟨a1, cs1, g1, rfl, dr1⟩ := rep_agg Tryz.underlying28 (fun _ => rep_Term) (hval 1 28 v1 rfl rfl) h1
 clear hA0 hval0
 refine ((STermApartW a0 a1 g0 g1).calls (w := W) (vals := [.agg ⟨cs0⟩, .agg ⟨cs1⟩]) fun B => ⟨dr_vd dr0 B, dr_vd dr1 B, trivial⟩).mono fun e W' ⟨he, bel⟩ => ?_
 subst he
 exact ⟨_, rfl, _, _, _, [], _, [], hW', trodAll_mk1 (shut_bool Tryz.underlying4 _), (trodAll_cons_mk (Below.trod laidOut (by kernel_rfl) (of_decide_eq_true (by kernel_rfl)) k0 bel lt0) (trodAll_cons_mk (Below.trod laidOut (by kernel_rfl) (of_decide_eq_true (by kernel_rfl)) k1 bel lt1) trodAll_mk0)), rfl, bel.below.frame _, fun h => by cases h⟩

theorem over : Rows.TermApartSaid :=
 OpenClaim.holds_of_wide 3 Tryz.f3 rfl rfl rfl rfl rfl rfl rfl ⟨rfl, rfl, rfl, rfl, rfl⟩ rfl rfl rfl rfl rfl (by kernel_rfl) Tryz.func3 (by kernel_rfl)
  (of_decide_eq_true (by kernel_rfl)) (by unfold Func.isWrapper; first | (rw [if_pos (by decide +kernel)]; kernel_rfl) | (rw [if_neg (by decide +kernel)]; exact ⟨rfl, rfl⟩))
  (fun os started H enc _ => lifted os started H enc)

theorem proved : Rows.TermApartCardSaid :=
  Claim7.holds_tied_plain_at .later [] [.data, .data, .data] true (true, "97a79c8e33111ce0a29b5e1069275e6f92a3bc254075085a68b535fbfc7ec89a") false
    over (fun _ h => by cases h) (by kernel_rfl) (fun _ h => by cases h) termApart_row_tie rfl ⟨rfl, rfl⟩ (by kernel_rfl) rfl
    (fun f fn hf hfn => by
      obtain rfl : f = 3 := Option.some.inj ((show Tryz.prog.funcNamed "plumbline/plumblinelaw03.TermApart" = some 3 by kernel_rfl).symm.trans hf) |>.symm
      obtain rfl : fn = Tryz.f3 := (Option.some.inj (Tryz.func3.symm.trans hfn)).symm
      exact ⟨by kernel_rfl, fun j t ht => by
        rw [Tryz.params3] at ht
        have hm : t ∈ [28, 28] := by simpa using Array.mem_of_getElem? ht
        have hall : ([28, 28].all fun u => !Tryz.prog.wantsStandIn u) = true := by kernel_rfl
        exact (show Tryz.prog.wantsStandIn t = false by simpa using List.all_eq_true.1 hall t hm)⟩)
    (by kernel_rfl)
end Go.Proofs.YtekhnajfdaknnaaGreatDoor.termApartDone
end
