/-
  The proof of the statement TermLinear: the walk through the program and the references lifted to the given row. It holds for every input.
-/
import Derived.Test.YtekhnajfdaknnaaGreatDoorLi5
import Derived.Test.YtekhnajfdaknnaaGreatDoorLi2
import Derived.Test.YtekhnajfdaknnaaGreatDoorRows
import Derived.Test.YtekhnajfdaknnaaGreatDoorCards
import Derived.Test.YtekhnajfdaknnaaGreatDoorTie
import Derived.ProofKit
import Derived.LaidMore
import Derived.OpenShut
import Derived.SevenTiedAt
set_option maxRecDepth 100000
section
namespace Go.Proofs.YtekhnajfdaknnaaGreatDoor.S
open Go.RowKit

theorem ug_0 : Bodied Tryz.prog 111 := Bodied.mk' (by kernel_rfl)
theorem ug_1 : Bodied Tryz.prog 112 := Bodied.mk' (by kernel_rfl)
theorem ug_5 : Bodied Tryz.prog 83 := Bodied.mk' (by kernel_rfl)
theorem ug_9 : Bodied Tryz.prog 85 := Bodied.mk' (by kernel_rfl)
theorem ug_10 : Bodied Tryz.prog 84 := Bodied.mk' (by kernel_rfl)
theorem ug_11 : Bodied Tryz.prog 86 := Bodied.mk' (by kernel_rfl)
theorem SbLen (m : Nat) (hm : 7 ≠ m) (l : List UInt8) : Fn Tryz.prog 111 [(7, .bld 97 (.own m l.length)), (m, .row 5 1 (bw l))] [vp 7 0] (vi .i64 (l.length : Int)) [(7, .bld 97 (.own m l.length)), (m, .row 5 1 (bw l))] := SBLen Tryz.lays170 m hm l
theorem SbWrite (m m2 : Nat) (hm : 7 ≠ m) (h27 : m2 ≠ 7) (h2m : m2 ≠ m) (l : List UInt8) (s : ByteArray) (hs : l.length + s.size ≤ 140737488355328) : Fn Tryz.prog 112 [(7, .bld 97 (.own m l.length)), (m, .row 5 1 (bw l))] [vp 7 0, vs s] (.tup [.c (.d (.raw (.int .i64 (s.size : Int)))), .c (.d (.raw .nilIface))]) [(7, .bld 97 (.own m2 (l ++ s.data.toList).length)), (m2, .row 5 1 (bw (l ++ s.data.toList)))] := SBWrite Tryz.lays166 Tryz.Builder_Extra_166 m m2 hm h27 h2m l s hs
theorem SbString (m : Nat) (hm : 7 ≠ m) (l : List UInt8) (h0 : l ≠ []) : Fn Tryz.prog 86 [(7, .bld 97 (.own m l.length)), (m, .row 5 1 (bw l))] [vp 7 0] (vs ⟨l.toArray⟩) [] := SBString Tryz.lays169 Tryz.Builder_Extra_169 m hm l h0
theorem bldZero : (Tryz.prog.info? 97).bind (·.zero) = some (.agg #[.pointer none, .slice none 0 0]) := by kernel_rfl
def sumW (l : List UInt8) (neg : Bool) (t : ByteArray) : List UInt8 := match (l.length : Int) == 0, neg with
  | true, true => (l ++ (⟨#[45]⟩ : ByteArray).data.toList) ++ t.data.toList
  | true, false => l ++ t.data.toList
  | false, true => (l ++ (⟨#[32, 45, 32]⟩ : ByteArray).data.toList) ++ t.data.toList
  | false, false => (l ++ (⟨#[32, 43, 32]⟩ : ByteArray).data.toList) ++ t.data.toList
theorem Ssummand (l : List UInt8) (neg : Bool) (t : ByteArray) (hl : l.length + t.size ≤ 1000000) : Fn Tryz.prog 85 [(7, .bld 97 (.own 8 l.length)), (8, .row 5 1 (bw l))] [vp 7 0, vb neg, .t (.c (.d (.raw (.string t))))] (.tup []) [(7, .bld 97 (.own 9 (sumW l neg t).length)), (9, .row 5 1 (bw (sumW l neg t)))] := by
 refine Fn.body Tryz.func85 rfl 29 rfl fun w H B a h => ?_
 refine rSeq fam0ok 10 [(1, .call (SbLen 8 (by decide) l) ug_0)] [(0, vp 7 0), (1, vb neg), (2, .t (.c (.d (.raw (.string t))))), (6, vb ((l.length : Int) == 0))] [(7, .bld 97 (.own 8 l.length)), (8, .row 5 1 (bw l))] (by kernel_rfl) h ?_; clear h; intro a w h
 refine wp_seq ?_
 refine wp_block ?_
 rcases Bool.eq_false_or_eq_true ((l.length : Int) == 0) with hc | hc
 ·have hc1 := hc; clear hc
  have hc1' := hc1; (try simp at hc1')
  rw [hc1] at h
  refine rSeq fam0ok 10 [] [(0, vp 7 0), (1, vb neg), (2, .t (.c (.d (.raw (.string t))))), (6, vb true), (10, vb neg)] [(7, .bld 97 (.own 8 l.length)), (8, .row 5 1 (bw l))] (by kernel_rfl) h ?_; clear h; intro a w h
  refine condS neg h rfl (fun hc => ?_) (fun hc => ?_)
  ·have hc2 := hc; clear hc
   refine rS fam0ok 10 [(1, .call (SbWrite 8 10 (by decide) (by decide) (by decide) l (⟨#[45]⟩ : ByteArray) (by have e1 : (⟨#[45]⟩ : ByteArray).data.toList.length = 1 := rfl; have e2 : (⟨#[32, 45, 32]⟩ : ByteArray).data.toList.length = 3 := rfl; have e3 : (⟨#[32, 43, 32]⟩ : ByteArray).data.toList.length = 3 := rfl; have e4 : (⟨#[45]⟩ : ByteArray).size = 1 := rfl; have e5 : (⟨#[32, 45, 32]⟩ : ByteArray).size = 3 := rfl; have e6 : (⟨#[32, 43, 32]⟩ : ByteArray).size = 3 := rfl; first | omega | (rw [List.length_append]; omega))) ug_1)] [(0, vp 7 0), (2, .t (.c (.d (.raw (.string t)))))] [(7, .bld 97 (.own 10 (l ++ (⟨#[45]⟩ : ByteArray).data.toList).length)), (10, .row 5 1 (bw (l ++ (⟨#[45]⟩ : ByteArray).data.toList)))] (by kernel_rfl) h ?_; clear h; intro a w h
   refine block_n ?_
   refine then_n ?_
   refine rS fam0ok 11 [(2, .call (SbWrite 10 11 (by decide) (by decide) (by decide) (l ++ (⟨#[45]⟩ : ByteArray).data.toList) t (by have e1 : (⟨#[45]⟩ : ByteArray).data.toList.length = 1 := rfl; have e2 : (⟨#[32, 45, 32]⟩ : ByteArray).data.toList.length = 3 := rfl; have e3 : (⟨#[32, 43, 32]⟩ : ByteArray).data.toList.length = 3 := rfl; have e4 : (⟨#[45]⟩ : ByteArray).size = 1 := rfl; have e5 : (⟨#[32, 45, 32]⟩ : ByteArray).size = 3 := rfl; have e6 : (⟨#[32, 43, 32]⟩ : ByteArray).size = 3 := rfl; first | omega | (rw [List.length_append]; omega))) ug_1)] [] [(7, .bld 97 (.own 11 ((l ++ (⟨#[45]⟩ : ByteArray).data.toList) ++ t.data.toList).length)), (11, .row 5 1 (bw ((l ++ (⟨#[45]⟩ : ByteArray).data.toList) ++ t.data.toList)))] (by kernel_rfl) h ?_; clear h; intro a w h
   replace h := renS 11 9 [] [(7, .bld 97 (.own 9 ((l ++ (⟨#[45]⟩ : ByteArray).data.toList) ++ t.data.toList).length)), (9, .row 5 1 (bw ((l ++ (⟨#[45]⟩ : ByteArray).data.toList) ++ t.data.toList)))] h (by kernel_rfl) (by kernel_rfl) (by kernel_rfl)
   replace h := h.conv (f' := F.of [] [(7, .bld 97 (.own 9 (sumW l neg t).length)), (9, .row 5 1 (bw (sumW l neg t)))]) (congrArg (fun (z_ : List UInt8) => F.of [] [(7, .bld 97 (.own 9 z_.length)), (9, .row 5 1 (bw z_))]) (show ((l ++ (⟨#[45]⟩ : ByteArray).data.toList) ++ t.data.toList) = sumW l neg t from by unfold sumW; simp only [hc1, hc2]))
   refine retS [] h Exit.normal (.inr rfl)  rfl trivial ?_ (by kernel_rfl) (by kernel_rfl)
   rfl
  ·have hc3 := hc; clear hc
   refine rSeq fam0ok 12 [] [(0, vp 7 0), (2, .t (.c (.d (.raw (.string t))))), (6, vb true), (17, vb neg)] [(7, .bld 97 (.own 8 l.length)), (8, .row 5 1 (bw l))] (by kernel_rfl) h ?_; clear h; intro a w h
   refine condS neg h rfl (fun hc => ?_) (fun hc => ?_)
   ·rw [hc3] at hc; cases hc
   ·clear hc
    refine rSeq fam0ok 12 [] [(0, vp 7 0), (2, .t (.c (.d (.raw (.string t))))), (21, vb false)] [(7, .bld 97 (.own 8 l.length)), (8, .row 5 1 (bw l))] (by kernel_rfl) h ?_; clear h; intro a w h
    refine condS false h rfl (fun hc => ?_) (fun hc => ?_)
    ·cases hc
    ·clear hc
     refine wp_skip ?_
     refine block_n ?_
     refine then_n ?_
     refine rS fam0ok 12 [(2, .call (SbWrite 8 12 (by decide) (by decide) (by decide) l t (by have e1 : (⟨#[45]⟩ : ByteArray).data.toList.length = 1 := rfl; have e2 : (⟨#[32, 45, 32]⟩ : ByteArray).data.toList.length = 3 := rfl; have e3 : (⟨#[32, 43, 32]⟩ : ByteArray).data.toList.length = 3 := rfl; have e4 : (⟨#[45]⟩ : ByteArray).size = 1 := rfl; have e5 : (⟨#[32, 45, 32]⟩ : ByteArray).size = 3 := rfl; have e6 : (⟨#[32, 43, 32]⟩ : ByteArray).size = 3 := rfl; first | omega | (rw [List.length_append]; omega))) ug_1)] [] [(7, .bld 97 (.own 12 (l ++ t.data.toList).length)), (12, .row 5 1 (bw (l ++ t.data.toList)))] (by kernel_rfl) h ?_; clear h; intro a w h
     replace h := renS 12 9 [] [(7, .bld 97 (.own 9 (l ++ t.data.toList).length)), (9, .row 5 1 (bw (l ++ t.data.toList)))] h (by kernel_rfl) (by kernel_rfl) (by kernel_rfl)
     replace h := h.conv (f' := F.of [] [(7, .bld 97 (.own 9 (sumW l neg t).length)), (9, .row 5 1 (bw (sumW l neg t)))]) (congrArg (fun (z_ : List UInt8) => F.of [] [(7, .bld 97 (.own 9 z_.length)), (9, .row 5 1 (bw z_))]) (show (l ++ t.data.toList) = sumW l neg t from by unfold sumW; simp only [hc1, hc3]))
     refine retS [] h Exit.normal (.inr rfl)  rfl trivial ?_ (by kernel_rfl) (by kernel_rfl)
     rfl
 ·have hc4 := hc; clear hc
  have hc4' := hc4; (try simp at hc4')
  rw [hc4] at h
  refine rSeq fam0ok 13 [] [(0, vp 7 0), (1, vb neg), (2, .t (.c (.d (.raw (.string t))))), (6, vb false), (10, vb false)] [(7, .bld 97 (.own 8 l.length)), (8, .row 5 1 (bw l))] (by kernel_rfl) h ?_; clear h; intro a w h
  refine condS false h rfl (fun hc => ?_) (fun hc => ?_)
  ·cases hc
  ·clear hc
   refine rSeq fam0ok 13 [] [(0, vp 7 0), (2, .t (.c (.d (.raw (.string t))))), (6, vb false), (17, vb neg)] [(7, .bld 97 (.own 8 l.length)), (8, .row 5 1 (bw l))] (by kernel_rfl) h ?_; clear h; intro a w h
   refine condS neg h rfl (fun hc => ?_) (fun hc => ?_)
   ·have hc5 := hc; clear hc
    refine rS fam0ok 13 [(1, .call (SbWrite 8 13 (by decide) (by decide) (by decide) l (⟨#[32, 45, 32]⟩ : ByteArray) (by have e1 : (⟨#[45]⟩ : ByteArray).data.toList.length = 1 := rfl; have e2 : (⟨#[32, 45, 32]⟩ : ByteArray).data.toList.length = 3 := rfl; have e3 : (⟨#[32, 43, 32]⟩ : ByteArray).data.toList.length = 3 := rfl; have e4 : (⟨#[45]⟩ : ByteArray).size = 1 := rfl; have e5 : (⟨#[32, 45, 32]⟩ : ByteArray).size = 3 := rfl; have e6 : (⟨#[32, 43, 32]⟩ : ByteArray).size = 3 := rfl; first | omega | (rw [List.length_append]; omega))) ug_1)] [(0, vp 7 0), (2, .t (.c (.d (.raw (.string t)))))] [(7, .bld 97 (.own 13 (l ++ (⟨#[32, 45, 32]⟩ : ByteArray).data.toList).length)), (13, .row 5 1 (bw (l ++ (⟨#[32, 45, 32]⟩ : ByteArray).data.toList)))] (by kernel_rfl) h ?_; clear h; intro a w h
    refine block_n ?_
    refine then_n ?_
    refine rS fam0ok 14 [(2, .call (SbWrite 13 14 (by decide) (by decide) (by decide) (l ++ (⟨#[32, 45, 32]⟩ : ByteArray).data.toList) t (by have e1 : (⟨#[45]⟩ : ByteArray).data.toList.length = 1 := rfl; have e2 : (⟨#[32, 45, 32]⟩ : ByteArray).data.toList.length = 3 := rfl; have e3 : (⟨#[32, 43, 32]⟩ : ByteArray).data.toList.length = 3 := rfl; have e4 : (⟨#[45]⟩ : ByteArray).size = 1 := rfl; have e5 : (⟨#[32, 45, 32]⟩ : ByteArray).size = 3 := rfl; have e6 : (⟨#[32, 43, 32]⟩ : ByteArray).size = 3 := rfl; first | omega | (rw [List.length_append]; omega))) ug_1)] [] [(7, .bld 97 (.own 14 ((l ++ (⟨#[32, 45, 32]⟩ : ByteArray).data.toList) ++ t.data.toList).length)), (14, .row 5 1 (bw ((l ++ (⟨#[32, 45, 32]⟩ : ByteArray).data.toList) ++ t.data.toList)))] (by kernel_rfl) h ?_; clear h; intro a w h
    replace h := renS 14 9 [] [(7, .bld 97 (.own 9 ((l ++ (⟨#[32, 45, 32]⟩ : ByteArray).data.toList) ++ t.data.toList).length)), (9, .row 5 1 (bw ((l ++ (⟨#[32, 45, 32]⟩ : ByteArray).data.toList) ++ t.data.toList)))] h (by kernel_rfl) (by kernel_rfl) (by kernel_rfl)
    replace h := h.conv (f' := F.of [] [(7, .bld 97 (.own 9 (sumW l neg t).length)), (9, .row 5 1 (bw (sumW l neg t)))]) (congrArg (fun (z_ : List UInt8) => F.of [] [(7, .bld 97 (.own 9 z_.length)), (9, .row 5 1 (bw z_))]) (show ((l ++ (⟨#[32, 45, 32]⟩ : ByteArray).data.toList) ++ t.data.toList) = sumW l neg t from by unfold sumW; simp only [hc4, hc5]))
    refine retS [] h Exit.normal (.inr rfl)  rfl trivial ?_ (by kernel_rfl) (by kernel_rfl)
    rfl
   ·have hc6 := hc; clear hc
    refine rSeq fam0ok 15 [] [(0, vp 7 0), (2, .t (.c (.d (.raw (.string t))))), (21, vb true)] [(7, .bld 97 (.own 8 l.length)), (8, .row 5 1 (bw l))] (by kernel_rfl) h ?_; clear h; intro a w h
    refine condS true h rfl (fun hc => ?_) (fun hc => ?_)
    ·clear hc
     refine rS fam0ok 15 [(1, .call (SbWrite 8 15 (by decide) (by decide) (by decide) l (⟨#[32, 43, 32]⟩ : ByteArray) (by have e1 : (⟨#[45]⟩ : ByteArray).data.toList.length = 1 := rfl; have e2 : (⟨#[32, 45, 32]⟩ : ByteArray).data.toList.length = 3 := rfl; have e3 : (⟨#[32, 43, 32]⟩ : ByteArray).data.toList.length = 3 := rfl; have e4 : (⟨#[45]⟩ : ByteArray).size = 1 := rfl; have e5 : (⟨#[32, 45, 32]⟩ : ByteArray).size = 3 := rfl; have e6 : (⟨#[32, 43, 32]⟩ : ByteArray).size = 3 := rfl; first | omega | (rw [List.length_append]; omega))) ug_1)] [(0, vp 7 0), (2, .t (.c (.d (.raw (.string t)))))] [(7, .bld 97 (.own 15 (l ++ (⟨#[32, 43, 32]⟩ : ByteArray).data.toList).length)), (15, .row 5 1 (bw (l ++ (⟨#[32, 43, 32]⟩ : ByteArray).data.toList)))] (by kernel_rfl) h ?_; clear h; intro a w h
     refine block_n ?_
     refine then_n ?_
     refine rS fam0ok 16 [(2, .call (SbWrite 15 16 (by decide) (by decide) (by decide) (l ++ (⟨#[32, 43, 32]⟩ : ByteArray).data.toList) t (by have e1 : (⟨#[45]⟩ : ByteArray).data.toList.length = 1 := rfl; have e2 : (⟨#[32, 45, 32]⟩ : ByteArray).data.toList.length = 3 := rfl; have e3 : (⟨#[32, 43, 32]⟩ : ByteArray).data.toList.length = 3 := rfl; have e4 : (⟨#[45]⟩ : ByteArray).size = 1 := rfl; have e5 : (⟨#[32, 45, 32]⟩ : ByteArray).size = 3 := rfl; have e6 : (⟨#[32, 43, 32]⟩ : ByteArray).size = 3 := rfl; first | omega | (rw [List.length_append]; omega))) ug_1)] [] [(7, .bld 97 (.own 16 ((l ++ (⟨#[32, 43, 32]⟩ : ByteArray).data.toList) ++ t.data.toList).length)), (16, .row 5 1 (bw ((l ++ (⟨#[32, 43, 32]⟩ : ByteArray).data.toList) ++ t.data.toList)))] (by kernel_rfl) h ?_; clear h; intro a w h
     replace h := renS 16 9 [] [(7, .bld 97 (.own 9 ((l ++ (⟨#[32, 43, 32]⟩ : ByteArray).data.toList) ++ t.data.toList).length)), (9, .row 5 1 (bw ((l ++ (⟨#[32, 43, 32]⟩ : ByteArray).data.toList) ++ t.data.toList)))] h (by kernel_rfl) (by kernel_rfl) (by kernel_rfl)
     replace h := h.conv (f' := F.of [] [(7, .bld 97 (.own 9 (sumW l neg t).length)), (9, .row 5 1 (bw (sumW l neg t)))]) (congrArg (fun (z_ : List UInt8) => F.of [] [(7, .bld 97 (.own 9 z_.length)), (9, .row 5 1 (bw z_))]) (show ((l ++ (⟨#[32, 43, 32]⟩ : ByteArray).data.toList) ++ t.data.toList) = sumW l neg t from by unfold sumW; simp only [hc4, hc6]))
     refine retS [] h Exit.normal (.inr rfl)  rfl trivial ?_ (by kernel_rfl) (by kernel_rfl)
     rfl
    ·cases hc
def lkW (j : Nat) : List UInt8 := if j = 0 then [] else [45, 120]
theorem lkW_len (j : Nat) : (lkW j).length ≤ 2 := by unfold lkW; split <;> simp
theorem text_plain : plainT (ofT 2 [(-1)]) = ofT 2 [(-1)] := by
 refine plainT_eq (by simp [ofT, ofP]) (by simp [ofT, ofP, ZI.val_of]) (fun v => rfl) (by simp [ofT, ZI.val_of])
theorem text_at (j : Nat) (hj : j = 0) : ∃ x : Part, (ofT 2 [(-1)]).parts[j]? = some x ∧ x = ⟨0, ZI.of (-1)⟩ := by subst hj; exact ⟨_, rfl, rfl⟩
theorem text_sum1 (j : Nat) (hj : j = 0) : sumW (lkW j) true (⟨#[120]⟩ : ByteArray) = lkW (j + 1) := by subst hj; rfl
theorem text_sum2 (j : Nat) (hj : j = 1) : sumW (lkW j) false (⟨#[50]⟩ : ByteArray) = [45, 120, 32, 43, 32, 50] := by subst hj; rfl
set_option maxHeartbeats 4000000 in
theorem SText2x  : Fn Tryz.prog 46 [] [.t (.agg ([.d (.sl 3 ((ofT 2 [(-1)]).parts.map Part.d))] ++ zi (ofT 2 [(-1)]).k)), .t (.c (.d (.sl 1 ([(⟨#[120]⟩ : ByteArray)].map strD))))] (vs (⟨#[45, 120, 32, 43, 32, 50]⟩ : ByteArray)) [] := by
 have lk2 : (ofT 2 [(-1)]).k.abs.length ≤ 2 := ZI.len_of (by have := pw2; omega)
 refine Fn.body Tryz.func46 rfl 62 rfl fun w H B a h => ?_
 refine rSeq fam0ok 10 [] [(1, .t (.c (.d (.sl 1 ([(⟨#[120]⟩ : ByteArray)].map strD))))), (2, vp 10 0), (4, .t (.c (.d (.raw (.string ByteArray.empty)))))] [(10, .box ([.d (.sl 3 ((ofT 2 [(-1)]).parts.map Part.d))] ++ zi (ofT 2 [(-1)]).k))] (by kernel_rfl) h ?_; clear h; intro a w h
 refine rSeq fam0ok 11 [(1, .call (Fn.cast (SPlain (ofT 2 [(-1)]) (ofT_ok 2 [(-1)] (by decide) (by decide) (by decide)) (by decide) (by decide)) (congrArg (fun t => vd (Term.d t)) text_plain)) tm_7)] [(1, .t (.c (.d (.sl 1 ([(⟨#[120]⟩ : ByteArray)].map strD))))), (2, vp 10 0), (4, .t (.c (.d (.raw (.string ByteArray.empty)))))] [(10, .box ([.d (.sl 3 ((ofT 2 [(-1)]).parts.map Part.d))] ++ zi (ofT 2 [(-1)]).k))] (by kernel_rfl) h ?_; clear h; intro a w h
 refine rSeq fam0ok 11 [(0, .gen _ _ _ fun _ _ _ _ => Op.allocB (d := 5) 7 8 (by decide) 5 bldZero)] [(1, .t (.c (.d (.sl 1 ([(⟨#[120]⟩ : ByteArray)].map strD))))), (2, vp 10 0), (4, .t (.c (.d (.raw (.string ByteArray.empty))))), (5, vp 7 0)] [(10, .box ([.d (.sl 3 ((ofT 2 [(-1)]).parts.map Part.d))] ++ zi (ofT 2 [(-1)]).k)), (7, .bld 97 (.own 8 0)), (8, .row 5 1 (bw []))] (by kernel_rfl) h ?_; clear h; intro a w h
 refine wp_seq ?_
 refine rSeq fam0ok 11 [(2, .len (c := (.d (.sl 3 ((ofT 2 [(-1)]).parts.map Part.d)))) (n := (ofT 2 [(-1)]).parts.length) (lenC_map _ _ _))] [(1, .t (.c (.d (.sl 1 ([(⟨#[120]⟩ : ByteArray)].map strD))))), (2, vp 10 0), (4, .t (.c (.d (.raw (.string ByteArray.empty))))), (5, vp 7 0), (13, .t (.c (.d (.sl 3 ((ofT 2 [(-1)]).parts.map Part.d))))), (14, vi .i64 ((ofT 2 [(-1)]).parts.length : Int)), (15, vi .i64 0)] [(10, .box ([.d (.sl 3 ((ofT 2 [(-1)]).parts.map Part.d))] ++ zi (ofT 2 [(-1)]).k)), (7, .bld 97 (.own 8 0)), (8, .row 5 1 (bw []))] (by kernel_rfl) h ?_; clear h; intro a w h
 refine wp_block ?_
 refine loopS (ι := (Nat)) (fun (z_ : (Nat)) => match z_ with | j => j ≤ 1)
   (fun (z_ : (Nat)) => match z_ with | j => [(1, .t (.c (.d (.sl 1 ([(⟨#[120]⟩ : ByteArray)].map strD))))), (2, vp 10 0), (4, .t (.c (.d (.raw (.string ByteArray.empty))))), (5, vp 7 0), (13, .t (.c (.d (.sl 3 ((ofT 2 [(-1)]).parts.map Part.d))))), (14, vi .i64 ((ofT 2 [(-1)]).parts.length : Int)), (15, vi .i64 (j : Int))])
   (fun (z_ : (Nat)) => match z_ with | j => [(10, .box ([.d (.sl 3 ((ofT 2 [(-1)]).parts.map Part.d))] ++ zi (ofT 2 [(-1)]).k)), (7, .bld 97 (.own 8 (lkW j).length)), (8, .row 5 1 (bw (lkW j)))])
   (fun (z_ : (Nat)) => match z_ with | j => 1 - j) 0 ?_ h (by kernel_rfl) (by kernel_rfl) ?_
 ·exact Nat.zero_le _
 ·clear h; rintro j a w hI h
  change St _ (F.of [(1, .t (.c (.d (.sl 1 ([(⟨#[120]⟩ : ByteArray)].map strD))))), (2, vp 10 0), (4, .t (.c (.d (.raw (.string ByteArray.empty))))), (5, vp 7 0), (13, .t (.c (.d (.sl 3 ((ofT 2 [(-1)]).parts.map Part.d))))), (14, vi .i64 ((ofT 2 [(-1)]).parts.length : Int)), (15, vi .i64 (j : Int))] [(10, .box ([.d (.sl 3 ((ofT 2 [(-1)]).parts.map Part.d))] ++ zi (ofT 2 [(-1)]).k)), (7, .bld 97 (.own 8 (lkW j).length)), (8, .row 5 1 (bw (lkW j)))]) a w at h
  refine rSeq fam0ok 11 [] [(1, .t (.c (.d (.sl 1 ([(⟨#[120]⟩ : ByteArray)].map strD))))), (2, vp 10 0), (4, .t (.c (.d (.raw (.string ByteArray.empty))))), (5, vp 7 0), (13, .t (.c (.d (.sl 3 ((ofT 2 [(-1)]).parts.map Part.d))))), (14, vi .i64 ((ofT 2 [(-1)]).parts.length : Int)), (15, vi .i64 (j : Int)), (16, vb (decide ((j : Int) < ((ofT 2 [(-1)]).parts.length : Int))))] [(10, .box ([.d (.sl 3 ((ofT 2 [(-1)]).parts.map Part.d))] ++ zi (ofT 2 [(-1)]).k)), (7, .bld 97 (.own 8 (lkW j).length)), (8, .row 5 1 (bw (lkW j)))] (by kernel_rfl) h ?_; clear h; intro a w h
  refine wp_seq ?_
  refine condS (decide ((j : Int) < ((ofT 2 [(-1)]).parts.length : Int))) h rfl (fun hc => ?_) (fun hc => ?_)
  ·have hc1 := hc; clear hc
   have hc1' := of_decide_eq_true hc1
   refine wp_skip ?_
   refine then_n ?_
   refine wp_seq ?_
   refine wp_block ?_
   have hj0 : j = 0 := by have : (ofT 2 [(-1)]).parts.length = 1 := rfl; omega
   obtain ⟨x2, hx2, gx2⟩ := text_at j hj0
   have ox2 : Lb x2.c.abs := by rw [gx2]; exact ZI.lb_of _
   have lx2 : x2.c.abs.length ≤ 2 := by rw [gx2]; exact ZI.len_of (by have := pw2; omega)
   have vx2 : x2.c.val = -1 := by rw [gx2]; exact ZI.val_of _
   have wx2 : x2.v = 0 := by rw [gx2]
   refine rSeq fam0ok 11 [(0, .gen _ _ _ fun _ _ _ _ => Op.idxD (d := 17) (t := 13) (k := .i64) ta_0 (map_at hx2 (f := Part.d)) (OV.tmp 15 _))] [(1, .t (.c (.d (.sl 1 ([(⟨#[120]⟩ : ByteArray)].map strD))))), (2, vp 10 0), (4, .t (.c (.d (.raw (.string ByteArray.empty))))), (5, vp 7 0), (7, vp 11 0), (13, .t (.c (.d (.sl 3 ((ofT 2 [(-1)]).parts.map Part.d))))), (14, vi .i64 ((ofT 2 [(-1)]).parts.length : Int)), (15, vi .i64 (j : Int))] [(10, .box ([.d (.sl 3 ((ofT 2 [(-1)]).parts.map Part.d))] ++ zi (ofT 2 [(-1)]).k)), (7, .bld 97 (.own 8 (lkW j).length)), (8, .row 5 1 (bw (lkW j))), (11, .box ([.d (.raw (.int .i64 x2.v))] ++ zi x2.c))] (by kernel_rfl) h ?_; clear h; intro a w h
   refine rSeq fam0ok 12 [(3, .call ((show Fn _ _ _ [vi .i64 x2.v, _] _ _ from by rw [wx2]; exact SName0)) ty_18)] [(1, .t (.c (.d (.sl 1 ([(⟨#[120]⟩ : ByteArray)].map strD))))), (2, vp 10 0), (4, .t (.c (.d (.raw (.string ByteArray.empty))))), (5, vp 7 0), (7, vp 11 0), (8, .t (.c (.d (.raw (.string (⟨#[120]⟩ : ByteArray)))))), (13, .t (.c (.d (.sl 3 ((ofT 2 [(-1)]).parts.map Part.d))))), (14, vi .i64 ((ofT 2 [(-1)]).parts.length : Int)), (15, vi .i64 (j : Int))] [(10, .box ([.d (.sl 3 ((ofT 2 [(-1)]).parts.map Part.d))] ++ zi (ofT 2 [(-1)]).k)), (7, .bld 97 (.own 8 (lkW j).length)), (8, .row 5 1 (bw (lkW j))), (11, .box ([.d (.raw (.int .i64 x2.v))] ++ zi x2.c))] (by kernel_rfl) h ?_; clear h; intro a w h
   refine wp_seq ?_
   obtain ⟨r4, er4, vr4, or4, lr4⟩ := mkZ (v := (x2.c.val.natAbs : Int)) (m := x2.c.abs.length) (len_abs ox2)
   refine rSeq fam0ok 12 [(2, .call (Fn.cast (SAbs x2.c ox2 (by omega)) (congrArg vz er4.symm)) ug_5)] [(1, .t (.c (.d (.sl 1 ([(⟨#[120]⟩ : ByteArray)].map strD))))), (2, vp 10 0), (4, .t (.c (.d (.raw (.string ByteArray.empty))))), (5, vp 7 0), (7, vp 11 0), (8, .t (.c (.d (.raw (.string (⟨#[120]⟩ : ByteArray)))))), (9, vp 12 0), (13, .t (.c (.d (.sl 3 ((ofT 2 [(-1)]).parts.map Part.d))))), (14, vi .i64 ((ofT 2 [(-1)]).parts.length : Int)), (15, vi .i64 (j : Int))] [(10, .box ([.d (.sl 3 ((ofT 2 [(-1)]).parts.map Part.d))] ++ zi (ofT 2 [(-1)]).k)), (7, .bld 97 (.own 8 (lkW j).length)), (8, .row 5 1 (bw (lkW j))), (11, .box ([.d (.raw (.int .i64 x2.v))] ++ zi x2.c)), (12, .box (zi r4))] (by kernel_rfl) h ?_; clear h; intro a w h
   obtain ⟨r5, er5, vr5, or5, lr5⟩ := mkZ (v := 1) (m := 2) (ZI.len_of (by have := pw2; omega))
   refine rSeq fam0ok 13 [(1, .call (Fn.cast (SOf 1 ⟨by omega, by omega⟩) (congrArg vz er5.symm)) tm_10), (2, .call (Fn.cast (SCmp r4 r5 or4 or5 (by omega) (by omega)) (congrArg (vi .i64) (cmpZ_eq (by rw [vr4, vr5, vx2]; first | done | rfl)))) tx_2), (3, .cmp (op := .neq) (m := 0) (n := 0) (b := false) .i64 rfl)] [(1, .t (.c (.d (.sl 1 ([(⟨#[120]⟩ : ByteArray)].map strD))))), (2, vp 10 0), (4, .t (.c (.d (.raw (.string ByteArray.empty))))), (5, vp 7 0), (7, vp 11 0), (8, .t (.c (.d (.raw (.string (⟨#[120]⟩ : ByteArray)))))), (9, vp 12 0), (13, .t (.c (.d (.sl 3 ((ofT 2 [(-1)]).parts.map Part.d))))), (14, vi .i64 ((ofT 2 [(-1)]).parts.length : Int)), (15, vi .i64 (j : Int)), (29, vb false)] [(10, .box ([.d (.sl 3 ((ofT 2 [(-1)]).parts.map Part.d))] ++ zi (ofT 2 [(-1)]).k)), (7, .bld 97 (.own 8 (lkW j).length)), (8, .row 5 1 (bw (lkW j))), (11, .box ([.d (.raw (.int .i64 x2.v))] ++ zi x2.c)), (12, .box (zi r4))] (by kernel_rfl) h ?_; clear h; intro a w h
   refine condS false h rfl (fun hc => ?_) (fun hc => ?_)
   ·cases hc
   ·clear hc
    refine wp_skip ?_
    refine then_n ?_
    refine rS fam0ok 13 [(2, .call (Fn.cast (SSign x2.c ox2 (by omega)) (congrArg (vi .i64) (by rw [vx2]; first | done | rfl))) td_6), (3, .cmp (op := .lss) (m := (-1)) (n := 0) (b := true) .i64 rfl), (5, .call (Ssummand (lkW j) true (⟨#[120]⟩ : ByteArray) (by have := lkW_len j; have : ((⟨#[120]⟩ : ByteArray)).size = 1 := rfl; omega)) ug_9)] [(1, .t (.c (.d (.sl 1 ([(⟨#[120]⟩ : ByteArray)].map strD))))), (2, vp 10 0), (4, .t (.c (.d (.raw (.string ByteArray.empty))))), (5, vp 7 0), (13, .t (.c (.d (.sl 3 ((ofT 2 [(-1)]).parts.map Part.d))))), (14, vi .i64 ((ofT 2 [(-1)]).parts.length : Int)), (15, vi .i64 (j : Int))] [(10, .box ([.d (.sl 3 ((ofT 2 [(-1)]).parts.map Part.d))] ++ zi (ofT 2 [(-1)]).k)), (7, .bld 97 (.own 9 (sumW (lkW j) true (⟨#[120]⟩ : ByteArray)).length)), (9, .row 5 1 (bw (sumW (lkW j) true (⟨#[120]⟩ : ByteArray))))] (by kernel_rfl) h ?_; clear h; intro a w h
    refine block_n ?_
    refine then_n ?_
    replace h := renS 9 8 [(1, .t (.c (.d (.sl 1 ([(⟨#[120]⟩ : ByteArray)].map strD))))), (2, vp 10 0), (4, .t (.c (.d (.raw (.string ByteArray.empty))))), (5, vp 7 0), (13, .t (.c (.d (.sl 3 ((ofT 2 [(-1)]).parts.map Part.d))))), (14, vi .i64 ((ofT 2 [(-1)]).parts.length : Int)), (15, vi .i64 (j : Int))] [(10, .box ([.d (.sl 3 ((ofT 2 [(-1)]).parts.map Part.d))] ++ zi (ofT 2 [(-1)]).k)), (7, .bld 97 (.own 8 (sumW (lkW j) true (⟨#[120]⟩ : ByteArray)).length)), (8, .row 5 1 (bw (sumW (lkW j) true (⟨#[120]⟩ : ByteArray))))] h (by kernel_rfl) (by kernel_rfl) (by kernel_rfl)
    refine rS fam0ok 13 [(0, .add .i64 (m := (j : Int)) (n := 1) (i64_id (by omega) (by omega)))] [(1, .t (.c (.d (.sl 1 ([(⟨#[120]⟩ : ByteArray)].map strD))))), (2, vp 10 0), (4, .t (.c (.d (.raw (.string ByteArray.empty))))), (5, vp 7 0), (13, .t (.c (.d (.sl 3 ((ofT 2 [(-1)]).parts.map Part.d))))), (14, vi .i64 ((ofT 2 [(-1)]).parts.length : Int)), (15, vi .i64 ((j : Int) + 1))] [(10, .box ([.d (.sl 3 ((ofT 2 [(-1)]).parts.map Part.d))] ++ zi (ofT 2 [(-1)]).k)), (7, .bld 97 (.own 8 (sumW (lkW j) true (⟨#[120]⟩ : ByteArray)).length)), (8, .row 5 1 (bw (sumW (lkW j) true (⟨#[120]⟩ : ByteArray))))] (by kernel_rfl) h ?_; clear h; intro a w h
    refine then_n ?_
    replace h := h.conv (f' := F.of [(1, .t (.c (.d (.sl 1 ([(⟨#[120]⟩ : ByteArray)].map strD))))), (2, vp 10 0), (4, .t (.c (.d (.raw (.string ByteArray.empty))))), (5, vp 7 0), (13, .t (.c (.d (.sl 3 ((ofT 2 [(-1)]).parts.map Part.d))))), (14, vi .i64 ((ofT 2 [(-1)]).parts.length : Int)), (15, vi .i64 ((j : Int) + 1))] [(10, .box ([.d (.sl 3 ((ofT 2 [(-1)]).parts.map Part.d))] ++ zi (ofT 2 [(-1)]).k)), (7, .bld 97 (.own 8 (lkW (j + 1)).length)), (8, .row 5 1 (bw (lkW (j + 1))))]) (congrArg (fun (z_ : List UInt8) => F.of [(1, .t (.c (.d (.sl 1 ([(⟨#[120]⟩ : ByteArray)].map strD))))), (2, vp 10 0), (4, .t (.c (.d (.raw (.string ByteArray.empty))))), (5, vp 7 0), (13, .t (.c (.d (.sl 3 ((ofT 2 [(-1)]).parts.map Part.d))))), (14, vi .i64 ((ofT 2 [(-1)]).parts.length : Int)), (15, vi .i64 ((j : Int) + 1))] [(10, .box ([.d (.sl 3 ((ofT 2 [(-1)]).parts.map Part.d))] ++ zi (ofT 2 [(-1)]).k)), (7, .bld 97 (.own 8 z_.length)), (8, .row 5 1 (bw z_))]) (show ((sumW (lkW j) true (⟨#[120]⟩ : ByteArray)) : List UInt8) = (lkW (j + 1)) from text_sum1 j hj0))
    refine roundS (x := j) (y := j + 1) h ?_ ?_ (by kernel_rfl) (by kernel_rfl)
    ·show j + 1 ≤ 1
     omega
    ·show 1 - (j + 1) < 1 - j
     omega
  ·have hc2 := hc; clear hc
   have hc2' := of_decide_eq_false hc2
   refine wp_exit ?_
   refine then_x ?_
   refine then_x ?_
   refine inBlock_exit ?_
   refine then_n ?_
   refine wp_seq ?_
   refine rSeq fam0ok 13 [(2, .call (Fn.cast (SSign (ofT 2 [(-1)]).k (ZI.lb_of _) (by omega)) (congrArg (vi .i64) (by rw [show (ofT 2 [(-1)]).k.val = 2 from ZI.val_of _]; first | done | rfl))) td_6), (3, .cmp (op := .neq) (m := 1) (n := 0) (b := true) .i64 rfl)] [(2, vp 10 0), (4, .t (.c (.d (.raw (.string ByteArray.empty))))), (5, vp 7 0), (51, vb true)] [(10, .box ([.d (.sl 3 ((ofT 2 [(-1)]).parts.map Part.d))] ++ zi (ofT 2 [(-1)]).k)), (7, .bld 97 (.own 8 (lkW j).length)), (8, .row 5 1 (bw (lkW j)))] (by kernel_rfl) h ?_; clear h; intro a w h
   refine condS true h rfl (fun hc => ?_) (fun hc => ?_)
   ·clear hc
    obtain ⟨r11, er11, vr11, or11, lr11⟩ := mkZ (v := ((ofT 2 [(-1)]).k.val.natAbs : Int)) (m := (ofT 2 [(-1)]).k.abs.length) (len_abs (ZI.lb_of _))
    refine rS fam0ok 13 [(2, .call (Fn.cast (SSign (ofT 2 [(-1)]).k (ZI.lb_of _) (by omega)) (congrArg (vi .i64) (by rw [show (ofT 2 [(-1)]).k.val = 2 from ZI.val_of _]; first | done | rfl))) td_6), (3, .cmp (op := .lss) (m := 1) (n := 0) (b := false) .i64 rfl), (6, .call (Fn.cast (SAbs (ofT 2 [(-1)]).k (ZI.lb_of _) (by omega)) (congrArg vz er11.symm)) ug_5), (7, .call (SzText2 r11 or11 (by omega) (by rw [vr11, show (ofT 2 [(-1)]).k.val = 2 from ZI.val_of _]; first | done | rfl)) ug_10), (8, .call (Ssummand (lkW j) false (⟨#[50]⟩ : ByteArray) (by have := lkW_len j; have : ((⟨#[50]⟩ : ByteArray)).size = 1 := rfl; omega)) ug_9)] [(4, .t (.c (.d (.raw (.string ByteArray.empty))))), (5, vp 7 0)] [(7, .bld 97 (.own 9 (sumW (lkW j) false (⟨#[50]⟩ : ByteArray)).length)), (9, .row 5 1 (bw (sumW (lkW j) false (⟨#[50]⟩ : ByteArray))))] (by kernel_rfl) h ?_; clear h; intro a w h
    refine then_n ?_
    replace h := renS 9 8 [(4, .t (.c (.d (.raw (.string ByteArray.empty))))), (5, vp 7 0)] [(7, .bld 97 (.own 8 (sumW (lkW j) false (⟨#[50]⟩ : ByteArray)).length)), (8, .row 5 1 (bw (sumW (lkW j) false (⟨#[50]⟩ : ByteArray))))] h (by kernel_rfl) (by kernel_rfl) (by kernel_rfl)
    replace h := h.conv (f' := F.of [(4, .t (.c (.d (.raw (.string ByteArray.empty))))), (5, vp 7 0)] [(7, .bld 97 (.own 8 ([45, 120, 32, 43, 32, 50].length))), (8, .row 5 1 (bw [45, 120, 32, 43, 32, 50]))]) (congrArg (fun (z_ : List UInt8) => F.of [(4, .t (.c (.d (.raw (.string ByteArray.empty))))), (5, vp 7 0)] [(7, .bld 97 (.own 8 z_.length)), (8, .row 5 1 (bw z_))]) (show ((sumW (lkW j) false (⟨#[50]⟩ : ByteArray)) : List UInt8) = [45, 120, 32, 43, 32, 50] from text_sum2 j (by have : (ofT 2 [(-1)]).parts.length = 1 := rfl; omega)))
    refine rSeq fam0ok 13 [(0, .call (SbString 8 (by decide) [45, 120, 32, 43, 32, 50] (by decide)) ug_11)] [(4, .t (.c (.d (.raw (.string (⟨[45, 120, 32, 43, 32, 50].toArray⟩ : ByteArray))))))] [] (by kernel_rfl) h ?_; clear h; intro a w h
    refine wp_ret ?_
    refine retS [.c (.d (.raw (.string (⟨[45, 120, 32, 43, 32, 50].toArray⟩ : ByteArray))))] h Exit.ret (.inl rfl)  rfl ⟨RV.tmp _ _ rfl, trivial⟩ ?_ (by kernel_rfl) (by kernel_rfl)
    rfl
   ·cases hc
end Go.Proofs.YtekhnajfdaknnaaGreatDoor.S
end
section
namespace Go.Proofs.YtekhnajfdaknnaaGreatDoor.S
open Go.RowKit

theorem ua_0 : Bodied Tryz.prog 8 := Bodied.mk' (by kernel_rfl)
theorem ua_1 : Bodied Tryz.prog 14 := Bodied.mk' (by kernel_rfl)
theorem ua_3 : Bodied Tryz.prog 9 := Bodied.mk' (by kernel_rfl)
end Go.Proofs.YtekhnajfdaknnaaGreatDoor.S
end
section
namespace Go.Proofs.YtekhnajfdaknnaaGreatDoor.S
open Go.RowKit

theorem ub_1 : Bodied Tryz.prog 10 := Bodied.mk' (by kernel_rfl)
theorem ub_9 : Bodied Tryz.prog 32 := Bodied.mk' (by kernel_rfl)
def sumV (f : Int → Int) : Nat → Int
  | 0 => 0
  | n + 1 => sumV f n + f (n : Int)
theorem sumV_add (f g : Int → Int) : ∀ n, sumV (fun v => f v + g v) n = sumV f n + sumV g n
 | 0 => rfl
 | n + 1 => by simp only [sumV, sumV_add f g n]; omega
theorem sumV_congr {f g : Int → Int} : ∀ n : Nat, (∀ v : Int, f v = g v) → sumV f n = sumV g n
 | 0, _ => rfl
 | n + 1, h => by simp only [sumV, sumV_congr n h, h]
theorem sumV_one (a c : Int) (g : Int → Int) : ∀ n : Nat, sumV (fun v => (if a = v ∧ 0 ≤ v then c else 0) * g v) n = if 0 ≤ a ∧ a < (n : Int) then c * g a else 0
 | 0 => by rw [if_neg (by omega)]; rfl
 | n + 1 => by
  simp only [sumV, sumV_one a c g n]
  by_cases h : a = (n : Int)
  ·subst h
   rw [if_neg (by omega), if_pos ⟨rfl, by omega⟩, if_pos (by omega), Int.zero_add]
  ·rw [if_neg (show ¬(a = (n : Int) ∧ 0 ≤ (n : Int)) from fun e => h e.1), Int.zero_mul, Int.add_zero]
   by_cases k : 0 ≤ a ∧ a < (n : Int)
   ·rw [if_pos k, if_pos (by omega)]
   ·rw [if_neg k, if_neg (by omega)]
theorem valP_sum (vs : List ZI) : ∀ ps : List Part, valP vs ps = sumV (fun v => coefZ ps v * valAt vs v) vs.length
 | [] => by
  have : ∀ n : Nat, sumV (fun v => coefZ [] v * valAt vs v) n = 0 := by
   intro n
   induction n with
   | zero => rfl
   | succ n ih => simp only [sumV, coefZ, Int.zero_mul] at ih ⊢; omega
  rw [this]; rfl
 | p :: ps => by
  rw [sumV_congr (g := fun v => (if p.v = v ∧ 0 ≤ v then p.c.val else 0) * valAt vs v + coefZ ps v * valAt vs v) _ (fun v => by simp only [coefZ]; rw [Int.add_mul]), sumV_add, sumV_one, ← valP_sum vs ps]
  simp only [valP]
  congr 1
  by_cases h : 0 ≤ p.v ∧ p.v < (vs.length : Int)
  ·rw [if_pos h]
  ·rw [if_neg h]
   by_cases k : 0 ≤ p.v
   ·rw [valAt_out (fun e => h ⟨k, e⟩), Int.mul_zero]
   ·rw [valAt_neg k, Int.mul_zero]
theorem valP_congr {ps qs : List Part} (vs : List ZI) (h : ∀ v, coefZ ps v = coefZ qs v) : valP vs ps = valP vs qs := by
 rw [valP_sum, valP_sum]; exact sumV_congr _ fun v => by rw [h]
theorem val_plain (t : Term) (vs : List ZI) : valT (plainT t) vs = valT t vs := by
 unfold valT
 rw [valP_congr vs (plainT_parts t).2.2, show (plainT t).k.val = t.k.val from ZI.val_of _]
theorem val_add (s t : Term) (vs : List ZI) : valT (addT s t) vs = valT s vs + valT t vs := by
 unfold addT
 rw [val_plain]
 unfold valT
 rw [valP_app, ZI.val_of]; omega
theorem valP_mul (vs : List ZI) (q : ZI) : ∀ ps : List Part, valP vs (ps.map fun p => ⟨p.v, ZI.of (p.c.val * q.val)⟩) = valP vs ps * q.val
 | [] => by simp [valP]
 | p :: ps => by
  simp only [List.map_cons, valP, valP_mul vs q ps, ZI.val_of, Int.add_mul]
  congr 1
  rw [Int.mul_assoc, Int.mul_assoc, Int.mul_comm q.val]
theorem val_scale (t : Term) (q : ZI) (vs : List ZI) : valT (scaleT t q) vs = valT t vs * q.val := by
 unfold scaleT
 rw [val_plain]
 unfold valT mulT
 rw [valP_mul, ZI.val_of, Int.add_mul]
theorem valT_neg (t : Term) (vs : List ZI) : valT (negT t) vs = -valT t vs := by unfold negT; rw [val_scale, ZI.val_of]; omega
theorem val_sub (s t : Term) (vs : List ZI) : valT (subT s t) vs = valT s vs - valT t vs := by
 unfold subT
 rw [val_add, val_scale, ZI.val_of]; omega
theorem valT_len {n L M : Nat} {t : Term} {vs : List ZI} (ht : TOk n L t) (hn : n ≤ 1000) (hv : VOk M vs) : (ZI.of (valT t vs)).abs.length ≤ L + M + 1 := val_len ht hn hv (fun _ h => h) (Nat.le_refl _)
theorem Shas (t : Term) (vs : List ZI) (z : ZI) {n L M : Nat} (ht : TOk n L t) (hn : n ≤ 1000) (hL : L + M ≤ 20000) (hv : VOk M vs) (hz : Lb z.abs) (lz : z.abs.length ≤ 40000) (he : valT t vs = z.val) : Fn Tryz.prog 32 [] [.t (.agg ([.d (.sl 3 (t.parts.map Part.d))] ++ zi t.k)), .t (.c (.d (.sl 2 (vs.map ziD)))), vz z] (vb true) [] := by
 refine Fn.body Tryz.func32 rfl 13 rfl fun w H B a h => ?_
 refine rSeq fam0ok 0 [] [(1, .t (.c (.d (.sl 2 (vs.map ziD))))), (3, vp 0 0), (5, vp 1 0), (6, vb false)] [(0, .box ([.d (.sl 3 (t.parts.map Part.d))] ++ zi t.k)), (1, .box (zi z))] (by kernel_rfl) h ?_; clear h; intro a w h
 obtain ⟨r1, er1, vr1, or1, lr1⟩ := mkZ (v := valT t vs) (m := L + M + 1) (valT_len ht hn hv)
 refine rSeq fam0ok 2 [(2, .call (Fn.cast (SValue t vs ht hn hL hv) (congrArg vz er1.symm)) ty_6), (4, .call (Fn.cast (SRCmp r1 z or1 hz (by omega) (by omega)) (congrArg (vi .i64) (cmpZ_eq (by rw [vr1]; exact he)))) ub_1), (5, .cmp (op := .eql) (m := 0) (n := 0) (b := true) .i64 rfl)] [(6, vb true)] [] (by kernel_rfl) h ?_; clear h; intro a w h
 refine wp_ret ?_
 refine retS [.c (.d (.raw (.bool true)))] h Exit.ret (.inl rfl)  rfl ⟨RV.tmp _ _ rfl, trivial⟩ ?_ (by kernel_rfl) (by kernel_rfl)
 rfl
set_option maxHeartbeats 4000000 in
theorem STermLinear (s t : Term) (n : ZI) (vs : List ZI) (fb : Bool) (hL : Fn Tryz.prog 8 [] [] (vb true) []) (hfb : fb = true ↔ ∀ t_ ∈ [s, t], Few1 t_) (hs : TLb s) (ht : TLb t) (hn : Lb n.abs) (hv : ∀ y ∈ vs, Lb y.abs) : Fn Tryz.prog 5 [] [.t (.agg ([.d (.sl 3 (s.parts.map Part.d))] ++ zi s.k)), .t (.agg ([.d (.sl 3 (t.parts.map Part.d))] ++ zi t.k)), vz n, .t (.c (.d (.sl 2 (vs.map ziD))))] (vb true) [] := by
 refine Fn.body Tryz.func5 rfl 95 rfl fun w H B a h => ?_
 refine rSeq fam0ok 5 [] [(3, .t (.c (.d (.sl 2 (vs.map ziD))))), (4, vp 5 0), (5, vp 6 0), (6, vp 7 0), (8, vb false)] [(5, .box ([.d (.sl 3 (s.parts.map Part.d))] ++ zi s.k)), (6, .box ([.d (.sl 3 (t.parts.map Part.d))] ++ zi t.k)), (7, .box (zi n))] (by kernel_rfl) h ?_; clear h; intro a w h
 refine wp_seq ?_
 refine rSeq fam0ok 8 [(0, .call (Ssumming) ua_1), (3, .call (hL) ua_0)] [(3, .t (.c (.d (.sl 2 (vs.map ziD))))), (4, vp 5 0), (5, vp 6 0), (6, vp 7 0), (8, vb false), (18, vb false)] [(5, .box ([.d (.sl 3 (s.parts.map Part.d))] ++ zi s.k)), (6, .box ([.d (.sl 3 (t.parts.map Part.d))] ++ zi t.k)), (7, .box (zi n))] (by kernel_rfl) h ?_; clear h; intro a w h
 refine condS false h rfl (fun hc => ?_) (fun hc => ?_)
 ·cases hc
 ·clear hc
  refine wp_skip ?_
  refine then_n ?_
  refine wp_seq ?_
  rcases Bool.eq_false_or_eq_true fb with hc | hc
  ·have hc1 := hc; clear hc
   have hfa := hs.few (hfb.1 hc1 s (by simp))
   have hfc := ht.few (hfb.1 hc1 t (by simp))
   rcases Bool.eq_false_or_eq_true (decide ((n.abs.length : Int) > 20)) with hc | hc
   ·have hc2 := hc; clear hc
    have hc2' := of_decide_eq_true hc2
    refine rSeq fam0ok 8 [(2, .gen _ _ _ fun _ _ _ _ => Op.buildD (d := 21) (len := 2) (rows := [s, t].map Term.d) (rs := [(19, .t (.agg ([.d (.sl 3 (s.parts.map Part.d))] ++ zi s.k))), (20, .t (.agg ([.d (.sl 3 (t.parts.map Part.d))] ++ zi t.k)))]) tq_13 (.cons (i := 0) (OV.tmp 19 _) (.cons (i := 1) (OV.tmp 20 _) (.nil))) (by kernel_rfl) rfl (by simp [Term.d]) (by decide) (by decide)), (3, .call (Fn.cast (Sfew [s, t] fb hfb (by simp)) (congrArg vb hc1)) ua_3), (8, .len (nsl_len n.abs)), (9, .cmp (op := .gtr) (m := (n.abs.length : Int)) (n := 20) (b := true) .i64 hc2)] [(3, .t (.c (.d (.sl 2 (vs.map ziD))))), (4, vp 5 0), (5, vp 6 0), (6, vp 7 0), (8, vb false), (34, vb true)] [(5, .box ([.d (.sl 3 (s.parts.map Part.d))] ++ zi s.k)), (6, .box ([.d (.sl 3 (t.parts.map Part.d))] ++ zi t.k)), (7, .box (zi n))] (by kernel_rfl) h ?_; clear h; intro a w h
    refine condS true h rfl (fun hc => ?_) (fun hc => ?_)
    ·clear hc
     refine rSeq fam0ok 8 [] [(3, .t (.c (.d (.sl 2 (vs.map ziD))))), (4, vp 5 0), (5, vp 6 0), (6, vp 7 0), (8, vb true)] [(5, .box ([.d (.sl 3 (s.parts.map Part.d))] ++ zi s.k)), (6, .box ([.d (.sl 3 (t.parts.map Part.d))] ++ zi t.k)), (7, .box (zi n))] (by kernel_rfl) h ?_; clear h; intro a w h
     refine wp_ret ?_
     refine then_r ?_
     refine retS [.c (.d (.raw (.bool true)))] h Exit.ret (.inl rfl)  rfl ⟨RV.tmp _ _ rfl, trivial⟩ ?_ (by kernel_rfl) (by kernel_rfl)
     rfl
    ·cases hc
   ·have hc3 := hc; clear hc
    have hc3' := of_decide_eq_false hc3
    refine rSeq fam0ok 8 [(2, .gen _ _ _ fun _ _ _ _ => Op.buildD (d := 21) (len := 2) (rows := [s, t].map Term.d) (rs := [(19, .t (.agg ([.d (.sl 3 (s.parts.map Part.d))] ++ zi s.k))), (20, .t (.agg ([.d (.sl 3 (t.parts.map Part.d))] ++ zi t.k)))]) tq_13 (.cons (i := 0) (OV.tmp 19 _) (.cons (i := 1) (OV.tmp 20 _) (.nil))) (by kernel_rfl) rfl (by simp [Term.d]) (by decide) (by decide)), (3, .call (Fn.cast (Sfew [s, t] fb hfb (by simp)) (congrArg vb hc1)) ua_3), (8, .len (nsl_len n.abs)), (9, .cmp (op := .gtr) (m := (n.abs.length : Int)) (n := 20) (b := false) .i64 hc3), (13, .len (c := (.d (.sl 2 (vs.map ziD)))) (n := vs.length) (lenC_map _ _ _))] [(3, .t (.c (.d (.sl 2 (vs.map ziD))))), (4, vp 5 0), (5, vp 6 0), (6, vp 7 0), (8, vb false), (34, vb (decide ((vs.length : Int) > 20)))] [(5, .box ([.d (.sl 3 (s.parts.map Part.d))] ++ zi s.k)), (6, .box ([.d (.sl 3 (t.parts.map Part.d))] ++ zi t.k)), (7, .box (zi n))] (by kernel_rfl) h ?_; clear h; intro a w h
    refine condS (decide ((vs.length : Int) > 20)) h rfl (fun hc => ?_) (fun hc => ?_)
    ·have hc4 := hc; clear hc
     have hc4' := of_decide_eq_true hc4
     refine rSeq fam0ok 8 [] [(3, .t (.c (.d (.sl 2 (vs.map ziD))))), (4, vp 5 0), (5, vp 6 0), (6, vp 7 0), (8, vb true)] [(5, .box ([.d (.sl 3 (s.parts.map Part.d))] ++ zi s.k)), (6, .box ([.d (.sl 3 (t.parts.map Part.d))] ++ zi t.k)), (7, .box (zi n))] (by kernel_rfl) h ?_; clear h; intro a w h
     refine wp_ret ?_
     refine then_r ?_
     refine retS [.c (.d (.raw (.bool true)))] h Exit.ret (.inl rfl)  rfl ⟨RV.tmp _ _ rfl, trivial⟩ ?_ (by kernel_rfl) (by kernel_rfl)
     rfl
    ·have hc5 := hc; clear hc
     have hc5' := of_decide_eq_false hc5
     refine wp_skip ?_
     refine then_n ?_
     refine wp_seq ?_
     have ln20 : n.abs.length ≤ 20 := by omega
     refine rSeq fam0ok 8 [(1, .len (c := (.d (.sl 2 (vs.map ziD)))) (n := vs.length) (lenC_map _ _ _))] [(3, .t (.c (.d (.sl 2 (vs.map ziD))))), (4, vp 5 0), (5, vp 6 0), (6, vp 7 0), (8, vb false), (35, .t (.c (.d (.sl 2 (vs.map ziD))))), (36, vi .i64 (vs.length : Int)), (37, vi .i64 0)] [(5, .box ([.d (.sl 3 (s.parts.map Part.d))] ++ zi s.k)), (6, .box ([.d (.sl 3 (t.parts.map Part.d))] ++ zi t.k)), (7, .box (zi n))] (by kernel_rfl) h ?_; clear h; intro a w h
     refine wp_block ?_
     refine loopS (ι := (Nat)) (fun (z_ : (Nat)) => match z_ with | j => j ≤ vs.length ∧ ∀ y ∈ vs.take j, y.abs.length ≤ 20)
       (fun (z_ : (Nat)) => match z_ with | j => [(3, .t (.c (.d (.sl 2 (vs.map ziD))))), (4, vp 5 0), (5, vp 6 0), (6, vp 7 0), (35, .t (.c (.d (.sl 2 (vs.map ziD))))), (36, vi .i64 (vs.length : Int)), (37, vi .i64 (j : Int))])
       (fun (z_ : (Nat)) => match z_ with | j => [(5, .box ([.d (.sl 3 (s.parts.map Part.d))] ++ zi s.k)), (6, .box ([.d (.sl 3 (t.parts.map Part.d))] ++ zi t.k)), (7, .box (zi n))])
       (fun (z_ : (Nat)) => match z_ with | j => vs.length - j) 0 ?_ h (by kernel_rfl) (by kernel_rfl) ?_
     ·exact ⟨Nat.zero_le _, by simp⟩
     ·clear h; rintro j a w hI h
      change St _ (F.of [(3, .t (.c (.d (.sl 2 (vs.map ziD))))), (4, vp 5 0), (5, vp 6 0), (6, vp 7 0), (35, .t (.c (.d (.sl 2 (vs.map ziD))))), (36, vi .i64 (vs.length : Int)), (37, vi .i64 (j : Int))] [(5, .box ([.d (.sl 3 (s.parts.map Part.d))] ++ zi s.k)), (6, .box ([.d (.sl 3 (t.parts.map Part.d))] ++ zi t.k)), (7, .box (zi n))]) a w at h
      obtain ⟨hI1, hI2⟩ := hI
      refine rSeq fam0ok 8 [] [(3, .t (.c (.d (.sl 2 (vs.map ziD))))), (4, vp 5 0), (5, vp 6 0), (6, vp 7 0), (35, .t (.c (.d (.sl 2 (vs.map ziD))))), (36, vi .i64 (vs.length : Int)), (37, vi .i64 (j : Int)), (38, vb (decide ((j : Int) < (vs.length : Int))))] [(5, .box ([.d (.sl 3 (s.parts.map Part.d))] ++ zi s.k)), (6, .box ([.d (.sl 3 (t.parts.map Part.d))] ++ zi t.k)), (7, .box (zi n))] (by kernel_rfl) h ?_; clear h; intro a w h
      refine wp_seq ?_
      refine condS (decide ((j : Int) < (vs.length : Int))) h rfl (fun hc => ?_) (fun hc => ?_)
      ·have hc6 := hc; clear hc
       have hc6' := of_decide_eq_true hc6
       refine wp_skip ?_
       refine then_n ?_
       refine wp_seq ?_
       refine wp_block ?_
       obtain ⟨x7, hx7⟩ : ∃ z_ : ZI, vs[j]? = some z_ := ⟨_, List.getElem?_eq_getElem (by first | omega | (simp at *; omega))⟩
       refine rSeq fam0ok 8 [(0, .gen _ _ _ fun _ _ _ _ => Op.idxD (d := 39) (t := 35) (k := .i64) tt_6 (map_at hx7 (f := ziD)) (OV.tmp 37 _))] [(3, .t (.c (.d (.sl 2 (vs.map ziD))))), (4, vp 5 0), (5, vp 6 0), (6, vp 7 0), (10, vp 8 0), (35, .t (.c (.d (.sl 2 (vs.map ziD))))), (36, vi .i64 (vs.length : Int)), (37, vi .i64 (j : Int))] [(5, .box ([.d (.sl 3 (s.parts.map Part.d))] ++ zi s.k)), (6, .box ([.d (.sl 3 (t.parts.map Part.d))] ++ zi t.k)), (7, .box (zi n)), (8, .box (zi x7))] (by kernel_rfl) h ?_; clear h; intro a w h
       refine rSeq fam0ok 9 [(2, .len (nsl_len x7.abs))] [(3, .t (.c (.d (.sl 2 (vs.map ziD))))), (4, vp 5 0), (5, vp 6 0), (6, vp 7 0), (35, .t (.c (.d (.sl 2 (vs.map ziD))))), (36, vi .i64 (vs.length : Int)), (37, vi .i64 (j : Int)), (44, vb (decide ((x7.abs.length : Int) > 20)))] [(5, .box ([.d (.sl 3 (s.parts.map Part.d))] ++ zi s.k)), (6, .box ([.d (.sl 3 (t.parts.map Part.d))] ++ zi t.k)), (7, .box (zi n))] (by kernel_rfl) h ?_; clear h; intro a w h
       refine condS (decide ((x7.abs.length : Int) > 20)) h rfl (fun hc => ?_) (fun hc => ?_)
       ·have hc7 := hc; clear hc
        have hc7' := of_decide_eq_true hc7
        refine rSeq fam0ok 9 [] [(3, .t (.c (.d (.sl 2 (vs.map ziD))))), (4, vp 5 0), (5, vp 6 0), (6, vp 7 0), (8, vb true), (35, .t (.c (.d (.sl 2 (vs.map ziD))))), (36, vi .i64 (vs.length : Int)), (37, vi .i64 (j : Int))] [(5, .box ([.d (.sl 3 (s.parts.map Part.d))] ++ zi s.k)), (6, .box ([.d (.sl 3 (t.parts.map Part.d))] ++ zi t.k)), (7, .box (zi n))] (by kernel_rfl) h ?_; clear h; intro a w h
        refine wp_ret ?_
        refine block_r ?_
        refine then_r ?_
        refine then_r ?_
        refine block_r ?_
        refine then_r ?_
        refine retS [.c (.d (.raw (.bool true)))] h Exit.ret (.inl rfl)  rfl ⟨RV.tmp _ _ rfl, trivial⟩ ?_ (by kernel_rfl) (by kernel_rfl)
        rfl
       ·have hc8 := hc; clear hc
        have hc8' := of_decide_eq_false hc8
        refine wp_skip ?_
        refine block_n ?_
        refine then_n ?_
        refine rS fam0ok 9 [(0, .add .i64 (m := (j : Int)) (n := 1) (i64_id (by omega) (by omega)))] [(3, .t (.c (.d (.sl 2 (vs.map ziD))))), (4, vp 5 0), (5, vp 6 0), (6, vp 7 0), (35, .t (.c (.d (.sl 2 (vs.map ziD))))), (36, vi .i64 (vs.length : Int)), (37, vi .i64 ((j : Int) + 1))] [(5, .box ([.d (.sl 3 (s.parts.map Part.d))] ++ zi s.k)), (6, .box ([.d (.sl 3 (t.parts.map Part.d))] ++ zi t.k)), (7, .box (zi n))] (by kernel_rfl) h ?_; clear h; intro a w h
        refine then_n ?_
        refine roundS (x := j) (y := (j + 1)) h ?_ ?_ (by kernel_rfl) (by kernel_rfl)
        ·refine ⟨by have := at_lt hx7; omega, fun y hy => ?_⟩
         rw [List.take_add_one, hx7] at hy
         rcases List.mem_append.1 hy with hy | hy
         ·exact hI2 y hy
         ·have e := Option.mem_toList.1 hy
          injection e with e
          subst e
          omega
        ·show vs.length - (j + 1) < vs.length - j
         have := at_lt hx7; omega
      ·have hc9 := hc; clear hc
       have hc9' := of_decide_eq_false hc9
       refine wp_exit ?_
       refine then_x ?_
       refine then_x ?_
       refine inBlock_exit ?_
       refine then_n ?_
       have hvo : VOk 20 vs := ⟨by omega, fun y hy => ⟨hv y hy, hI2 y (by rw [List.take_of_length_le (by omega)]; exact hy)⟩⟩
       obtain ⟨r8, er8, vr8, or8, lr8⟩ := mkZ (v := valT s vs) (m := 41) (valT_len hfa (by decide) hvo)
       obtain ⟨r9, er9, vr9, or9, lr9⟩ := mkZ (v := valT t vs) (m := 41) (valT_len hfc (by decide) hvo)
       refine rSeq fam0ok 9 [(2, .call (Fn.cast (SValue s vs hfa (by decide) (by decide) hvo) (congrArg vz er8.symm)) ty_6), (5, .call (Fn.cast (SValue t vs hfc (by decide) (by decide) hvo) (congrArg vz er9.symm)) ty_6)] [(3, .t (.c (.d (.sl 2 (vs.map ziD))))), (4, vp 5 0), (5, vp 6 0), (6, vp 7 0), (11, vp 9 0), (12, vp 10 0)] [(5, .box ([.d (.sl 3 (s.parts.map Part.d))] ++ zi s.k)), (6, .box ([.d (.sl 3 (t.parts.map Part.d))] ++ zi t.k)), (7, .box (zi n)), (9, .box (zi r8)), (10, .box (zi r9))] (by kernel_rfl) h ?_; clear h; intro a w h
       obtain ⟨r11, er11, vr11, or11, lr11⟩ := mkZ (v := r8.val + r9.val) (m := r8.abs.length + r9.abs.length + 1) (len_add or8 or9)
       obtain ⟨r14, er14, vr14, or14, lr14⟩ := mkZ (v := r8.val - r9.val) (m := r8.abs.length + r9.abs.length + 1) (len_sub or8 or9)
       obtain ⟨r17, er17, vr17, or17, lr17⟩ := mkZ (v := r8.val * n.val) (m := r8.abs.length + n.abs.length) (len_mul or8 hn)
       obtain ⟨r20, er20, vr20, or20, lr20⟩ := mkZ (v := -r8.val) (m := r8.abs.length) (len_neg or8)
       refine rSeqP fam0ok 11 [(2, .call (STAdd s t (hfa.mono (by decide) (by decide)) (hfc.mono (by decide) (by decide))) tm_15), (6, .call (Fn.cast (SRAdd r8 r9 or8 or9 (by omega) (by omega)) (congrArg vz er11.symm)) ib_5), (7, .call (Shas (addT s t) vs r11 (n := 60) (L := 42) (addT_ok (hfa.mono (Nat.le_refl 30) (show 20 ≤ 20 by decide)) (hfc.mono (Nat.le_refl 30) (show 20 ≤ 20 by decide)) (by decide)) (by decide) (show 42 + 20 ≤ 20000 by decide) hvo or11 (by omega) (by rw [vr11, vr8, vr9]; rw [val_add]; first | done | rfl)) ub_9), (11, .call (STSub s t (hfa.mono (by decide) (by decide)) (hfc.mono (by decide) (by decide))) to_9), (15, .call (Fn.cast (SRSub r8 r9 or8 or9 (by omega) (by omega)) (congrArg vz er14.symm)) zs_7), (16, .call (Shas (subT s t) vs r14 (n := 60) (L := 48) (addT_ok (hfa.mono (Nat.le_refl 30) (show 20 ≤ 23 by decide)) (((TOk.mul hfc (ZI.lb_of _) (show (ZI.of (-1)).abs.length ≤ 2 from by decide)).plain (by decide)).mono (Nat.le_refl 30) (show 23 ≤ 23 by decide)) (by decide)) (by decide) (show 48 + 20 ≤ 20000 by decide) hvo or14 (by omega) (by rw [vr14, vr8, vr9]; rw [val_sub]; first | done | rfl)) ub_9), (21, .call (SScale s n hfa (by decide) hn ln20 (by decide)) tm_13), (25, .call (Fn.cast (SRMul r8 n or8 hn (by omega) (by omega)) (congrArg vz er17.symm)) zs_18), (26, .call (Shas (scaleT s n) vs r17 (n := 30) (L := 41) ((TOk.mul hfa hn ln20).plain (by decide)) (by decide) (show 41 + 20 ≤ 20000 by decide) hvo or17 (by omega) (by rw [vr17, vr8]; rw [val_scale]; first | done | rfl)) ub_9), (30, .call (SNeg3 s (hfa.mono (by decide) (by decide))) tm_14), (33, .call (Fn.cast (SRNeg r8 or8 (by omega)) (congrArg vz er20.symm)) zs_3), (34, .call (Shas (negT s) vs r20 (n := 30) (L := 23) ((TOk.mul hfa (ZI.lb_of _) (show (ZI.of (-1)).abs.length ≤ 2 from by decide)).plain (by decide)) (by decide) (show 23 + 20 ≤ 20000 by decide) hvo or20 (by omega) (by rw [vr20, vr8]; rw [valT_neg]; first | done | rfl)) ub_9), (38, .call (SPlain s hfa (by decide) (by decide)) tm_7), (41, .call (Shas (plainT s) vs r8 (n := 30) (L := 21) (TOk.plain hfa (by decide)) (by decide) (show 21 + 20 ≤ 20000 by decide) hvo or8 (by omega) (by rw [vr8]; rw [val_plain]; first | done | rfl)) ub_9)] [(8, vb true)] [] (by kernel_rfl) (by kernel_rfl) (by kernel_rfl) (by kernel_rfl) (by kernel_rfl) (by kernel_rfl) (by kernel_rfl) h ?_; clear h; intro a w h
       refine wp_ret ?_
       refine retS [.c (.d (.raw (.bool true)))] h Exit.ret (.inl rfl)  rfl ⟨RV.tmp _ _ rfl, trivial⟩ ?_ (by kernel_rfl) (by kernel_rfl)
       rfl
  ·have hc10 := hc; clear hc
   refine rSeq fam0ok 11 [(2, .gen _ _ _ fun _ _ _ _ => Op.buildD (d := 21) (len := 2) (rows := [s, t].map Term.d) (rs := [(19, .t (.agg ([.d (.sl 3 (s.parts.map Part.d))] ++ zi s.k))), (20, .t (.agg ([.d (.sl 3 (t.parts.map Part.d))] ++ zi t.k)))]) tq_13 (.cons (i := 0) (OV.tmp 19 _) (.cons (i := 1) (OV.tmp 20 _) (.nil))) (by kernel_rfl) rfl (by simp [Term.d]) (by decide) (by decide)), (3, .call (Fn.cast (Sfew [s, t] fb hfb (by simp)) (congrArg vb hc10)) ua_3)] [(3, .t (.c (.d (.sl 2 (vs.map ziD))))), (4, vp 5 0), (5, vp 6 0), (6, vp 7 0), (8, vb false), (34, vb true)] [(5, .box ([.d (.sl 3 (s.parts.map Part.d))] ++ zi s.k)), (6, .box ([.d (.sl 3 (t.parts.map Part.d))] ++ zi t.k)), (7, .box (zi n))] (by kernel_rfl) h ?_; clear h; intro a w h
   refine condS true h rfl (fun hc => ?_) (fun hc => ?_)
   ·clear hc
    refine rSeq fam0ok 11 [] [(3, .t (.c (.d (.sl 2 (vs.map ziD))))), (4, vp 5 0), (5, vp 6 0), (6, vp 7 0), (8, vb true)] [(5, .box ([.d (.sl 3 (s.parts.map Part.d))] ++ zi s.k)), (6, .box ([.d (.sl 3 (t.parts.map Part.d))] ++ zi t.k)), (7, .box (zi n))] (by kernel_rfl) h ?_; clear h; intro a w h
    refine wp_ret ?_
    refine then_r ?_
    refine retS [.c (.d (.raw (.bool true)))] h Exit.ret (.inl rfl)  rfl ⟨RV.tmp _ _ rfl, trivial⟩ ?_ (by kernel_rfl) (by kernel_rfl)
    rfl
   ·cases hc
theorem STermLinearL (s t : Term) (n : ZI) (vs : List ZI) (hL : Fn Tryz.prog 8 [] [] (vb true) []) (hs : TLb s) (ht : TLb t) (hn : Lb n.abs) (hv : ∀ y ∈ vs, Lb y.abs) : Fn Tryz.prog 5 [] [vd s.d, vd t.d, vz n, .t (.c (.d (.sl 2 (vs.map ziD))))] (vb true) [] := by
 have key : ∃ f : Bool, f = true ↔ ∀ t_ ∈ [s, t], Few1 t_ := by
  by_cases h : ∀ t_ ∈ [s, t], Few1 t_
  ·exact ⟨true, fun _ => h, fun _ => rfl⟩
  ·exact ⟨false, fun e => (by cases e), fun e => absurd e h⟩
 obtain ⟨fb, hfb⟩ := key
 exact STermLinear s t n vs fb hL hfb hs ht hn hv
end Go.Proofs.YtekhnajfdaknnaaGreatDoor.S
end
section
namespace Go.Proofs.YtekhnajfdaknnaaGreatDoor.S
open Go.RowKit

end Go.Proofs.YtekhnajfdaknnaaGreatDoor.S
end
section
namespace Go.Proofs.YtekhnajfdaknnaaGreatDoor.S
open Go.RowKit

end Go.Proofs.YtekhnajfdaknnaaGreatDoor.S
end
section
namespace Go.Proofs.YtekhnajfdaknnaaGreatDoor.S
open Go.RowKit

end Go.Proofs.YtekhnajfdaknnaaGreatDoor.S
end
section
namespace Go.Proofs.YtekhnajfdaknnaaGreatDoor.S
open Go.RowKit

open Go.ChangeShapes Go.WideShapes Go.ChangeAt
theorem SlookingC : Fn Tryz.prog 8 [] [] (vb true) [] := Slooking SText2x SName3
section
variable {w : World} {n : Nat}
theorem rep_ZIs : RepN w n 35 (slD 2 ziD) (fun xs => xs.length ≤ maxLen ∧ ∀ x ∈ xs, Lb x.abs) :=
 rep_slice (k := 2) Tryz.underlying35 (by kernel_rfl) (by decide) (fun _ => rfl) rep_ZI
end
theorem STermLinearW (s t : Term) (n : ZI) (vs : List ZI) (hs : TLb s) (ht : TLb t) (hn : Lb n.abs) (hv : vs.length ≤ maxLen ∧ ∀ y ∈ vs, Lb y.abs) : Fn Tryz.prog 5 [] [vd s.d, vd t.d, vd (ziD n), .t (.c (.d (.sl 2 (vs.map ziD))))] (vb true) [] := STermLinearL s t n vs SlookingC hs ht hn hv.2
end Go.Proofs.YtekhnajfdaknnaaGreatDoor.S
end
section
namespace Go.Proofs.YtekhnajfdaknnaaGreatDoor.termLinearDone
open Go.ChangeShapes Go.WideShapes Go.ChangeAt Go.RowKit
open Go.ChangeMaps (open_string shut_string)
open Go.Proofs.YtekhnajfdaknnaaGreatDoor.S

theorem own : ownKnob Tryz.prog.godebug = none := by kernel_rfl
theorem laidOut : laidOutB Tryz.prog = true := by kernel_rfl

def laidL : List (String × DataW Unit) := [("math/bits.deBruijn32tab", Rows.laid_math_bits_deBruijn32tab), ("math/bits.deBruijn64tab", Rows.laid_math_bits_deBruijn64tab), ("internal/strconv.uint64pow10", Rows.laid_internal_strconv_uint64pow10)]
theorem door_met (os : Os) (args : Array Value) : laidMetH Tryz.prog laidL ((World.doorLaid Tryz.prog 400 os).forCall (fun _ _ => 0) ⟨#[], args, []⟩).memory :=
 laidMetH_of_parts3 (fuel := 8) (laidMet_of_run' 8 (by kernel_rfl) (by kernel_rfl)) (by kernel_rfl) (by kernel_rfl)

theorem lifted (os : Os) (started : os.Started) (H : Type) (enc : TypeId × Value → H) :
  ReturnsInHanded {} Tryz.checked os 5 .any (fun w args => (Rows.termLinearSpec.pre enc Tryz.prog Tryz.f5 [] false w args ∧ laidMetH Tryz.prog laidL w) ∧ sizedMet enc Tryz.prog Tryz.f5 (OpenSpec.ofChange Rows.termLinearSpec) false w args)
   (Rows.termLinearSpec.post enc Tryz.prog Tryz.f5 false true false false) := by
 refine returnsInHanded_of_change_and (C := Tryz.checked) (X := fun w _ => laidMetH Tryz.prog laidL w) (fun _ _ _ hh h => h.of_heap hh) own started (by kernel_rfl) Tryz.func5
  (ChangeSpec.witness_shaped (enc := enc) (C := Tryz.checked) (os := os) (X := fun w _ => laidMetH Tryz.prog laidL w) false (World.doorLaid Tryz.prog 400 os) #[.agg #[.slice none 0 0, .bool false, .slice none 0 0], .agg #[.slice none 0 0, .bool false, .slice none 0 0], .agg #[.bool false, .slice none 0 0], .slice none 0 0] 12 rfl (World.shaped_of_RefB (by kernel_rfl) (by kernel_rfl)) (by kernel_rfl) (by kernel_rfl) (by kernel_rfl) (door_met os _)) ?_
 intro W base args ds gs before hval0 hW _ _ hL _
 have hval : ∀ (j : Nat) t v, Tryz.f5.params[j]? = some t → args[j]? = some v → Value.okWide Tryz.prog W .any base t v := hval0
 have hW' := hW
 obtain ⟨p, q, hA0, hV, rfl, hfz, hnd⟩ := hW
 have hA : DataW.TrodAll enc Tryz.prog W 0 (fun _ => true) true Tryz.f5.params.toList args.toList ds p := hA0
 rw [Tryz.params5] at hA hval
 obtain ⟨v0, vs0, d0, ds0, p0, q0, hargs, rfl, rfl, h0, r0⟩ := trodAll_cons hA
 obtain ⟨v1, vs1, d1, ds1, p1, q1, rfl, rfl, rfl, h1, r1⟩ := trodAll_cons r0
 obtain ⟨v2, vs2, d2, ds2, p2, q2, rfl, rfl, rfl, h2, r2⟩ := trodAll_cons r1
 obtain ⟨v3, vs3, d3, ds3, p3, q3, rfl, rfl, rfl, h3, r3⟩ := trodAll_cons r2
 obtain ⟨rfl, rfl, rfl⟩ := trodAll_nil r3
 obtain rfl : args = #[v0, v1, v2, v3] := by cases args; simp_all
 obtain ⟨rfl, rfl⟩ := trodVars_none hV
 have k0 := h0
 have lt0 : ∀ x ∈ p0, x.block < W.heap.size := by obtain ⟨m, hm⟩ := k0; exact DataW.trod_lt m _ _ _ hm
 obtain ⟨a0, cs0, g0, rfl, dr0⟩ := rep_agg Tryz.underlying28 (fun _ => rep_Term) (hval 0 28 v0 rfl rfl) h0
 have k1 := h1
 have lt1 : ∀ x ∈ p1, x.block < W.heap.size := by obtain ⟨m, hm⟩ := k1; exact DataW.trod_lt m _ _ _ hm
 obtain ⟨a1, cs1, g1, rfl, dr1⟩ := rep_agg Tryz.underlying28 (fun _ => rep_Term) (hval 1 28 v1 rfl rfl) h1
 have k2 := h2
 have lt2 : ∀ x ∈ p2, x.block < W.heap.size := by obtain ⟨m, hm⟩ := k2; exact DataW.trod_lt m _ _ _ hm
 obtain ⟨a2, cs2, g2, rfl, dr2⟩ := rep_agg Tryz.underlying26 (fun _ => rep_ZI) (hval 2 26 v2 rfl rfl) h2
 have k3 := h3
 have lt3 : ∀ x ∈ p3, x.block < W.heap.size := by obtain ⟨m, hm⟩ := k3; exact DataW.trod_lt m _ _ _ hm
 obtain ⟨a3, ao3, len3, cap3, g3, rfl, dr3⟩ := rep_one Tryz.underlying35 (fun _ => rep_ZIs) (hval 3 35 v3 rfl rfl) h3
 clear hA0 hval0
 refine ((STermLinearW a0 a1 a2 a3 g0 g1 g2 g3).calls (w := W) (vals := [.agg ⟨cs0⟩, .agg ⟨cs1⟩, .agg ⟨cs2⟩, .slice ao3 len3 cap3]) fun B => ⟨dr_vd dr0 B, dr_vd dr1 B, dr_vd dr2 B, dr3, trivial⟩).mono fun e W' ⟨he, bel⟩ => ?_
 subst he
 exact ⟨_, rfl, _, _, _, [], _, [], hW', trodAll_mk1 (shut_bool Tryz.underlying4 _), (trodAll_cons_mk (Below.trod laidOut (by kernel_rfl) (of_decide_eq_true (by kernel_rfl)) k0 bel lt0) (trodAll_cons_mk (Below.trod laidOut (by kernel_rfl) (of_decide_eq_true (by kernel_rfl)) k1 bel lt1) (trodAll_cons_mk (Below.trod laidOut (by kernel_rfl) (of_decide_eq_true (by kernel_rfl)) k2 bel lt2) (trodAll_cons_mk (Below.trod laidOut (by kernel_rfl) (of_decide_eq_true (by kernel_rfl)) k3 bel lt3) trodAll_mk0)))), rfl, bel.below.frame _, fun h => by cases h⟩

theorem over : Rows.TermLinearSaid :=
 OpenClaim.holds_of_wide 5 Tryz.f5 rfl rfl rfl rfl rfl rfl rfl ⟨rfl, rfl, rfl, rfl, rfl⟩ rfl rfl rfl rfl rfl (by kernel_rfl) Tryz.func5 (by kernel_rfl)
  (of_decide_eq_true (by kernel_rfl)) (by unfold Func.isWrapper; first | (rw [if_pos (by decide +kernel)]; kernel_rfl) | (rw [if_neg (by decide +kernel)]; exact ⟨rfl, rfl⟩))
  (fun os started H enc _ => lifted os started H enc)

theorem proved : Rows.TermLinearCardSaid :=
  Claim7.holds_tied_plain_at .later [] [.data, .data, .data] true (true, "97a79c8e33111ce0a29b5e1069275e6f92a3bc254075085a68b535fbfc7ec89a") false
    over (fun _ h => by cases h) (by kernel_rfl) (fun _ h => by cases h) termLinear_row_tie rfl ⟨rfl, rfl⟩ (by kernel_rfl) rfl
    (fun f fn hf hfn => by
      obtain rfl : f = 5 := Option.some.inj ((show Tryz.prog.funcNamed "plumbline/plumblinelaw03.TermLinear" = some 5 by kernel_rfl).symm.trans hf) |>.symm
      obtain rfl : fn = Tryz.f5 := (Option.some.inj (Tryz.func5.symm.trans hfn)).symm
      exact ⟨by kernel_rfl, fun j t ht => by
        rw [Tryz.params5] at ht
        have hm : t ∈ [28, 28, 26, 35] := by simpa using Array.mem_of_getElem? ht
        have hall : ([28, 28, 26, 35].all fun u => !Tryz.prog.wantsStandIn u) = true := by kernel_rfl
        exact (show Tryz.prog.wantsStandIn t = false by simpa using List.all_eq_true.1 hall t hm)⟩)
    (by kernel_rfl)
end Go.Proofs.YtekhnajfdaknnaaGreatDoor.termLinearDone
end
