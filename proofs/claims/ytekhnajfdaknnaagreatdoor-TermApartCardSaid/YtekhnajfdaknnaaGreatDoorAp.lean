/-
  The proof of the statement TermApart: the walk through the program and the references lifted to the given row. It holds for every input.
-/
import Derived.Test.YtekhnajfdaknnaaGreatDoorAp5
import Derived.Test.YtekhnajfdaknnaaGreatDoorAp2
import Derived.Test.YtekhnajfdaknnaaGreatDoorRows
import Derived.Test.YtekhnajfdaknnaaGreatDoorCards
import Derived.Test.YtekhnajfdaknnaaGreatDoorTie
import Derived.ProofKit
import Derived.LaidMore
import Derived.OpenShut
import Derived.SevenTiedAt
section
namespace Go.Proofs.YtekhnajfdaknnaaGreatDoor.S
open Go.RowKit

set_option maxRecDepth 100000 in
theorem ug_0 : Bodied Tryz.prog 111 := Bodied.mk' (by kernel_rfl)
set_option maxRecDepth 100000 in
theorem ug_1 : Bodied Tryz.prog 112 := Bodied.mk' (by kernel_rfl)
set_option maxRecDepth 100000 in
theorem ug_2 : Bodied Tryz.prog 41 := Bodied.mk' (by kernel_rfl)
set_option maxRecDepth 100000 in
theorem ug_3 : SlT Tryz.prog 22 32 3 := SlT.mk' Tryz.underlying22 (by kernel_rfl)
set_option maxRecDepth 100000 in
theorem ug_4 : Bodied Tryz.prog 47 := Bodied.mk' (by kernel_rfl)
set_option maxRecDepth 100000 in
theorem ug_5 : Bodied Tryz.prog 83 := Bodied.mk' (by kernel_rfl)
set_option maxRecDepth 100000 in
theorem ug_6 : Bodied Tryz.prog 72 := Bodied.mk' (by kernel_rfl)
set_option maxRecDepth 100000 in
theorem ug_7 : Bodied Tryz.prog 56 := Bodied.mk' (by kernel_rfl)
set_option maxRecDepth 100000 in
theorem ug_8 : Bodied Tryz.prog 59 := Bodied.mk' (by kernel_rfl)
set_option maxRecDepth 100000 in
theorem ug_9 : Bodied Tryz.prog 85 := Bodied.mk' (by kernel_rfl)
set_option maxRecDepth 100000 in
theorem ug_10 : Bodied Tryz.prog 84 := Bodied.mk' (by kernel_rfl)
set_option maxRecDepth 100000 in
theorem ug_11 : Bodied Tryz.prog 86 := Bodied.mk' (by kernel_rfl)
def ug_tb : Tb := [(22, ⟨1, false, [], [.d (.raw nilV)], 1⟩), (4, ⟨1, false, [], [.d (.raw (.bool false))], 3⟩), (24, ⟨1, false, [], [.d (nsl [])], 1⟩), (26, ⟨2, true, [(0, 1, false), (1, 1, false)], [.d (.raw (.bool false)), .d (nsl [])], 0⟩), (28, ⟨3, true, [(0, 1, false), (1, 2, true)], [.d (.raw nilV), .d (.raw (.bool false)), .d (nsl [])], 0⟩), (3, ⟨1, false, [], [.d (.raw (.int .i64 0))], 13⟩), (32, ⟨3, true, [(0, 1, false), (1, 2, true)], [.d (.raw (.int .i64 0)), .d (.raw (.bool false)), .d (nsl [])], 0⟩)]
set_option maxRecDepth 100000 in
theorem ug_ok : TbOk Tryz.prog ug_tb := ⟨TyOk.slc Tryz.underlying22 (by kernel_rfl) ⟨(.slice none 0 0 : Value), [.slice none 0 0], by kernel_rfl, rfl, (fun _ _ => ⟨DR.raw _ rfl, trivial⟩)⟩,
 TyOk.bl Tryz.underlying4 (by kernel_rfl) ⟨(.bool false : Value), [.bool false], by kernel_rfl, rfl, (fun _ _ => ⟨DR.raw _ rfl, trivial⟩)⟩,
 TyOk.slc Tryz.underlying24 (by kernel_rfl) ⟨(.slice none 0 0 : Value), [.slice none 0 0], by kernel_rfl, rfl, (fun _ _ => ⟨DR.nil _ _ _ (fun _ => rfl) (Nat.zero_le _), trivial⟩)⟩,
 TyOk.st Tryz.underlying26 (by kernel_rfl) ⟨⟨by decide, Fd.mk' _ _ Tryz.underlying26 rfl rfl (Sz.mk' (by kernel_rfl) Tryz.underlying4 _ rfl)⟩, ⟨by decide, Fd.mk' _ _ Tryz.underlying26 rfl rfl (Sz.mk' (by kernel_rfl) Tryz.underlying24 _ rfl)⟩, trivial⟩ ⟨(Value.agg #[.bool false, .slice none 0 0]), [.bool false, .slice none 0 0], by kernel_rfl, rfl, (fun _ _ => ⟨DR.raw _ rfl, DR.nil _ _ _ (fun _ => rfl) (Nat.zero_le _), trivial⟩)⟩ ⟨_, Tryz.underlying26, ⟨⟨rfl, by kernel_rfl⟩, ⟨rfl, by kernel_rfl⟩, trivial⟩⟩,
 TyOk.st Tryz.underlying28 (by kernel_rfl) ⟨⟨by decide, Fd.mk' _ _ Tryz.underlying28 rfl rfl (Sz.mk' (by kernel_rfl) Tryz.underlying22 _ rfl)⟩, ⟨by decide, Fd.mk' _ _ Tryz.underlying28 rfl rfl (Sz.mk' (by kernel_rfl) Tryz.underlying26 _ rfl)⟩, trivial⟩ ⟨(Value.agg #[.slice none 0 0, .bool false, .slice none 0 0]), [.slice none 0 0, .bool false, .slice none 0 0], by kernel_rfl, rfl, (fun _ _ => ⟨DR.raw _ rfl, DR.raw _ rfl, DR.nil _ _ _ (fun _ => rfl) (Nat.zero_le _), trivial⟩)⟩ ⟨_, Tryz.underlying28, ⟨⟨rfl, by kernel_rfl⟩, ⟨rfl, by kernel_rfl⟩, trivial⟩⟩,
 TyOk.int Tryz.underlying3 rfl (by kernel_rfl) ⟨(.int .i64 0 : Value), [.int .i64 0], by kernel_rfl, rfl, (fun _ _ => ⟨DR.raw _ rfl, trivial⟩)⟩,
 TyOk.st Tryz.underlying32 (by kernel_rfl) ⟨⟨by decide, Fd.mk' _ _ Tryz.underlying32 rfl rfl (Sz.mk' (by kernel_rfl) Tryz.underlying3 _ rfl)⟩, ⟨by decide, Fd.mk' _ _ Tryz.underlying32 rfl rfl (Sz.mk' (by kernel_rfl) Tryz.underlying26 _ rfl)⟩, trivial⟩ ⟨(Value.agg #[.int .i64 0, .bool false, .slice none 0 0]), [.int .i64 0, .bool false, .slice none 0 0], by kernel_rfl, rfl, (fun _ _ => ⟨DR.raw _ rfl, DR.raw _ rfl, DR.nil _ _ _ (fun _ => rfl) (Nat.zero_le _), trivial⟩)⟩ ⟨_, Tryz.underlying32, ⟨⟨rfl, by kernel_rfl⟩, ⟨rfl, by kernel_rfl⟩, trivial⟩⟩,
 trivial⟩
theorem SbLen (m : Nat) (hm : 7 ≠ m) (l : List UInt8) : Fn Tryz.prog 111 [(7, .bld 97 (.own m l.length)), (m, .row 5 1 (bw l))] [vp 7 0] (vi .i64 (l.length : Int)) [(7, .bld 97 (.own m l.length)), (m, .row 5 1 (bw l))] := SBLen Tryz.lays170 m hm l
theorem SbWrite (m m2 : Nat) (hm : 7 ≠ m) (h27 : m2 ≠ 7) (h2m : m2 ≠ m) (l : List UInt8) (s : ByteArray) (hs : l.length + s.size ≤ 140737488355328) : Fn Tryz.prog 112 [(7, .bld 97 (.own m l.length)), (m, .row 5 1 (bw l))] [vp 7 0, vs s] (.tup [.c (.d (.raw (.int .i64 (s.size : Int)))), .c (.d (.raw .nilIface))]) [(7, .bld 97 (.own m2 (l ++ s.data.toList).length)), (m2, .row 5 1 (bw (l ++ s.data.toList)))] := SBWrite Tryz.lays166 Tryz.Builder_Extra_166 m m2 hm h27 h2m l s hs
theorem SbString (m : Nat) (hm : 7 ≠ m) (l : List UInt8) (h0 : l ≠ []) : Fn Tryz.prog 86 [(7, .bld 97 (.own m l.length)), (m, .row 5 1 (bw l))] [vp 7 0] (vs ⟨l.toArray⟩) [] := SBString Tryz.lays169 Tryz.Builder_Extra_169 m hm l h0
set_option maxRecDepth 100000 in
theorem bldZero : (Tryz.prog.info? 97).bind (·.zero) = some (.agg #[.pointer none, .slice none 0 0]) := by kernel_rfl
def sumW (l : List UInt8) (neg : Bool) (t : ByteArray) : List UInt8 := match (l.length : Int) == 0, neg with
  | true, true => (l ++ (⟨#[45]⟩ : ByteArray).data.toList) ++ t.data.toList
  | true, false => l ++ t.data.toList
  | false, true => (l ++ (⟨#[32, 45, 32]⟩ : ByteArray).data.toList) ++ t.data.toList
  | false, false => (l ++ (⟨#[32, 43, 32]⟩ : ByteArray).data.toList) ++ t.data.toList
set_option maxRecDepth 100000 in
theorem Ssummand (l : List UInt8) (neg : Bool) (t : ByteArray) (hl : l.length + t.size ≤ 1000000) : Fn Tryz.prog 85 [(7, .bld 97 (.own 8 l.length)), (8, .row 5 1 (bw l))] [vp 7 0, vb neg, .t (.c (.d (.raw (.string t))))] (.tup []) [(7, .bld 97 (.own 9 (sumW l neg t).length)), (9, .row 5 1 (bw (sumW l neg t)))] := by
 refine Fn.body Tryz.func85 rfl 29 rfl fun w H B a h => ?_
 refine rSeq ug_ok 10 [(1, .call (SbLen 8 (by decide) l) ug_0)] [(0, vp 7 0), (1, vb neg), (2, .t (.c (.d (.raw (.string t))))), (6, vb ((l.length : Int) == 0))] [(7, .bld 97 (.own 8 l.length)), (8, .row 5 1 (bw l))] (by kernel_rfl) h ?_; clear h; intro a w h
 refine wp_seq ?_
 refine wp_block ?_
 rcases Bool.eq_false_or_eq_true ((l.length : Int) == 0) with hc | hc
 ·have hc1 := hc; clear hc
  have hc1' := hc1; (try simp at hc1')
  rw [hc1] at h
  refine rSeq ug_ok 10 [] [(0, vp 7 0), (1, vb neg), (2, .t (.c (.d (.raw (.string t))))), (6, vb true), (10, vb neg)] [(7, .bld 97 (.own 8 l.length)), (8, .row 5 1 (bw l))] (by kernel_rfl) h ?_; clear h; intro a w h
  refine condS neg h rfl (fun hc => ?_) (fun hc => ?_)
  ·have hc2 := hc; clear hc
   refine rS ug_ok 10 [(1, .call (SbWrite 8 10 (by decide) (by decide) (by decide) l (⟨#[45]⟩ : ByteArray) (by have e1 : (⟨#[45]⟩ : ByteArray).data.toList.length = 1 := rfl; have e2 : (⟨#[32, 45, 32]⟩ : ByteArray).data.toList.length = 3 := rfl; have e3 : (⟨#[32, 43, 32]⟩ : ByteArray).data.toList.length = 3 := rfl; have e4 : (⟨#[45]⟩ : ByteArray).size = 1 := rfl; have e5 : (⟨#[32, 45, 32]⟩ : ByteArray).size = 3 := rfl; have e6 : (⟨#[32, 43, 32]⟩ : ByteArray).size = 3 := rfl; first | omega | (rw [List.length_append]; omega))) ug_1)] [(0, vp 7 0), (2, .t (.c (.d (.raw (.string t)))))] [(7, .bld 97 (.own 10 (l ++ (⟨#[45]⟩ : ByteArray).data.toList).length)), (10, .row 5 1 (bw (l ++ (⟨#[45]⟩ : ByteArray).data.toList)))] (by kernel_rfl) h ?_; clear h; intro a w h
   refine block_n ?_
   refine then_n ?_
   refine rS ug_ok 11 [(2, .call (SbWrite 10 11 (by decide) (by decide) (by decide) (l ++ (⟨#[45]⟩ : ByteArray).data.toList) t (by have e1 : (⟨#[45]⟩ : ByteArray).data.toList.length = 1 := rfl; have e2 : (⟨#[32, 45, 32]⟩ : ByteArray).data.toList.length = 3 := rfl; have e3 : (⟨#[32, 43, 32]⟩ : ByteArray).data.toList.length = 3 := rfl; have e4 : (⟨#[45]⟩ : ByteArray).size = 1 := rfl; have e5 : (⟨#[32, 45, 32]⟩ : ByteArray).size = 3 := rfl; have e6 : (⟨#[32, 43, 32]⟩ : ByteArray).size = 3 := rfl; first | omega | (rw [List.length_append]; omega))) ug_1)] [] [(7, .bld 97 (.own 11 ((l ++ (⟨#[45]⟩ : ByteArray).data.toList) ++ t.data.toList).length)), (11, .row 5 1 (bw ((l ++ (⟨#[45]⟩ : ByteArray).data.toList) ++ t.data.toList)))] (by kernel_rfl) h ?_; clear h; intro a w h
   replace h := renS 11 9 [] [(7, .bld 97 (.own 9 ((l ++ (⟨#[45]⟩ : ByteArray).data.toList) ++ t.data.toList).length)), (9, .row 5 1 (bw ((l ++ (⟨#[45]⟩ : ByteArray).data.toList) ++ t.data.toList)))] h (by kernel_rfl) (by kernel_rfl) (by kernel_rfl)
   replace h := h.conv (f' := F.of [] [(7, .bld 97 (.own 9 (sumW l neg t).length)), (9, .row 5 1 (bw (sumW l neg t)))]) (congrArg (fun (z_ : List UInt8) => F.of [] [(7, .bld 97 (.own 9 z_.length)), (9, .row 5 1 (bw z_))]) (show ((l ++ (⟨#[45]⟩ : ByteArray).data.toList) ++ t.data.toList) = sumW l neg t from by unfold sumW; simp only [hc1, hc2]))
   refine retS [] h Exit.normal (.inr rfl)  rfl trivial ?_ (by kernel_rfl) (by kernel_rfl)
   rfl
  ·have hc3 := hc; clear hc
   refine rSeq ug_ok 12 [] [(0, vp 7 0), (2, .t (.c (.d (.raw (.string t))))), (6, vb true), (17, vb neg)] [(7, .bld 97 (.own 8 l.length)), (8, .row 5 1 (bw l))] (by kernel_rfl) h ?_; clear h; intro a w h
   refine condS neg h rfl (fun hc => ?_) (fun hc => ?_)
   ·rw [hc3] at hc; cases hc
   ·clear hc
    refine rSeq ug_ok 12 [] [(0, vp 7 0), (2, .t (.c (.d (.raw (.string t))))), (21, vb false)] [(7, .bld 97 (.own 8 l.length)), (8, .row 5 1 (bw l))] (by kernel_rfl) h ?_; clear h; intro a w h
    refine condS false h rfl (fun hc => ?_) (fun hc => ?_)
    ·cases hc
    ·clear hc
     refine wp_skip ?_
     refine block_n ?_
     refine then_n ?_
     refine rS ug_ok 12 [(2, .call (SbWrite 8 12 (by decide) (by decide) (by decide) l t (by have e1 : (⟨#[45]⟩ : ByteArray).data.toList.length = 1 := rfl; have e2 : (⟨#[32, 45, 32]⟩ : ByteArray).data.toList.length = 3 := rfl; have e3 : (⟨#[32, 43, 32]⟩ : ByteArray).data.toList.length = 3 := rfl; have e4 : (⟨#[45]⟩ : ByteArray).size = 1 := rfl; have e5 : (⟨#[32, 45, 32]⟩ : ByteArray).size = 3 := rfl; have e6 : (⟨#[32, 43, 32]⟩ : ByteArray).size = 3 := rfl; first | omega | (rw [List.length_append]; omega))) ug_1)] [] [(7, .bld 97 (.own 12 (l ++ t.data.toList).length)), (12, .row 5 1 (bw (l ++ t.data.toList)))] (by kernel_rfl) h ?_; clear h; intro a w h
     replace h := renS 12 9 [] [(7, .bld 97 (.own 9 (l ++ t.data.toList).length)), (9, .row 5 1 (bw (l ++ t.data.toList)))] h (by kernel_rfl) (by kernel_rfl) (by kernel_rfl)
     replace h := h.conv (f' := F.of [] [(7, .bld 97 (.own 9 (sumW l neg t).length)), (9, .row 5 1 (bw (sumW l neg t)))]) (congrArg (fun (z_ : List UInt8) => F.of [] [(7, .bld 97 (.own 9 z_.length)), (9, .row 5 1 (bw z_))]) (show (l ++ t.data.toList) = sumW l neg t from by unfold sumW; simp only [hc1, hc3]))
     refine retS [] h Exit.normal (.inr rfl)  rfl trivial ?_ (by kernel_rfl) (by kernel_rfl)
     rfl
 ·have hc4 := hc; clear hc
  have hc4' := hc4; (try simp at hc4')
  rw [hc4] at h
  refine rSeq ug_ok 13 [] [(0, vp 7 0), (1, vb neg), (2, .t (.c (.d (.raw (.string t))))), (6, vb false), (10, vb false)] [(7, .bld 97 (.own 8 l.length)), (8, .row 5 1 (bw l))] (by kernel_rfl) h ?_; clear h; intro a w h
  refine condS false h rfl (fun hc => ?_) (fun hc => ?_)
  ·cases hc
  ·clear hc
   refine rSeq ug_ok 13 [] [(0, vp 7 0), (2, .t (.c (.d (.raw (.string t))))), (6, vb false), (17, vb neg)] [(7, .bld 97 (.own 8 l.length)), (8, .row 5 1 (bw l))] (by kernel_rfl) h ?_; clear h; intro a w h
   refine condS neg h rfl (fun hc => ?_) (fun hc => ?_)
   ·have hc5 := hc; clear hc
    refine rS ug_ok 13 [(1, .call (SbWrite 8 13 (by decide) (by decide) (by decide) l (⟨#[32, 45, 32]⟩ : ByteArray) (by have e1 : (⟨#[45]⟩ : ByteArray).data.toList.length = 1 := rfl; have e2 : (⟨#[32, 45, 32]⟩ : ByteArray).data.toList.length = 3 := rfl; have e3 : (⟨#[32, 43, 32]⟩ : ByteArray).data.toList.length = 3 := rfl; have e4 : (⟨#[45]⟩ : ByteArray).size = 1 := rfl; have e5 : (⟨#[32, 45, 32]⟩ : ByteArray).size = 3 := rfl; have e6 : (⟨#[32, 43, 32]⟩ : ByteArray).size = 3 := rfl; first | omega | (rw [List.length_append]; omega))) ug_1)] [(0, vp 7 0), (2, .t (.c (.d (.raw (.string t)))))] [(7, .bld 97 (.own 13 (l ++ (⟨#[32, 45, 32]⟩ : ByteArray).data.toList).length)), (13, .row 5 1 (bw (l ++ (⟨#[32, 45, 32]⟩ : ByteArray).data.toList)))] (by kernel_rfl) h ?_; clear h; intro a w h
    refine block_n ?_
    refine then_n ?_
    refine rS ug_ok 14 [(2, .call (SbWrite 13 14 (by decide) (by decide) (by decide) (l ++ (⟨#[32, 45, 32]⟩ : ByteArray).data.toList) t (by have e1 : (⟨#[45]⟩ : ByteArray).data.toList.length = 1 := rfl; have e2 : (⟨#[32, 45, 32]⟩ : ByteArray).data.toList.length = 3 := rfl; have e3 : (⟨#[32, 43, 32]⟩ : ByteArray).data.toList.length = 3 := rfl; have e4 : (⟨#[45]⟩ : ByteArray).size = 1 := rfl; have e5 : (⟨#[32, 45, 32]⟩ : ByteArray).size = 3 := rfl; have e6 : (⟨#[32, 43, 32]⟩ : ByteArray).size = 3 := rfl; first | omega | (rw [List.length_append]; omega))) ug_1)] [] [(7, .bld 97 (.own 14 ((l ++ (⟨#[32, 45, 32]⟩ : ByteArray).data.toList) ++ t.data.toList).length)), (14, .row 5 1 (bw ((l ++ (⟨#[32, 45, 32]⟩ : ByteArray).data.toList) ++ t.data.toList)))] (by kernel_rfl) h ?_; clear h; intro a w h
    replace h := renS 14 9 [] [(7, .bld 97 (.own 9 ((l ++ (⟨#[32, 45, 32]⟩ : ByteArray).data.toList) ++ t.data.toList).length)), (9, .row 5 1 (bw ((l ++ (⟨#[32, 45, 32]⟩ : ByteArray).data.toList) ++ t.data.toList)))] h (by kernel_rfl) (by kernel_rfl) (by kernel_rfl)
    replace h := h.conv (f' := F.of [] [(7, .bld 97 (.own 9 (sumW l neg t).length)), (9, .row 5 1 (bw (sumW l neg t)))]) (congrArg (fun (z_ : List UInt8) => F.of [] [(7, .bld 97 (.own 9 z_.length)), (9, .row 5 1 (bw z_))]) (show ((l ++ (⟨#[32, 45, 32]⟩ : ByteArray).data.toList) ++ t.data.toList) = sumW l neg t from by unfold sumW; simp only [hc4, hc5]))
    refine retS [] h Exit.normal (.inr rfl)  rfl trivial ?_ (by kernel_rfl) (by kernel_rfl)
    rfl
   ·have hc6 := hc; clear hc
    refine rSeq ug_ok 15 [] [(0, vp 7 0), (2, .t (.c (.d (.raw (.string t))))), (21, vb true)] [(7, .bld 97 (.own 8 l.length)), (8, .row 5 1 (bw l))] (by kernel_rfl) h ?_; clear h; intro a w h
    refine condS true h rfl (fun hc => ?_) (fun hc => ?_)
    ·clear hc
     refine rS ug_ok 15 [(1, .call (SbWrite 8 15 (by decide) (by decide) (by decide) l (⟨#[32, 43, 32]⟩ : ByteArray) (by have e1 : (⟨#[45]⟩ : ByteArray).data.toList.length = 1 := rfl; have e2 : (⟨#[32, 45, 32]⟩ : ByteArray).data.toList.length = 3 := rfl; have e3 : (⟨#[32, 43, 32]⟩ : ByteArray).data.toList.length = 3 := rfl; have e4 : (⟨#[45]⟩ : ByteArray).size = 1 := rfl; have e5 : (⟨#[32, 45, 32]⟩ : ByteArray).size = 3 := rfl; have e6 : (⟨#[32, 43, 32]⟩ : ByteArray).size = 3 := rfl; first | omega | (rw [List.length_append]; omega))) ug_1)] [(0, vp 7 0), (2, .t (.c (.d (.raw (.string t)))))] [(7, .bld 97 (.own 15 (l ++ (⟨#[32, 43, 32]⟩ : ByteArray).data.toList).length)), (15, .row 5 1 (bw (l ++ (⟨#[32, 43, 32]⟩ : ByteArray).data.toList)))] (by kernel_rfl) h ?_; clear h; intro a w h
     refine block_n ?_
     refine then_n ?_
     refine rS ug_ok 16 [(2, .call (SbWrite 15 16 (by decide) (by decide) (by decide) (l ++ (⟨#[32, 43, 32]⟩ : ByteArray).data.toList) t (by have e1 : (⟨#[45]⟩ : ByteArray).data.toList.length = 1 := rfl; have e2 : (⟨#[32, 45, 32]⟩ : ByteArray).data.toList.length = 3 := rfl; have e3 : (⟨#[32, 43, 32]⟩ : ByteArray).data.toList.length = 3 := rfl; have e4 : (⟨#[45]⟩ : ByteArray).size = 1 := rfl; have e5 : (⟨#[32, 45, 32]⟩ : ByteArray).size = 3 := rfl; have e6 : (⟨#[32, 43, 32]⟩ : ByteArray).size = 3 := rfl; first | omega | (rw [List.length_append]; omega))) ug_1)] [] [(7, .bld 97 (.own 16 ((l ++ (⟨#[32, 43, 32]⟩ : ByteArray).data.toList) ++ t.data.toList).length)), (16, .row 5 1 (bw ((l ++ (⟨#[32, 43, 32]⟩ : ByteArray).data.toList) ++ t.data.toList)))] (by kernel_rfl) h ?_; clear h; intro a w h
     replace h := renS 16 9 [] [(7, .bld 97 (.own 9 ((l ++ (⟨#[32, 43, 32]⟩ : ByteArray).data.toList) ++ t.data.toList).length)), (9, .row 5 1 (bw ((l ++ (⟨#[32, 43, 32]⟩ : ByteArray).data.toList) ++ t.data.toList)))] h (by kernel_rfl) (by kernel_rfl) (by kernel_rfl)
     replace h := h.conv (f' := F.of [] [(7, .bld 97 (.own 9 (sumW l neg t).length)), (9, .row 5 1 (bw (sumW l neg t)))]) (congrArg (fun (z_ : List UInt8) => F.of [] [(7, .bld 97 (.own 9 z_.length)), (9, .row 5 1 (bw z_))]) (show ((l ++ (⟨#[32, 43, 32]⟩ : ByteArray).data.toList) ++ t.data.toList) = sumW l neg t from by unfold sumW; simp only [hc4, hc6]))
     refine retS [] h Exit.normal (.inr rfl)  rfl trivial ?_ (by kernel_rfl) (by kernel_rfl)
     rfl
    ·cases hc
def lkW (j : Nat) : List UInt8 := if j = 0 then [] else [45, 120]
theorem lkW_len (j : Nat) : (lkW j).length ≤ 2 := by unfold lkW; split <;> simp
theorem text_plain : plainT (ofT 2 [(-1)]) = ofT 2 [(-1)] := by
 refine plainT_eq (by simp [ofT, ofP]) (by simp [ofT, ofP, ZI.val_of]) (fun v => rfl) (by simp [ofT, ZI.val_of])
theorem text_at (j : Nat) (hj : j = 0) : ∃ x : Part, (ofT 2 [(-1)]).parts[j]? = some x ∧ x = ⟨0, ZI.of (-1)⟩ := by subst hj; exact ⟨_, rfl, rfl⟩
theorem text_sum1 (j : Nat) (hj : j = 0) : sumW (lkW j) true (⟨#[120]⟩ : ByteArray) = lkW (j + 1) := by subst hj; rfl
theorem text_sum2 (j : Nat) (hj : j = 1) : sumW (lkW j) false (⟨#[50]⟩ : ByteArray) = [45, 120, 32, 43, 32, 50] := by subst hj; rfl
set_option maxHeartbeats 4000000 in
set_option maxRecDepth 100000 in
theorem SText2x  : Fn Tryz.prog 46 [] [.t (.agg ([.d (.sl 3 ((ofT 2 [(-1)]).parts.map Part.d))] ++ zi (ofT 2 [(-1)]).k)), .t (.c (.d (.sl 1 ([(⟨#[120]⟩ : ByteArray)].map strD))))] (vs (⟨#[45, 120, 32, 43, 32, 50]⟩ : ByteArray)) [] := by
 have lk2 : (ofT 2 [(-1)]).k.abs.length ≤ 2 := ZI.len_of (by have := pw2; omega)
 refine Fn.body Tryz.func46 rfl 62 rfl fun w H B a h => ?_
 refine rSeq ug_ok 10 [] [(1, .t (.c (.d (.sl 1 ([(⟨#[120]⟩ : ByteArray)].map strD))))), (2, vp 10 0), (4, .t (.c (.d (.raw (.string ByteArray.empty)))))] [(10, .box ([.d (.sl 3 ((ofT 2 [(-1)]).parts.map Part.d))] ++ zi (ofT 2 [(-1)]).k))] (by kernel_rfl) h ?_; clear h; intro a w h
 refine rSeq ug_ok 11 [(1, .call (Fn.cast (SPlain (ofT 2 [(-1)]) (ofT_ok 2 [(-1)] (by decide) (by decide) (by decide)) (by decide) (by decide)) (congrArg (fun t => vd (Term.d t)) text_plain)) ug_2)] [(1, .t (.c (.d (.sl 1 ([(⟨#[120]⟩ : ByteArray)].map strD))))), (2, vp 10 0), (4, .t (.c (.d (.raw (.string ByteArray.empty)))))] [(10, .box ([.d (.sl 3 ((ofT 2 [(-1)]).parts.map Part.d))] ++ zi (ofT 2 [(-1)]).k))] (by kernel_rfl) h ?_; clear h; intro a w h
 refine rSeq ug_ok 11 [(0, .gen _ _ _ fun _ _ _ _ => Op.allocB (d := 5) 7 8 (by decide) 5 bldZero)] [(1, .t (.c (.d (.sl 1 ([(⟨#[120]⟩ : ByteArray)].map strD))))), (2, vp 10 0), (4, .t (.c (.d (.raw (.string ByteArray.empty))))), (5, vp 7 0)] [(10, .box ([.d (.sl 3 ((ofT 2 [(-1)]).parts.map Part.d))] ++ zi (ofT 2 [(-1)]).k)), (7, .bld 97 (.own 8 0)), (8, .row 5 1 (bw []))] (by kernel_rfl) h ?_; clear h; intro a w h
 refine wp_seq ?_
 refine rSeq ug_ok 11 [(2, .len (c := (.d (.sl 3 ((ofT 2 [(-1)]).parts.map Part.d)))) (n := (ofT 2 [(-1)]).parts.length) (lenC_map _ _ _))] [(1, .t (.c (.d (.sl 1 ([(⟨#[120]⟩ : ByteArray)].map strD))))), (2, vp 10 0), (4, .t (.c (.d (.raw (.string ByteArray.empty))))), (5, vp 7 0), (13, .t (.c (.d (.sl 3 ((ofT 2 [(-1)]).parts.map Part.d))))), (14, vi .i64 ((ofT 2 [(-1)]).parts.length : Int)), (15, vi .i64 0)] [(10, .box ([.d (.sl 3 ((ofT 2 [(-1)]).parts.map Part.d))] ++ zi (ofT 2 [(-1)]).k)), (7, .bld 97 (.own 8 0)), (8, .row 5 1 (bw []))] (by kernel_rfl) h ?_; clear h; intro a w h
 refine wp_block ?_
 refine loopS (ι := (Nat)) (fun (z_ : (Nat)) => match z_ with | j => j ≤ 1)
   (fun (z_ : (Nat)) => match z_ with | j => [(1, .t (.c (.d (.sl 1 ([(⟨#[120]⟩ : ByteArray)].map strD))))), (2, vp 10 0), (4, .t (.c (.d (.raw (.string ByteArray.empty))))), (5, vp 7 0), (13, .t (.c (.d (.sl 3 ((ofT 2 [(-1)]).parts.map Part.d))))), (14, vi .i64 ((ofT 2 [(-1)]).parts.length : Int)), (15, vi .i64 (j : Int))])
   (fun (z_ : (Nat)) => match z_ with | j => [(10, .box ([.d (.sl 3 ((ofT 2 [(-1)]).parts.map Part.d))] ++ zi (ofT 2 [(-1)]).k)), (7, .bld 97 (.own 8 (lkW j).length)), (8, .row 5 1 (bw (lkW j)))])
   (fun (z_ : (Nat)) => match z_ with | j => 1 - j) 0 ?_ h (by kernel_rfl) (by kernel_rfl) ?_
 ·exact Nat.zero_le _
 ·clear h; rintro j a w hI h
  change St _ (F.of [(1, .t (.c (.d (.sl 1 ([(⟨#[120]⟩ : ByteArray)].map strD))))), (2, vp 10 0), (4, .t (.c (.d (.raw (.string ByteArray.empty))))), (5, vp 7 0), (13, .t (.c (.d (.sl 3 ((ofT 2 [(-1)]).parts.map Part.d))))), (14, vi .i64 ((ofT 2 [(-1)]).parts.length : Int)), (15, vi .i64 (j : Int))] [(10, .box ([.d (.sl 3 ((ofT 2 [(-1)]).parts.map Part.d))] ++ zi (ofT 2 [(-1)]).k)), (7, .bld 97 (.own 8 (lkW j).length)), (8, .row 5 1 (bw (lkW j)))]) a w at h
  refine rSeq ug_ok 11 [] [(1, .t (.c (.d (.sl 1 ([(⟨#[120]⟩ : ByteArray)].map strD))))), (2, vp 10 0), (4, .t (.c (.d (.raw (.string ByteArray.empty))))), (5, vp 7 0), (13, .t (.c (.d (.sl 3 ((ofT 2 [(-1)]).parts.map Part.d))))), (14, vi .i64 ((ofT 2 [(-1)]).parts.length : Int)), (15, vi .i64 (j : Int)), (16, vb (decide ((j : Int) < ((ofT 2 [(-1)]).parts.length : Int))))] [(10, .box ([.d (.sl 3 ((ofT 2 [(-1)]).parts.map Part.d))] ++ zi (ofT 2 [(-1)]).k)), (7, .bld 97 (.own 8 (lkW j).length)), (8, .row 5 1 (bw (lkW j)))] (by kernel_rfl) h ?_; clear h; intro a w h
  refine wp_seq ?_
  refine condS (decide ((j : Int) < ((ofT 2 [(-1)]).parts.length : Int))) h rfl (fun hc => ?_) (fun hc => ?_)
  ·have hc1 := hc; clear hc
   have hc1' := of_decide_eq_true hc1
   refine wp_skip ?_
   refine then_n ?_
   refine wp_seq ?_
   refine wp_block ?_
   have hj0 : j = 0 := by have : (ofT 2 [(-1)]).parts.length = 1 := rfl; omega
   obtain ⟨x2, hx2, gx2⟩ := text_at j hj0
   have ox2 : Lb x2.c.abs := by rw [gx2]; exact ZI.lb_of _
   have lx2 : x2.c.abs.length ≤ 2 := by rw [gx2]; exact ZI.len_of (by have := pw2; omega)
   have vx2 : x2.c.val = -1 := by rw [gx2]; exact ZI.val_of _
   have wx2 : x2.v = 0 := by rw [gx2]
   refine rSeq ug_ok 11 [(0, .gen _ _ _ fun _ _ _ _ => Op.idxD (d := 17) (t := 13) (k := .i64) ug_3 (map_at hx2 (f := Part.d)) (OV.tmp 15 _))] [(1, .t (.c (.d (.sl 1 ([(⟨#[120]⟩ : ByteArray)].map strD))))), (2, vp 10 0), (4, .t (.c (.d (.raw (.string ByteArray.empty))))), (5, vp 7 0), (7, vp 11 0), (13, .t (.c (.d (.sl 3 ((ofT 2 [(-1)]).parts.map Part.d))))), (14, vi .i64 ((ofT 2 [(-1)]).parts.length : Int)), (15, vi .i64 (j : Int))] [(10, .box ([.d (.sl 3 ((ofT 2 [(-1)]).parts.map Part.d))] ++ zi (ofT 2 [(-1)]).k)), (7, .bld 97 (.own 8 (lkW j).length)), (8, .row 5 1 (bw (lkW j))), (11, .box ([.d (.raw (.int .i64 x2.v))] ++ zi x2.c))] (by kernel_rfl) h ?_; clear h; intro a w h
   refine rSeq ug_ok 12 [(3, .call ((show Fn _ _ _ [vi .i64 x2.v, _] _ _ from by rw [wx2]; exact SName0)) ug_4)] [(1, .t (.c (.d (.sl 1 ([(⟨#[120]⟩ : ByteArray)].map strD))))), (2, vp 10 0), (4, .t (.c (.d (.raw (.string ByteArray.empty))))), (5, vp 7 0), (7, vp 11 0), (8, .t (.c (.d (.raw (.string (⟨#[120]⟩ : ByteArray)))))), (13, .t (.c (.d (.sl 3 ((ofT 2 [(-1)]).parts.map Part.d))))), (14, vi .i64 ((ofT 2 [(-1)]).parts.length : Int)), (15, vi .i64 (j : Int))] [(10, .box ([.d (.sl 3 ((ofT 2 [(-1)]).parts.map Part.d))] ++ zi (ofT 2 [(-1)]).k)), (7, .bld 97 (.own 8 (lkW j).length)), (8, .row 5 1 (bw (lkW j))), (11, .box ([.d (.raw (.int .i64 x2.v))] ++ zi x2.c))] (by kernel_rfl) h ?_; clear h; intro a w h
   refine wp_seq ?_
   obtain ⟨r4, er4, vr4, or4, lr4⟩ := mkZ (v := (x2.c.val.natAbs : Int)) (m := x2.c.abs.length) (len_abs ox2)
   refine rSeq ug_ok 12 [(2, .call (Fn.cast (SAbs x2.c ox2 (by omega)) (congrArg vz er4.symm)) ug_5)] [(1, .t (.c (.d (.sl 1 ([(⟨#[120]⟩ : ByteArray)].map strD))))), (2, vp 10 0), (4, .t (.c (.d (.raw (.string ByteArray.empty))))), (5, vp 7 0), (7, vp 11 0), (8, .t (.c (.d (.raw (.string (⟨#[120]⟩ : ByteArray)))))), (9, vp 12 0), (13, .t (.c (.d (.sl 3 ((ofT 2 [(-1)]).parts.map Part.d))))), (14, vi .i64 ((ofT 2 [(-1)]).parts.length : Int)), (15, vi .i64 (j : Int))] [(10, .box ([.d (.sl 3 ((ofT 2 [(-1)]).parts.map Part.d))] ++ zi (ofT 2 [(-1)]).k)), (7, .bld 97 (.own 8 (lkW j).length)), (8, .row 5 1 (bw (lkW j))), (11, .box ([.d (.raw (.int .i64 x2.v))] ++ zi x2.c)), (12, .box (zi r4))] (by kernel_rfl) h ?_; clear h; intro a w h
   obtain ⟨r5, er5, vr5, or5, lr5⟩ := mkZ (v := 1) (m := 2) (ZI.len_of (by have := pw2; omega))
   refine rSeq ug_ok 13 [(1, .call (Fn.cast (SOf 1 ⟨by omega, by omega⟩) (congrArg vz er5.symm)) ug_6), (2, .call (Fn.cast (SCmp r4 r5 or4 or5 (by omega) (by omega)) (congrArg (vi .i64) (cmpZ_eq (by rw [vr4, vr5, vx2]; first | done | rfl)))) ug_7), (3, .cmp (op := .neq) (m := 0) (n := 0) (b := false) .i64 rfl)] [(1, .t (.c (.d (.sl 1 ([(⟨#[120]⟩ : ByteArray)].map strD))))), (2, vp 10 0), (4, .t (.c (.d (.raw (.string ByteArray.empty))))), (5, vp 7 0), (7, vp 11 0), (8, .t (.c (.d (.raw (.string (⟨#[120]⟩ : ByteArray)))))), (9, vp 12 0), (13, .t (.c (.d (.sl 3 ((ofT 2 [(-1)]).parts.map Part.d))))), (14, vi .i64 ((ofT 2 [(-1)]).parts.length : Int)), (15, vi .i64 (j : Int)), (29, vb false)] [(10, .box ([.d (.sl 3 ((ofT 2 [(-1)]).parts.map Part.d))] ++ zi (ofT 2 [(-1)]).k)), (7, .bld 97 (.own 8 (lkW j).length)), (8, .row 5 1 (bw (lkW j))), (11, .box ([.d (.raw (.int .i64 x2.v))] ++ zi x2.c)), (12, .box (zi r4))] (by kernel_rfl) h ?_; clear h; intro a w h
   refine condS false h rfl (fun hc => ?_) (fun hc => ?_)
   ·cases hc
   ·clear hc
    refine wp_skip ?_
    refine then_n ?_
    refine rS ug_ok 13 [(2, .call (Fn.cast (SSign x2.c ox2 (by omega)) (congrArg (vi .i64) (by rw [vx2]; first | done | rfl))) ug_8), (3, .cmp (op := .lss) (m := (-1)) (n := 0) (b := true) .i64 rfl), (5, .call (Ssummand (lkW j) true (⟨#[120]⟩ : ByteArray) (by have := lkW_len j; have : ((⟨#[120]⟩ : ByteArray)).size = 1 := rfl; omega)) ug_9)] [(1, .t (.c (.d (.sl 1 ([(⟨#[120]⟩ : ByteArray)].map strD))))), (2, vp 10 0), (4, .t (.c (.d (.raw (.string ByteArray.empty))))), (5, vp 7 0), (13, .t (.c (.d (.sl 3 ((ofT 2 [(-1)]).parts.map Part.d))))), (14, vi .i64 ((ofT 2 [(-1)]).parts.length : Int)), (15, vi .i64 (j : Int))] [(10, .box ([.d (.sl 3 ((ofT 2 [(-1)]).parts.map Part.d))] ++ zi (ofT 2 [(-1)]).k)), (7, .bld 97 (.own 9 (sumW (lkW j) true (⟨#[120]⟩ : ByteArray)).length)), (9, .row 5 1 (bw (sumW (lkW j) true (⟨#[120]⟩ : ByteArray))))] (by kernel_rfl) h ?_; clear h; intro a w h
    refine block_n ?_
    refine then_n ?_
    replace h := renS 9 8 [(1, .t (.c (.d (.sl 1 ([(⟨#[120]⟩ : ByteArray)].map strD))))), (2, vp 10 0), (4, .t (.c (.d (.raw (.string ByteArray.empty))))), (5, vp 7 0), (13, .t (.c (.d (.sl 3 ((ofT 2 [(-1)]).parts.map Part.d))))), (14, vi .i64 ((ofT 2 [(-1)]).parts.length : Int)), (15, vi .i64 (j : Int))] [(10, .box ([.d (.sl 3 ((ofT 2 [(-1)]).parts.map Part.d))] ++ zi (ofT 2 [(-1)]).k)), (7, .bld 97 (.own 8 (sumW (lkW j) true (⟨#[120]⟩ : ByteArray)).length)), (8, .row 5 1 (bw (sumW (lkW j) true (⟨#[120]⟩ : ByteArray))))] h (by kernel_rfl) (by kernel_rfl) (by kernel_rfl)
    refine rS ug_ok 13 [(0, .add .i64 (m := (j : Int)) (n := 1) (i64_id (by omega) (by omega)))] [(1, .t (.c (.d (.sl 1 ([(⟨#[120]⟩ : ByteArray)].map strD))))), (2, vp 10 0), (4, .t (.c (.d (.raw (.string ByteArray.empty))))), (5, vp 7 0), (13, .t (.c (.d (.sl 3 ((ofT 2 [(-1)]).parts.map Part.d))))), (14, vi .i64 ((ofT 2 [(-1)]).parts.length : Int)), (15, vi .i64 ((j : Int) + 1))] [(10, .box ([.d (.sl 3 ((ofT 2 [(-1)]).parts.map Part.d))] ++ zi (ofT 2 [(-1)]).k)), (7, .bld 97 (.own 8 (sumW (lkW j) true (⟨#[120]⟩ : ByteArray)).length)), (8, .row 5 1 (bw (sumW (lkW j) true (⟨#[120]⟩ : ByteArray))))] (by kernel_rfl) h ?_; clear h; intro a w h
    refine then_n ?_
    replace h := h.conv (f' := F.of [(1, .t (.c (.d (.sl 1 ([(⟨#[120]⟩ : ByteArray)].map strD))))), (2, vp 10 0), (4, .t (.c (.d (.raw (.string ByteArray.empty))))), (5, vp 7 0), (13, .t (.c (.d (.sl 3 ((ofT 2 [(-1)]).parts.map Part.d))))), (14, vi .i64 ((ofT 2 [(-1)]).parts.length : Int)), (15, vi .i64 ((j : Int) + 1))] [(10, .box ([.d (.sl 3 ((ofT 2 [(-1)]).parts.map Part.d))] ++ zi (ofT 2 [(-1)]).k)), (7, .bld 97 (.own 8 (lkW (j + 1)).length)), (8, .row 5 1 (bw (lkW (j + 1))))]) (congrArg (fun (z_ : List UInt8) => F.of [(1, .t (.c (.d (.sl 1 ([(⟨#[120]⟩ : ByteArray)].map strD))))), (2, vp 10 0), (4, .t (.c (.d (.raw (.string ByteArray.empty))))), (5, vp 7 0), (13, .t (.c (.d (.sl 3 ((ofT 2 [(-1)]).parts.map Part.d))))), (14, vi .i64 ((ofT 2 [(-1)]).parts.length : Int)), (15, vi .i64 ((j : Int) + 1))] [(10, .box ([.d (.sl 3 ((ofT 2 [(-1)]).parts.map Part.d))] ++ zi (ofT 2 [(-1)]).k)), (7, .bld 97 (.own 8 z_.length)), (8, .row 5 1 (bw z_))]) (show ((sumW (lkW j) true (⟨#[120]⟩ : ByteArray)) : List UInt8) = (lkW (j + 1)) from text_sum1 j hj0))
    refine roundS (x := j) (y := j + 1) h ?_ ?_ (by kernel_rfl) (by kernel_rfl)
    ·show j + 1 ≤ 1
     omega
    ·show 1 - (j + 1) < 1 - j
     omega
  ·have hc2 := hc; clear hc
   have hc2' := of_decide_eq_false hc2
   refine wp_exit ?_
   refine then_x ?_
   refine then_x ?_
   refine inBlock_exit ?_
   refine then_n ?_
   refine wp_seq ?_
   refine rSeq ug_ok 13 [(2, .call (Fn.cast (SSign (ofT 2 [(-1)]).k (ZI.lb_of _) (by omega)) (congrArg (vi .i64) (by rw [show (ofT 2 [(-1)]).k.val = 2 from ZI.val_of _]; first | done | rfl))) ug_8), (3, .cmp (op := .neq) (m := 1) (n := 0) (b := true) .i64 rfl)] [(2, vp 10 0), (4, .t (.c (.d (.raw (.string ByteArray.empty))))), (5, vp 7 0), (51, vb true)] [(10, .box ([.d (.sl 3 ((ofT 2 [(-1)]).parts.map Part.d))] ++ zi (ofT 2 [(-1)]).k)), (7, .bld 97 (.own 8 (lkW j).length)), (8, .row 5 1 (bw (lkW j)))] (by kernel_rfl) h ?_; clear h; intro a w h
   refine condS true h rfl (fun hc => ?_) (fun hc => ?_)
   ·clear hc
    obtain ⟨r11, er11, vr11, or11, lr11⟩ := mkZ (v := ((ofT 2 [(-1)]).k.val.natAbs : Int)) (m := (ofT 2 [(-1)]).k.abs.length) (len_abs (ZI.lb_of _))
    refine rS ug_ok 13 [(2, .call (Fn.cast (SSign (ofT 2 [(-1)]).k (ZI.lb_of _) (by omega)) (congrArg (vi .i64) (by rw [show (ofT 2 [(-1)]).k.val = 2 from ZI.val_of _]; first | done | rfl))) ug_8), (3, .cmp (op := .lss) (m := 1) (n := 0) (b := false) .i64 rfl), (6, .call (Fn.cast (SAbs (ofT 2 [(-1)]).k (ZI.lb_of _) (by omega)) (congrArg vz er11.symm)) ug_5), (7, .call (SzText2 r11 or11 (by omega) (by rw [vr11, show (ofT 2 [(-1)]).k.val = 2 from ZI.val_of _]; first | done | rfl)) ug_10), (8, .call (Ssummand (lkW j) false (⟨#[50]⟩ : ByteArray) (by have := lkW_len j; have : ((⟨#[50]⟩ : ByteArray)).size = 1 := rfl; omega)) ug_9)] [(4, .t (.c (.d (.raw (.string ByteArray.empty))))), (5, vp 7 0)] [(7, .bld 97 (.own 9 (sumW (lkW j) false (⟨#[50]⟩ : ByteArray)).length)), (9, .row 5 1 (bw (sumW (lkW j) false (⟨#[50]⟩ : ByteArray))))] (by kernel_rfl) h ?_; clear h; intro a w h
    refine then_n ?_
    replace h := renS 9 8 [(4, .t (.c (.d (.raw (.string ByteArray.empty))))), (5, vp 7 0)] [(7, .bld 97 (.own 8 (sumW (lkW j) false (⟨#[50]⟩ : ByteArray)).length)), (8, .row 5 1 (bw (sumW (lkW j) false (⟨#[50]⟩ : ByteArray))))] h (by kernel_rfl) (by kernel_rfl) (by kernel_rfl)
    replace h := h.conv (f' := F.of [(4, .t (.c (.d (.raw (.string ByteArray.empty))))), (5, vp 7 0)] [(7, .bld 97 (.own 8 ([45, 120, 32, 43, 32, 50].length))), (8, .row 5 1 (bw [45, 120, 32, 43, 32, 50]))]) (congrArg (fun (z_ : List UInt8) => F.of [(4, .t (.c (.d (.raw (.string ByteArray.empty))))), (5, vp 7 0)] [(7, .bld 97 (.own 8 z_.length)), (8, .row 5 1 (bw z_))]) (show ((sumW (lkW j) false (⟨#[50]⟩ : ByteArray)) : List UInt8) = [45, 120, 32, 43, 32, 50] from text_sum2 j (by have : (ofT 2 [(-1)]).parts.length = 1 := rfl; omega)))
    refine rSeq ug_ok 13 [(0, .call (SbString 8 (by decide) [45, 120, 32, 43, 32, 50] (by decide)) ug_11)] [(4, .t (.c (.d (.raw (.string (⟨[45, 120, 32, 43, 32, 50].toArray⟩ : ByteArray))))))] [] (by kernel_rfl) h ?_; clear h; intro a w h
    refine wp_ret ?_
    refine retS [.c (.d (.raw (.string (⟨[45, 120, 32, 43, 32, 50].toArray⟩ : ByteArray))))] h Exit.ret (.inl rfl)  rfl ⟨RV.tmp _ _ rfl, trivial⟩ ?_ (by kernel_rfl) (by kernel_rfl)
    rfl
   ·cases hc
end Go.Proofs.YtekhnajfdaknnaaGreatDoor.S
end
section
namespace Go.Proofs.YtekhnajfdaknnaaGreatDoor.S
open Go.RowKit

end Go.Proofs.YtekhnajfdaknnaaGreatDoor.S
end
section
namespace Go.Proofs.YtekhnajfdaknnaaGreatDoor.S
open Go.RowKit

def sumV (f : Int → Int) : Nat → Int
  | 0 => 0
  | n + 1 => sumV f n + f (n : Int)
theorem sumV_add (f g : Int → Int) : ∀ n, sumV (fun v => f v + g v) n = sumV f n + sumV g n
 | 0 => rfl
 | n + 1 => by simp only [sumV, sumV_add f g n]; omega
theorem sumV_congr {f g : Int → Int} : ∀ n : Nat, (∀ v : Int, f v = g v) → sumV f n = sumV g n
 | 0, _ => rfl
 | n + 1, h => by simp only [sumV, sumV_congr n h, h]
theorem sumV_one (a c : Int) (g : Int → Int) : ∀ n : Nat, sumV (fun v => (if a = v ∧ 0 ≤ v then c else 0) * g v) n = if 0 ≤ a ∧ a < (n : Int) then c * g a else 0
 | 0 => by rw [if_neg (by omega)]; rfl
 | n + 1 => by
  simp only [sumV, sumV_one a c g n]
  by_cases h : a = (n : Int)
  ·subst h
   rw [if_neg (by omega), if_pos ⟨rfl, by omega⟩, if_pos (by omega), Int.zero_add]
  ·rw [if_neg (show ¬(a = (n : Int) ∧ 0 ≤ (n : Int)) from fun e => h e.1), Int.zero_mul, Int.add_zero]
   by_cases k : 0 ≤ a ∧ a < (n : Int)
   ·rw [if_pos k, if_pos (by omega)]
   ·rw [if_neg k, if_neg (by omega)]
theorem valP_sum (vs : List ZI) : ∀ ps : List Part, valP vs ps = sumV (fun v => coefZ ps v * valAt vs v) vs.length
 | [] => by
  have : ∀ n : Nat, sumV (fun v => coefZ [] v * valAt vs v) n = 0 := by
   intro n
   induction n with
   | zero => rfl
   | succ n ih => simp only [sumV, coefZ, Int.zero_mul] at ih ⊢; omega
  rw [this]; rfl
 | p :: ps => by
  rw [sumV_congr (g := fun v => (if p.v = v ∧ 0 ≤ v then p.c.val else 0) * valAt vs v + coefZ ps v * valAt vs v) _ (fun v => by simp only [coefZ]; rw [Int.add_mul]), sumV_add, sumV_one, ← valP_sum vs ps]
  simp only [valP]
  congr 1
  by_cases h : 0 ≤ p.v ∧ p.v < (vs.length : Int)
  ·rw [if_pos h]
  ·rw [if_neg h]
   by_cases k : 0 ≤ p.v
   ·rw [valAt_out (fun e => h ⟨k, e⟩), Int.mul_zero]
   ·rw [valAt_neg k, Int.mul_zero]
theorem valT_len {n L M : Nat} {t : Term} {vs : List ZI} (ht : TOk n L t) (hn : n ≤ 1000) (hv : VOk M vs) : (ZI.of (valT t vs)).abs.length ≤ L + M + 1 := val_len ht hn hv (fun _ h => h) (Nat.le_refl _)
end Go.Proofs.YtekhnajfdaknnaaGreatDoor.S
end
section
namespace Go.Proofs.YtekhnajfdaknnaaGreatDoor.S
open Go.RowKit

theorem cmpPs_self : ∀ ps : List Part, cmpPs ps ps = 0
 | [] => rfl
 | p :: ps => by
  have h : cmpP p p = 0 := by simp [cmpP, orZ, cmpZ_self']
  simp only [cmpPs, h, cmpPs_self ps]; rfl
theorem cmpT_eq {s t : Term} (h : plainT s = plainT t) : cmpT s t = 0 := by
 unfold cmpT
 rw [h, cmpPs_self, cmpZ_self']; rfl
end Go.Proofs.YtekhnajfdaknnaaGreatDoor.S
end
section
namespace Go.Proofs.YtekhnajfdaknnaaGreatDoor.S
open Go.RowKit

end Go.Proofs.YtekhnajfdaknnaaGreatDoor.S
end
section
namespace Go.Proofs.YtekhnajfdaknnaaGreatDoor.S
open Go.RowKit

set_option maxRecDepth 100000 in
theorem ue_0 : Bodied Tryz.prog 8 := Bodied.mk' (by kernel_rfl)
set_option maxRecDepth 100000 in
theorem ue_1 : ElZ Tryz.prog 59 28 3 := ElZ.mk' Tryz.underlying59 _ _ rfl rfl (by kernel_rfl) (by kernel_rfl) (by kernel_rfl) (by decide)
set_option maxRecDepth 100000 in
theorem ue_2 : Bodied Tryz.prog 9 := Bodied.mk' (by kernel_rfl)
set_option maxRecDepth 100000 in
theorem ue_3 : ElZ Tryz.prog 22 32 3 := ElZ.mk' Tryz.underlying22 _ _ rfl rfl (by kernel_rfl) (by kernel_rfl) (by kernel_rfl) (by decide)
set_option maxRecDepth 100000 in
theorem ue_4 : ElT Tryz.prog 22 32 3 40 := ElT.mk' Tryz.underlying22 _ _ rfl rfl (by kernel_rfl) (by kernel_rfl) (by kernel_rfl) (by decide) (by decide)
set_option maxRecDepth 100000 in
theorem ue_5 : SlT Tryz.prog 22 32 3 := SlT.mk' Tryz.underlying22 (by kernel_rfl)
set_option maxRecDepth 100000 in
theorem ue_6 : Bodied Tryz.prog 11 := Bodied.mk' (by kernel_rfl)
set_option maxRecDepth 100000 in
theorem ue_7 : Bodied Tryz.prog 10 := Bodied.mk' (by kernel_rfl)
set_option maxRecDepth 100000 in
theorem ue_8 : ElT Tryz.prog 35 26 2 32 := ElT.mk' Tryz.underlying35 _ _ rfl rfl (by kernel_rfl) (by kernel_rfl) (by kernel_rfl) (by decide) (by decide)
set_option maxRecDepth 100000 in
theorem ue_9 : Zero Tryz.prog 26 [.d (.raw (.bool false)), .d (nsl [])] := ⟨(Value.agg #[.bool false, .slice none 0 0]), [.bool false, .slice none 0 0], by kernel_rfl, rfl, (fun _ _ => ⟨DR.raw _ rfl, DR.nil _ _ _ (fun _ => rfl) (Nat.zero_le _), trivial⟩)⟩
set_option maxRecDepth 100000 in
theorem ue_10 : Bodied Tryz.prog 12 := Bodied.mk' (by kernel_rfl)
set_option maxRecDepth 100000 in
theorem ue_11 : SlT Tryz.prog 35 26 2 := SlT.mk' Tryz.underlying35 (by kernel_rfl)
set_option maxRecDepth 100000 in
theorem ue_12 : Sz Tryz.prog 26 2 true := Sz.mk' (by kernel_rfl) Tryz.underlying26 _ rfl
set_option maxRecDepth 100000 in
theorem ue_13 : Bodied Tryz.prog 13 := Bodied.mk' (by kernel_rfl)
def ue_tb : Tb := [(22, ⟨1, false, [], [.d (.raw nilV)], 1⟩), (4, ⟨1, false, [], [.d (.raw (.bool false))], 3⟩), (24, ⟨1, false, [], [.d (nsl [])], 1⟩), (26, ⟨2, true, [(0, 1, false), (1, 1, false)], [.d (.raw (.bool false)), .d (nsl [])], 0⟩), (28, ⟨3, true, [(0, 1, false), (1, 2, true)], [.d (.raw nilV), .d (.raw (.bool false)), .d (nsl [])], 0⟩), (3, ⟨1, false, [], [.d (.raw (.int .i64 0))], 13⟩), (32, ⟨3, true, [(0, 1, false), (1, 2, true)], [.d (.raw (.int .i64 0)), .d (.raw (.bool false)), .d (nsl [])], 0⟩)]
set_option maxRecDepth 100000 in
theorem ue_ok : TbOk Tryz.prog ue_tb := ⟨TyOk.slc Tryz.underlying22 (by kernel_rfl) ⟨(.slice none 0 0 : Value), [.slice none 0 0], by kernel_rfl, rfl, (fun _ _ => ⟨DR.raw _ rfl, trivial⟩)⟩,
 TyOk.bl Tryz.underlying4 (by kernel_rfl) ⟨(.bool false : Value), [.bool false], by kernel_rfl, rfl, (fun _ _ => ⟨DR.raw _ rfl, trivial⟩)⟩,
 TyOk.slc Tryz.underlying24 (by kernel_rfl) ⟨(.slice none 0 0 : Value), [.slice none 0 0], by kernel_rfl, rfl, (fun _ _ => ⟨DR.nil _ _ _ (fun _ => rfl) (Nat.zero_le _), trivial⟩)⟩,
 TyOk.st Tryz.underlying26 (by kernel_rfl) ⟨⟨by decide, Fd.mk' _ _ Tryz.underlying26 rfl rfl (Sz.mk' (by kernel_rfl) Tryz.underlying4 _ rfl)⟩, ⟨by decide, Fd.mk' _ _ Tryz.underlying26 rfl rfl (Sz.mk' (by kernel_rfl) Tryz.underlying24 _ rfl)⟩, trivial⟩ ⟨(Value.agg #[.bool false, .slice none 0 0]), [.bool false, .slice none 0 0], by kernel_rfl, rfl, (fun _ _ => ⟨DR.raw _ rfl, DR.nil _ _ _ (fun _ => rfl) (Nat.zero_le _), trivial⟩)⟩ ⟨_, Tryz.underlying26, ⟨⟨rfl, by kernel_rfl⟩, ⟨rfl, by kernel_rfl⟩, trivial⟩⟩,
 TyOk.st Tryz.underlying28 (by kernel_rfl) ⟨⟨by decide, Fd.mk' _ _ Tryz.underlying28 rfl rfl (Sz.mk' (by kernel_rfl) Tryz.underlying22 _ rfl)⟩, ⟨by decide, Fd.mk' _ _ Tryz.underlying28 rfl rfl (Sz.mk' (by kernel_rfl) Tryz.underlying26 _ rfl)⟩, trivial⟩ ⟨(Value.agg #[.slice none 0 0, .bool false, .slice none 0 0]), [.slice none 0 0, .bool false, .slice none 0 0], by kernel_rfl, rfl, (fun _ _ => ⟨DR.raw _ rfl, DR.raw _ rfl, DR.nil _ _ _ (fun _ => rfl) (Nat.zero_le _), trivial⟩)⟩ ⟨_, Tryz.underlying28, ⟨⟨rfl, by kernel_rfl⟩, ⟨rfl, by kernel_rfl⟩, trivial⟩⟩,
 TyOk.int Tryz.underlying3 rfl (by kernel_rfl) ⟨(.int .i64 0 : Value), [.int .i64 0], by kernel_rfl, rfl, (fun _ _ => ⟨DR.raw _ rfl, trivial⟩)⟩,
 TyOk.st Tryz.underlying32 (by kernel_rfl) ⟨⟨by decide, Fd.mk' _ _ Tryz.underlying32 rfl rfl (Sz.mk' (by kernel_rfl) Tryz.underlying3 _ rfl)⟩, ⟨by decide, Fd.mk' _ _ Tryz.underlying32 rfl rfl (Sz.mk' (by kernel_rfl) Tryz.underlying26 _ rfl)⟩, trivial⟩ ⟨(Value.agg #[.int .i64 0, .bool false, .slice none 0 0]), [.int .i64 0, .bool false, .slice none 0 0], by kernel_rfl, rfl, (fun _ _ => ⟨DR.raw _ rfl, DR.raw _ rfl, DR.nil _ _ _ (fun _ => rfl) (Nat.zero_le _), trivial⟩)⟩ ⟨_, Tryz.underlying32, ⟨⟨rfl, by kernel_rfl⟩, ⟨rfl, by kernel_rfl⟩, trivial⟩⟩,
 trivial⟩
def unitZ (j : Nat) (r : ZI) : List ZI := (List.replicate (j + 1) (⟨false, []⟩ : ZI)).set j r
theorem unit_at (j : Nat) (r : ZI) (v : Int) : valAt (unitZ j r) v = if v = (j : Int) ∧ 0 ≤ v then r.val else 0 := by
 unfold valAt unitZ
 by_cases h0 : 0 ≤ v
 ·rw [if_pos h0]
  by_cases h : v = (j : Int)
  ·rw [if_pos ⟨h, h0⟩, h, Int.toNat_natCast, List.getElem?_set_self (by simp)]; rfl
  ·rw [if_neg (fun e => h e.1), List.getElem?_set_ne (by omega), List.getElem?_replicate]
   split <;> rfl
 ·rw [if_neg h0, if_neg (fun e => h0 e.2)]
theorem valP_unit (j : Nat) (r : ZI) (hr : r.val = 1) : ∀ ps : List Part, valP (unitZ j r) ps = coefZ ps (j : Int)
 | [] => rfl
 | p :: ps => by
  simp only [valP, coefZ, valP_unit j r hr ps, unit_at]
  by_cases h : p.v = (j : Int)
  ·rw [if_pos ⟨h, by omega⟩, if_pos ⟨h, by omega⟩, hr, Int.mul_one]
  ·rw [if_neg (fun e => h e.1), if_neg (fun e => h e.1), Int.mul_zero]
theorem valP_unit2 (j : Nat) (r : ZI) (hr : r.val = 1) (ps : List Part) : valP ((List.replicate (j + 1) (⟨false, []⟩ : ZI)).set j r) ps = coefZ ps (j : Int) := valP_unit j r hr ps
theorem valT_nil (t : Term) : valT t [] = t.k.val := by
 unfold valT
 rw [valP_sum]
 show t.k.val + 0 = _
 omega
theorem unit_ok {j : Nat} {r : ZI} (hj : j ≤ 100) (hr : Lb r.abs) (lr : r.abs.length ≤ 2) : VOk 2 (unitZ j r) := by
 refine ⟨by unfold unitZ; rw [List.length_set, List.length_replicate]; omega, fun y hy => ?_⟩
 rcases List.mem_or_eq_of_mem_set hy with h | h
 ·rw [(List.mem_replicate.1 h).2]; exact ⟨Lb_nil, Nat.zero_le _⟩
 ·rw [h]; exact ⟨hr, lr⟩
def apZ (s t : Term) (j : Nat) : Bool := (cmpZ s.k.val t.k.val != 0) || (List.range j).any fun i => cmpZ (s.k.val + coefZ s.parts (i : Int)) (t.k.val + coefZ t.parts (i : Int)) != 0
theorem apZ_succ (s t : Term) (j : Nat) : apZ s t (j + 1) = (apZ s t j || (cmpZ (s.k.val + coefZ s.parts (j : Int)) (t.k.val + coefZ t.parts (j : Int)) != 0)) := by
 unfold apZ
 rw [List.range_succ, List.any_append, Bool.or_assoc]; simp
theorem cmpZ_ne {x y : Int} : (cmpZ x y != 0) = true ↔ x ≠ y := by
 unfold cmpZ
 split
 ·simp; omega
 ·split
  ·simp; omega
  ·simp; omega
theorem cmpP_zero {p q : Part} (h : cmpP p q = 0) : p.v = q.v ∧ p.c.val = q.c.val := by
 have h1 := @cmpZ_ne p.v q.v
 have h2 := @cmpZ_ne p.c.val q.c.val
 unfold cmpP orZ orZ orZ at h
 by_cases a : cmpZ p.v q.v = 0
 ·rw [if_neg (by simpa using a)] at h
  by_cases b : cmpZ p.c.val q.c.val = 0
  ·refine ⟨Classical.byContradiction fun e => ?_, Classical.byContradiction fun e => ?_⟩
   ·have := h1.2 e; rw [a] at this; exact absurd this (by decide)
   ·have := h2.2 e; rw [b] at this; exact absurd this (by decide)
  ·rw [if_pos b] at h; exact absurd h b
 ·rw [if_pos a] at h; exact absurd h a
theorem cmpPs_zero : ∀ {ps qs : List Part}, cmpPs ps qs = 0 → ∀ v, coefZ ps v = coefZ qs v
 | [], [], _, _ => rfl
 | [], _ :: _, h, _ => absurd (show (-1 : Int) = 0 from h) (by decide)
 | _ :: _, [], h, _ => absurd (show (1 : Int) = 0 from h) (by decide)
 | p :: ps, q :: qs, h, v => by
  simp only [cmpPs] at h
  by_cases a : cmpP p q = 0
  ·rw [if_neg (by simpa using a)] at h
   obtain ⟨h1, h2⟩ := cmpP_zero a
   simp only [coefZ, h1, h2, cmpPs_zero h v]
  ·rw [if_pos a] at h; exact absurd h a
theorem cmpT_zero {s t : Term} (h : cmpT s t = 0) : s.k.val = t.k.val ∧ ∀ v, coefZ s.parts v = coefZ t.parts v := by
 unfold cmpT orZ orZ orZ at h
 by_cases a : cmpPs (plainT s).parts (plainT t).parts = 0
 ·rw [if_neg (by simpa using a)] at h
  by_cases b : cmpZ (plainT s).k.val (plainT t).k.val = 0
  ·refine ⟨Classical.byContradiction fun e => ?_, fun v => ?_⟩
   ·have := cmpZ_ne.2 (show (plainT s).k.val ≠ (plainT t).k.val by rw [show (plainT s).k.val = s.k.val from ZI.val_of _, show (plainT t).k.val = t.k.val from ZI.val_of _]; exact e)
    rw [b] at this; exact absurd this (by decide)
   ·rw [← (plainT_parts s).2.2 v, ← (plainT_parts t).2.2 v]; exact cmpPs_zero a v
  ·rw [if_pos b] at h; exact absurd h b
 ·rw [if_pos a] at h; exact absurd h a
theorem coefZ_far {ps : List Part} {v : Int} (h : ∀ p ∈ ps, p.v ≠ v) : coefZ ps v = 0 := by
 induction ps with
 | nil => rfl
 | cons p ps ih => simp only [coefZ]; rw [if_neg (fun e => h p (by simp) e.1), ih (fun q hq => h q (by simp [hq]))]; rfl
theorem apart_law {s t : Term} (h : ∀ p ∈ s.parts ++ t.parts, p.v ≤ 40) : apZ s t 41 = (cmpT s t != 0) := by
 cases ha : apZ s t 41 with
 | true =>
  symm
  by_cases hc : cmpT s t = 0
  ·obtain ⟨h1, h2⟩ := cmpT_zero hc
   unfold apZ at ha
   rw [h1, cmpZ_self'] at ha
   simp only [h2, cmpZ_self'] at ha
   simp at ha
  ·simpa using hc
 | false =>
  unfold apZ at ha
  rw [Bool.or_eq_false_iff, List.any_eq_false] at ha
  obtain ⟨h1, h2⟩ := ha
  have hk : s.k.val = t.k.val := Classical.byContradiction fun e => by rw [cmpZ_ne.2 e] at h1; cases h1
  have hc : ∀ v, coefZ s.parts v = coefZ t.parts v := fun v => by
   by_cases h0 : 0 ≤ v
   ·by_cases h4 : v ≤ 40
    ·have h3 := h2 v.toNat (List.mem_range.2 (by omega))
     rw [Int.toNat_of_nonneg h0] at h3
     refine Classical.byContradiction fun e => h3 (cmpZ_ne.2 ?_)
     rw [hk]; omega
    ·rw [coefZ_far (v := v) (fun p hp e => h4 (by rw [← e]; exact h p (List.mem_append_left _ hp))), coefZ_far (v := v) (fun p hp e => h4 (by rw [← e]; exact h p (List.mem_append_right _ hp)))]
   ·have z1 : coefZ s.parts v = 0 := Classical.byContradiction fun e => h0 (coefZ_some e).1
    have z2 : coefZ t.parts v = 0 := Classical.byContradiction fun e => h0 (coefZ_some e).1
    rw [z1, z2]
  rw [cmpT_eq (plain_congr hc hk)]; rfl
theorem orZ_neg2 (a b c d : Int) (h : a = -c) (k : b = -d) : orZ [a, b] = -orZ [c, d] := by
 subst h k
 simp only [orZ]
 by_cases e : c = 0
 ·subst e; simp only [Int.neg_zero, ne_eq, not_true_eq_false, if_false]; by_cases f : d = 0
  ·subst f; simp
  ·rw [if_pos (by omega), if_pos f]
 ·rw [if_pos (by omega), if_pos e]
theorem cmpP_neg (p q : Part) : cmpP p q = -cmpP q p := orZ_neg2 _ _ _ _ (cmpZ_neg _ _) (cmpZ_neg _ _)
theorem cmpPs_neg : ∀ ps qs : List Part, cmpPs ps qs = -cmpPs qs ps
 | [], [] => rfl
 | [], _ :: _ => rfl
 | _ :: _, [] => rfl
 | p :: ps, q :: qs => by
  simp only [cmpPs]
  rw [cmpP_neg p q, cmpPs_neg ps qs]
  by_cases a : cmpP q p = 0
  ·rw [if_neg (by omega), if_neg (by omega)]
  ·rw [if_pos (by omega), if_pos a]
theorem cmpT_neg (s t : Term) : cmpT s t = -cmpT t s := orZ_neg2 _ _ _ _ (cmpPs_neg _ _) (cmpZ_neg _ _)
theorem or2_range {a b : Int} (h : -1 ≤ a ∧ a ≤ 1) (k : -1 ≤ b ∧ b ≤ 1) : -1 ≤ orZ [a, b] ∧ orZ [a, b] ≤ 1 := by
 simp only [orZ]
 split
 ·exact h
 ·split
  ·exact k
  ·omega
theorem cmpPs_range : ∀ ps qs : List Part, -1 ≤ cmpPs ps qs ∧ cmpPs ps qs ≤ 1
 | [], [] => by decide
 | [], _ :: _ => show (-1 : Int) ≤ -1 ∧ (-1 : Int) ≤ 1 by decide
 | _ :: _, [] => show (-1 : Int) ≤ 1 ∧ (1 : Int) ≤ 1 by decide
 | p :: ps, q :: qs => by
  simp only [cmpPs]
  split
  ·exact or2_range (cmpZ_range _ _) (cmpZ_range _ _)
  ·exact cmpPs_range ps qs
theorem cmpT_range (s t : Term) : -1 ≤ cmpT s t ∧ cmpT s t ≤ 1 := or2_range (cmpPs_range _ _) (cmpZ_range _ _)
theorem vok_nil : VOk 20 [] := ⟨Nat.zero_le _, fun y hy => by cases hy⟩
set_option maxHeartbeats 4000000 in
set_option maxRecDepth 100000 in
theorem STermApart (s t : Term) (fb : Bool) (hL : Fn Tryz.prog 8 [] [] (vb true) []) (hfb : fb = true ↔ ∀ t_ ∈ [s, t], Few1 t_) (hs : TLb s) (ht : TLb t) : Fn Tryz.prog 3 [] [.t (.agg ([.d (.sl 3 (s.parts.map Part.d))] ++ zi s.k)), .t (.agg ([.d (.sl 3 (t.parts.map Part.d))] ++ zi t.k))] (vb true) [] := by
 refine Fn.body Tryz.func3 rfl 77 rfl fun w H B a h => ?_
 refine rSeq ue_ok 5 [] [(2, vp 5 0), (3, vp 6 0), (4, vb false)] [(5, .box ([.d (.sl 3 (s.parts.map Part.d))] ++ zi s.k)), (6, .box ([.d (.sl 3 (t.parts.map Part.d))] ++ zi t.k))] (by kernel_rfl) h ?_; clear h; intro a w h
 refine wp_seq ?_
 refine rSeq ue_ok 7 [(0, .call (hL) ue_0)] [(2, vp 5 0), (3, vp 6 0), (4, vb false), (11, vb false)] [(5, .box ([.d (.sl 3 (s.parts.map Part.d))] ++ zi s.k)), (6, .box ([.d (.sl 3 (t.parts.map Part.d))] ++ zi t.k))] (by kernel_rfl) h ?_; clear h; intro a w h
 refine condS false h rfl (fun hc => ?_) (fun hc => ?_)
 ·cases hc
 ·clear hc
  refine wp_skip ?_
  refine then_n ?_
  refine wp_seq ?_
  refine rSeq ue_ok 7 [(2, .gen _ _ _ fun _ _ _ _ => Op.buildD (d := 14) (len := 2) (rows := [s, t].map Term.d) (rs := [(12, .t (.agg ([.d (.sl 3 (s.parts.map Part.d))] ++ zi s.k))), (13, .t (.agg ([.d (.sl 3 (t.parts.map Part.d))] ++ zi t.k)))]) ue_1 (.cons (i := 0) (OV.tmp 12 _) (.cons (i := 1) (OV.tmp 13 _) (.nil))) (by kernel_rfl) rfl (by simp [Term.d]) (by decide) (by decide)), (3, .call (Sfew [s, t] fb hfb (by simp)) ue_2)] [(2, vp 5 0), (3, vp 6 0), (4, vb false), (16, vb (!fb))] [(5, .box ([.d (.sl 3 (s.parts.map Part.d))] ++ zi s.k)), (6, .box ([.d (.sl 3 (t.parts.map Part.d))] ++ zi t.k))] (by kernel_rfl) h ?_; clear h; intro a w h
  refine condS (!fb) h rfl (fun hc => ?_) (fun hc => ?_)
  ·have hc1 := hc; clear hc
   have hc1' := hc1; (try simp at hc1')
   refine rSeq ue_ok 7 [] [(2, vp 5 0), (3, vp 6 0), (4, vb true)] [(5, .box ([.d (.sl 3 (s.parts.map Part.d))] ++ zi s.k)), (6, .box ([.d (.sl 3 (t.parts.map Part.d))] ++ zi t.k))] (by kernel_rfl) h ?_; clear h; intro a w h
   refine wp_ret ?_
   refine then_r ?_
   refine retS [.c (.d (.raw (.bool true)))] h Exit.ret (.inl rfl)  rfl ⟨RV.tmp _ _ rfl, trivial⟩ ?_ (by kernel_rfl) (by kernel_rfl)
   rfl
  ·have hc2 := hc; clear hc
   have hc2' := hc2; (try simp at hc2')
   have hfa := hs.few (hfb.1 (by simpa using hc2) s (by simp))
   have hfc := ht.few (hfb.1 (by simpa using hc2) t (by simp))
   have ln1 := hfa.len
   have ln2 := hfc.len
   have hla : (s.parts ++ t.parts).length = s.parts.length + t.parts.length := List.length_append
   refine wp_skip ?_
   refine then_n ?_
   refine wp_seq ?_
   refine rSeq ue_ok 7 [(0, .gen _ _ _ fun _ _ _ _ => Op.buildE (d := 17) (n := 7) ue_3), (3, .gen _ _ _ fun _ _ _ _ => Op.appOD (d := 20) (t := 17) (u := 19) (n := 7) (n' := 8) (len := 0) (len' := s.parts.length) (rows := [].map Part.d) (rows2 := s.parts.map Part.d) (rows' := s.parts.map Part.d) ue_4 (by first | exact (List.length_map _).symm | simp) (by first | (rw [List.length_append, List.length_map]; done) | simp) (by simp) (by simp [Part.d]) (by first | omega | (simp at *; done) | (simp at *; omega) | (simp; omega))), (6, .gen _ _ _ fun _ _ _ _ => Op.appODp (d := 23) (t := 20) (u := 22) (n := 8) (n' := 9) (len := s.parts.length) (rows := s.parts.map Part.d) (rows2 := t.parts.map Part.d) (rows' := (s.parts ++ t.parts).map Part.d) ue_4 (by first | exact (List.length_map _).symm | simp) (by simp) (by simp [Part.d]) (by first | omega | (simp at *; done) | (simp at *; omega) | (simp; omega))), (7, .len (c := (.d (.sl 3 ((s.parts ++ t.parts).map Part.d)))) (n := (s.parts ++ t.parts).length) (lenC_map _ _ _))] [(2, vp 5 0), (3, vp 6 0), (4, vb false), (23, .t (.c (.d (.sl 3 ((s.parts ++ t.parts).map Part.d))))), (24, vi .i64 ((s.parts ++ t.parts).length : Int)), (25, vi .i64 0)] [(5, .box ([.d (.sl 3 (s.parts.map Part.d))] ++ zi s.k)), (6, .box ([.d (.sl 3 (t.parts.map Part.d))] ++ zi t.k))] (by kernel_rfl) h ?_; clear h; intro a w h
   refine wp_block ?_
   refine loopS (ι := (Nat)) (fun (z_ : (Nat)) => match z_ with | j => j ≤ (s.parts ++ t.parts).length ∧ ∀ p ∈ (s.parts ++ t.parts).take j, p.v ≤ 40)
     (fun (z_ : (Nat)) => match z_ with | j => [(2, vp 5 0), (3, vp 6 0), (23, .t (.c (.d (.sl 3 ((s.parts ++ t.parts).map Part.d))))), (24, vi .i64 ((s.parts ++ t.parts).length : Int)), (25, vi .i64 (j : Int))])
     (fun (z_ : (Nat)) => match z_ with | j => [(5, .box ([.d (.sl 3 (s.parts.map Part.d))] ++ zi s.k)), (6, .box ([.d (.sl 3 (t.parts.map Part.d))] ++ zi t.k))])
     (fun (z_ : (Nat)) => match z_ with | j => (s.parts ++ t.parts).length - j) 0 ?_ h (by kernel_rfl) (by kernel_rfl) ?_
   ·exact ⟨Nat.zero_le _, by simp⟩
   ·clear h; rintro j a w hI h
    change St _ (F.of [(2, vp 5 0), (3, vp 6 0), (23, .t (.c (.d (.sl 3 ((s.parts ++ t.parts).map Part.d))))), (24, vi .i64 ((s.parts ++ t.parts).length : Int)), (25, vi .i64 (j : Int))] [(5, .box ([.d (.sl 3 (s.parts.map Part.d))] ++ zi s.k)), (6, .box ([.d (.sl 3 (t.parts.map Part.d))] ++ zi t.k))]) a w at h
    obtain ⟨hI1, hI2⟩ := hI
    refine rSeq ue_ok 10 [] [(2, vp 5 0), (3, vp 6 0), (23, .t (.c (.d (.sl 3 ((s.parts ++ t.parts).map Part.d))))), (24, vi .i64 ((s.parts ++ t.parts).length : Int)), (25, vi .i64 (j : Int)), (26, vb (decide ((j : Int) < ((s.parts ++ t.parts).length : Int))))] [(5, .box ([.d (.sl 3 (s.parts.map Part.d))] ++ zi s.k)), (6, .box ([.d (.sl 3 (t.parts.map Part.d))] ++ zi t.k))] (by kernel_rfl) h ?_; clear h; intro a w h
    refine wp_seq ?_
    refine condS (decide ((j : Int) < ((s.parts ++ t.parts).length : Int))) h rfl (fun hc => ?_) (fun hc => ?_)
    ·have hc3 := hc; clear hc
     have hc3' := of_decide_eq_true hc3
     refine wp_skip ?_
     refine then_n ?_
     refine wp_seq ?_
     refine wp_block ?_
     obtain ⟨x3, hx3⟩ : ∃ z_ : Part, (s.parts ++ t.parts)[j]? = some z_ := ⟨_, List.getElem?_eq_getElem (by first | omega | (simp at *; omega))⟩
     refine rSeq ue_ok 10 [(0, .gen _ _ _ fun _ _ _ _ => Op.idxD (d := 27) (t := 23) (k := .i64) ue_5 (map_at hx3 (f := Part.d)) (OV.tmp 25 _))] [(2, vp 5 0), (3, vp 6 0), (6, vp 10 0), (23, .t (.c (.d (.sl 3 ((s.parts ++ t.parts).map Part.d))))), (24, vi .i64 ((s.parts ++ t.parts).length : Int)), (25, vi .i64 (j : Int))] [(5, .box ([.d (.sl 3 (s.parts.map Part.d))] ++ zi s.k)), (6, .box ([.d (.sl 3 (t.parts.map Part.d))] ++ zi t.k)), (10, .box ([.d (.raw (.int .i64 x3.v))] ++ zi x3.c))] (by kernel_rfl) h ?_; clear h; intro a w h
     refine rSeq ue_ok 11 [] [(2, vp 5 0), (3, vp 6 0), (23, .t (.c (.d (.sl 3 ((s.parts ++ t.parts).map Part.d))))), (24, vi .i64 ((s.parts ++ t.parts).length : Int)), (25, vi .i64 (j : Int)), (31, vb (decide (x3.v > 40)))] [(5, .box ([.d (.sl 3 (s.parts.map Part.d))] ++ zi s.k)), (6, .box ([.d (.sl 3 (t.parts.map Part.d))] ++ zi t.k))] (by kernel_rfl) h ?_; clear h; intro a w h
     refine condS (decide (x3.v > 40)) h rfl (fun hc => ?_) (fun hc => ?_)
     ·have hc4 := hc; clear hc
      have hc4' := of_decide_eq_true hc4
      refine rSeq ue_ok 11 [] [(2, vp 5 0), (3, vp 6 0), (4, vb true), (23, .t (.c (.d (.sl 3 ((s.parts ++ t.parts).map Part.d))))), (24, vi .i64 ((s.parts ++ t.parts).length : Int)), (25, vi .i64 (j : Int))] [(5, .box ([.d (.sl 3 (s.parts.map Part.d))] ++ zi s.k)), (6, .box ([.d (.sl 3 (t.parts.map Part.d))] ++ zi t.k))] (by kernel_rfl) h ?_; clear h; intro a w h
      refine wp_ret ?_
      refine block_r ?_
      refine then_r ?_
      refine then_r ?_
      refine block_r ?_
      refine then_r ?_
      refine retS [.c (.d (.raw (.bool true)))] h Exit.ret (.inl rfl)  rfl ⟨RV.tmp _ _ rfl, trivial⟩ ?_ (by kernel_rfl) (by kernel_rfl)
      rfl
     ·have hc5 := hc; clear hc
      have hc5' := of_decide_eq_false hc5
      refine wp_skip ?_
      refine block_n ?_
      refine then_n ?_
      refine rS ue_ok 11 [(0, .add .i64 (m := (j : Int)) (n := 1) (i64_id (by omega) (by omega)))] [(2, vp 5 0), (3, vp 6 0), (23, .t (.c (.d (.sl 3 ((s.parts ++ t.parts).map Part.d))))), (24, vi .i64 ((s.parts ++ t.parts).length : Int)), (25, vi .i64 ((j : Int) + 1))] [(5, .box ([.d (.sl 3 (s.parts.map Part.d))] ++ zi s.k)), (6, .box ([.d (.sl 3 (t.parts.map Part.d))] ++ zi t.k))] (by kernel_rfl) h ?_; clear h; intro a w h
      refine then_n ?_
      refine roundS (x := j) (y := (j + 1)) h ?_ ?_ (by kernel_rfl) (by kernel_rfl)
      ·refine ⟨by have := at_lt hx3; omega, fun p hp => ?_⟩
       rw [List.take_add_one, hx3] at hp
       rcases List.mem_append.1 hp with hp | hp
       ·exact hI2 p hp
       ·have e := Option.mem_toList.1 hp
        injection e with e
        subst e
        omega
      ·show (s.parts ++ t.parts).length - (j + 1) < (s.parts ++ t.parts).length - j
       have := at_lt hx3; omega
    ·have hc6 := hc; clear hc
     have hc6' := of_decide_eq_false hc6
     refine wp_exit ?_
     refine then_x ?_
     refine then_x ?_
     refine inBlock_exit ?_
     refine then_n ?_
     have hall : ∀ p ∈ (s.parts ++ t.parts), p.v ≤ 40 := fun p hp => hI2 p (by rw [List.take_of_length_le (by omega)]; exact hp)
     obtain ⟨r4, er4, vr4, or4, lr4⟩ := mkZ (v := valT s []) (m := 41) (valT_len hfa (by decide) vok_nil)
     obtain ⟨r5, er5, vr5, or5, lr5⟩ := mkZ (v := valT t []) (m := 41) (valT_len hfc (by decide) vok_nil)
     refine rSeq ue_ok 11 [(1, .call (Fn.cast (Fn.nil2 (SValue s [] hfa (by decide) (by decide) vok_nil)) (congrArg vz er4.symm)) ue_6), (3, .call (Fn.cast (Fn.nil2 (SValue t [] hfc (by decide) (by decide) vok_nil)) (congrArg vz er5.symm)) ue_6), (4, .call (SRCmp r4 r5 or4 or5 (by omega) (by omega)) ue_7)] [(2, vp 5 0), (3, vp 6 0), (7, vb (cmpZ r4.val r5.val != 0))] [(5, .box ([.d (.sl 3 (s.parts.map Part.d))] ++ zi s.k)), (6, .box ([.d (.sl 3 (t.parts.map Part.d))] ++ zi t.k))] (by kernel_rfl) h ?_; clear h; intro a w h
     refine wp_seq ?_
     refine rSeq ue_ok 11 [] [(2, vp 5 0), (3, vp 6 0), (7, vb (cmpZ r4.val r5.val != 0)), (8, vi .i64 0)] [(5, .box ([.d (.sl 3 (s.parts.map Part.d))] ++ zi s.k)), (6, .box ([.d (.sl 3 (t.parts.map Part.d))] ++ zi t.k))] (by kernel_rfl) h ?_; clear h; intro a w h
     refine wp_block ?_
     refine loopS (ι := (Nat) × (Bool)) (fun (z_ : (Nat) × (Bool)) => match z_ with | (i, ap) => i ≤ 41 ∧ ap = apZ s t i)
       (fun (z_ : (Nat) × (Bool)) => match z_ with | (i, ap) => [(2, vp 5 0), (3, vp 6 0), (7, vb ap), (8, vi .i64 (i : Int))])
       (fun (z_ : (Nat) × (Bool)) => match z_ with | (i, ap) => [(5, .box ([.d (.sl 3 (s.parts.map Part.d))] ++ zi s.k)), (6, .box ([.d (.sl 3 (t.parts.map Part.d))] ++ zi t.k))])
       (fun (z_ : (Nat) × (Bool)) => match z_ with | (i, ap) => 41 - i) (0, cmpZ r4.val r5.val != 0) ?_ h (by kernel_rfl) (by kernel_rfl) ?_
     ·exact ⟨Nat.zero_le _, by rw [vr4, vr5]; simp [apZ, valT_nil]⟩
     ·clear h; rintro ⟨i, ap⟩ a w hI h
      change St _ (F.of [(2, vp 5 0), (3, vp 6 0), (7, vb ap), (8, vi .i64 (i : Int))] [(5, .box ([.d (.sl 3 (s.parts.map Part.d))] ++ zi s.k)), (6, .box ([.d (.sl 3 (t.parts.map Part.d))] ++ zi t.k))]) a w at h
      obtain ⟨hK1, hK2⟩ := hI
      refine wp_seq ?_
      refine rSeq ue_ok 11 [] [(2, vp 5 0), (3, vp 6 0), (7, vb ap), (8, vi .i64 (i : Int)), (40, vb (decide ((i : Int) ≤ 40)))] [(5, .box ([.d (.sl 3 (s.parts.map Part.d))] ++ zi s.k)), (6, .box ([.d (.sl 3 (t.parts.map Part.d))] ++ zi t.k))] (by kernel_rfl) h ?_; clear h; intro a w h
      refine condS (decide ((i : Int) ≤ 40)) h rfl (fun hc => ?_) (fun hc => ?_)
      ·have hc7 := hc; clear hc
       have hc7' := of_decide_eq_true hc7
       refine wp_skip ?_
       refine then_n ?_
       refine wp_seq ?_
       refine wp_block ?_
       refine rSeq ue_ok 11 [(1, .add .i64 (m := (i : Int)) (n := 1) (i64_id (by omega) (by omega))), (2, .gen _ _ _ fun _ _ _ _ => Op.makeO' (d := 45) (n := 11) (L := (i + 1)) (zs := [.raw (.bool false), nsl []]) (rows := (List.replicate (i + 1) (ZI.mk false [])).map ziD) ue_8 ue_9 rfl (OV.tmp 44 _) (OV.tmp 44 _) (by omega) (by rw [List.map_replicate]; rfl))] [(2, vp 5 0), (3, vp 6 0), (7, vb ap), (8, vi .i64 (i : Int)), (9, .t (.c (.own 11 (i + 1))))] [(5, .box ([.d (.sl 3 (s.parts.map Part.d))] ++ zi s.k)), (6, .box ([.d (.sl 3 (t.parts.map Part.d))] ++ zi t.k)), (11, .row 26 2 ((List.replicate (i + 1) (ZI.mk false [])).map ziD))] (by kernel_rfl) h ?_; clear h; intro a w h
       obtain ⟨r7, er7, vr7, or7, lr7⟩ := mkZ (v := 1) (m := 2) (ZI.len_of (by have := pw2; omega))
       have hu1 : r7.val = 1 := vr7
       obtain ⟨x8, hx8⟩ : ∃ z_ : ZI, (List.replicate (i + 1) (ZI.mk false []))[i]? = some z_ := ⟨_, List.getElem?_eq_getElem (by first | omega | (simp; done) | (simp at *; omega))⟩
       refine rSeq ue_ok 12 [(2, .call (Fn.cast (SROf 1 ⟨by omega, by omega⟩) (congrArg vz er7.symm)) ue_10), (3, .gen _ _ _ fun _ _ _ _ => Op.idxO (d := 49) (t := 46) (k := .i64) (n := 11) (len := (i + 1)) (i := i) ue_11 (by first | omega | (simp at *; omega)) (OV.tmp 47 _)), (4, .gen _ _ _ fun _ _ _ _ => Op.storeR (t := 49) (n := 11) (i := i) (fo := 0) (rty := 26) (es := 2) (r := ziD x8) (ds := [.raw (.bool r7.neg), nsl r7.abs]) (rs := [(48, vz r7)]) (rows := (List.replicate (i + 1) (ZI.mk false [])).map ziD) (rows' := ((List.replicate (i + 1) (ZI.mk false [])).set i r7).map ziD) ue_12 (OV.tmp 48 _) rfl rfl rfl (map_at hx8 (f := ziD)) (by simp [ziD]) (set_map (xs := (List.replicate (i + 1) (ZI.mk false []))) (F := ziD) i _ _ rfl))] [(2, vp 5 0), (3, vp 6 0), (7, vb ap), (8, vi .i64 (i : Int)), (9, .t (.c (.own 11 (i + 1))))] [(5, .box ([.d (.sl 3 (s.parts.map Part.d))] ++ zi s.k)), (6, .box ([.d (.sl 3 (t.parts.map Part.d))] ++ zi t.k)), (11, .row 26 2 (((List.replicate (i + 1) (ZI.mk false [])).set i r7).map ziD))] (by kernel_rfl) h ?_; clear h; intro a w h
       replace h := pubS 11 2 26 (((List.replicate (i + 1) (ZI.mk false [])).set i r7).map ziD) [(2, vp 5 0), (3, vp 6 0), (7, vb ap), (8, vi .i64 (i : Int)), (9, .t (.c (.d (.sl 2 (((List.replicate (i + 1) (ZI.mk false [])).set i r7).map ziD)))))] [(5, .box ([.d (.sl 3 (s.parts.map Part.d))] ++ zi s.k)), (6, .box ([.d (.sl 3 (t.parts.map Part.d))] ++ zi t.k))] h rfl (show AllEq _ [i + 1] from ⟨by first | exact (List.length_map _).symm | simp, trivial⟩) trivial (by kernel_rfl) (by kernel_rfl)
       rcases Bool.eq_false_or_eq_true ap with hc | hc
       ·have hc8 := hc; clear hc
        rw [hc8] at h
        refine rS ue_ok 12 [] [(2, vp 5 0), (3, vp 6 0), (7, vb true), (8, vi .i64 (i : Int))] [(5, .box ([.d (.sl 3 (s.parts.map Part.d))] ++ zi s.k)), (6, .box ([.d (.sl 3 (t.parts.map Part.d))] ++ zi t.k))] (by kernel_rfl) h ?_; clear h; intro a w h
        refine block_n ?_
        refine then_n ?_
        refine rS ue_ok 12 [(1, .add .i64 (m := (i : Int)) (n := 1) (i64_id (by omega) (by omega)))] [(2, vp 5 0), (3, vp 6 0), (7, vb true), (8, vi .i64 ((i : Int) + 1))] [(5, .box ([.d (.sl 3 (s.parts.map Part.d))] ++ zi s.k)), (6, .box ([.d (.sl 3 (t.parts.map Part.d))] ++ zi t.k))] (by kernel_rfl) h ?_; clear h; intro a w h
        refine then_n ?_
        refine roundS (x := (i, ap)) (y := ((i + 1), true)) h ?_ ?_ (by kernel_rfl) (by kernel_rfl)
        ·exact ⟨by omega, by rw [apZ_succ, ← hK2, hc8]; first | done | rfl⟩
        ·show 41 - (i + 1) < 41 - i
         omega
       ·have hc9 := hc; clear hc
        rw [hc9] at h
        obtain ⟨r9, er9, vr9, or9, lr9⟩ := mkZ (v := valT s ((List.replicate (i + 1) (ZI.mk false [])).set i r7)) (m := 41) (Nat.le_trans (valT_len hfa (by decide) (unit_ok (j := i) (by omega) or7 lr7)) (by decide))
        obtain ⟨r10, er10, vr10, or10, lr10⟩ := mkZ (v := valT t ((List.replicate (i + 1) (ZI.mk false [])).set i r7)) (m := 41) (Nat.le_trans (valT_len hfc (by decide) (unit_ok (j := i) (by omega) or7 lr7)) (by decide))
        refine rS ue_ok 12 [(4, .call (Fn.cast (SValue s ((List.replicate (i + 1) (ZI.mk false [])).set i r7) hfa (by decide) (show 20 + 2 ≤ 20000 by decide) (unit_ok (j := i) (by omega) or7 lr7)) (congrArg vz er9.symm)) ue_6), (7, .call (Fn.cast (SValue t ((List.replicate (i + 1) (ZI.mk false [])).set i r7) hfc (by decide) (show 20 + 2 ≤ 20000 by decide) (unit_ok (j := i) (by omega) or7 lr7)) (congrArg vz er10.symm)) ue_6), (8, .call (SRCmp r9 r10 or9 or10 (by omega) (by omega)) ue_7)] [(2, vp 5 0), (3, vp 6 0), (7, vb (cmpZ r9.val r10.val != 0)), (8, vi .i64 (i : Int))] [(5, .box ([.d (.sl 3 (s.parts.map Part.d))] ++ zi s.k)), (6, .box ([.d (.sl 3 (t.parts.map Part.d))] ++ zi t.k))] (by kernel_rfl) h ?_; clear h; intro a w h
        refine block_n ?_
        refine then_n ?_
        refine rS ue_ok 12 [(1, .add .i64 (m := (i : Int)) (n := 1) (i64_id (by omega) (by omega)))] [(2, vp 5 0), (3, vp 6 0), (7, vb (cmpZ r9.val r10.val != 0)), (8, vi .i64 ((i : Int) + 1))] [(5, .box ([.d (.sl 3 (s.parts.map Part.d))] ++ zi s.k)), (6, .box ([.d (.sl 3 (t.parts.map Part.d))] ++ zi t.k))] (by kernel_rfl) h ?_; clear h; intro a w h
        refine then_n ?_
        refine roundS (x := (i, ap)) (y := ((i + 1), cmpZ r9.val r10.val != 0)) h ?_ ?_ (by kernel_rfl) (by kernel_rfl)
        ·exact ⟨by omega, by rw [apZ_succ, ← hK2, hc9, Bool.false_or, vr9, vr10]; unfold valT; rw [valP_unit2 i r7 hu1, valP_unit2 i r7 hu1]⟩
        ·show 41 - (i + 1) < 41 - i
         omega
      ·have hc10 := hc; clear hc
       have hc10' := of_decide_eq_false hc10
       refine wp_exit ?_
       refine then_x ?_
       refine then_x ?_
       refine inBlock_exit ?_
       refine then_n ?_
       have hcr := cmpT_range t s
       refine rSeq ue_ok 12 [(3, .call (STCmp s t hfa hfc (by decide) (by decide)) ue_13), (5, .cmpb .eql (m := ap) (n := ((cmpT s t) != 0)) (b := true) (.inl ⟨rfl, (show (ap == ((cmpT s t) != 0)) = true from by rw [hK2, show i = 41 by omega, apart_law hall]; exact beq_self_eq_true _).symm⟩)), (9, .call (STCmp s t hfa hfc (by decide) (by decide)) ue_13), (12, .call (STCmp t s hfc hfa (by decide) (by decide)) ue_13), (13, .neg .i64 (m := (cmpT t s)) (i64_id (by omega) (by omega))), (14, .cmp (op := .eql) (m := (cmpT s t)) (n := (-(cmpT t s))) (b := true) .i64 (show ((cmpT s t) == (-(cmpT t s))) = true from by rw [cmpT_neg s t]; exact beq_self_eq_true _))] [(4, vb true)] [] (by kernel_rfl) h ?_; clear h; intro a w h
       refine wp_ret ?_
       refine retS [.c (.d (.raw (.bool true)))] h Exit.ret (.inl rfl)  rfl ⟨RV.tmp _ _ rfl, trivial⟩ ?_ (by kernel_rfl) (by kernel_rfl)
       rfl
theorem STermApartL (s t : Term) (hL : Fn Tryz.prog 8 [] [] (vb true) []) (hs : TLb s) (ht : TLb t) : Fn Tryz.prog 3 [] [vd s.d, vd t.d] (vb true) [] := by
 have key : ∃ f : Bool, f = true ↔ ∀ t_ ∈ [s, t], Few1 t_ := by
  by_cases h : ∀ t_ ∈ [s, t], Few1 t_
  ·exact ⟨true, fun _ => h, fun _ => rfl⟩
  ·exact ⟨false, fun e => (by cases e), fun e => absurd e h⟩
 obtain ⟨fb, hfb⟩ := key
 exact STermApart s t fb hL hfb hs ht
end Go.Proofs.YtekhnajfdaknnaaGreatDoor.S
end
section
namespace Go.Proofs.YtekhnajfdaknnaaGreatDoor.S
open Go.RowKit

open Go.ChangeShapes Go.WideShapes Go.ChangeAt
theorem SlookingC : Fn Tryz.prog 8 [] [] (vb true) [] := Slooking SText2x SName3
theorem STermApartW (s t : Term) (hs : TLb s) (ht : TLb t) : Fn Tryz.prog 3 [] [vd s.d, vd t.d] (vb true) [] := STermApartL s t SlookingC hs ht
end Go.Proofs.YtekhnajfdaknnaaGreatDoor.S
end
section
namespace Go.Proofs.YtekhnajfdaknnaaGreatDoor.termApartDone
open Go.ChangeShapes Go.WideShapes Go.ChangeAt Go.RowKit
open Go.ChangeMaps (open_string shut_string)
open Go.Proofs.YtekhnajfdaknnaaGreatDoor.S

theorem own : ownKnob Tryz.prog.godebug = none := by kernel_rfl
theorem laidOut : laidOutB Tryz.prog = true := by kernel_rfl

def laidL : List (String × DataW Unit) := [("math/bits.deBruijn32tab", Rows.laid_math_bits_deBruijn32tab), ("math/bits.deBruijn64tab", Rows.laid_math_bits_deBruijn64tab), ("internal/strconv.uint64pow10", Rows.laid_internal_strconv_uint64pow10)]
theorem door_met (os : Os) (args : Array Value) : laidMetH Tryz.prog laidL ((World.doorLaid Tryz.prog 400 os).forCall (fun _ _ => 0) ⟨#[], args, []⟩).memory :=
 laidMetH_of_parts3 (fuel := 8) (laidMet_of_run' 8 (by kernel_rfl) (by kernel_rfl)) (by kernel_rfl) (by kernel_rfl)

set_option maxRecDepth 100000 in
theorem lifted (os : Os) (started : os.Started) (H : Type) (enc : TypeId × Value → H) :
  ReturnsInHanded {} Tryz.checked os 3 .any (fun w args => (Rows.termApartSpec.pre enc Tryz.prog Tryz.f3 [] false w args ∧ laidMetH Tryz.prog laidL w) ∧ sizedMet enc Tryz.prog Tryz.f3 (OpenSpec.ofChange Rows.termApartSpec) false w args)
   (Rows.termApartSpec.post enc Tryz.prog Tryz.f3 false true false false) := by
 refine returnsInHanded_of_change_and (C := Tryz.checked) (X := fun w _ => laidMetH Tryz.prog laidL w) (fun _ _ _ hh h => h.of_heap hh) own started (by kernel_rfl) Tryz.func3
  (ChangeSpec.witness_shaped (enc := enc) (C := Tryz.checked) (os := os) (X := fun w _ => laidMetH Tryz.prog laidL w) false (World.doorLaid Tryz.prog 400 os) #[.agg #[.slice none 0 0, .bool false, .slice none 0 0], .agg #[.slice none 0 0, .bool false, .slice none 0 0]] 12 rfl (World.shaped_of_RefB (by kernel_rfl) (by kernel_rfl)) (by kernel_rfl) (by kernel_rfl) (by kernel_rfl) (door_met os _)) ?_
 intro W base args ds gs before hval0 hW _ _ hL _
 have hval : ∀ (j : Nat) t v, Tryz.f3.params[j]? = some t → args[j]? = some v → Value.okWide Tryz.prog W .any base t v := hval0
 have hW' := hW
 obtain ⟨p, q, hA0, hV, rfl, hfz, hnd⟩ := hW
 have hA : DataW.TrodAll enc Tryz.prog W 0 (fun _ => true) true Tryz.f3.params.toList args.toList ds p := hA0
 rw [Tryz.params3] at hA hval
 obtain ⟨v0, vs0, d0, ds0, p0, q0, hargs, rfl, rfl, h0, r0⟩ := trodAll_cons hA
 obtain ⟨v1, vs1, d1, ds1, p1, q1, rfl, rfl, rfl, h1, r1⟩ := trodAll_cons r0
 obtain ⟨rfl, rfl, rfl⟩ := trodAll_nil r1
 obtain rfl : args = #[v0, v1] := by cases args; simp_all
 obtain ⟨rfl, rfl⟩ := trodVars_none hV
 have k0 := h0
 have lt0 : ∀ x ∈ p0, x.block < W.heap.size := by obtain ⟨m, hm⟩ := k0; exact DataW.trod_lt m _ _ _ hm
 obtain ⟨a0, cs0, g0, rfl, dr0⟩ := rep_agg Tryz.underlying28 (fun _ => rep_Term) (hval 0 28 v0 rfl rfl) h0
 have k1 := h1
 have lt1 : ∀ x ∈ p1, x.block < W.heap.size := by obtain ⟨m, hm⟩ := k1; exact DataW.trod_lt m _ _ _ hm
 obtain ⟨a1, cs1, g1, rfl, dr1⟩ := rep_agg Tryz.underlying28 (fun _ => rep_Term) (hval 1 28 v1 rfl rfl) h1
 clear hA0 hval0
 refine ((STermApartW a0 a1 g0 g1).calls (w := W) (vals := [.agg ⟨cs0⟩, .agg ⟨cs1⟩]) fun B => ⟨dr_vd dr0 B, dr_vd dr1 B, trivial⟩).mono fun e W' ⟨he, bel⟩ => ?_
 subst he
 exact ⟨_, rfl, _, _, _, [], _, [], hW', trodAll_mk1 (shut_bool Tryz.underlying4 _), (trodAll_cons_mk (Below.trod laidOut (by kernel_rfl) (of_decide_eq_true (by kernel_rfl)) k0 bel lt0) (trodAll_cons_mk (Below.trod laidOut (by kernel_rfl) (of_decide_eq_true (by kernel_rfl)) k1 bel lt1) trodAll_mk0)), rfl, bel.below.frame _, fun h => by cases h⟩

theorem over : Rows.TermApartSaid :=
 OpenClaim.holds_of_wide 3 Tryz.f3 rfl rfl rfl rfl rfl rfl rfl ⟨rfl, rfl, rfl, rfl, rfl⟩ rfl rfl rfl rfl rfl (by kernel_rfl) Tryz.func3 (by kernel_rfl)
  (of_decide_eq_true (by kernel_rfl)) (by unfold Func.isWrapper; first | (rw [if_pos (by decide +kernel)]; kernel_rfl) | (rw [if_neg (by decide +kernel)]; exact ⟨rfl, rfl⟩))
  (fun os started H enc _ => lifted os started H enc)

theorem proved : Rows.TermApartCardSaid :=
  Claim7.holds_tied_plain_at .later [] [.data, .data, .data] true (true, "97a79c8e33111ce0a29b5e1069275e6f92a3bc254075085a68b535fbfc7ec89a") false
    over (fun _ h => by cases h) (by kernel_rfl) (fun _ h => by cases h) termApart_row_tie rfl ⟨rfl, rfl⟩ (by kernel_rfl) rfl
    (fun f fn hf hfn => by
      obtain rfl : f = 3 := Option.some.inj ((show Tryz.prog.funcNamed "plumbline/plumblinelaw03.TermApart" = some 3 by kernel_rfl).symm.trans hf) |>.symm
      obtain rfl : fn = Tryz.f3 := (Option.some.inj (Tryz.func3.symm.trans hfn)).symm
      exact ⟨by kernel_rfl, fun j t ht => by
        rw [Tryz.params3] at ht
        have hm : t ∈ [28, 28] := by simpa using Array.mem_of_getElem? ht
        have hall : ([28, 28].all fun u => !Tryz.prog.wantsStandIn u) = true := by kernel_rfl
        exact (show Tryz.prog.wantsStandIn t = false by simpa using List.all_eq_true.1 hall t hm)⟩)
    (by kernel_rfl)
end Go.Proofs.YtekhnajfdaknnaaGreatDoor.termApartDone
end
