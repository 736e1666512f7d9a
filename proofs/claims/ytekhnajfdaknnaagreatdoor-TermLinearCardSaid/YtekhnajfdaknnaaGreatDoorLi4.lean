/-
  Part 4 of the proof of the statement TermLinear: the walk through the program and the references lifted to the given row. It holds for every input.
-/
import Derived.Test.YtekhnajfdaknnaaGreatDoorLi3
import Derived.Test.YtekhnajfdaknnaaGreatDoorLi2
import Derived.Shelf.Small.Bits
import Derived.Test.YtekhnajfdaknnaaGreatDoorProg
import Derived.Test.YtekhnajfdaknnaaGreatDoorLi1
import Derived.Laws.Bits64b
import Derived.Deep.RegionWith
import Derived.Deep.LoopGhost
set_option maxRecDepth 100000
section
namespace Go.Proofs.YtekhnajfdaknnaaGreatDoor.S
open Go.RowKit

theorem tm_2 : SlT Tryz.prog 112 22 1 := SlT.mk' Tryz.underlying112 (by kernel_rfl)
theorem tm_3 : Bodied Tryz.prog 105 := Bodied.mk' (by kernel_rfl)
theorem tm_4 : ElZ Tryz.prog 112 22 1 := ElZ.mk' Tryz.underlying112 _ _ rfl rfl (by kernel_rfl) (by kernel_rfl) (by kernel_rfl) (by decide)
theorem tm_5 : Bodied Tryz.prog 73 := Bodied.mk' (by kernel_rfl)
theorem tm_7 : Bodied Tryz.prog 41 := Bodied.mk' (by kernel_rfl)
theorem tm_10 : Bodied Tryz.prog 72 := Bodied.mk' (by kernel_rfl)
theorem tm_12 : Bodied Tryz.prog 50 := Bodied.mk' (by kernel_rfl)
theorem tm_13 : Bodied Tryz.prog 37 := Bodied.mk' (by kernel_rfl)
theorem tm_14 : Bodied Tryz.prog 39 := Bodied.mk' (by kernel_rfl)
theorem tm_15 : Bodied Tryz.prog 33 := Bodied.mk' (by kernel_rfl)
theorem SGrow (n : Nat) (hn : n ≤ 1000000) : Fn Tryz.prog 105 [] [.t (.c (.d (.raw nilV))), vi .i64 (n : Int)] (.t (.c (.own 0 0))) [(0, .row 32 3 ([].map Part.d))] := by
 refine Fn.body Tryz.func105 rfl 27 rfl fun w H B a h => ?_
 refine rSeq fam0ok 1 [] [(0, .t (.c (.d (.raw nilV)))), (1, vi .i64 (n : Int)), (4, .t (.c (.d (.raw nilV))))] [] (by kernel_rfl) h ?_; clear h; intro a w h
 refine wp_seq ?_
 refine rSeq fam0ok 1 [(1, .cmp (op := .lss) (m := (n : Int)) (n := 0) (b := false) .i64 (show decide ((n : Int) < 0) = false from decide_eq_false (by omega)))] [(0, .t (.c (.d (.raw nilV)))), (1, vi .i64 (n : Int)), (4, .t (.c (.d (.raw nilV)))), (6, vb false)] [] (by kernel_rfl) h ?_; clear h; intro a w h
 refine condS false h rfl (fun hc => ?_) (fun hc => ?_)
 ·cases hc
 ·clear hc
  refine wp_skip ?_
  refine then_n ?_
  refine wp_seq ?_
  refine rSeq fam0ok 1 [(2, .gen _ _ _ fun _ _ _ _ => Op.capR (d := 10) (ao := none) (n := 0) (c := 0) ta_0.hu (OV.tmp 9 _)), (5, .gen _ _ _ fun _ _ _ _ => Op.arith (op := .sub) (d := 13) (xt := 3) (yt := 3) (k := .i64) (m := 0) (n := 0) (r := 0) (OV.tmp 10 _) (OV.tmp 12 _) (.inr (.inl ⟨rfl, rfl⟩)) (i64_id (by omega) (by omega))), (6, .gen _ _ _ fun _ _ _ _ => Op.arith (op := .sub) (d := 14) (xt := 3) (yt := 3) (k := .i64) (m := (n : Int)) (n := 0) (r := (n : Int)) (OV.tmp 8 _) (OV.tmp 13 _) (.inr (.inl ⟨rfl, (Int.sub_zero _).symm⟩)) (i64_id (by omega) (by omega)))] [(0, .t (.c (.d (.raw nilV)))), (1, vi .i64 (n : Int)), (4, .t (.c (.d (.raw nilV))))] [] (by kernel_rfl) h ?_; clear h; intro a w h
  refine rSeq fam0ok 1 [] [(0, .t (.c (.d (.raw nilV)))), (1, vi .i64 (n : Int)), (4, .t (.c (.d (.raw nilV)))), (16, vb (decide ((n : Int) > 0)))] [] (by kernel_rfl) h ?_; clear h; intro a w h
  refine condS (decide ((n : Int) > 0)) h rfl (fun hc => ?_) (fun hc => ?_)
  ·have hc1 := hc; clear hc
   have hc1' := of_decide_eq_true hc1
   refine rS fam0ok 1 [(2, .gen _ _ _ fun _ _ _ _ => Op.capR (d := 19) (ao := none) (n := 0) (c := 0) ta_0.hu (OV.tmp 18 _)), (3, .gen _ _ _ fun _ _ _ _ => Op.sliceR0 (d := 20) (k := .i64) ta_0 (OV.tmp 17 _) (OV.tmp 19 _)), (5, .gen _ _ _ fun _ _ _ _ => Op.appNM (d := 22) (t := 20) (u := 21) (n := 1) (L := n) tb_10 Tryz.underlying3 (by omega) (by omega) (by omega)), (8, .gen _ _ _ fun _ _ _ _ => Op.sliceHi (d := 25) (t := 22) (k := .i64) (n := 1) (len := n) (h := 0) (rows := [].map Part.d) (rty := 32) ta_0 (by first | omega | (simp at *; omega)) (OV.tmp 24 _))] [(0, .t (.c (.own 1 0))), (4, .t (.c (.d (.raw nilV))))] [(1, .row 32 3 ([].map Part.d))] (by kernel_rfl) h ?_; clear h; intro a w h
   refine then_n ?_
   refine rSeq fam0ok 2 [] [(4, .t (.c (.own 1 0)))] [(1, .row 32 3 ([].map Part.d))] (by kernel_rfl) h ?_; clear h; intro a w h
   refine wp_ret ?_
   replace h := renS 1 0 [(4, .t (.c (.own 0 0)))] [(0, .row 32 3 ([].map Part.d))] h (by kernel_rfl) (by kernel_rfl) (by kernel_rfl)
   refine retS [.c (.own 0 0)] h Exit.ret (.inl rfl)  rfl ⟨RV.tmp _ _ rfl, trivial⟩ ?_ (by kernel_rfl) (by kernel_rfl)
   rfl
  ·have hc2 := hc; clear hc
   have hc2' := of_decide_eq_false hc2
   refine wp_skip ?_
   refine then_n ?_
   refine rSeq fam0ok 2 [] [(4, .t (.c (.d (.raw nilV))))] [] (by kernel_rfl) h ?_; clear h; intro a w h
   refine wp_ret ?_
   replace h := nilOSs 4 0 2 3 32 (.t (.c (.d (.raw nilV)))) [(4, .t (.c (.own 2 0)))] [(2, .row 32 3 ([].map Part.d))] h (by kernel_rfl) rfl rfl (by kernel_rfl) (by kernel_rfl)
   replace h := renS 2 0 [(4, .t (.c (.own 0 0)))] [(0, .row 32 3 ([].map Part.d))] h (by kernel_rfl) (by kernel_rfl) (by kernel_rfl)
   refine retS [.c (.own 0 0)] h Exit.ret (.inl rfl)  rfl ⟨RV.tmp _ _ rfl, trivial⟩ ?_ (by kernel_rfl) (by kernel_rfl)
   rfl
theorem sum_take_le (l : List Nat) : ∀ j, (l.take j).sum ≤ l.sum := by
 induction l with
 | nil => intro j; simp
 | cons x l ih =>
  intro j
  cases j with
  | zero => simp
  | succ j => simp only [List.take_succ_cons, List.sum_cons]; have := ih j; omega
theorem flat_sum {α : Type} (l : List (List α)) : l.flatten.length = (l.map List.length).sum := List.length_flatten
theorem sum_mem {l : List Nat} {x : Nat} (h : x ∈ l) : x ≤ l.sum := by
 induction l with
 | nil => cases h
 | cons y l ih =>
  rw [List.sum_cons]
  rcases List.mem_cons.1 h with rfl | h
  ·omega
  ·have := ih h; omega
theorem SConcat (xss : List (List Part)) (hl : (xss.map List.length).sum ≤ 1000000) (hn : xss.length ≤ 1000) : Fn Tryz.prog 73 [] [.t (.c (.d (.sl 1 (xss.map (slD 3 Part.d)))))] (.t (.c (.d (.sl 3 (xss.flatten.map Part.d))))) [] := by
 refine Fn.body Tryz.func73 rfl 36 rfl fun w H B a h => ?_
 refine rSeq fam0ok 5 [] [(0, .t (.c (.d (.sl 1 (xss.map (slD 3 Part.d)))))), (2, .t (.c (.d (.raw nilV))))] [] (by kernel_rfl) h ?_; clear h; intro a w h
 refine rSeq fam0ok 5 [] [(0, .t (.c (.d (.sl 1 (xss.map (slD 3 Part.d)))))), (2, .t (.c (.d (.raw nilV)))), (3, vi .i64 0)] [] (by kernel_rfl) h ?_; clear h; intro a w h
 refine wp_seq ?_
 refine rSeq fam0ok 5 [(1, .len (c := (.d (.sl 1 (xss.map (slD 3 Part.d))))) (n := xss.length) (lenC_map _ _ _))] [(0, .t (.c (.d (.sl 1 (xss.map (slD 3 Part.d)))))), (2, .t (.c (.d (.raw nilV)))), (3, vi .i64 0), (9, .t (.c (.d (.sl 1 (xss.map (slD 3 Part.d)))))), (10, vi .i64 (xss.length : Int)), (11, vi .i64 0)] [] (by kernel_rfl) h ?_; clear h; intro a w h
 refine wp_block ?_
 refine loopS (ι := (Nat)) (fun (z_ : (Nat)) => match z_ with | j => j ≤ xss.length)
   (fun (z_ : (Nat)) => match z_ with | j => [(0, .t (.c (.d (.sl 1 (xss.map (slD 3 Part.d)))))), (2, .t (.c (.d (.raw nilV)))), (3, vi .i64 ((((xss.map List.length).take j).sum : Nat) : Int)), (9, .t (.c (.d (.sl 1 (xss.map (slD 3 Part.d)))))), (10, vi .i64 (xss.length : Int)), (11, vi .i64 (j : Int))])
   (fun (z_ : (Nat)) => match z_ with | j => [])
   (fun (z_ : (Nat)) => match z_ with | j => xss.length - j) 0 ?_ h (by kernel_rfl) (by kernel_rfl) ?_
 ·exact Nat.zero_le _
 ·clear h; rintro j a w hI h
  change St _ (F.of [(0, .t (.c (.d (.sl 1 (xss.map (slD 3 Part.d)))))), (2, .t (.c (.d (.raw nilV)))), (3, vi .i64 ((((xss.map List.length).take j).sum : Nat) : Int)), (9, .t (.c (.d (.sl 1 (xss.map (slD 3 Part.d)))))), (10, vi .i64 (xss.length : Int)), (11, vi .i64 (j : Int))] []) a w at h
  have hs1 := sum_take_le (xss.map List.length) j
  have hs2 := sum_take_le (xss.map List.length) (j + 1)
  refine rSeq fam0ok 5 [] [(0, .t (.c (.d (.sl 1 (xss.map (slD 3 Part.d)))))), (2, .t (.c (.d (.raw nilV)))), (3, vi .i64 ((((xss.map List.length).take j).sum : Nat) : Int)), (9, .t (.c (.d (.sl 1 (xss.map (slD 3 Part.d)))))), (10, vi .i64 (xss.length : Int)), (11, vi .i64 (j : Int)), (12, vb (decide ((j : Int) < (xss.length : Int))))] [] (by kernel_rfl) h ?_; clear h; intro a w h
  refine wp_seq ?_
  refine condS (decide ((j : Int) < (xss.length : Int))) h rfl (fun hc => ?_) (fun hc => ?_)
  ·have hc1 := hc; clear hc
   have hc1' := of_decide_eq_true hc1
   refine wp_skip ?_
   refine then_n ?_
   refine wp_seq ?_
   refine wp_block ?_
   obtain ⟨x1, hx1⟩ : ∃ z_ : List Part, xss[j]? = some z_ := ⟨_, List.getElem?_eq_getElem (by first | omega | (simp at *; omega))⟩
   have hsx : x1.length ≤ (xss.map List.length).sum := by
    have := sum_mem (List.mem_map_of_mem (f := List.length) (List.mem_of_getElem? hx1))
    omega
   refine rSeq fam0ok 5 [(0, .gen _ _ _ fun _ _ _ _ => Op.idxD (d := 13) (t := 9) (k := .i64) tm_2 (map_at hx1 (f := (slD 3 Part.d))) (OV.tmp 11 _))] [(0, .t (.c (.d (.sl 1 (xss.map (slD 3 Part.d)))))), (2, .t (.c (.d (.raw nilV)))), (3, vi .i64 ((((xss.map List.length).take j).sum : Nat) : Int)), (5, .t (.c (.d (.sl 3 (x1.map Part.d))))), (9, .t (.c (.d (.sl 1 (xss.map (slD 3 Part.d)))))), (10, vi .i64 (xss.length : Int)), (11, vi .i64 (j : Int))] [] (by kernel_rfl) h ?_; clear h; intro a w h
   refine rSeq fam0ok 5 [(2, .len (c := (.d (.sl 3 (x1.map Part.d)))) (n := x1.length) (lenC_map _ _ _)), (3, .gen _ _ _ fun _ _ _ _ => Op.arith (op := .add) (d := 18) (xt := 3) (yt := 3) (k := .i64) (m := ((((xss.map List.length).take j).sum : Nat) : Int)) (n := (x1.length : Int)) (r := ((((xss.map List.length).take (j + 1)).sum : Nat) : Int)) (OV.tmp 15 _) (OV.tmp 17 _) (.inl ⟨rfl, (by rw [List.take_add_one, List.getElem?_map, hx1]; simp)⟩) (i64_id (by omega) (by omega)))] [(0, .t (.c (.d (.sl 1 (xss.map (slD 3 Part.d)))))), (2, .t (.c (.d (.raw nilV)))), (3, vi .i64 ((((xss.map List.length).take (j + 1)).sum : Nat) : Int)), (9, .t (.c (.d (.sl 1 (xss.map (slD 3 Part.d)))))), (10, vi .i64 (xss.length : Int)), (11, vi .i64 (j : Int))] [] (by kernel_rfl) h ?_; clear h; intro a w h
   refine rSeq fam0ok 5 [(1, .cmp (op := .lss) (m := ((((xss.map List.length).take (j + 1)).sum : Nat) : Int)) (n := 0) (b := false) .i64 (show decide (((((xss.map List.length).take (j + 1)).sum : Nat) : Int) < 0) = false from decide_eq_false (by omega)))] [(0, .t (.c (.d (.sl 1 (xss.map (slD 3 Part.d)))))), (2, .t (.c (.d (.raw nilV)))), (3, vi .i64 ((((xss.map List.length).take (j + 1)).sum : Nat) : Int)), (9, .t (.c (.d (.sl 1 (xss.map (slD 3 Part.d)))))), (10, vi .i64 (xss.length : Int)), (11, vi .i64 (j : Int)), (20, vb false)] [] (by kernel_rfl) h ?_; clear h; intro a w h
   refine condS false h rfl (fun hc => ?_) (fun hc => ?_)
   ·cases hc
   ·clear hc
    refine wp_skip ?_
    refine block_n ?_
    refine then_n ?_
    refine rS fam0ok 5 [(0, .add .i64 (m := (j : Int)) (n := 1) (i64_id (by omega) (by omega)))] [(0, .t (.c (.d (.sl 1 (xss.map (slD 3 Part.d)))))), (2, .t (.c (.d (.raw nilV)))), (3, vi .i64 ((((xss.map List.length).take (j + 1)).sum : Nat) : Int)), (9, .t (.c (.d (.sl 1 (xss.map (slD 3 Part.d)))))), (10, vi .i64 (xss.length : Int)), (11, vi .i64 ((j : Int) + 1))] [] (by kernel_rfl) h ?_; clear h; intro a w h
    refine then_n ?_
    refine roundS (x := j) (y := (j + 1)) h ?_ ?_ (by kernel_rfl) (by kernel_rfl)
    ·have := at_lt hx1; omega
    ·show xss.length - (j + 1) < xss.length - j
     have := at_lt hx1; omega
  ·have hc2 := hc; clear hc
   have hc2' := of_decide_eq_false hc2
   refine wp_exit ?_
   refine then_x ?_
   refine then_x ?_
   refine inBlock_exit ?_
   refine then_n ?_
   have hj : j = xss.length := by omega
   refine rSeq fam0ok 5 [(1, .call (SGrow ((xss.map List.length).take j).sum (by omega)) tm_3)] [(0, .t (.c (.d (.sl 1 (xss.map (slD 3 Part.d)))))), (2, .t (.c (.d (.raw nilV)))), (6, .t (.c (.own 0 0)))] [(0, .row 32 3 ([].map Part.d))] (by kernel_rfl) h ?_; clear h; intro a w h
   refine wp_seq ?_
   refine rSeq fam0ok 5 [(1, .len (c := (.d (.sl 1 (xss.map (slD 3 Part.d))))) (n := xss.length) (lenC_map _ _ _))] [(2, .t (.c (.d (.raw nilV)))), (6, .t (.c (.own 0 0))), (25, .t (.c (.d (.sl 1 (xss.map (slD 3 Part.d)))))), (26, vi .i64 (xss.length : Int)), (27, vi .i64 0)] [(0, .row 32 3 ([].map Part.d))] (by kernel_rfl) h ?_; clear h; intro a w h
   refine wp_block ?_
   refine loopS (ι := (Nat)) (fun (z_ : (Nat)) => match z_ with | i => i ≤ xss.length)
     (fun (z_ : (Nat)) => match z_ with | i => [(2, .t (.c (.d (.raw nilV)))), (6, .t (.c (.own 0 ((xss.take i).flatten).length))), (25, .t (.c (.d (.sl 1 (xss.map (slD 3 Part.d)))))), (26, vi .i64 (xss.length : Int)), (27, vi .i64 (i : Int))])
     (fun (z_ : (Nat)) => match z_ with | i => [(0, .row 32 3 (((xss.take i).flatten).map Part.d))])
     (fun (z_ : (Nat)) => match z_ with | i => xss.length - i) 0 ?_ h (by kernel_rfl) (by kernel_rfl) ?_
   ·exact Nat.zero_le _
   ·clear h; rintro i a w hI h
    change St _ (F.of [(2, .t (.c (.d (.raw nilV)))), (6, .t (.c (.own 0 ((xss.take i).flatten).length))), (25, .t (.c (.d (.sl 1 (xss.map (slD 3 Part.d)))))), (26, vi .i64 (xss.length : Int)), (27, vi .i64 (i : Int))] [(0, .row 32 3 (((xss.take i).flatten).map Part.d))]) a w at h
    have hs1 := sum_take_le (xss.map List.length) i
    have hs2 := sum_take_le (xss.map List.length) (i + 1)
    have hf1 : ((xss.take i).flatten).length = ((xss.map List.length).take i).sum := by rw [flat_sum, List.map_take]
    have hf2 : ((xss.take (i + 1)).flatten).length = ((xss.map List.length).take (i + 1)).sum := by rw [flat_sum, List.map_take]
    refine rSeq fam0ok 5 [] [(2, .t (.c (.d (.raw nilV)))), (6, .t (.c (.own 0 ((xss.take i).flatten).length))), (25, .t (.c (.d (.sl 1 (xss.map (slD 3 Part.d)))))), (26, vi .i64 (xss.length : Int)), (27, vi .i64 (i : Int)), (28, vb (decide ((i : Int) < (xss.length : Int))))] [(0, .row 32 3 (((xss.take i).flatten).map Part.d))] (by kernel_rfl) h ?_; clear h; intro a w h
    refine wp_seq ?_
    refine condS (decide ((i : Int) < (xss.length : Int))) h rfl (fun hc => ?_) (fun hc => ?_)
    ·have hc3 := hc; clear hc
     have hc3' := of_decide_eq_true hc3
     refine wp_skip ?_
     refine then_n ?_
     refine wp_seq ?_
     refine wp_block ?_
     obtain ⟨x3, hx3⟩ : ∃ z_ : List Part, xss[i]? = some z_ := ⟨_, List.getElem?_eq_getElem (by first | omega | (simp at *; omega))⟩
     have hsx : x3.length ≤ (xss.map List.length).sum := by
      have := sum_mem (List.mem_map_of_mem (f := List.length) (List.mem_of_getElem? hx3))
      omega
     refine rSeq fam0ok 5 [(0, .gen _ _ _ fun _ _ _ _ => Op.idxD (d := 29) (t := 25) (k := .i64) tm_2 (map_at hx3 (f := (slD 3 Part.d))) (OV.tmp 27 _))] [(2, .t (.c (.d (.raw nilV)))), (6, .t (.c (.own 0 ((xss.take i).flatten).length))), (8, .t (.c (.d (.sl 3 (x3.map Part.d))))), (25, .t (.c (.d (.sl 1 (xss.map (slD 3 Part.d)))))), (26, vi .i64 (xss.length : Int)), (27, vi .i64 (i : Int))] [(0, .row 32 3 (((xss.take i).flatten).map Part.d))] (by kernel_rfl) h ?_; clear h; intro a w h
     refine rS fam0ok 5 [(2, .gen _ _ _ fun _ _ _ _ => Op.appOD (d := 33) (t := 31) (u := 32) (n := 0) (n' := 5) (len := ((xss.take i).flatten).length) (len' := (((xss.take i).flatten) ++ x3).length) (rows := ((xss.take i).flatten).map Part.d) (rows2 := x3.map Part.d) (rows' := (((xss.take i).flatten) ++ x3).map Part.d) tb_10 (by first | exact (List.length_map _).symm | simp) (by first | (rw [List.length_append, List.length_map]; done) | simp) (by simp) (by simp [Part.d]) (by first | omega | (simp at *; done) | (simp at *; omega)))] [(2, .t (.c (.d (.raw nilV)))), (6, .t (.c (.own 5 (((xss.take i).flatten) ++ x3).length))), (25, .t (.c (.d (.sl 1 (xss.map (slD 3 Part.d)))))), (26, vi .i64 (xss.length : Int)), (27, vi .i64 (i : Int))] [(5, .row 32 3 ((((xss.take i).flatten) ++ x3).map Part.d))] (by kernel_rfl) h ?_; clear h; intro a w h
     refine block_n ?_
     refine then_n ?_
     refine rS fam0ok 6 [(0, .add .i64 (m := (i : Int)) (n := 1) (i64_id (by omega) (by omega)))] [(2, .t (.c (.d (.raw nilV)))), (6, .t (.c (.own 5 (((xss.take i).flatten) ++ x3).length))), (25, .t (.c (.d (.sl 1 (xss.map (slD 3 Part.d)))))), (26, vi .i64 (xss.length : Int)), (27, vi .i64 ((i : Int) + 1))] [(5, .row 32 3 ((((xss.take i).flatten) ++ x3).map Part.d))] (by kernel_rfl) h ?_; clear h; intro a w h
     refine then_n ?_
     have hnw : (((xss.take i).flatten) ++ x3) = ((xss.take (i + 1)).flatten) := by rw [List.take_add_one, hx3]; simp
     replace h := h.conv (f' := F.of [(2, .t (.c (.d (.raw nilV)))), (6, .t (.c (.own 5 ((xss.take (i + 1)).flatten).length))), (25, .t (.c (.d (.sl 1 (xss.map (slD 3 Part.d)))))), (26, vi .i64 (xss.length : Int)), (27, vi .i64 ((i : Int) + 1))] [(5, .row 32 3 (((xss.take (i + 1)).flatten).map Part.d))]) (by rw [hnw])
     replace h := renS 5 0 [(2, .t (.c (.d (.raw nilV)))), (6, .t (.c (.own 0 ((xss.take (i + 1)).flatten).length))), (25, .t (.c (.d (.sl 1 (xss.map (slD 3 Part.d)))))), (26, vi .i64 (xss.length : Int)), (27, vi .i64 ((i : Int) + 1))] [(0, .row 32 3 (((xss.take (i + 1)).flatten).map Part.d))] h (by kernel_rfl) (by kernel_rfl) (by kernel_rfl)
     refine roundS (x := i) (y := (i + 1)) h ?_ ?_ (by kernel_rfl) (by kernel_rfl)
     ·have := at_lt hx3; omega
     ·show xss.length - (i + 1) < xss.length - i
      have := at_lt hx3; omega
    ·have hc4 := hc; clear hc
     have hc4' := of_decide_eq_false hc4
     refine wp_exit ?_
     refine then_x ?_
     refine then_x ?_
     refine inBlock_exit ?_
     refine then_n ?_
     refine rSeq fam0ok 6 [] [(2, .t (.c (.own 0 ((xss.take i).flatten).length)))] [(0, .row 32 3 (((xss.take i).flatten).map Part.d))] (by kernel_rfl) h ?_; clear h; intro a w h
     refine wp_ret ?_
     replace h := pubS 0 3 32 (((xss.take i).flatten).map Part.d) [(2, .t (.c (.d (.sl 3 (((xss.take i).flatten).map Part.d)))))] [] h rfl (show AllEq _ [((xss.take i).flatten).length] from ⟨by first | exact (List.length_map _).symm | simp, trivial⟩) trivial (by kernel_rfl) (by kernel_rfl)
     refine retS [.c (.d (.sl 3 (((xss.take i).flatten).map Part.d)))] h Exit.ret (.inl rfl)  rfl ⟨RV.tmp _ _ rfl, trivial⟩ ?_ (by kernel_rfl) (by kernel_rfl)
     have hi : i = xss.length := by omega
     subst hi
     rw [List.take_length]; first | done | rfl
theorem STAdd (s t : Term) (hs : TOk 400 15000 s) (ht : TOk 400 15000 t) : Fn Tryz.prog 33 [] [.t (.agg ([.d (.sl 3 (s.parts.map Part.d))] ++ zi s.k)), .t (.agg ([.d (.sl 3 (t.parts.map Part.d))] ++ zi t.k))] (vd (addT s t).d) [] := by
 have ks := hs.kl
 have kt := ht.kl
 have ls := hs.len
 have lt := ht.len
 refine Fn.body Tryz.func33 rfl 18 rfl fun w H B a h => ?_
 refine rSeq fam0ok 0 [] [(2, vp 0 0), (3, vp 1 0), (4, vp 2 0)] [(0, .box ([.d (.sl 3 (s.parts.map Part.d))] ++ zi s.k)), (1, .box ([.d (.sl 3 (t.parts.map Part.d))] ++ zi t.k)), (2, .box [.d (.raw nilV), .d (.raw (.bool false)), .d (nsl [])])] (by kernel_rfl) h ?_; clear h; intro a w h
 obtain ⟨r2, er2, vr2, or2, lr2⟩ := mkZ (v := s.k.val + t.k.val) (m := s.k.abs.length + t.k.abs.length + 1) (len_add hs.kb ht.kb)
 refine rSeq fam0ok 3 [(4, .gen _ _ _ fun _ _ _ _ => Op.buildD (d := 9) (len := 2) (rows := [s.parts, t.parts].map (slD 3 Part.d)) (rs := [(6, .t (.c (.d (.sl 3 (s.parts.map Part.d))))), (8, .t (.c (.d (.sl 3 (t.parts.map Part.d)))))]) tm_4 (.cons (i := 0) (OV.tmp 6 _) (.cons (i := 1) (OV.tmp 8 _) (.nil))) (by kernel_rfl) rfl (by simp [slD]) (by decide) (by decide)), (5, .call (Fn.cast (SConcat [s.parts, t.parts] (by simp only [List.map_cons, List.map_nil, List.sum_cons, List.sum_nil]; omega) (by simp)) (show _ = (.t (.c (.d (.sl 3 ((s.parts ++ t.parts).map Part.d)))) : V) by simp)) tm_5), (10, .call (Fn.cast (SAdd s.k t.k hs.kb ht.kb (by omega) (by omega)) (congrArg vz er2.symm)) tl_9), (12, .call (SPlain (Term.mk (s.parts ++ t.parts) r2) (TOk.add hs ht r2 or2 (by have := hs.kl; have := ht.kl; omega)) (by decide) (by decide)) tm_7)] [(4, vp 2 0)] [(2, .box ([.d (.sl 3 ((plainT (Term.mk (s.parts ++ t.parts) r2)).parts.map Part.d))] ++ zi (plainT (Term.mk (s.parts ++ t.parts) r2)).k))] (by kernel_rfl) h ?_; clear h; intro a w h
 refine wp_ret ?_
 refine retS [.agg ([.d (.sl 3 ((plainT (Term.mk (s.parts ++ t.parts) r2)).parts.map Part.d))] ++ zi (plainT (Term.mk (s.parts ++ t.parts) r2)).k)] h Exit.ret (.inl rfl)  rfl ⟨RV.agg _ 2 0 _ _ _ _ tb_11 rfl rfl rfl rfl, trivial⟩ ?_ (by kernel_rfl) (by kernel_rfl)
 rw [er2]; first | done | rfl
theorem SNumber (k : ZI) (hk : Lb k.abs) (lk : k.abs.length ≤ 40000) : Fn Tryz.prog 58 [] [vz k] (vd (numT k).d) [] := by
 refine Fn.body Tryz.func58 rfl 6 rfl fun w H B a h => ?_
 refine rSeq fam0ok 0 [] [(1, vp 0 0), (2, vp 1 0)] [(0, .box (zi k)), (1, .box [.d (.raw nilV), .d (.raw (.bool false)), .d (nsl [])])] (by kernel_rfl) h ?_; clear h; intro a w h
 obtain ⟨r1, er1, vr1, or1, lr1⟩ := mkZ (v := k.val) (m := k.abs.length) (len_id hk)
 refine rSeq fam0ok 2 [(1, .call (Fn.cast (Scopied k hk (by omega)) (congrArg vz er1.symm)) tl_5)] [(2, vp 1 0)] [(1, .box ([.d (.raw nilV)] ++ zi r1))] (by kernel_rfl) h ?_; clear h; intro a w h
 refine wp_ret ?_
 replace h := nilDLs 1 0 3 ([.d (.raw nilV)] ++ zi r1) [(2, vp 1 0)] [(1, .box ([.d (.sl 3 ([].map Part.d))] ++ zi r1))] h rfl rfl (by kernel_rfl) (by kernel_rfl)
 refine retS [.agg ([.d (.sl 3 ([].map Part.d))] ++ zi r1)] h Exit.ret (.inl rfl)  rfl ⟨RV.agg _ 1 0 _ _ _ _ tb_11 rfl rfl rfl rfl, trivial⟩ ?_ (by kernel_rfl) (by kernel_rfl)
 rw [er1]; first | done | rfl
theorem SVar (v : Int)  : Fn Tryz.prog 30 [] [vi .i64 v] (vd (varT v).d) [] := by
 refine Fn.body Tryz.func30 rfl 9 rfl fun w H B a h => ?_
 refine rSeq fam0ok 0 [] [(0, vi .i64 v), (2, vp 0 0)] [(0, .box [.d (.raw nilV), .d (.raw (.bool false)), .d (nsl [])])] (by kernel_rfl) h ?_; clear h; intro a w h
 obtain ⟨r1, er1, vr1, or1, lr1⟩ := mkZ (v := 1) (m := 2) (ZI.len_of (by have := pw2; omega))
 refine rSeq fam0ok 1 [(1, .call (Fn.cast (SOf 1 ⟨by omega, by omega⟩) (congrArg vz er1.symm)) tm_10), (3, .gen _ _ _ fun _ _ _ _ => Op.buildD (d := 6) (len := 1) (rows := [(Part.mk v r1)].map Part.d) (rs := [(5, .t (.agg ([.d (.raw (.int .i64 v))] ++ zi r1)))]) tb_9 (.cons (i := 0) (OV.tmp 5 _) (.nil)) (by kernel_rfl) rfl (by simp [Part.d]) (by decide) (by decide)), (5, .call ((show Fn _ _ _ [vd (Term.mk [Part.mk v r1] ⟨false, []⟩).d] _ _ from by rw [er1]; exact SPlain (oneT v) TOk.one (by decide) (by decide))) tm_7)] [(2, vp 0 0)] [(0, .box ([.d (.sl 3 ((varT v).parts.map Part.d))] ++ zi (varT v).k))] (by kernel_rfl) h ?_; clear h; intro a w h
 refine wp_ret ?_
 refine retS [.agg ([.d (.sl 3 ((varT v).parts.map Part.d))] ++ zi (varT v).k)] h Exit.ret (.inl rfl)  rfl ⟨RV.agg _ 0 0 _ _ _ _ tb_11 rfl rfl rfl rfl, trivial⟩ ?_ (by kernel_rfl) (by kernel_rfl)
 rfl
theorem SScale (t : Term) (q : ZI) {n L M : Nat} (ht : TOk n L t) (hn : n ≤ 1000) (hq : Lb q.abs) (lq : q.abs.length ≤ M) (hL : L + M ≤ 40000) : Fn Tryz.prog 37 [] [.t (.agg ([.d (.sl 3 (t.parts.map Part.d))] ++ zi t.k)), vz q] (vd (scaleT t q).d) [] := by
 have kt := ht.kl
 have nt := ht.len
 refine Fn.body Tryz.func37 rfl 35 rfl fun w H B a h => ?_
 refine rSeq fam0ok 0 [] [(2, vp 0 0), (3, vp 1 0), (4, vp 2 0)] [(0, .box ([.d (.sl 3 (t.parts.map Part.d))] ++ zi t.k)), (1, .box (zi q)), (2, .box [.d (.raw nilV), .d (.raw (.bool false)), .d (nsl [])])] (by kernel_rfl) h ?_; clear h; intro a w h
 obtain ⟨r1, er1, vr1, or1, lr1⟩ := mkZ (v := t.k.val * q.val) (m := t.k.abs.length + q.abs.length) (len_mul ht.kb hq)
 refine rSeq fam0ok 3 [(3, .call (Fn.cast (SMul t.k q ht.kb hq (by omega) (by omega)) (congrArg vz er1.symm)) tm_12)] [(2, vp 0 0), (3, vp 1 0), (4, vp 2 0), (5, vp 3 0)] [(0, .box ([.d (.sl 3 (t.parts.map Part.d))] ++ zi t.k)), (1, .box (zi q)), (2, .box [.d (.raw nilV), .d (.raw (.bool false)), .d (nsl [])]), (3, .box ([.d (.raw nilV)] ++ zi r1))] (by kernel_rfl) h ?_; clear h; intro a w h
 refine wp_seq ?_
 replace h := nilOLs 3 0 4 3 32 ([.d (.raw nilV)] ++ zi r1) [(2, vp 0 0), (3, vp 1 0), (4, vp 2 0), (5, vp 3 0)] [(0, .box ([.d (.sl 3 (t.parts.map Part.d))] ++ zi t.k)), (1, .box (zi q)), (2, .box [.d (.raw nilV), .d (.raw (.bool false)), .d (nsl [])]), (3, .box ([.own 4 0] ++ zi r1)), (4, .row 32 3 ([].map Part.d))] h (by kernel_rfl) rfl rfl (by kernel_rfl) (by kernel_rfl)
 refine rSeq fam0ok 5 [(2, .len (c := (.d (.sl 3 (t.parts.map Part.d)))) (n := t.parts.length) (lenC_map _ _ _))] [(3, vp 1 0), (4, vp 2 0), (5, vp 3 0), (14, .t (.c (.d (.sl 3 (t.parts.map Part.d))))), (15, vi .i64 (t.parts.length : Int)), (16, vi .i64 0)] [(1, .box (zi q)), (2, .box [.d (.raw nilV), .d (.raw (.bool false)), .d (nsl [])]), (3, .box ([.own 4 0] ++ zi r1)), (4, .row 32 3 ([].map Part.d))] (by kernel_rfl) h ?_; clear h; intro a w h
 refine wp_block ?_
 refine loopS (ι := (Nat) × (List Part)) (fun (z_ : (Nat) × (List Part)) => match z_ with | (j, out) => out = (t.parts.take j).map (fun p => Part.mk p.v (ZI.of (p.c.val * q.val))) ∧ j ≤ t.parts.length ∧ out.length ≤ j)
   (fun (z_ : (Nat) × (List Part)) => match z_ with | (j, out) => [(3, vp 1 0), (4, vp 2 0), (5, vp 3 0), (14, .t (.c (.d (.sl 3 (t.parts.map Part.d))))), (15, vi .i64 (t.parts.length : Int)), (16, vi .i64 (j : Int))])
   (fun (z_ : (Nat) × (List Part)) => match z_ with | (j, out) => [(1, .box (zi q)), (2, .box [.d (.raw nilV), .d (.raw (.bool false)), .d (nsl [])]), (3, .box ([.own 4 out.length] ++ zi r1)), (4, .row 32 3 (out.map Part.d))])
   (fun (z_ : (Nat) × (List Part)) => match z_ with | (j, out) => t.parts.length - j) (0, []) ?_ h (by kernel_rfl) (by kernel_rfl) ?_
 ·exact ⟨by simp, Nat.zero_le _, Nat.zero_le _⟩
 ·clear h; rintro ⟨j, out⟩ a w hI h
  change St _ (F.of [(3, vp 1 0), (4, vp 2 0), (5, vp 3 0), (14, .t (.c (.d (.sl 3 (t.parts.map Part.d))))), (15, vi .i64 (t.parts.length : Int)), (16, vi .i64 (j : Int))] [(1, .box (zi q)), (2, .box [.d (.raw nilV), .d (.raw (.bool false)), .d (nsl [])]), (3, .box ([.own 4 out.length] ++ zi r1)), (4, .row 32 3 (out.map Part.d))]) a w at h
  obtain ⟨hI1, hI2, hI3⟩ := hI
  refine rSeq fam0ok 5 [] [(3, vp 1 0), (4, vp 2 0), (5, vp 3 0), (14, .t (.c (.d (.sl 3 (t.parts.map Part.d))))), (15, vi .i64 (t.parts.length : Int)), (16, vi .i64 (j : Int)), (17, vb (decide ((j : Int) < (t.parts.length : Int))))] [(1, .box (zi q)), (2, .box [.d (.raw nilV), .d (.raw (.bool false)), .d (nsl [])]), (3, .box ([.own 4 out.length] ++ zi r1)), (4, .row 32 3 (out.map Part.d))] (by kernel_rfl) h ?_; clear h; intro a w h
  refine wp_seq ?_
  refine condS (decide ((j : Int) < (t.parts.length : Int))) h rfl (fun hc => ?_) (fun hc => ?_)
  ·have hc1 := hc; clear hc
   have hc1' := of_decide_eq_true hc1
   refine wp_skip ?_
   refine then_n ?_
   refine wp_seq ?_
   refine wp_block ?_
   obtain ⟨x2, hx2⟩ : ∃ z_ : Part, t.parts[j]? = some z_ := ⟨_, List.getElem?_eq_getElem (by first | omega | (simp at *; omega))⟩
   obtain ⟨ox2, lx2⟩ := ht.get hx2
   refine rSeq fam0ok 5 [(0, .gen _ _ _ fun _ _ _ _ => Op.idxD (d := 18) (t := 14) (k := .i64) ta_0 (map_at hx2 (f := Part.d)) (OV.tmp 16 _))] [(3, vp 1 0), (4, vp 2 0), (5, vp 3 0), (7, vp 5 0), (14, .t (.c (.d (.sl 3 (t.parts.map Part.d))))), (15, vi .i64 (t.parts.length : Int)), (16, vi .i64 (j : Int))] [(1, .box (zi q)), (2, .box [.d (.raw nilV), .d (.raw (.bool false)), .d (nsl [])]), (3, .box ([.own 4 out.length] ++ zi r1)), (4, .row 32 3 (out.map Part.d)), (5, .box ([.d (.raw (.int .i64 x2.v))] ++ zi x2.c))] (by kernel_rfl) h ?_; clear h; intro a w h
   obtain ⟨r3, er3, vr3, or3, lr3⟩ := mkZ (v := x2.c.val * q.val) (m := x2.c.abs.length + q.abs.length) (len_mul ox2 hq)
   refine rS fam0ok 6 [(7, .call (Fn.cast (SMul x2.c q ox2 hq (by omega) (by omega)) (congrArg vz er3.symm)) tm_12), (9, .gen _ _ _ fun _ _ _ _ => Op.buildD (d := 29) (len := 1) (rows := [(Part.mk x2.v r3)].map Part.d) (rs := [(28, .t (.agg ([.d (.raw (.int .i64 x2.v))] ++ zi r3)))]) tb_9 (.cons (i := 0) (OV.tmp 28 _) (.nil)) (by kernel_rfl) rfl (by simp [Part.d]) (by decide) (by decide)), (10, .gen _ _ _ fun _ _ _ _ => Op.appOD (d := 30) (t := 21) (u := 29) (n := 4) (n' := 6) (len := out.length) (len' := (out ++ [(Part.mk x2.v r3)]).length) (rows := out.map Part.d) (rows2 := [(Part.mk x2.v r3)].map Part.d) (rows' := (out ++ [(Part.mk x2.v r3)]).map Part.d) tb_10 (by first | exact (List.length_map _).symm | simp) (by first | (rw [List.length_append, List.length_map]; done) | simp) (by simp) (by simp [Part.d]) (by first | omega | (simp at *; done) | (simp at *; omega)))] [(3, vp 1 0), (4, vp 2 0), (5, vp 3 0), (14, .t (.c (.d (.sl 3 (t.parts.map Part.d))))), (15, vi .i64 (t.parts.length : Int)), (16, vi .i64 (j : Int))] [(1, .box (zi q)), (2, .box [.d (.raw nilV), .d (.raw (.bool false)), .d (nsl [])]), (3, .box ([.own 6 (out ++ [(Part.mk x2.v r3)]).length] ++ zi r1)), (6, .row 32 3 ((out ++ [(Part.mk x2.v r3)]).map Part.d))] (by kernel_rfl) h ?_; clear h; intro a w h
   refine block_n ?_
   refine then_n ?_
   refine rS fam0ok 7 [(0, .add .i64 (m := (j : Int)) (n := 1) (i64_id (by omega) (by omega)))] [(3, vp 1 0), (4, vp 2 0), (5, vp 3 0), (14, .t (.c (.d (.sl 3 (t.parts.map Part.d))))), (15, vi .i64 (t.parts.length : Int)), (16, vi .i64 ((j : Int) + 1))] [(1, .box (zi q)), (2, .box [.d (.raw nilV), .d (.raw (.bool false)), .d (nsl [])]), (3, .box ([.own 6 (out ++ [(Part.mk x2.v r3)]).length] ++ zi r1)), (6, .row 32 3 ((out ++ [(Part.mk x2.v r3)]).map Part.d))] (by kernel_rfl) h ?_; clear h; intro a w h
   refine then_n ?_
   replace h := renS 6 4 [(3, vp 1 0), (4, vp 2 0), (5, vp 3 0), (14, .t (.c (.d (.sl 3 (t.parts.map Part.d))))), (15, vi .i64 (t.parts.length : Int)), (16, vi .i64 ((j : Int) + 1))] [(1, .box (zi q)), (2, .box [.d (.raw nilV), .d (.raw (.bool false)), .d (nsl [])]), (3, .box ([.own 4 (out ++ [(Part.mk x2.v r3)]).length] ++ zi r1)), (4, .row 32 3 ((out ++ [(Part.mk x2.v r3)]).map Part.d))] h (by kernel_rfl) (by kernel_rfl) (by kernel_rfl)
   refine roundS (x := (j, out)) (y := (j + 1, (out ++ [(Part.mk x2.v r3)]))) h ?_ ?_ (by kernel_rfl) (by kernel_rfl)
   ·refine ⟨?_, by have := at_lt hx2; omega, by simp; omega⟩
    rw [take_map hx2, ← hI1, er3]
   ·simp; omega
  ·have hc2 := hc; clear hc
   have hc2' := of_decide_eq_false hc2
   refine wp_exit ?_
   refine then_x ?_
   refine then_x ?_
   refine inBlock_exit ?_
   refine then_n ?_
   have hj : j = t.parts.length := by have := hc2'; omega
   rw [hj, List.take_length] at hI1
   have hq2 : Term.mk out r1 = mulT t q := by rw [hI1, er1]; first | done | rfl
   replace h := pubS 4 3 32 (out.map Part.d) [(3, vp 1 0), (4, vp 2 0), (5, vp 3 0), (14, .t (.c (.d (.sl 3 (t.parts.map Part.d))))), (15, vi .i64 (t.parts.length : Int)), (16, vi .i64 (j : Int)), (17, vb (decide ((j : Int) < (t.parts.length : Int))))] [(1, .box (zi q)), (2, .box [.d (.raw nilV), .d (.raw (.bool false)), .d (nsl [])]), (3, .box ([.d (.sl 3 (out.map Part.d))] ++ zi r1))] h rfl trivial (show AllEq _ [out.length] from ⟨by first | exact (List.length_map _).symm | simp, trivial⟩) (by kernel_rfl) (by kernel_rfl)
   refine rSeq fam0ok 7 [(1, .call ((show Fn _ _ _ [vd (Term.mk out r1).d] _ _ from by rw [hq2]; exact SPlain (mulT t q) (TOk.mul ht hq lq) (by omega) (by omega))) tm_7)] [(4, vp 2 0)] [(2, .box ([.d (.sl 3 ((scaleT t q).parts.map Part.d))] ++ zi (scaleT t q).k))] (by kernel_rfl) h ?_; clear h; intro a w h
   refine wp_ret ?_
   refine retS [.agg ([.d (.sl 3 ((scaleT t q).parts.map Part.d))] ++ zi (scaleT t q).k)] h Exit.ret (.inl rfl)  rfl ⟨RV.agg _ 2 0 _ _ _ _ tb_11 rfl rfl rfl rfl, trivial⟩ ?_ (by kernel_rfl) (by kernel_rfl)
   rfl
theorem SNeg3 (t : Term) (ht : TOk 400 10000 t) : Fn Tryz.prog 39 [] [.t (.agg ([.d (.sl 3 (t.parts.map Part.d))] ++ zi t.k))] (vd (negT t).d) [] := by
 refine Fn.body Tryz.func39 rfl 6 rfl fun w H B a h => ?_
 refine rSeq fam0ok 0 [] [(1, vp 0 0), (2, vp 1 0)] [(0, .box ([.d (.sl 3 (t.parts.map Part.d))] ++ zi t.k)), (1, .box [.d (.raw nilV), .d (.raw (.bool false)), .d (nsl [])])] (by kernel_rfl) h ?_; clear h; intro a w h
 obtain ⟨r1, er1, vr1, or1, lr1⟩ := mkZ (v := (-1)) (m := 2) (ZI.len_of (by have := pw2; omega))
 refine rSeq fam0ok 2 [(1, .call (Fn.cast (SOf (-1) ⟨by omega, by omega⟩) (congrArg vz er1.symm)) tm_10), (2, .call (SScale t r1 ht (by decide) or1 lr1 (by decide)) tm_13)] [(2, vp 1 0)] [(1, .box ([.d (.sl 3 ((scaleT t r1).parts.map Part.d))] ++ zi (scaleT t r1).k))] (by kernel_rfl) h ?_; clear h; intro a w h
 refine wp_ret ?_
 refine retS [.agg ([.d (.sl 3 ((scaleT t r1).parts.map Part.d))] ++ zi (scaleT t r1).k)] h Exit.ret (.inl rfl)  rfl ⟨RV.agg _ 1 0 _ _ _ _ tb_11 rfl rfl rfl rfl, trivial⟩ ?_ (by kernel_rfl) (by kernel_rfl)
 rw [er1]; first | done | rfl
theorem STSub (s t : Term) (hs : TOk 400 10000 s) (ht : TOk 400 10000 t) : Fn Tryz.prog 35 [] [.t (.agg ([.d (.sl 3 (s.parts.map Part.d))] ++ zi s.k)), .t (.agg ([.d (.sl 3 (t.parts.map Part.d))] ++ zi t.k))] (vd (subT s t).d) [] := by
 refine Fn.body Tryz.func35 rfl 9 rfl fun w H B a h => ?_
 refine rSeq fam0ok 0 [] [(2, vp 0 0), (3, vp 1 0), (4, vp 2 0)] [(0, .box ([.d (.sl 3 (s.parts.map Part.d))] ++ zi s.k)), (1, .box ([.d (.sl 3 (t.parts.map Part.d))] ++ zi t.k)), (2, .box [.d (.raw nilV), .d (.raw (.bool false)), .d (nsl [])])] (by kernel_rfl) h ?_; clear h; intro a w h
 refine rSeq fam0ok 3 [(2, .call (SNeg3 t (ht.mono (by decide) (by decide))) tm_14), (3, .call (STAdd s (negT t) (hs.mono (by decide) (by decide)) (((TOk.mul ht (ZI.lb_of _) (show (ZI.of (-1)).abs.length ≤ 2 from by decide)).plain (by decide)).mono (by decide) (by decide))) tm_15)] [(4, vp 2 0)] [(2, .box ([.d (.sl 3 ((addT s (negT t)).parts.map Part.d))] ++ zi (addT s (negT t)).k))] (by kernel_rfl) h ?_; clear h; intro a w h
 refine wp_ret ?_
 refine retS [.agg ([.d (.sl 3 ((addT s (negT t)).parts.map Part.d))] ++ zi (addT s (negT t)).k)] h Exit.ret (.inl rfl)  rfl ⟨RV.agg _ 2 0 _ _ _ _ tb_11 rfl rfl rfl rfl, trivial⟩ ?_ (by kernel_rfl) (by kernel_rfl)
 rfl
end Go.Proofs.YtekhnajfdaknnaaGreatDoor.S
end
section
namespace Go.Proofs.YtekhnajfdaknnaaGreatDoor.S
open Go.RowKit

theorem tn_1 : SlT Tryz.prog 93 2 1 := SlT.mk' Tryz.underlying93 (by kernel_rfl)
theorem tn_5 : Bodied Tryz.prog 65 := Bodied.mk' (by kernel_rfl)
theorem tn_7 : SlT Tryz.prog 59 28 3 := SlT.mk' Tryz.underlying59 (by kernel_rfl)
theorem plainT_eq {t u : Term} (h1 : SR u.parts) (h2 : ∀ q ∈ u.parts, 0 ≤ q.v ∧ q.c = ZI.of q.c.val ∧ q.c.val ≠ 0) (h3 : ∀ v, coefZ t.parts v = coefZ u.parts v) (h4 : u.k = ZI.of t.k.val) : plainT t = u := by
 obtain ⟨v1, v2⟩ := varsZ_ok t.parts
 have hp : (varsZ t.parts).map (partOf t.parts) = u.parts := by
  refine SR.unique (List.pairwise_map.2 v1) h1 (fun q hq => ?_) h2 fun v => ?_
  ·obtain ⟨v, hv, rfl⟩ := List.mem_map.1 hq
   have hv := (v2 v).1 hv
   exact ⟨(coefZ_some hv).1, by simp [partOf, ZI.val_of], by simpa [partOf, ZI.val_of] using hv⟩
  ·rw [← h3 v]
   by_cases hv : 0 ≤ v
   ·rw [coefZ_map t.parts v hv v1]
    by_cases h : v ∈ varsZ t.parts
    ·rw [if_pos h]
    ·rw [if_neg h]; exact (Classical.byContradiction fun e => h ((v2 v).2 fun e2 => e e2.symm))
   ·have z1 : coefZ t.parts v = 0 := Classical.byContradiction fun e => hv (coefZ_some e).1
    have z2 : coefZ ((varsZ t.parts).map (partOf t.parts)) v = 0 := Classical.byContradiction fun e => hv (coefZ_some e).1
    rw [z1, z2]
 cases u with
 | mk ps k =>
  simp only at hp h4
  unfold plainT
  rw [h4, ← hp]; rfl
theorem plainT_parts (t : Term) : SR (plainT t).parts ∧ (∀ q ∈ (plainT t).parts, 0 ≤ q.v ∧ q.c = ZI.of q.c.val ∧ q.c.val ≠ 0) ∧ ∀ v, coefZ (plainT t).parts v = coefZ t.parts v := by
 obtain ⟨v1, v2⟩ := varsZ_ok t.parts
 refine ⟨List.pairwise_map.2 v1, fun q hq => ?_, fun v => ?_⟩
 ·obtain ⟨v, hv, rfl⟩ := List.mem_map.1 hq
  have hv := (v2 v).1 hv
  exact ⟨(coefZ_some hv).1, by simp [ZI.val_of], by simpa [ZI.val_of] using hv⟩
 ·show coefZ ((varsZ t.parts).map (partOf t.parts)) v = _
  by_cases hv : 0 ≤ v
  ·rw [coefZ_map t.parts v hv v1]
   by_cases h : v ∈ varsZ t.parts
   ·rw [if_pos h]
   ·rw [if_neg h]; exact (Classical.byContradiction fun e => h ((v2 v).2 fun e2 => e e2.symm))
  ·have z1 : coefZ t.parts v = 0 := Classical.byContradiction fun e => hv (coefZ_some e).1
   have z2 : coefZ ((varsZ t.parts).map (partOf t.parts)) v = 0 := Classical.byContradiction fun e => hv (coefZ_some e).1
   rw [z1, z2]
theorem plain_idem (t : Term) : plainT (plainT t) = plainT t := by
 obtain ⟨h1, h2, h3⟩ := plainT_parts t
 refine plainT_eq h1 h2 (fun v => rfl) ?_
 simp [plainT, ZI.val_of]
theorem plain_num (k : ZI) : plainT (numT k) = numT k := by simp [plainT, numT, varsZ, ZI.val_of]
def ofP : List Int → Nat → List Part
  | [], _ => []
  | c :: cs, i => ⟨(i : Int), ZI.of c⟩ :: ofP cs (i + 1)
def ofT (k : Int) (cs : List Int) : Term := ⟨ofP cs 0, ZI.of k⟩
theorem ofP_app (c : Int) : ∀ (cs : List Int) (i : Nat), ofP (cs ++ [c]) i = ofP cs i ++ [⟨((i + cs.length : Nat) : Int), ZI.of c⟩]
 | [], i => rfl
 | d :: cs, i => by simp only [List.cons_append, ofP, ofP_app c cs (i + 1), List.length_cons]; rw [show i + 1 + cs.length = i + (cs.length + 1) by omega]
theorem ofP_take {cs : List Int} {j : Nat} {c : Int} (h : cs[j]? = some c) : ofP (cs.take (j + 1)) 0 = ofP (cs.take j) 0 ++ [⟨(j : Int), ZI.of c⟩] := by
 have hj := at_lt h
 have : cs.take (j + 1) = cs.take j ++ [c] := by rw [List.take_add_one, h]; rfl
 rw [this, ofP_app, List.length_take, Nat.min_eq_left (by omega), Nat.zero_add]
theorem SofD (k : Int) (cs : List Int) (hk : -1000 ≤ k ∧ k ≤ 1000) (hc : ∀ c ∈ cs, -1000 ≤ c ∧ c ≤ 1000) (hl : cs.length ≤ 1000) : Fn Tryz.prog 45 [] [vi .i64 k, .t (.c (.d (.sl 1 (cs.map intD))))] (vd (ofT k cs).d) [] := by
 refine Fn.body Tryz.func45 rfl 29 rfl fun w H B a h => ?_
 refine rSeq fam0ok 5 [] [(0, vi .i64 k), (1, .t (.c (.d (.sl 1 (cs.map intD))))), (4, vp 5 0)] [(5, .box [.d (.raw nilV), .d (.raw (.bool false)), .d (nsl [])])] (by kernel_rfl) h ?_; clear h; intro a w h
 obtain ⟨r1, er1, vr1, or1, lr1⟩ := mkZ (v := k) (m := 2) (ZI.len_of (by have := pw2; omega))
 refine rSeq fam0ok 6 [(1, .call (Fn.cast (SROf k ⟨by omega, by omega⟩) (congrArg vz er1.symm)) tc_0)] [(1, .t (.c (.d (.sl 1 (cs.map intD))))), (4, vp 5 0), (5, vp 6 0)] [(5, .box [.d (.raw nilV), .d (.raw (.bool false)), .d (nsl [])]), (6, .box ([.d (.raw nilV)] ++ zi r1))] (by kernel_rfl) h ?_; clear h; intro a w h
 refine wp_seq ?_
 replace h := nilOLs 6 0 7 3 32 ([.d (.raw nilV)] ++ zi r1) [(1, .t (.c (.d (.sl 1 (cs.map intD))))), (4, vp 5 0), (5, vp 6 0)] [(5, .box [.d (.raw nilV), .d (.raw (.bool false)), .d (nsl [])]), (6, .box ([.own 7 0] ++ zi r1)), (7, .row 32 3 ([].map Part.d))] h (by kernel_rfl) rfl rfl (by kernel_rfl) (by kernel_rfl)
 refine rSeq fam0ok 8 [(1, .len (c := (.d (.sl 1 (cs.map intD)))) (n := cs.length) (lenC_map _ _ _))] [(4, vp 5 0), (5, vp 6 0), (11, .t (.c (.d (.sl 1 (cs.map intD))))), (12, vi .i64 (cs.length : Int)), (13, vi .i64 0)] [(5, .box [.d (.raw nilV), .d (.raw (.bool false)), .d (nsl [])]), (6, .box ([.own 7 0] ++ zi r1)), (7, .row 32 3 ([].map Part.d))] (by kernel_rfl) h ?_; clear h; intro a w h
 refine wp_block ?_
 refine loopS (ι := (Nat) × (List Part)) (fun (z_ : (Nat) × (List Part)) => match z_ with | (j, out) => out = ofP (cs.take j) 0 ∧ j ≤ cs.length ∧ out.length ≤ j)
   (fun (z_ : (Nat) × (List Part)) => match z_ with | (j, out) => [(4, vp 5 0), (5, vp 6 0), (11, .t (.c (.d (.sl 1 (cs.map intD))))), (12, vi .i64 (cs.length : Int)), (13, vi .i64 (j : Int))])
   (fun (z_ : (Nat) × (List Part)) => match z_ with | (j, out) => [(5, .box [.d (.raw nilV), .d (.raw (.bool false)), .d (nsl [])]), (6, .box ([.own 7 out.length] ++ zi r1)), (7, .row 32 3 (out.map Part.d))])
   (fun (z_ : (Nat) × (List Part)) => match z_ with | (j, out) => cs.length - j) (0, []) ?_ h (by kernel_rfl) (by kernel_rfl) ?_
 ·exact ⟨by simp [ofP], Nat.zero_le _, Nat.zero_le _⟩
 ·clear h; rintro ⟨j, out⟩ a w hI h
  change St _ (F.of [(4, vp 5 0), (5, vp 6 0), (11, .t (.c (.d (.sl 1 (cs.map intD))))), (12, vi .i64 (cs.length : Int)), (13, vi .i64 (j : Int))] [(5, .box [.d (.raw nilV), .d (.raw (.bool false)), .d (nsl [])]), (6, .box ([.own 7 out.length] ++ zi r1)), (7, .row 32 3 (out.map Part.d))]) a w at h
  obtain ⟨hI1, hI2, hI3⟩ := hI
  refine rSeq fam0ok 8 [] [(4, vp 5 0), (5, vp 6 0), (11, .t (.c (.d (.sl 1 (cs.map intD))))), (12, vi .i64 (cs.length : Int)), (13, vi .i64 (j : Int)), (14, vb (decide ((j : Int) < (cs.length : Int))))] [(5, .box [.d (.raw nilV), .d (.raw (.bool false)), .d (nsl [])]), (6, .box ([.own 7 out.length] ++ zi r1)), (7, .row 32 3 (out.map Part.d))] (by kernel_rfl) h ?_; clear h; intro a w h
  refine wp_seq ?_
  refine condS (decide ((j : Int) < (cs.length : Int))) h rfl (fun hc => ?_) (fun hc => ?_)
  ·have hc1 := hc; clear hc
   have hc1' := of_decide_eq_true hc1
   refine wp_skip ?_
   refine then_n ?_
   refine wp_seq ?_
   refine wp_block ?_
   obtain ⟨x2, hx2⟩ : ∃ z_ : Int, cs[j]? = some z_ := ⟨_, List.getElem?_eq_getElem (by first | omega | (simp at *; omega))⟩
   have bx2 := hc x2 (List.mem_of_getElem? hx2)
   refine rSeq fam0ok 8 [(1, .gen _ _ _ fun _ _ _ _ => Op.idxD (d := 16) (t := 11) (k := .i64) tn_1 (map_at hx2 (f := intD)) (OV.tmp 13 _))] [(4, vp 5 0), (5, vp 6 0), (6, vi .i64 (j : Int)), (7, vi .i64 x2), (11, .t (.c (.d (.sl 1 (cs.map intD))))), (12, vi .i64 (cs.length : Int)), (13, vi .i64 (j : Int))] [(5, .box [.d (.raw nilV), .d (.raw (.bool false)), .d (nsl [])]), (6, .box ([.own 7 out.length] ++ zi r1)), (7, .row 32 3 (out.map Part.d))] (by kernel_rfl) h ?_; clear h; intro a w h
   obtain ⟨r3, er3, vr3, or3, lr3⟩ := mkZ (v := x2) (m := 2) (ZI.len_of (by have := pw2; omega))
   refine rS fam0ok 8 [(4, .call (Fn.cast (SROf x2 ⟨by omega, by omega⟩) (congrArg vz er3.symm)) tc_0), (6, .gen _ _ _ fun _ _ _ _ => Op.buildD (d := 24) (len := 1) (rows := [(Part.mk (j : Int) r3)].map Part.d) (rs := [(23, .t (.agg ([.d (.raw (.int .i64 (j : Int)))] ++ zi r3)))]) tb_9 (.cons (i := 0) (OV.tmp 23 _) (.nil)) (by kernel_rfl) rfl (by simp [Part.d]) (by decide) (by decide)), (7, .gen _ _ _ fun _ _ _ _ => Op.appOD (d := 25) (t := 19) (u := 24) (n := 7) (n' := 8) (len := out.length) (len' := (out ++ [(Part.mk (j : Int) r3)]).length) (rows := out.map Part.d) (rows2 := [(Part.mk (j : Int) r3)].map Part.d) (rows' := (out ++ [(Part.mk (j : Int) r3)]).map Part.d) tb_10 (by first | exact (List.length_map _).symm | simp) (by first | (rw [List.length_append, List.length_map]; done) | simp) (by simp) (by simp [Part.d]) (by first | omega | (simp at *; done) | (simp at *; omega)))] [(4, vp 5 0), (5, vp 6 0), (11, .t (.c (.d (.sl 1 (cs.map intD))))), (12, vi .i64 (cs.length : Int)), (13, vi .i64 (j : Int))] [(5, .box [.d (.raw nilV), .d (.raw (.bool false)), .d (nsl [])]), (6, .box ([.own 8 (out ++ [(Part.mk (j : Int) r3)]).length] ++ zi r1)), (8, .row 32 3 ((out ++ [(Part.mk (j : Int) r3)]).map Part.d))] (by kernel_rfl) h ?_; clear h; intro a w h
   refine block_n ?_
   refine then_n ?_
   refine rS fam0ok 9 [(0, .add .i64 (m := (j : Int)) (n := 1) (i64_id (by omega) (by omega)))] [(4, vp 5 0), (5, vp 6 0), (11, .t (.c (.d (.sl 1 (cs.map intD))))), (12, vi .i64 (cs.length : Int)), (13, vi .i64 ((j : Int) + 1))] [(5, .box [.d (.raw nilV), .d (.raw (.bool false)), .d (nsl [])]), (6, .box ([.own 8 (out ++ [(Part.mk (j : Int) r3)]).length] ++ zi r1)), (8, .row 32 3 ((out ++ [(Part.mk (j : Int) r3)]).map Part.d))] (by kernel_rfl) h ?_; clear h; intro a w h
   refine then_n ?_
   replace h := renS 8 7 [(4, vp 5 0), (5, vp 6 0), (11, .t (.c (.d (.sl 1 (cs.map intD))))), (12, vi .i64 (cs.length : Int)), (13, vi .i64 ((j : Int) + 1))] [(5, .box [.d (.raw nilV), .d (.raw (.bool false)), .d (nsl [])]), (6, .box ([.own 7 (out ++ [(Part.mk (j : Int) r3)]).length] ++ zi r1)), (7, .row 32 3 ((out ++ [(Part.mk (j : Int) r3)]).map Part.d))] h (by kernel_rfl) (by kernel_rfl) (by kernel_rfl)
   refine roundS (x := (j, out)) (y := ((j + 1), (out ++ [(Part.mk (j : Int) r3)]))) h ?_ ?_ (by kernel_rfl) (by kernel_rfl)
   ·exact ⟨by rw [ofP_take hx2, ← hI1, er3], by have := at_lt hx2; omega, by rw [List.length_append]; simp only [List.length_cons, List.length_nil]; omega⟩
   ·show cs.length - (j + 1) < cs.length - j
    have := at_lt hx2; omega
  ·have hc2 := hc; clear hc
   have hc2' := of_decide_eq_false hc2
   refine wp_exit ?_
   refine then_x ?_
   refine then_x ?_
   refine inBlock_exit ?_
   refine then_n ?_
   refine rSeq fam0ok 9 [] [(4, vp 5 0)] [(5, .box ([.own 7 out.length] ++ zi r1)), (7, .row 32 3 (out.map Part.d))] (by kernel_rfl) h ?_; clear h; intro a w h
   refine wp_ret ?_
   replace h := pubS 7 3 32 (out.map Part.d) [(4, vp 5 0)] [(5, .box ([.d (.sl 3 (out.map Part.d))] ++ zi r1))] h rfl trivial (show AllEq _ [out.length] from ⟨by first | exact (List.length_map _).symm | simp, trivial⟩) (by kernel_rfl) (by kernel_rfl)
   refine retS [.agg ([.d (.sl 3 (out.map Part.d))] ++ zi r1)] h Exit.ret (.inl rfl)  rfl ⟨RV.agg _ 5 0 _ _ _ _ tb_11 rfl rfl rfl rfl, trivial⟩ ?_ (by kernel_rfl) (by kernel_rfl)
   have hj : j = cs.length := by omega
   subst hj
   rw [hI1, List.take_length, er1]; first | done | rfl
theorem SofO (k : Int) (cs : List Int) (hk : -1000 ≤ k ∧ k ≤ 1000) (hc : ∀ c ∈ cs, -1000 ≤ c ∧ c ≤ 1000) (hl : cs.length ≤ 1000) : Fn Tryz.prog 45 [] [vi .i64 k, .t (.c (.d (.sl 1 (cs.map intD))))] (.t (.agg ([.own 0 (ofP cs 0).length] ++ zi (ZI.of k)))) [(0, .row 32 3 ((ofP cs 0).map Part.d))] := by
 refine Fn.body Tryz.func45 rfl 29 rfl fun w H B a h => ?_
 refine rSeq fam0ok 5 [] [(0, vi .i64 k), (1, .t (.c (.d (.sl 1 (cs.map intD))))), (4, vp 5 0)] [(5, .box [.d (.raw nilV), .d (.raw (.bool false)), .d (nsl [])])] (by kernel_rfl) h ?_; clear h; intro a w h
 obtain ⟨r1, er1, vr1, or1, lr1⟩ := mkZ (v := k) (m := 2) (ZI.len_of (by have := pw2; omega))
 refine rSeq fam0ok 6 [(1, .call (Fn.cast (SROf k ⟨by omega, by omega⟩) (congrArg vz er1.symm)) tc_0)] [(1, .t (.c (.d (.sl 1 (cs.map intD))))), (4, vp 5 0), (5, vp 6 0)] [(5, .box [.d (.raw nilV), .d (.raw (.bool false)), .d (nsl [])]), (6, .box ([.d (.raw nilV)] ++ zi r1))] (by kernel_rfl) h ?_; clear h; intro a w h
 refine wp_seq ?_
 replace h := nilOLs 6 0 7 3 32 ([.d (.raw nilV)] ++ zi r1) [(1, .t (.c (.d (.sl 1 (cs.map intD))))), (4, vp 5 0), (5, vp 6 0)] [(5, .box [.d (.raw nilV), .d (.raw (.bool false)), .d (nsl [])]), (6, .box ([.own 7 0] ++ zi r1)), (7, .row 32 3 ([].map Part.d))] h (by kernel_rfl) rfl rfl (by kernel_rfl) (by kernel_rfl)
 refine rSeq fam0ok 8 [(1, .len (c := (.d (.sl 1 (cs.map intD)))) (n := cs.length) (lenC_map _ _ _))] [(4, vp 5 0), (5, vp 6 0), (11, .t (.c (.d (.sl 1 (cs.map intD))))), (12, vi .i64 (cs.length : Int)), (13, vi .i64 0)] [(5, .box [.d (.raw nilV), .d (.raw (.bool false)), .d (nsl [])]), (6, .box ([.own 7 0] ++ zi r1)), (7, .row 32 3 ([].map Part.d))] (by kernel_rfl) h ?_; clear h; intro a w h
 refine wp_block ?_
 refine loopS (ι := (Nat) × (List Part)) (fun (z_ : (Nat) × (List Part)) => match z_ with | (j, out) => out = ofP (cs.take j) 0 ∧ j ≤ cs.length ∧ out.length ≤ j)
   (fun (z_ : (Nat) × (List Part)) => match z_ with | (j, out) => [(4, vp 5 0), (5, vp 6 0), (11, .t (.c (.d (.sl 1 (cs.map intD))))), (12, vi .i64 (cs.length : Int)), (13, vi .i64 (j : Int))])
   (fun (z_ : (Nat) × (List Part)) => match z_ with | (j, out) => [(5, .box [.d (.raw nilV), .d (.raw (.bool false)), .d (nsl [])]), (6, .box ([.own 7 out.length] ++ zi r1)), (7, .row 32 3 (out.map Part.d))])
   (fun (z_ : (Nat) × (List Part)) => match z_ with | (j, out) => cs.length - j) (0, []) ?_ h (by kernel_rfl) (by kernel_rfl) ?_
 ·exact ⟨by simp [ofP], Nat.zero_le _, Nat.zero_le _⟩
 ·clear h; rintro ⟨j, out⟩ a w hI h
  change St _ (F.of [(4, vp 5 0), (5, vp 6 0), (11, .t (.c (.d (.sl 1 (cs.map intD))))), (12, vi .i64 (cs.length : Int)), (13, vi .i64 (j : Int))] [(5, .box [.d (.raw nilV), .d (.raw (.bool false)), .d (nsl [])]), (6, .box ([.own 7 out.length] ++ zi r1)), (7, .row 32 3 (out.map Part.d))]) a w at h
  obtain ⟨hI1, hI2, hI3⟩ := hI
  refine rSeq fam0ok 8 [] [(4, vp 5 0), (5, vp 6 0), (11, .t (.c (.d (.sl 1 (cs.map intD))))), (12, vi .i64 (cs.length : Int)), (13, vi .i64 (j : Int)), (14, vb (decide ((j : Int) < (cs.length : Int))))] [(5, .box [.d (.raw nilV), .d (.raw (.bool false)), .d (nsl [])]), (6, .box ([.own 7 out.length] ++ zi r1)), (7, .row 32 3 (out.map Part.d))] (by kernel_rfl) h ?_; clear h; intro a w h
  refine wp_seq ?_
  refine condS (decide ((j : Int) < (cs.length : Int))) h rfl (fun hc => ?_) (fun hc => ?_)
  ·have hc1 := hc; clear hc
   have hc1' := of_decide_eq_true hc1
   refine wp_skip ?_
   refine then_n ?_
   refine wp_seq ?_
   refine wp_block ?_
   obtain ⟨x2, hx2⟩ : ∃ z_ : Int, cs[j]? = some z_ := ⟨_, List.getElem?_eq_getElem (by first | omega | (simp at *; omega))⟩
   have bx2 := hc x2 (List.mem_of_getElem? hx2)
   refine rSeq fam0ok 8 [(1, .gen _ _ _ fun _ _ _ _ => Op.idxD (d := 16) (t := 11) (k := .i64) tn_1 (map_at hx2 (f := intD)) (OV.tmp 13 _))] [(4, vp 5 0), (5, vp 6 0), (6, vi .i64 (j : Int)), (7, vi .i64 x2), (11, .t (.c (.d (.sl 1 (cs.map intD))))), (12, vi .i64 (cs.length : Int)), (13, vi .i64 (j : Int))] [(5, .box [.d (.raw nilV), .d (.raw (.bool false)), .d (nsl [])]), (6, .box ([.own 7 out.length] ++ zi r1)), (7, .row 32 3 (out.map Part.d))] (by kernel_rfl) h ?_; clear h; intro a w h
   obtain ⟨r3, er3, vr3, or3, lr3⟩ := mkZ (v := x2) (m := 2) (ZI.len_of (by have := pw2; omega))
   refine rS fam0ok 8 [(4, .call (Fn.cast (SROf x2 ⟨by omega, by omega⟩) (congrArg vz er3.symm)) tc_0), (6, .gen _ _ _ fun _ _ _ _ => Op.buildD (d := 24) (len := 1) (rows := [(Part.mk (j : Int) r3)].map Part.d) (rs := [(23, .t (.agg ([.d (.raw (.int .i64 (j : Int)))] ++ zi r3)))]) tb_9 (.cons (i := 0) (OV.tmp 23 _) (.nil)) (by kernel_rfl) rfl (by simp [Part.d]) (by decide) (by decide)), (7, .gen _ _ _ fun _ _ _ _ => Op.appOD (d := 25) (t := 19) (u := 24) (n := 7) (n' := 8) (len := out.length) (len' := (out ++ [(Part.mk (j : Int) r3)]).length) (rows := out.map Part.d) (rows2 := [(Part.mk (j : Int) r3)].map Part.d) (rows' := (out ++ [(Part.mk (j : Int) r3)]).map Part.d) tb_10 (by first | exact (List.length_map _).symm | simp) (by first | (rw [List.length_append, List.length_map]; done) | simp) (by simp) (by simp [Part.d]) (by first | omega | (simp at *; done) | (simp at *; omega)))] [(4, vp 5 0), (5, vp 6 0), (11, .t (.c (.d (.sl 1 (cs.map intD))))), (12, vi .i64 (cs.length : Int)), (13, vi .i64 (j : Int))] [(5, .box [.d (.raw nilV), .d (.raw (.bool false)), .d (nsl [])]), (6, .box ([.own 8 (out ++ [(Part.mk (j : Int) r3)]).length] ++ zi r1)), (8, .row 32 3 ((out ++ [(Part.mk (j : Int) r3)]).map Part.d))] (by kernel_rfl) h ?_; clear h; intro a w h
   refine block_n ?_
   refine then_n ?_
   refine rS fam0ok 9 [(0, .add .i64 (m := (j : Int)) (n := 1) (i64_id (by omega) (by omega)))] [(4, vp 5 0), (5, vp 6 0), (11, .t (.c (.d (.sl 1 (cs.map intD))))), (12, vi .i64 (cs.length : Int)), (13, vi .i64 ((j : Int) + 1))] [(5, .box [.d (.raw nilV), .d (.raw (.bool false)), .d (nsl [])]), (6, .box ([.own 8 (out ++ [(Part.mk (j : Int) r3)]).length] ++ zi r1)), (8, .row 32 3 ((out ++ [(Part.mk (j : Int) r3)]).map Part.d))] (by kernel_rfl) h ?_; clear h; intro a w h
   refine then_n ?_
   replace h := renS 8 7 [(4, vp 5 0), (5, vp 6 0), (11, .t (.c (.d (.sl 1 (cs.map intD))))), (12, vi .i64 (cs.length : Int)), (13, vi .i64 ((j : Int) + 1))] [(5, .box [.d (.raw nilV), .d (.raw (.bool false)), .d (nsl [])]), (6, .box ([.own 7 (out ++ [(Part.mk (j : Int) r3)]).length] ++ zi r1)), (7, .row 32 3 ((out ++ [(Part.mk (j : Int) r3)]).map Part.d))] h (by kernel_rfl) (by kernel_rfl) (by kernel_rfl)
   refine roundS (x := (j, out)) (y := ((j + 1), (out ++ [(Part.mk (j : Int) r3)]))) h ?_ ?_ (by kernel_rfl) (by kernel_rfl)
   ·exact ⟨by rw [ofP_take hx2, ← hI1, er3], by have := at_lt hx2; omega, by rw [List.length_append]; simp only [List.length_cons, List.length_nil]; omega⟩
   ·show cs.length - (j + 1) < cs.length - j
    have := at_lt hx2; omega
  ·have hc2 := hc; clear hc
   have hc2' := of_decide_eq_false hc2
   refine wp_exit ?_
   refine then_x ?_
   refine then_x ?_
   refine inBlock_exit ?_
   refine then_n ?_
   refine rSeq fam0ok 9 [] [(4, vp 5 0)] [(5, .box ([.own 7 out.length] ++ zi r1)), (7, .row 32 3 (out.map Part.d))] (by kernel_rfl) h ?_; clear h; intro a w h
   refine wp_ret ?_
   have hj : j = cs.length := by omega
   subst hj
   have ho : out = ofP cs 0 := by rw [hI1, List.take_length]
   replace h := h.conv (f' := F.of [(4, vp 5 0)] [(5, .box ([.own 7 (ofP cs 0).length] ++ zi r1)), (7, .row 32 3 (out.map Part.d))]) (by rw [ho])
   replace h := h.conv (f' := F.of [(4, vp 5 0)] [(5, .box ([.own 7 (ofP cs 0).length] ++ zi r1)), (7, .row 32 3 ((ofP cs 0).map Part.d))]) (congrArg (fun (z_ : List Part) => F.of [(4, vp 5 0)] [(5, .box ([.own 7 (ofP cs 0).length] ++ zi r1)), (7, .row 32 3 (z_.map Part.d))]) (show (out : List Part) = (ofP cs 0) from ho))
   replace h := renS 7 0 [(4, vp 5 0)] [(5, .box ([.own 0 (ofP cs 0).length] ++ zi r1)), (0, .row 32 3 ((ofP cs 0).map Part.d))] h (by kernel_rfl) (by kernel_rfl) (by kernel_rfl)
   refine retS [.agg ([.own 0 (ofP cs 0).length] ++ zi r1)] h Exit.ret (.inl rfl)  rfl ⟨RV.agg _ 5 0 _ _ _ _ tb_11 rfl rfl rfl rfl, trivial⟩ ?_ (by kernel_rfl) (by kernel_rfl)
   rw [er1]; first | done | rfl
theorem SofN (k : Int) (hk : -1000 ≤ k ∧ k ≤ 1000) : Fn Tryz.prog 45 [] [vi .i64 k, .t (.c (.d (.raw nilV)))] (vd (ofT k []).d) [] := by
 refine Fn.body Tryz.func45 rfl 29 rfl fun w H B a h => ?_
 refine rSeq fam0ok 0 [] [(0, vi .i64 k), (1, .t (.c (.d (.raw nilV)))), (4, vp 0 0)] [(0, .box [.d (.raw nilV), .d (.raw (.bool false)), .d (nsl [])])] (by kernel_rfl) h ?_; clear h; intro a w h
 obtain ⟨r1, er1, vr1, or1, lr1⟩ := mkZ (v := k) (m := 2) (ZI.len_of (by have := pw2; omega))
 refine rSeq fam0ok 1 [(1, .call (Fn.cast (SROf k ⟨by omega, by omega⟩) (congrArg vz er1.symm)) tc_0)] [(1, .t (.c (.d (.raw nilV)))), (4, vp 0 0), (5, vp 1 0)] [(0, .box [.d (.raw nilV), .d (.raw (.bool false)), .d (nsl [])]), (1, .box ([.d (.raw nilV)] ++ zi r1))] (by kernel_rfl) h ?_; clear h; intro a w h
 refine wp_seq ?_
 refine rSeq fam0ok 2 [] [(4, vp 0 0), (5, vp 1 0), (11, .t (.c (.d (.raw nilV)))), (12, vi .i64 0), (13, vi .i64 0)] [(0, .box [.d (.raw nilV), .d (.raw (.bool false)), .d (nsl [])]), (1, .box ([.d (.raw nilV)] ++ zi r1))] (by kernel_rfl) h ?_; clear h; intro a w h
 refine wp_block ?_
 refine loopS (ι := (Nat)) (fun (z_ : (Nat)) => match z_ with | j => j = 0)
   (fun (z_ : (Nat)) => match z_ with | j => [(4, vp 0 0), (5, vp 1 0), (11, .t (.c (.d (.raw nilV)))), (12, vi .i64 0), (13, vi .i64 (j : Int))])
   (fun (z_ : (Nat)) => match z_ with | j => [(0, .box [.d (.raw nilV), .d (.raw (.bool false)), .d (nsl [])]), (1, .box ([.d (.raw nilV)] ++ zi r1))])
   (fun (z_ : (Nat)) => match z_ with | j => 0) 0 ?_ h (by kernel_rfl) (by kernel_rfl) ?_
 ·rfl
 ·clear h; rintro j a w hI h
  change St _ (F.of [(4, vp 0 0), (5, vp 1 0), (11, .t (.c (.d (.raw nilV)))), (12, vi .i64 0), (13, vi .i64 (j : Int))] [(0, .box [.d (.raw nilV), .d (.raw (.bool false)), .d (nsl [])]), (1, .box ([.d (.raw nilV)] ++ zi r1))]) a w at h
  refine rSeq fam0ok 2 [(0, .cmp (op := .lss) (m := (j : Int)) (n := 0) (b := false) .i64 (show decide ((j : Int) < 0) = false from decide_eq_false (by omega)))] [(4, vp 0 0), (5, vp 1 0), (11, .t (.c (.d (.raw nilV)))), (12, vi .i64 0), (13, vi .i64 (j : Int)), (14, vb false)] [(0, .box [.d (.raw nilV), .d (.raw (.bool false)), .d (nsl [])]), (1, .box ([.d (.raw nilV)] ++ zi r1))] (by kernel_rfl) h ?_; clear h; intro a w h
  refine wp_seq ?_
  refine condS false h rfl (fun hc => ?_) (fun hc => ?_)
  ·cases hc
  ·clear hc
   refine wp_exit ?_
   refine then_x ?_
   refine then_x ?_
   refine inBlock_exit ?_
   refine then_n ?_
   refine rSeq fam0ok 2 [] [(4, vp 0 0)] [(0, .box ([.d (.raw nilV)] ++ zi r1))] (by kernel_rfl) h ?_; clear h; intro a w h
   refine wp_ret ?_
   replace h := nilDLs 0 0 3 ([.d (.raw nilV)] ++ zi r1) [(4, vp 0 0)] [(0, .box ([.d (.sl 3 ([].map Part.d))] ++ zi r1))] h rfl rfl (by kernel_rfl) (by kernel_rfl)
   refine retS [.agg ([.d (.sl 3 ([].map Part.d))] ++ zi r1)] h Exit.ret (.inl rfl)  rfl ⟨RV.agg _ 0 0 _ _ _ _ tb_11 rfl rfl rfl rfl, trivial⟩ ?_ (by kernel_rfl) (by kernel_rfl)
   rw [er1]; first | done | rfl
theorem ofP_len : ∀ (cs : List Int) (i : Nat), (ofP cs i).length = cs.length
 | [], _ => rfl
 | c :: cs, i => by simp [ofP, ofP_len cs]
theorem ofP_mem : ∀ {cs : List Int} {i : Nat} {p : Part}, p ∈ ofP cs i → ∃ c ∈ cs, p.c = ZI.of c
 | c :: cs, i, p, h => by
  rcases List.mem_cons.1 h with rfl | h
  ·exact ⟨c, by simp, rfl⟩
  ·obtain ⟨d, hd, e⟩ := ofP_mem h
   exact ⟨d, by simp [hd], e⟩
theorem ofT_ok (k : Int) (cs : List Int) (hk : -1000 ≤ k ∧ k ≤ 1000) (hc : ∀ c ∈ cs, -1000 ≤ c ∧ c ≤ 1000) (hl : cs.length ≤ 10) : TOk 10 10 (ofT k cs) := by
 have small : ∀ z : Int, -1000 ≤ z ∧ z ≤ 1000 → (ZI.of z).abs.length ≤ 10 := fun z hz => ZI.len_of (by have : pw 10 = 4294967296 ^ 10 := rfl; omega)
 refine ⟨by simp only [ofT]; rw [ofP_len]; exact hl, fun p hp => ?_, ZI.lb_of _, small k hk⟩
 obtain ⟨c, h1, h2⟩ := ofP_mem hp
 rw [h2]
 exact ⟨ZI.lb_of _, small c (hc c h1)⟩
theorem SLSame (t : Term) {n L : Nat} (ht : TOk n L t) (hn : n ≤ 1000) (hL : L ≤ 40000) (hp : plainT t = t) : Fn Tryz.prog 20 [] [.t (.agg ([.d (.sl 3 (t.parts.map Part.d))] ++ zi t.k)), .t (.agg ([.d (.sl 3 (t.parts.map Part.d))] ++ zi t.k))] (vb true) [] := by
 refine Fn.body Tryz.func20 rfl 14 rfl fun w H B a h => ?_
 refine rSeq fam0ok 0 [] [(2, vp 0 0), (3, vp 1 0), (4, vb false)] [(0, .box ([.d (.sl 3 (t.parts.map Part.d))] ++ zi t.k)), (1, .box ([.d (.sl 3 (t.parts.map Part.d))] ++ zi t.k))] (by kernel_rfl) h ?_; clear h; intro a w h
 refine rSeq fam0ok 2 [(2, .call (SRTSame2 (s := t) (t := t) rfl ht hn) tn_5), (6, .call (SRPlain' t ht hn hL) tc_2), (7, .call (SRTSame2 (s := t) (t := plainT t) hp.symm (hp.symm ▸ ht) hn) tn_5)] [(4, vb true)] [] (by kernel_rfl) h ?_; clear h; intro a w h
 refine wp_ret ?_
 refine retS [.c (.d (.raw (.bool true)))] h Exit.ret (.inl rfl)  rfl ⟨RV.tmp _ _ rfl, trivial⟩ ?_ (by kernel_rfl) (by kernel_rfl)
 rfl
theorem SLSame2 {s t : Term} (e : s = t) (hp : plainT t = t) {n L : Nat} (hs : TOk n L s) (hn : n ≤ 1000) (hL : L ≤ 40000) : Fn Tryz.prog 20 [] [vd s.d, vd t.d] (vb true) [] := by subst e; exact SLSame s hs hn hL hp
def Few1 (t : Term) : Prop := t.parts.length ≤ 30 ∧ t.k.abs.length ≤ 20 ∧ ∀ p ∈ t.parts, p.c.abs.length ≤ 20
theorem Sfew (ts : List Term) (b : Bool) (hb : b = true ↔ ∀ t ∈ ts, Few1 t) (hl : ts.length ≤ 9223372036854775807) : Fn Tryz.prog 9 [] [.t (.c (.d (.sl 3 (ts.map Term.d))))] (vb b) [] := by
 refine Fn.body Tryz.func9 rfl 38 rfl fun w H B a h => ?_
 refine rSeq fam0ok 0 [] [(0, .t (.c (.d (.sl 3 (ts.map Term.d))))), (2, vb false)] [] (by kernel_rfl) h ?_; clear h; intro a w h
 refine wp_seq ?_
 refine rSeq fam0ok 0 [(1, .len (c := (.d (.sl 3 (ts.map Term.d)))) (n := ts.length) (lenC_map _ _ _))] [(2, vb false), (7, .t (.c (.d (.sl 3 (ts.map Term.d))))), (8, vi .i64 (ts.length : Int)), (9, vi .i64 0)] [] (by kernel_rfl) h ?_; clear h; intro a w h
 refine wp_block ?_
 refine loopS (ι := (Nat)) (fun (z_ : (Nat)) => match z_ with | j => j ≤ ts.length ∧ ∀ t ∈ ts.take j, Few1 t)
   (fun (z_ : (Nat)) => match z_ with | j => [(7, .t (.c (.d (.sl 3 (ts.map Term.d))))), (8, vi .i64 (ts.length : Int)), (9, vi .i64 (j : Int))])
   (fun (z_ : (Nat)) => match z_ with | j => [])
   (fun (z_ : (Nat)) => match z_ with | j => ts.length - j) 0 ?_ h (by kernel_rfl) (by kernel_rfl) ?_
 ·exact ⟨Nat.zero_le _, by simp⟩
 ·clear h; rintro j a w hI h
  change St _ (F.of [(7, .t (.c (.d (.sl 3 (ts.map Term.d))))), (8, vi .i64 (ts.length : Int)), (9, vi .i64 (j : Int))] []) a w at h
  obtain ⟨hI1, hI2⟩ := hI
  refine rSeq fam0ok 0 [] [(7, .t (.c (.d (.sl 3 (ts.map Term.d))))), (8, vi .i64 (ts.length : Int)), (9, vi .i64 (j : Int)), (10, vb (decide ((j : Int) < (ts.length : Int))))] [] (by kernel_rfl) h ?_; clear h; intro a w h
  refine wp_seq ?_
  refine condS (decide ((j : Int) < (ts.length : Int))) h rfl (fun hc => ?_) (fun hc => ?_)
  ·have hc1 := hc; clear hc
   have hc1' := of_decide_eq_true hc1
   refine wp_skip ?_
   refine then_n ?_
   refine wp_seq ?_
   refine wp_block ?_
   obtain ⟨x1, hx1⟩ : ∃ z_ : Term, ts[j]? = some z_ := ⟨_, List.getElem?_eq_getElem (by first | omega | (simp at *; omega))⟩
   refine rSeq fam0ok 0 [(0, .gen _ _ _ fun _ _ _ _ => Op.idxD (d := 11) (t := 7) (k := .i64) tn_7 (map_at hx1 (f := Term.d)) (OV.tmp 9 _))] [(4, vp 0 0), (7, .t (.c (.d (.sl 3 (ts.map Term.d))))), (8, vi .i64 (ts.length : Int)), (9, vi .i64 (j : Int))] [(0, .box ([.d (.sl 3 (x1.parts.map Part.d))] ++ zi x1.k))] (by kernel_rfl) h ?_; clear h; intro a w h
   refine wp_seq ?_
   rcases Bool.eq_false_or_eq_true (decide ((x1.parts.length : Int) > 30)) with hc | hc
   ·have hc2 := hc; clear hc
    have hc2' := of_decide_eq_true hc2
    refine rSeq fam0ok 1 [(2, .len (c := (.d (.sl 3 (x1.parts.map Part.d)))) (n := x1.parts.length) (lenC_map _ _ _)), (3, .cmp (op := .gtr) (m := (x1.parts.length : Int)) (n := 30) (b := true) .i64 hc2)] [(4, vp 0 0), (7, .t (.c (.d (.sl 3 (ts.map Term.d))))), (8, vi .i64 (ts.length : Int)), (9, vi .i64 (j : Int)), (23, vb true)] [(0, .box ([.d (.sl 3 (x1.parts.map Part.d))] ++ zi x1.k))] (by kernel_rfl) h ?_; clear h; intro a w h
    refine condS true h rfl (fun hc => ?_) (fun hc => ?_)
    ·clear hc
     refine rSeq fam0ok 1 [] [(2, vb false), (4, vp 0 0), (7, .t (.c (.d (.sl 3 (ts.map Term.d))))), (8, vi .i64 (ts.length : Int)), (9, vi .i64 (j : Int))] [(0, .box ([.d (.sl 3 (x1.parts.map Part.d))] ++ zi x1.k))] (by kernel_rfl) h ?_; clear h; intro a w h
     refine wp_ret ?_
     refine then_r ?_
     refine block_r ?_
     refine then_r ?_
     refine then_r ?_
     refine block_r ?_
     refine then_r ?_
     refine retS [.c (.d (.raw (.bool false)))] h Exit.ret (.inl rfl)  rfl ⟨RV.tmp _ _ rfl, trivial⟩ ?_ (by kernel_rfl) (by kernel_rfl)
     have hb2 : b = false := by
      cases hbb : b with
      | false => rfl
      | true =>
       exfalso
       have hf := hb.1 hbb x1 (List.mem_of_getElem? hx1)
       have h1 := hf.1; have h2 := hf.2.1; omega
     rw [hb2]; first | done | rfl
    ·cases hc
   ·have hc3 := hc; clear hc
    have hc3' := of_decide_eq_false hc3
    refine rSeq fam0ok 1 [(2, .len (c := (.d (.sl 3 (x1.parts.map Part.d)))) (n := x1.parts.length) (lenC_map _ _ _)), (3, .cmp (op := .gtr) (m := (x1.parts.length : Int)) (n := 30) (b := false) .i64 hc3), (8, .len (nsl_len x1.k.abs))] [(4, vp 0 0), (7, .t (.c (.d (.sl 3 (ts.map Term.d))))), (8, vi .i64 (ts.length : Int)), (9, vi .i64 (j : Int)), (23, vb (decide ((x1.k.abs.length : Int) > 20)))] [(0, .box ([.d (.sl 3 (x1.parts.map Part.d))] ++ zi x1.k))] (by kernel_rfl) h ?_; clear h; intro a w h
    refine condS (decide ((x1.k.abs.length : Int) > 20)) h rfl (fun hc => ?_) (fun hc => ?_)
    ·have hc4 := hc; clear hc
     have hc4' := of_decide_eq_true hc4
     refine rSeq fam0ok 1 [] [(2, vb false), (4, vp 0 0), (7, .t (.c (.d (.sl 3 (ts.map Term.d))))), (8, vi .i64 (ts.length : Int)), (9, vi .i64 (j : Int))] [(0, .box ([.d (.sl 3 (x1.parts.map Part.d))] ++ zi x1.k))] (by kernel_rfl) h ?_; clear h; intro a w h
     refine wp_ret ?_
     refine then_r ?_
     refine block_r ?_
     refine then_r ?_
     refine then_r ?_
     refine block_r ?_
     refine then_r ?_
     refine retS [.c (.d (.raw (.bool false)))] h Exit.ret (.inl rfl)  rfl ⟨RV.tmp _ _ rfl, trivial⟩ ?_ (by kernel_rfl) (by kernel_rfl)
     have hb2 : b = false := by
      cases hbb : b with
      | false => rfl
      | true =>
       exfalso
       have hf := hb.1 hbb x1 (List.mem_of_getElem? hx1)
       have h1 := hf.1; have h2 := hf.2.1; omega
     rw [hb2]; first | done | rfl
    ·have hc5 := hc; clear hc
     have hc5' := of_decide_eq_false hc5
     refine wp_skip ?_
     refine then_n ?_
     refine rSeq fam0ok 1 [(2, .len (c := (.d (.sl 3 (x1.parts.map Part.d)))) (n := x1.parts.length) (lenC_map _ _ _))] [(7, .t (.c (.d (.sl 3 (ts.map Term.d))))), (8, vi .i64 (ts.length : Int)), (9, vi .i64 (j : Int)), (25, .t (.c (.d (.sl 3 (x1.parts.map Part.d))))), (26, vi .i64 (x1.parts.length : Int)), (27, vi .i64 0)] [] (by kernel_rfl) h ?_; clear h; intro a w h
     refine wp_block ?_
     refine loopS (ι := (Nat)) (fun (z_ : (Nat)) => match z_ with | i => i ≤ x1.parts.length ∧ ∀ p ∈ x1.parts.take i, p.c.abs.length ≤ 20)
       (fun (z_ : (Nat)) => match z_ with | i => [(7, .t (.c (.d (.sl 3 (ts.map Term.d))))), (8, vi .i64 (ts.length : Int)), (9, vi .i64 (j : Int)), (25, .t (.c (.d (.sl 3 (x1.parts.map Part.d))))), (26, vi .i64 (x1.parts.length : Int)), (27, vi .i64 (i : Int))])
       (fun (z_ : (Nat)) => match z_ with | i => [])
       (fun (z_ : (Nat)) => match z_ with | i => x1.parts.length - i) 0 ?_ h (by kernel_rfl) (by kernel_rfl) ?_
     ·exact ⟨Nat.zero_le _, by simp⟩
     ·clear h; rintro i a w hI h
      change St _ (F.of [(7, .t (.c (.d (.sl 3 (ts.map Term.d))))), (8, vi .i64 (ts.length : Int)), (9, vi .i64 (j : Int)), (25, .t (.c (.d (.sl 3 (x1.parts.map Part.d))))), (26, vi .i64 (x1.parts.length : Int)), (27, vi .i64 (i : Int))] []) a w at h
      obtain ⟨hK1, hK2⟩ := hI
      refine rSeq fam0ok 1 [] [(7, .t (.c (.d (.sl 3 (ts.map Term.d))))), (8, vi .i64 (ts.length : Int)), (9, vi .i64 (j : Int)), (25, .t (.c (.d (.sl 3 (x1.parts.map Part.d))))), (26, vi .i64 (x1.parts.length : Int)), (27, vi .i64 (i : Int)), (28, vb (decide ((i : Int) < (x1.parts.length : Int))))] [] (by kernel_rfl) h ?_; clear h; intro a w h
      refine wp_seq ?_
      refine condS (decide ((i : Int) < (x1.parts.length : Int))) h rfl (fun hc => ?_) (fun hc => ?_)
      ·have hc6 := hc; clear hc
       have hc6' := of_decide_eq_true hc6
       refine wp_skip ?_
       refine then_n ?_
       refine wp_seq ?_
       refine wp_block ?_
       obtain ⟨x2, hx2⟩ : ∃ z_ : Part, x1.parts[i]? = some z_ := ⟨_, List.getElem?_eq_getElem (by first | omega | (simp at *; omega))⟩
       refine rSeq fam0ok 1 [(0, .gen _ _ _ fun _ _ _ _ => Op.idxD (d := 29) (t := 25) (k := .i64) ta_0 (map_at hx2 (f := Part.d)) (OV.tmp 27 _))] [(6, vp 1 0), (7, .t (.c (.d (.sl 3 (ts.map Term.d))))), (8, vi .i64 (ts.length : Int)), (9, vi .i64 (j : Int)), (25, .t (.c (.d (.sl 3 (x1.parts.map Part.d))))), (26, vi .i64 (x1.parts.length : Int)), (27, vi .i64 (i : Int))] [(1, .box ([.d (.raw (.int .i64 x2.v))] ++ zi x2.c))] (by kernel_rfl) h ?_; clear h; intro a w h
       refine rSeq fam0ok 2 [(3, .len (nsl_len x2.c.abs))] [(7, .t (.c (.d (.sl 3 (ts.map Term.d))))), (8, vi .i64 (ts.length : Int)), (9, vi .i64 (j : Int)), (25, .t (.c (.d (.sl 3 (x1.parts.map Part.d))))), (26, vi .i64 (x1.parts.length : Int)), (27, vi .i64 (i : Int)), (35, vb (decide ((x2.c.abs.length : Int) > 20)))] [] (by kernel_rfl) h ?_; clear h; intro a w h
       refine condS (decide ((x2.c.abs.length : Int) > 20)) h rfl (fun hc => ?_) (fun hc => ?_)
       ·have hc7 := hc; clear hc
        have hc7' := of_decide_eq_true hc7
        refine rSeq fam0ok 2 [] [(2, vb false), (7, .t (.c (.d (.sl 3 (ts.map Term.d))))), (8, vi .i64 (ts.length : Int)), (9, vi .i64 (j : Int)), (25, .t (.c (.d (.sl 3 (x1.parts.map Part.d))))), (26, vi .i64 (x1.parts.length : Int)), (27, vi .i64 (i : Int))] [] (by kernel_rfl) h ?_; clear h; intro a w h
        refine wp_ret ?_
        refine block_r ?_
        refine then_r ?_
        refine then_r ?_
        refine block_r ?_
        refine block_r ?_
        refine then_r ?_
        refine then_r ?_
        refine block_r ?_
        refine then_r ?_
        refine retS [.c (.d (.raw (.bool false)))] h Exit.ret (.inl rfl)  rfl ⟨RV.tmp _ _ rfl, trivial⟩ ?_ (by kernel_rfl) (by kernel_rfl)
        have hb2 : b = false := by
         cases hbb : b with
         | false => rfl
         | true =>
          exfalso
          have hf := hb.1 hbb x1 (List.mem_of_getElem? hx1)
          have := hf.2.2 x2 (List.mem_of_getElem? hx2); omega
        rw [hb2]; first | done | rfl
       ·have hc8 := hc; clear hc
        have hc8' := of_decide_eq_false hc8
        refine wp_skip ?_
        refine block_n ?_
        refine then_n ?_
        refine rS fam0ok 2 [(0, .add .i64 (m := (i : Int)) (n := 1) (i64_id (by omega) (by omega)))] [(7, .t (.c (.d (.sl 3 (ts.map Term.d))))), (8, vi .i64 (ts.length : Int)), (9, vi .i64 (j : Int)), (25, .t (.c (.d (.sl 3 (x1.parts.map Part.d))))), (26, vi .i64 (x1.parts.length : Int)), (27, vi .i64 ((i : Int) + 1))] [] (by kernel_rfl) h ?_; clear h; intro a w h
        refine then_n ?_
        refine roundS (x := i) (y := (i + 1)) h ?_ ?_ (by kernel_rfl) (by kernel_rfl)
        ·refine ⟨by have := at_lt hx2; omega, fun p hp => ?_⟩
         rw [List.take_add_one, hx2] at hp
         rcases List.mem_append.1 hp with hp | hp
         ·exact hK2 p hp
         ·have e := Option.mem_toList.1 hp
          injection e with e
          subst e
          omega
        ·show x1.parts.length - (i + 1) < x1.parts.length - i
         have := at_lt hx2; omega
      ·have hc9 := hc; clear hc
       have hc9' := of_decide_eq_false hc9
       refine wp_exit ?_
       refine then_x ?_
       refine then_x ?_
       refine inBlock_exit ?_
       refine block_n ?_
       refine then_n ?_
       refine rS fam0ok 2 [(0, .add .i64 (m := (j : Int)) (n := 1) (i64_id (by omega) (by omega)))] [(7, .t (.c (.d (.sl 3 (ts.map Term.d))))), (8, vi .i64 (ts.length : Int)), (9, vi .i64 ((j : Int) + 1))] [] (by kernel_rfl) h ?_; clear h; intro a w h
       refine then_n ?_
       refine roundS (x := j) (y := (j + 1)) h ?_ ?_ (by kernel_rfl) (by kernel_rfl)
       ·refine ⟨by have := at_lt hx1; omega, fun t ht => ?_⟩
        rw [List.take_add_one, hx1] at ht
        rcases List.mem_append.1 ht with ht | ht
        ·exact hI2 t ht
        ·have e := Option.mem_toList.1 ht
         injection e with e
         subst e
         exact ⟨by omega, by omega, fun p hp => hK2 p (by rw [List.take_of_length_le (by omega)]; exact hp)⟩
       ·show ts.length - (j + 1) < ts.length - j
        have := at_lt hx1; omega
  ·have hc10 := hc; clear hc
   have hc10' := of_decide_eq_false hc10
   refine wp_exit ?_
   refine then_x ?_
   refine then_x ?_
   refine inBlock_exit ?_
   refine then_n ?_
   refine rSeq fam0ok 2 [] [(2, vb true)] [] (by kernel_rfl) h ?_; clear h; intro a w h
   refine wp_ret ?_
   refine retS [.c (.d (.raw (.bool true)))] h Exit.ret (.inl rfl)  rfl ⟨RV.tmp _ _ rfl, trivial⟩ ?_ (by kernel_rfl) (by kernel_rfl)
   have hb2 : b = true := hb.2 fun t ht => hI2 t (by rw [List.take_of_length_le (by omega)]; exact ht)
   rw [hb2]; first | done | rfl
end Go.Proofs.YtekhnajfdaknnaaGreatDoor.S
end
section
namespace Go.Proofs.YtekhnajfdaknnaaGreatDoor.S

/-- plain terms whose coefficients are bounded -/
structure Bd (n M : Nat) (t : Term) : Prop where
  pl : plainT t = t
  len : t.parts.length ≤ n
  cf : ∀ v, (coefZ t.parts v).natAbs ≤ M
  kf : t.k.val.natAbs ≤ M
def idxI (v : Int) : List Int → Nat → Int
  | [], _ => -1
  | x :: xs, n => if v = x then n else idxI v xs (n + 1)
def pickT (vs : List Int) (bys : List Term) (v : Int) : Term :=
  match bys[(idxI v vs 0).toNat]? with
  | some b => if idxI v vs 0 < 0 then varT v else b
  | none => varT v
end Go.Proofs.YtekhnajfdaknnaaGreatDoor.S
end
section
namespace Go.Proofs.YtekhnajfdaknnaaGreatDoor.S
open Go.RowKit

theorem to_0 : Bodied Tryz.prog 30 := Bodied.mk' (by kernel_rfl)
theorem to_1 : ElZ Tryz.prog 93 2 1 := ElZ.mk' Tryz.underlying93 _ _ rfl rfl (by kernel_rfl) (by kernel_rfl) (by kernel_rfl) (by decide)
theorem to_2 : Bodied Tryz.prog 45 := Bodied.mk' (by kernel_rfl)
theorem to_5 : Bodied Tryz.prog 20 := Bodied.mk' (by kernel_rfl)
theorem to_7 : Bodied Tryz.prog 58 := Bodied.mk' (by kernel_rfl)
theorem to_9 : Bodied Tryz.prog 35 := Bodied.mk' (by kernel_rfl)
theorem sum1 : plainT ⟨ofP [1, 2] 0 ++ (ofT 0 [1]).parts, ⟨false, []⟩⟩ = ofT 0 [2, 2] := by
 refine plainT_eq (by simp [ofT, ofP]) (by simp [ofT, ofP, ZI.val_of]) (fun v => ?_) rfl
 simp only [ofT, ofP, coefZ, List.cons_append, List.nil_append, ZI.val_of]
 split <;> split <;> omega
theorem sum2 : varT 0 = ofT 0 [1] := by
 refine plainT_eq (by simp [ofT, ofP]) (by simp [ofT, ofP, ZI.val_of]) (fun v => ?_) rfl
 simp only [ofT, ofP, coefZ, oneT, ZI.val_of]; rfl
theorem sum3 : numT (ZI.of 4) = ofT 4 [] := by simp [numT, ofT, ofP, ZI.val_of]
theorem sum4 : addT (varT 0) (ofT 3 [1]) = ofT 3 [2] := by
 rw [sum2]
 refine plainT_eq (by simp [ofT, ofP]) (by simp [ofT, ofP, ZI.val_of]) (fun v => ?_) (by simp [ofT, ZI.val_of])
 simp only [ofT, ofP, coefZ, List.cons_append, List.nil_append, ZI.val_of]
 split <;> omega
theorem sum6 : scaleT (ofT 3 [1]) (ZI.of 2) = ofT 6 [2] := by
 refine plainT_eq (by simp [ofT, ofP]) (by simp [ofT, ofP, ZI.val_of]) (fun v => ?_) (by simp [ofT, mulT, ZI.val_of])
 simp only [ofT, ofP, mulT, coefZ, List.map_cons, List.map_nil, ZI.val_of]; rfl
theorem sum5 : subT (varT 0) (ofT 3 [1]) = ofT (-3) [] := by
 have h : scaleT (ofT 3 [1]) (ZI.of (-1)) = ofT (-3) [-1] := by
  refine plainT_eq (by simp [ofT, ofP]) (by simp [ofT, ofP, ZI.val_of]) (fun v => ?_) (by simp [ofT, mulT, ZI.val_of])
  simp only [ofT, ofP, mulT, coefZ, List.map_cons, List.map_nil, ZI.val_of]; rfl
 unfold subT
 rw [h, sum2]
 refine plainT_eq (by simp [ofT, ofP]) (by simp [ofT, ofP]) (fun v => ?_) (by simp [ofT, ZI.val_of])
 simp only [ofT, ofP, coefZ, List.cons_append, List.nil_append, ZI.val_of]
 split <;> omega
theorem sum7 : negT (varT 0) = ofT 0 [-1] := by
 unfold negT
 rw [sum2]
 refine plainT_eq (by simp [ofT, ofP]) (by simp [ofT, ofP, ZI.val_of]) (fun v => ?_) (by simp [ofT, mulT, ZI.val_of])
 simp only [ofT, ofP, mulT, coefZ, List.map_cons, List.map_nil, ZI.val_of]; rfl
theorem ofP_app_ok (r : ZI) (h : Lb r.abs) (l : r.abs.length ≤ 10) : TOk 20 10 ⟨ofP [1, 2] 0 ++ (ofT 0 [1]).parts, r⟩ := by
 have h1 := ofT_ok 0 [1, 2] (by decide) (by decide) (by decide)
 have h2 := ofT_ok 0 [1] (by decide) (by decide) (by decide)
 refine ⟨show 2 + 1 ≤ 20 by decide, fun p hp => ?_, h, l⟩
 rcases List.mem_append.1 hp with g | g
 ·exact h1.ps p g
 ·exact h2.ps p g
set_option maxHeartbeats 4000000 in
theorem Ssumming  : Fn Tryz.prog 14 [] [] (vb true) [] := by
 refine Fn.body Tryz.func14 rfl 60 rfl fun w H B a h => ?_
 refine rSeq fam0ok 5 [] [(0, vb false)] [] (by kernel_rfl) h ?_; clear h; intro a w h
 refine rSeq fam0ok 5 [(0, .call (SVar 0) to_0)] [(0, vb false), (1, vp 5 0)] [(5, .box ([.d (.sl 3 ((varT 0).parts.map Part.d))] ++ zi (varT 0).k))] (by kernel_rfl) h ?_; clear h; intro a w h
 obtain ⟨r9, er9, vr9, or9, lr9⟩ := mkZ (v := 4) (m := 2) (ZI.len_of (by have := pw2; omega))
 obtain ⟨r22, er22, vr22, or22, lr22⟩ := mkZ (v := 2) (m := 2) (ZI.len_of (by have := pw2; omega))
 refine rSeqP fam0ok 6 [(0, .gen _ _ _ fun _ _ _ _ => Op.buildD (d := 3) (len := 2) (rows := [1, 2].map intD) (rs := []) to_1 (.cons (i := 0) (OV.const (.int .i64 1) rfl) (.cons (i := 1) (OV.const (.int .i64 2) rfl) (.nil))) (by kernel_rfl) rfl (by simp [intD]) (by decide) (by decide)), (1, .call (SofO 0 [1, 2] (by decide) (by decide) (by decide)) to_2), (3, .gen _ _ _ fun _ _ _ _ => Op.buildD (d := 6) (len := 1) (rows := [1].map intD) (rs := []) to_1 (.cons (i := 0) (OV.const (.int .i64 1) rfl) (.nil)) (by kernel_rfl) rfl (by simp [intD]) (by decide) (by decide)), (4, .call (SofD 0 [1] (by decide) (by decide) (by decide)) to_2), (6, .gen _ _ _ fun _ _ _ _ => Op.appODp (d := 9) (t := 5) (u := 8) (n := 0) (n' := 6) (len := (ofP [1, 2] 0).length) (rows := (ofP [1, 2] 0).map Part.d) (rows2 := (ofT 0 [1]).parts.map Part.d) (rows' := ((ofP [1, 2] 0) ++ (ofT 0 [1]).parts).map Part.d) tb_10 (by first | exact (List.length_map _).symm | simp) (by simp) (by simp [Part.d]) (by decide)), (8, .call (SPlain (Term.mk ((ofP [1, 2] 0) ++ (ofT 0 [1]).parts) (ZI.mk false [])) (ofP_app_ok ⟨false, []⟩ Lb_nil (by decide)) (by decide) (by decide)) tm_7), (9, .gen _ _ _ fun _ _ _ _ => Op.buildD (d := 12) (len := 2) (rows := [2, 2].map intD) (rs := []) to_1 (.cons (i := 0) (OV.const (.int .i64 2) rfl) (.cons (i := 1) (OV.const (.int .i64 2) rfl) (.nil))) (by kernel_rfl) rfl (by simp [intD]) (by decide) (by decide)), (10, .call (SofD 0 [2, 2] (by decide) (by decide) (by decide)) to_2), (11, .call (SLSame2 (s := (plainT (Term.mk ((ofP [1, 2] 0) ++ (ofT 0 [1]).parts) (ZI.mk false [])))) (t := (ofT 0 [2, 2])) (sum1) (by rw [← sum1]; exact plain_idem _) (n := 20) (L := 11) (TOk.plain (ofP_app_ok ⟨false, []⟩ Lb_nil (by decide)) (by decide)) (by decide) (by decide)) to_5), (14, .gen _ _ _ fun _ _ _ _ => Op.buildD (d := 17) (len := 1) (rows := [1].map intD) (rs := []) to_1 (.cons (i := 0) (OV.const (.int .i64 1) rfl) (.nil)) (by kernel_rfl) rfl (by simp [intD]) (by decide) (by decide)), (15, .call (SofD 0 [1] (by decide) (by decide) (by decide)) to_2), (16, .call (SLSame2 (s := (varT 0)) (t := (ofT 0 [1])) (sum2) (by rw [← sum2]; exact plain_idem _) (n := 1) (L := 3) (TOk.plain TOk.one (by decide)) (by decide) (by decide)) to_5), (19, .call (Fn.cast (SROf 4 ⟨by omega, by omega⟩) (congrArg vz er9.symm)) tc_0), (20, .call (SNumber r9 or9 (by omega)) to_7), (21, .call (SofN 4 (by decide)) to_2), (22, .call (SLSame2 (s := (numT r9)) (t := (ofT 4 [])) (by rw [er9]; exact sum3) (by rw [← sum3]; exact plain_num _) (n := 0) (L := 100) (TOk.num (ZI.lb_of _) (Nat.le_trans (len_id or9) (by omega))) (by decide) (by decide)) to_5), (26, .gen _ _ _ fun _ _ _ _ => Op.buildD (d := 29) (len := 1) (rows := [1].map intD) (rs := []) to_1 (.cons (i := 0) (OV.const (.int .i64 1) rfl) (.nil)) (by kernel_rfl) rfl (by simp [intD]) (by decide) (by decide)), (27, .call (SofD 3 [1] (by decide) (by decide) (by decide)) to_2), (28, .call (STAdd (varT 0) (ofT 3 [1]) ((TOk.plain TOk.one (by decide)).mono (by decide) (by decide)) ((ofT_ok 3 [1] (by decide) (by decide) (by decide)).mono (by decide) (by decide))) tm_15), (29, .gen _ _ _ fun _ _ _ _ => Op.buildD (d := 32) (len := 1) (rows := [2].map intD) (rs := []) to_1 (.cons (i := 0) (OV.const (.int .i64 2) rfl) (.nil)) (by kernel_rfl) rfl (by simp [intD]) (by decide) (by decide)), (30, .call (SofD 3 [2] (by decide) (by decide) (by decide)) to_2), (31, .call (SLSame2 (s := (addT (varT 0) (ofT 3 [1]))) (t := (ofT 3 [2])) (sum4) (by rw [← sum4]; exact plain_idem _) (n := 11) (L := 22) (addT_ok ((TOk.plain TOk.one (by decide)).mono (Nat.le_refl 1) (show 3 ≤ 10 by decide)) ((ofT_ok 3 [1] (by decide) (by decide) (by decide)).mono (Nat.le_refl 10) (show 10 ≤ 10 by decide)) (by decide)) (by decide) (by decide)) to_5), (35, .gen _ _ _ fun _ _ _ _ => Op.buildD (d := 38) (len := 1) (rows := [1].map intD) (rs := []) to_1 (.cons (i := 0) (OV.const (.int .i64 1) rfl) (.nil)) (by kernel_rfl) rfl (by simp [intD]) (by decide) (by decide)), (36, .call (SofD 3 [1] (by decide) (by decide) (by decide)) to_2), (37, .call (STSub (varT 0) (ofT 3 [1]) ((TOk.plain TOk.one (by decide)).mono (by decide) (by decide)) ((ofT_ok 3 [1] (by decide) (by decide) (by decide)).mono (by decide) (by decide))) to_9), (38, .call (SofN (-3) (by decide)) to_2), (39, .call (SLSame2 (s := (subT (varT 0) (ofT 3 [1]))) (t := (ofT (-3) [])) (sum5) (by rw [← sum5]; exact plain_idem _) (n := 11) (L := 28) (addT_ok ((TOk.plain TOk.one (by decide)).mono (Nat.le_refl 1) (show 3 ≤ 13 by decide)) (((TOk.mul (ofT_ok 3 [1] (by decide) (by decide) (by decide)) (ZI.lb_of _) (show (ZI.of (-1)).abs.length ≤ 2 from by decide)).plain (by decide)).mono (Nat.le_refl 10) (show 13 ≤ 13 by decide)) (by decide)) (by decide) (by decide)) to_5), (42, .gen _ _ _ fun _ _ _ _ => Op.buildD (d := 45) (len := 1) (rows := [1].map intD) (rs := []) to_1 (.cons (i := 0) (OV.const (.int .i64 1) rfl) (.nil)) (by kernel_rfl) rfl (by simp [intD]) (by decide) (by decide)), (43, .call (SofD 3 [1] (by decide) (by decide) (by decide)) to_2), (44, .call (Fn.cast (SROf 2 ⟨by omega, by omega⟩) (congrArg vz er22.symm)) tc_0), (45, .call (SScale (ofT 3 [1]) r22 (ofT_ok 3 [1] (by decide) (by decide) (by decide)) (by decide) or22 lr22 (by decide)) tm_13), (46, .gen _ _ _ fun _ _ _ _ => Op.buildD (d := 49) (len := 1) (rows := [2].map intD) (rs := []) to_1 (.cons (i := 0) (OV.const (.int .i64 2) rfl) (.nil)) (by kernel_rfl) rfl (by simp [intD]) (by decide) (by decide)), (47, .call (SofD 6 [2] (by decide) (by decide) (by decide)) to_2), (48, .call (SLSame2 (s := (scaleT (ofT 3 [1]) r22)) (t := (ofT 6 [2])) (by rw [er22]; exact sum6) (by rw [← sum6]; exact plain_idem _) (n := 10) (L := 13) ((TOk.mul (ofT_ok 3 [1] (by decide) (by decide) (by decide)) or22 lr22).plain (by decide)) (by decide) (by decide)) to_5), (52, .call (SNeg3 (varT 0) ((TOk.plain TOk.one (by decide)).mono (by decide) (by decide))) tm_14), (53, .gen _ _ _ fun _ _ _ _ => Op.buildD (d := 56) (len := 1) (rows := [(-1)].map intD) (rs := []) to_1 (.cons (i := 0) (OV.const (.int .i64 (-1)) rfl) (.nil)) (by kernel_rfl) rfl (by simp [intD]) (by decide) (by decide)), (54, .call (SofD 0 [(-1)] (by decide) (by decide) (by decide)) to_2), (55, .call (SLSame2 (s := (negT (varT 0))) (t := (ofT 0 [(-1)])) (sum7) (by rw [← sum7]; exact plain_idem _) (n := 1) (L := 6) ((TOk.mul (TOk.plain TOk.one (by decide)) (ZI.lb_of _) (show (ZI.of (-1)).abs.length ≤ 2 from by decide)).plain (by decide)) (by decide) (by decide)) to_5)] [(0, vb true)] [] (by kernel_rfl) (by kernel_rfl) (by kernel_rfl) (by kernel_rfl) (by kernel_rfl) (by kernel_rfl) (by kernel_rfl) h ?_; clear h; intro a w h
 refine wp_ret ?_
 refine retS [.c (.d (.raw (.bool true)))] h Exit.ret (.inl rfl)  rfl ⟨RV.tmp _ _ rfl, trivial⟩ ?_ (by kernel_rfl) (by kernel_rfl)
 rfl
theorem TLb.few {t : Term} (h : TLb t) (f : Few1 t) : TOk 30 20 t := ⟨f.1, fun p hp => ⟨h.2 p hp, f.2.2 p hp⟩, h.1, f.2.1⟩
end Go.Proofs.YtekhnajfdaknnaaGreatDoor.S
end
section
namespace Go.Proofs.YtekhnajfdaknnaaGreatDoor.S
open Go.RowKit

section
variable {P : Program}
theorem Op.makeF1 {d t : Nat} {fn : Go.Fn} {x : A} {ty : TypeId} {pos af gd} :
  OpOk P ⟨some d, .makeFunc fn #[] #[.tmp t], ty, pos, af, gd⟩ { rs := [(t, .t (.c x.c))], ws := [(d, some (.t (.c (.fn fn [] [x]))))] } :=
 OpOk.value d _ rfl rfl rfl fun e f H B a w hok hr => by
  have h1 : CR H B x.c (a.eval (.tmp t)) := hok.slot t _ (hr.1 (t, .t (.c x.c)) (by simp))
  refine ⟨.func fn #[] #[a.eval (.tmp t)], ?_, [], [a.eval (.tmp t)], rfl, trivial, ?_, trivial⟩
  ·simp [execOp, Instr.makeFunc]
  ·cases x <;> exact h1
end
end Go.Proofs.YtekhnajfdaknnaaGreatDoor.S
end
section
namespace Go.Proofs.YtekhnajfdaknnaaGreatDoor.S
open Go.RowKit

theorem tp_3 : Bodied Tryz.prog 109 := Bodied.mk' (by kernel_rfl)
theorem SIndexFM (pr : Part → Bool) (xs : List Part) (n : Int) (hf : ∀ p ∈ xs, Fn Tryz.prog 109 [(1, .box [.d (.raw (.int .i64 n))])] [vd p.d, vp 1 0] (vb (pr p)) [(1, .box [.d (.raw (.int .i64 n))])]) (hl : xs.length ≤ 1000000) : Fn Tryz.prog 101 [(0, .row 32 3 (xs.map Part.d)), (1, .box [.d (.raw (.int .i64 n))])] [.t (.c (.own 0 xs.length)), .t (.c (.fn (.func 109) [] [.ptr 1 0]))] (vi .i64 (idxF pr xs 0)) [(0, .row 32 3 (xs.map Part.d)), (1, .box [.d (.raw (.int .i64 n))])] := by
 refine Fn.body Tryz.func101 rfl 19 rfl fun w H B a h => ?_
 refine rSeq fam0ok 2 [] [(0, .t (.c (.own 0 xs.length))), (1, .t (.c (.fn (.func 109) [] [.ptr 1 0]))), (4, vi .i64 0)] [(0, .row 32 3 (xs.map Part.d)), (1, .box [.d (.raw (.int .i64 n))])] (by kernel_rfl) h ?_; clear h; intro a w h
 refine wp_seq ?_
 refine rSeq fam0ok 2 [] [(0, .t (.c (.own 0 xs.length))), (1, .t (.c (.fn (.func 109) [] [.ptr 1 0]))), (4, vi .i64 0), (7, vi .i64 (xs.length : Int)), (8, vi .i64 0)] [(0, .row 32 3 (xs.map Part.d)), (1, .box [.d (.raw (.int .i64 n))])] (by kernel_rfl) h ?_; clear h; intro a w h
 refine wp_block ?_
 refine loopS (ι := (Nat)) (fun (z_ : (Nat)) => match z_ with | j => j ≤ xs.length ∧ idxF pr xs 0 = idxF pr (xs.drop j) j)
   (fun (z_ : (Nat)) => match z_ with | j => [(0, .t (.c (.own 0 xs.length))), (1, .t (.c (.fn (.func 109) [] [.ptr 1 0]))), (7, vi .i64 (xs.length : Int)), (8, vi .i64 (j : Int))])
   (fun (z_ : (Nat)) => match z_ with | j => [(0, .row 32 3 (xs.map Part.d)), (1, .box [.d (.raw (.int .i64 n))])])
   (fun (z_ : (Nat)) => match z_ with | j => xs.length - j) 0 ?_ h (by kernel_rfl) (by kernel_rfl) ?_
 ·exact ⟨Nat.zero_le _, rfl⟩
 ·clear h; rintro j a w hI h
  change St _ (F.of [(0, .t (.c (.own 0 xs.length))), (1, .t (.c (.fn (.func 109) [] [.ptr 1 0]))), (7, vi .i64 (xs.length : Int)), (8, vi .i64 (j : Int))] [(0, .row 32 3 (xs.map Part.d)), (1, .box [.d (.raw (.int .i64 n))])]) a w at h
  obtain ⟨hI1, hI2⟩ := hI
  refine rSeq fam0ok 2 [] [(0, .t (.c (.own 0 xs.length))), (1, .t (.c (.fn (.func 109) [] [.ptr 1 0]))), (7, vi .i64 (xs.length : Int)), (8, vi .i64 (j : Int)), (9, vb (decide ((j : Int) < (xs.length : Int))))] [(0, .row 32 3 (xs.map Part.d)), (1, .box [.d (.raw (.int .i64 n))])] (by kernel_rfl) h ?_; clear h; intro a w h
  refine wp_seq ?_
  refine condS (decide ((j : Int) < (xs.length : Int))) h rfl (fun hc => ?_) (fun hc => ?_)
  ·have hc1 := hc; clear hc
   have hc1' := of_decide_eq_true hc1
   refine wp_skip ?_
   refine then_n ?_
   refine wp_seq ?_
   refine wp_block ?_
   refine rSeq fam0ok 2 [] [(0, .t (.c (.own 0 xs.length))), (1, .t (.c (.fn (.func 109) [] [.ptr 1 0]))), (5, vi .i64 (j : Int)), (7, vi .i64 (xs.length : Int)), (8, vi .i64 (j : Int))] [(0, .row 32 3 (xs.map Part.d)), (1, .box [.d (.raw (.int .i64 n))])] (by kernel_rfl) h ?_; clear h; intro a w h
   obtain ⟨x1, hx1⟩ : ∃ z_ : Part, xs[j]? = some z_ := ⟨_, List.getElem?_eq_getElem (by first | omega | (simp at *; omega))⟩
   refine rSeq fam0ok 2 [(3, .gen _ _ _ fun _ _ _ _ => Op.idxO (d := 14) (t := 12) (k := .i64) (n := 0) (len := xs.length) (i := j) ta_0 (by first | omega | (simp at *; omega)) (OV.tmp 13 _)), (4, .gen _ _ _ fun _ _ _ _ => Op.loadR_agg (d := 15) (t := 14) (n := 0) (i := j) (fo := 0) (rty := 32) (es := 3) (xs := [.raw (.int .i64 x1.v), .raw (.bool x1.c.neg), nsl x1.c.abs]) te_1 rfl (map_at hx1 (f := Part.d)) rfl rfl), (5, .gen _ _ _ fun _ _ _ _ => Op.callV (d := 16) (t := 11) (cap := [.ptr 1 0]) (args := [.t (.agg ([.d (.raw (.int .i64 x1.v))] ++ zi x1.c))]) (rs := [(15, .t (.agg ([.d (.raw (.int .i64 x1.v))] ++ zi x1.c)))]) (tys := #[32]) (hf x1 (List.mem_of_getElem? hx1)) tp_3 (OVs.cons (OV.tmp 15 _) (OVs.nil)))] [(0, .t (.c (.own 0 xs.length))), (1, .t (.c (.fn (.func 109) [] [.ptr 1 0]))), (5, vi .i64 (j : Int)), (7, vi .i64 (xs.length : Int)), (8, vi .i64 (j : Int)), (16, vb (pr x1))] [(0, .row 32 3 (xs.map Part.d)), (1, .box [.d (.raw (.int .i64 n))])] (by kernel_rfl) h ?_; clear h; intro a w h
   refine condS (pr x1) h rfl (fun hc => ?_) (fun hc => ?_)
   ·have hc2 := hc; clear hc
    refine rSeq fam0ok 2 [] [(0, .t (.c (.own 0 xs.length))), (1, .t (.c (.fn (.func 109) [] [.ptr 1 0]))), (4, vi .i64 (j : Int)), (7, vi .i64 (xs.length : Int)), (8, vi .i64 (j : Int))] [(0, .row 32 3 (xs.map Part.d)), (1, .box [.d (.raw (.int .i64 n))])] (by kernel_rfl) h ?_; clear h; intro a w h
    refine wp_ret ?_
    refine block_r ?_
    refine then_r ?_
    refine then_r ?_
    refine block_r ?_
    refine then_r ?_
    refine retS [.c (.d (.raw (.int .i64 (j : Int))))] h Exit.ret (.inl rfl)  rfl ⟨RV.tmp _ _ rfl, trivial⟩ ?_ (by kernel_rfl) (by kernel_rfl)
    have hz : idxF pr xs 0 = (j : Int) := by rw [hI2, idxF_at hx1, if_pos hc2]
    rw [hz]; first | done | rfl
   ·have hc3 := hc; clear hc
    refine wp_skip ?_
    refine block_n ?_
    refine then_n ?_
    refine rS fam0ok 2 [(0, .add .i64 (m := (j : Int)) (n := 1) (i64_id (by omega) (by omega)))] [(0, .t (.c (.own 0 xs.length))), (1, .t (.c (.fn (.func 109) [] [.ptr 1 0]))), (7, vi .i64 (xs.length : Int)), (8, vi .i64 ((j : Int) + 1))] [(0, .row 32 3 (xs.map Part.d)), (1, .box [.d (.raw (.int .i64 n))])] (by kernel_rfl) h ?_; clear h; intro a w h
    refine then_n ?_
    refine roundS (x := j) (y := j + 1) h ?_ ?_ (by kernel_rfl) (by kernel_rfl)
    ·exact ⟨by have := at_lt hx1; omega, by rw [hI2, idxF_at hx1, if_neg (by rw [hc3]; exact Bool.noConfusion)]⟩
    ·simp; omega
  ·have hc4 := hc; clear hc
   have hc4' := of_decide_eq_false hc4
   refine wp_exit ?_
   refine then_x ?_
   refine then_x ?_
   refine inBlock_exit ?_
   refine then_n ?_
   refine rSeq fam0ok 2 [] [(4, vi .i64 (-1))] [(0, .row 32 3 (xs.map Part.d)), (1, .box [.d (.raw (.int .i64 n))])] (by kernel_rfl) h ?_; clear h; intro a w h
   refine wp_ret ?_
   refine retS [.c (.d (.raw (.int .i64 (-1))))] h Exit.ret (.inl rfl)  rfl ⟨RV.tmp _ _ rfl, trivial⟩ ?_ (by kernel_rfl) (by kernel_rfl)
   have hz : idxF pr xs 0 = -1 := by rw [hI2, List.drop_of_length_le (by omega)]; rfl
   rw [hz]; first | done | rfl
theorem SDeleteFM (pr : Part → Bool) (xs : List Part) (n : Int) (hf : ∀ p ∈ xs, Fn Tryz.prog 109 [(1, .box [.d (.raw (.int .i64 n))])] [vd p.d, vp 1 0] (vb (pr p)) [(1, .box [.d (.raw (.int .i64 n))])]) (hl : xs.length ≤ 1000000) : Fn Tryz.prog 66 [(0, .row 32 3 (xs.map Part.d)), (1, .box [.d (.raw (.int .i64 n))])] [.t (.c (.own 0 xs.length)), .t (.c (.fn (.func 109) [] [.ptr 1 0]))] (.t (.c (.own 0 (xs.filter (fun p => !pr p)).length))) [(0, .row 32 3 ((xs.filter (fun p => !pr p)).map Part.d)), (1, .box [.d (.raw (.int .i64 n))])] := by
 refine Fn.body Tryz.func66 rfl 42 rfl fun w H B a h => ?_
 refine rSeq fam0ok 2 [] [(0, .t (.c (.own 0 xs.length))), (1, .t (.c (.fn (.func 109) [] [.ptr 1 0]))), (4, .t (.c (.d (.raw nilV))))] [(0, .row 32 3 (xs.map Part.d)), (1, .box [.d (.raw (.int .i64 n))])] (by kernel_rfl) h ?_; clear h; intro a w h
 refine rSeq fam0ok 2 [(2, .call (SIndexFM pr xs n hf hl) tk_3)] [(0, .t (.c (.own 0 xs.length))), (1, .t (.c (.fn (.func 109) [] [.ptr 1 0]))), (4, .t (.c (.d (.raw nilV)))), (5, vi .i64 (idxF pr xs 0))] [(0, .row 32 3 (xs.map Part.d)), (1, .box [.d (.raw (.int .i64 n))])] (by kernel_rfl) h ?_; clear h; intro a w h
 refine wp_seq ?_
 rcases idxF_cases pr xs 0 with ⟨hz, hz2⟩ | ⟨k, x0, hz, hk, hk2, hk3⟩
 ·rw [hz] at h
  refine rSeq fam0ok 2 [(1, .cmp (op := .eql) (m := (-1)) (n := (-1)) (b := true) .i64 rfl)] [(0, .t (.c (.own 0 xs.length))), (1, .t (.c (.fn (.func 109) [] [.ptr 1 0]))), (4, .t (.c (.d (.raw nilV)))), (5, vi .i64 (-1)), (12, vb true)] [(0, .row 32 3 (xs.map Part.d)), (1, .box [.d (.raw (.int .i64 n))])] (by kernel_rfl) h ?_; clear h; intro a w h
  refine condS true h rfl (fun hc => ?_) (fun hc => ?_)
  ·clear hc
   refine rSeq fam0ok 2 [] [(0, .t (.c (.own 0 xs.length))), (1, .t (.c (.fn (.func 109) [] [.ptr 1 0]))), (4, .t (.c (.own 0 xs.length))), (5, vi .i64 (-1))] [(0, .row 32 3 (xs.map Part.d)), (1, .box [.d (.raw (.int .i64 n))])] (by kernel_rfl) h ?_; clear h; intro a w h
   refine wp_ret ?_
   refine then_r ?_
   replace h := h.conv (f' := F.of [(0, .t (.c (.own 0 xs.length))), (1, .t (.c (.fn (.func 109) [] [.ptr 1 0]))), (4, .t (.c (.own 0 (xs.filter (fun p => !pr p)).length))), (5, vi .i64 (-1))] [(0, .row 32 3 (xs.map Part.d)), (1, .box [.d (.raw (.int .i64 n))])]) (by rw [hz2])
   replace h := h.conv (f' := F.of [(0, .t (.c (.own 0 xs.length))), (1, .t (.c (.fn (.func 109) [] [.ptr 1 0]))), (4, .t (.c (.own 0 (xs.filter (fun p => !pr p)).length))), (5, vi .i64 (-1))] [(0, .row 32 3 ((xs.filter (fun p => !pr p)).map Part.d)), (1, .box [.d (.raw (.int .i64 n))])]) (congrArg (fun (z_ : List Part) => F.of [(0, .t (.c (.own 0 xs.length))), (1, .t (.c (.fn (.func 109) [] [.ptr 1 0]))), (4, .t (.c (.own 0 (xs.filter (fun p => !pr p)).length))), (5, vi .i64 (-1))] [(0, .row 32 3 (z_.map Part.d)), (1, .box [.d (.raw (.int .i64 n))])]) (show (xs : List Part) = (xs.filter (fun p => !pr p)) from hz2.symm))
   refine retS [.c (.own 0 (xs.filter (fun p => !pr p)).length)] h Exit.ret (.inl rfl)  rfl ⟨RV.tmp _ _ rfl, trivial⟩ ?_ (by kernel_rfl) (by kernel_rfl)
   rfl
  ·cases hc
 ·rw [Nat.zero_add] at hz
  have hkl := at_lt hk
  have hf2 : ((xs.take (k + 1)).filter (fun p => !pr p)) = xs.take k := by rw [List.take_add_one, hk]; simp [List.filter_append, hk2, hk3]
  have hf3 : ((xs.take (k + 1)).filter (fun p => !pr p)).length = k := by rw [hf2, List.length_take]; omega
  rw [hz] at h
  refine rSeq fam0ok 2 [(1, .cmp (op := .eql) (m := (k : Int)) (n := (-1)) (b := false) .i64 (beq_eq_false_iff_ne.2 (by omega)))] [(0, .t (.c (.own 0 xs.length))), (1, .t (.c (.fn (.func 109) [] [.ptr 1 0]))), (4, .t (.c (.d (.raw nilV)))), (5, vi .i64 (k : Int)), (12, vb false)] [(0, .row 32 3 (xs.map Part.d)), (1, .box [.d (.raw (.int .i64 n))])] (by kernel_rfl) h ?_; clear h; intro a w h
  refine condS false h rfl (fun hc => ?_) (fun hc => ?_)
  ·cases hc
  ·clear hc
   refine wp_skip ?_
   refine then_n ?_
   refine wp_seq ?_
   refine rSeq fam0ok 2 [(1, .gen _ _ _ fun _ _ _ _ => Op.arith (op := .add) (d := 15) (xt := 3) (yt := 3) (k := .i64) (m := (k : Int)) (n := 1) (r := ((k + 1 : Nat) : Int)) (OV.tmp 14 _) (OV.const (.int .i64 1) rfl) (.inl ⟨rfl, (by omega)⟩) (i64_id (by omega) (by omega)))] [(0, .t (.c (.own 0 xs.length))), (1, .t (.c (.fn (.func 109) [] [.ptr 1 0]))), (4, .t (.c (.d (.raw nilV)))), (5, vi .i64 (k : Int)), (6, vi .i64 ((k + 1 : Nat) : Int))] [(0, .row 32 3 (xs.map Part.d)), (1, .box [.d (.raw (.int .i64 n))])] (by kernel_rfl) h ?_; clear h; intro a w h
   refine wp_block ?_
   replace h := h.conv (f' := F.of [(0, .t (.c (.own 0 xs.length))), (1, .t (.c (.fn (.func 109) [] [.ptr 1 0]))), (4, .t (.c (.d (.raw nilV)))), (5, vi .i64 (((xs.take (k + 1)).filter (fun p => !pr p)).length : Int)), (6, vi .i64 ((k + 1 : Nat) : Int))] [(0, .row 32 3 (xs.map Part.d)), (1, .box [.d (.raw (.int .i64 n))])]) (by rw [hf3])
   replace h := h.conv (f' := F.of [(0, .t (.c (.own 0 xs.length))), (1, .t (.c (.fn (.func 109) [] [.ptr 1 0]))), (4, .t (.c (.d (.raw nilV)))), (5, vi .i64 (((xs.take (k + 1)).filter (fun p => !pr p)).length : Int)), (6, vi .i64 ((k + 1 : Nat) : Int))] [(0, .row 32 3 ((((xs.take (k + 1)).filter (fun p => !pr p)) ++ [x0] ++ xs.drop (k + 1)).map Part.d)), (1, .box [.d (.raw (.int .i64 n))])]) (congrArg (fun (z_ : List Part) => F.of [(0, .t (.c (.own 0 xs.length))), (1, .t (.c (.fn (.func 109) [] [.ptr 1 0]))), (4, .t (.c (.d (.raw nilV)))), (5, vi .i64 (((xs.take (k + 1)).filter (fun p => !pr p)).length : Int)), (6, vi .i64 ((k + 1 : Nat) : Int))] [(0, .row 32 3 (z_.map Part.d)), (1, .box [.d (.raw (.int .i64 n))])]) (show (xs : List Part) = (((xs.take (k + 1)).filter (fun p => !pr p)) ++ [x0] ++ xs.drop (k + 1)) from by rw [hf2]; obtain ⟨g1, g2⟩ := List.getElem?_eq_some_iff.1 hk; subst g2; simp))
   refine loopS (ι := (Nat) × (List Part)) (fun (z_ : (Nat) × (List Part)) => match z_ with | (j, G) => j ≤ xs.length ∧ ((xs.take j).filter (fun p => !pr p)).length + G.length = j ∧ 0 < G.length)
     (fun (z_ : (Nat) × (List Part)) => match z_ with | (j, G) => [(0, .t (.c (.own 0 xs.length))), (1, .t (.c (.fn (.func 109) [] [.ptr 1 0]))), (4, .t (.c (.d (.raw nilV)))), (5, vi .i64 (((xs.take j).filter (fun p => !pr p)).length : Int)), (6, vi .i64 (j : Int))])
     (fun (z_ : (Nat) × (List Part)) => match z_ with | (j, G) => [(0, .row 32 3 ((((xs.take j).filter (fun p => !pr p)) ++ G ++ xs.drop j).map Part.d)), (1, .box [.d (.raw (.int .i64 n))])])
     (fun (z_ : (Nat) × (List Part)) => match z_ with | (j, G) => xs.length - j) ((k + 1), [x0]) ?_ h (by kernel_rfl) (by kernel_rfl) ?_
   ·exact ⟨by omega, by rw [hf3]; rfl, Nat.one_pos⟩
   ·clear h; rintro ⟨j, G⟩ a w hI h
    change St _ (F.of [(0, .t (.c (.own 0 xs.length))), (1, .t (.c (.fn (.func 109) [] [.ptr 1 0]))), (4, .t (.c (.d (.raw nilV)))), (5, vi .i64 (((xs.take j).filter (fun p => !pr p)).length : Int)), (6, vi .i64 (j : Int))] [(0, .row 32 3 ((((xs.take j).filter (fun p => !pr p)) ++ G ++ xs.drop j).map Part.d)), (1, .box [.d (.raw (.int .i64 n))])]) a w at h
    obtain ⟨hI1, hI2, hI3⟩ := hI
    have hrl : (((xs.take j).filter (fun p => !pr p)) ++ G ++ xs.drop j).length = xs.length := by simp only [List.length_append, List.length_drop]; omega
    refine wp_seq ?_
    refine rSeq fam0ok 2 [] [(0, .t (.c (.own 0 xs.length))), (1, .t (.c (.fn (.func 109) [] [.ptr 1 0]))), (4, .t (.c (.d (.raw nilV)))), (5, vi .i64 (((xs.take j).filter (fun p => !pr p)).length : Int)), (6, vi .i64 (j : Int)), (19, vb (decide ((j : Int) < (xs.length : Int))))] [(0, .row 32 3 ((((xs.take j).filter (fun p => !pr p)) ++ G ++ xs.drop j).map Part.d)), (1, .box [.d (.raw (.int .i64 n))])] (by kernel_rfl) h ?_; clear h; intro a w h
    refine condS (decide ((j : Int) < (xs.length : Int))) h rfl (fun hc => ?_) (fun hc => ?_)
    ·have hc1 := hc; clear hc
     have hc1' := of_decide_eq_true hc1
     refine wp_skip ?_
     refine then_n ?_
     refine wp_seq ?_
     refine wp_block ?_
     obtain ⟨x, hx⟩ : ∃ z_ : Part, xs[j]? = some z_ := ⟨_, List.getElem?_eq_getElem (by omega)⟩
     refine rSeq fam0ok 2 [(2, .gen _ _ _ fun _ _ _ _ => Op.idxO (d := 24) (t := 22) (k := .i64) (n := 0) (len := xs.length) (i := j) ta_0 (by first | omega | (simp at *; omega)) (OV.tmp 23 _)), (3, .gen _ _ _ fun _ _ _ _ => Op.loadR_agg (d := 25) (t := 24) (n := 0) (i := j) (fo := 0) (rty := 32) (es := 3) (xs := [.raw (.int .i64 x.v), .raw (.bool x.c.neg), nsl x.c.abs]) te_1 rfl (map_at (show ((((xs.take j).filter (fun p => !pr p)) ++ G ++ xs.drop j) : List Part)[j]? = some x from del_at (pr := pr) hI2 hx) (f := Part.d)) rfl rfl)] [(0, .t (.c (.own 0 xs.length))), (1, .t (.c (.fn (.func 109) [] [.ptr 1 0]))), (4, .t (.c (.d (.raw nilV)))), (5, vi .i64 (((xs.take j).filter (fun p => !pr p)).length : Int)), (6, vi .i64 (j : Int)), (7, vp 2 0)] [(0, .row 32 3 ((((xs.take j).filter (fun p => !pr p)) ++ G ++ xs.drop j).map Part.d)), (1, .box [.d (.raw (.int .i64 n))]), (2, .box ([.d (.raw (.int .i64 x.v))] ++ zi x.c))] (by kernel_rfl) h ?_; clear h; intro a w h
     refine rSeq fam0ok 3 [(2, .gen _ _ _ fun _ _ _ _ => Op.callV (d := 28) (t := 26) (cap := [.ptr 1 0]) (args := [.t (.agg ([.d (.raw (.int .i64 x.v))] ++ zi x.c))]) (rs := [(27, .t (.agg ([.d (.raw (.int .i64 x.v))] ++ zi x.c)))]) (tys := #[32]) (hf x (List.mem_of_getElem? hx)) tp_3 (OVs.cons (OV.tmp 27 _) (OVs.nil)))] [(0, .t (.c (.own 0 xs.length))), (1, .t (.c (.fn (.func 109) [] [.ptr 1 0]))), (4, .t (.c (.d (.raw nilV)))), (5, vi .i64 (((xs.take j).filter (fun p => !pr p)).length : Int)), (6, vi .i64 (j : Int)), (7, vp 2 0), (29, vb (!(pr x)))] [(0, .row 32 3 ((((xs.take j).filter (fun p => !pr p)) ++ G ++ xs.drop j).map Part.d)), (1, .box [.d (.raw (.int .i64 n))]), (2, .box ([.d (.raw (.int .i64 x.v))] ++ zi x.c))] (by kernel_rfl) h ?_; clear h; intro a w h
     refine condS (!(pr x)) h rfl (fun hc => ?_) (fun hc => ?_)
     ·have hc2 := hc; clear hc
      have hc2' := hc2; (try simp at hc2')
      obtain ⟨x3, hx3⟩ : ∃ z_ : Part, (((xs.take j).filter (fun p => !pr p)) ++ G ++ xs.drop j)[((xs.take j).filter (fun p => !pr p)).length]? = some z_ := ⟨_, List.getElem?_eq_getElem (by first | omega | (simp at *; omega))⟩
      refine rSeq fam0ok 3 [(3, .gen _ _ _ fun _ _ _ _ => Op.idxO (d := 33) (t := 30) (k := .i64) (n := 0) (len := xs.length) (i := ((xs.take j).filter (fun p => !pr p)).length) ta_0 (by first | omega | (simp at *; omega)) (OV.tmp 31 _)), (4, .gen _ _ _ fun _ _ _ _ => Op.storeR (t := 33) (n := 0) (i := ((xs.take j).filter (fun p => !pr p)).length) (fo := 0) (rty := 32) (es := 3) (r := Part.d x3) (ds := [.raw (.int .i64 x.v), .raw (.bool x.c.neg), nsl x.c.abs]) (rs := [(32, .t (.agg ([.d (.raw (.int .i64 x.v))] ++ zi x.c)))]) (rows := (((xs.take j).filter (fun p => !pr p)) ++ G ++ xs.drop j).map Part.d) (rows' := ((((xs.take j).filter (fun p => !pr p)) ++ G ++ xs.drop j).set ((xs.take j).filter (fun p => !pr p)).length x).map Part.d) te_1 (OV.tmp 32 _) rfl rfl rfl (map_at hx3 (f := Part.d)) (by simp [Part.d]) (set_map (xs := (((xs.take j).filter (fun p => !pr p)) ++ G ++ xs.drop j)) (F := Part.d) ((xs.take j).filter (fun p => !pr p)).length _ _ rfl))] [(0, .t (.c (.own 0 xs.length))), (1, .t (.c (.fn (.func 109) [] [.ptr 1 0]))), (4, .t (.c (.d (.raw nilV)))), (5, vi .i64 (((xs.take j).filter (fun p => !pr p)).length : Int)), (6, vi .i64 (j : Int))] [(0, .row 32 3 (((((xs.take j).filter (fun p => !pr p)) ++ G ++ xs.drop j).set ((xs.take j).filter (fun p => !pr p)).length x).map Part.d)), (1, .box [.d (.raw (.int .i64 n))])] (by kernel_rfl) h ?_; clear h; intro a w h
      refine rS fam0ok 3 [(1, .gen _ _ _ fun _ _ _ _ => Op.arith (op := .add) (d := 35) (xt := 3) (yt := 3) (k := .i64) (m := (((xs.take j).filter (fun p => !pr p)).length : Int)) (n := 1) (r := ((((xs.take j).filter (fun p => !pr p)).length + 1 : Nat) : Int)) (OV.tmp 34 _) (OV.const (.int .i64 1) rfl) (.inl ⟨rfl, (by omega)⟩) (i64_id (by omega) (by omega)))] [(0, .t (.c (.own 0 xs.length))), (1, .t (.c (.fn (.func 109) [] [.ptr 1 0]))), (4, .t (.c (.d (.raw nilV)))), (5, vi .i64 ((((xs.take j).filter (fun p => !pr p)).length + 1 : Nat) : Int)), (6, vi .i64 (j : Int))] [(0, .row 32 3 (((((xs.take j).filter (fun p => !pr p)) ++ G ++ xs.drop j).set ((xs.take j).filter (fun p => !pr p)).length x).map Part.d)), (1, .box [.d (.raw (.int .i64 n))])] (by kernel_rfl) h ?_; clear h; intro a w h
      refine block_n ?_
      refine then_n ?_
      refine rS fam0ok 3 [(1, .add .i64 (m := (j : Int)) (n := 1) (i64_id (by omega) (by omega)))] [(0, .t (.c (.own 0 xs.length))), (1, .t (.c (.fn (.func 109) [] [.ptr 1 0]))), (4, .t (.c (.d (.raw nilV)))), (5, vi .i64 ((((xs.take j).filter (fun p => !pr p)).length + 1 : Nat) : Int)), (6, vi .i64 ((j : Int) + 1))] [(0, .row 32 3 (((((xs.take j).filter (fun p => !pr p)) ++ G ++ xs.drop j).set ((xs.take j).filter (fun p => !pr p)).length x).map Part.d)), (1, .box [.d (.raw (.int .i64 n))])] (by kernel_rfl) h ?_; clear h; intro a w h
      refine then_n ?_
      have hp : pr x = false := (by simpa using hc2)
      replace h := h.conv (f' := F.of [(0, .t (.c (.own 0 xs.length))), (1, .t (.c (.fn (.func 109) [] [.ptr 1 0]))), (4, .t (.c (.d (.raw nilV)))), (5, vi .i64 (((xs.take (j + 1)).filter (fun p => !pr p)).length : Int)), (6, vi .i64 ((j : Int) + 1))] [(0, .row 32 3 (((((xs.take j).filter (fun p => !pr p)) ++ G ++ xs.drop j).set ((xs.take j).filter (fun p => !pr p)).length x).map Part.d)), (1, .box [.d (.raw (.int .i64 n))])]) (by rw [← filt_len hx hp])
      replace h := h.conv (f' := F.of [(0, .t (.c (.own 0 xs.length))), (1, .t (.c (.fn (.func 109) [] [.ptr 1 0]))), (4, .t (.c (.d (.raw nilV)))), (5, vi .i64 (((xs.take (j + 1)).filter (fun p => !pr p)).length : Int)), (6, vi .i64 ((j : Int) + 1))] [(0, .row 32 3 ((((xs.take (j + 1)).filter (fun p => !pr p)) ++ (G.tail ++ [x]) ++ xs.drop (j + 1)).map Part.d)), (1, .box [.d (.raw (.int .i64 n))])]) (congrArg (fun (z_ : List Part) => F.of [(0, .t (.c (.own 0 xs.length))), (1, .t (.c (.fn (.func 109) [] [.ptr 1 0]))), (4, .t (.c (.d (.raw nilV)))), (5, vi .i64 (((xs.take (j + 1)).filter (fun p => !pr p)).length : Int)), (6, vi .i64 ((j : Int) + 1))] [(0, .row 32 3 (z_.map Part.d)), (1, .box [.d (.raw (.int .i64 n))])]) (show (((((xs.take j).filter (fun p => !pr p)) ++ G ++ xs.drop j).set ((xs.take j).filter (fun p => !pr p)).length x) : List Part) = (((xs.take (j + 1)).filter (fun p => !pr p)) ++ (G.tail ++ [x]) ++ xs.drop (j + 1)) from del_keep hx hp hI3))
      refine roundS (x := (j, G)) (y := ((j + 1), (G.tail ++ [x]))) h ?_ ?_ (by kernel_rfl) (by kernel_rfl)
      ·exact ⟨by have := at_lt hx; omega, by rw [← filt_len hx hp, List.length_append, List.length_tail]; simp only [List.length_cons, List.length_nil]; omega, by rw [List.length_append]; simp only [List.length_cons, List.length_nil]; omega⟩
      ·show xs.length - (j + 1) < xs.length - j
       have := at_lt hx; omega
     ·have hc3 := hc; clear hc
      have hc3' := hc3; (try simp at hc3')
      refine wp_skip ?_
      refine block_n ?_
      refine then_n ?_
      refine rS fam0ok 3 [(1, .add .i64 (m := (j : Int)) (n := 1) (i64_id (by omega) (by omega)))] [(0, .t (.c (.own 0 xs.length))), (1, .t (.c (.fn (.func 109) [] [.ptr 1 0]))), (4, .t (.c (.d (.raw nilV)))), (5, vi .i64 (((xs.take j).filter (fun p => !pr p)).length : Int)), (6, vi .i64 ((j : Int) + 1))] [(0, .row 32 3 ((((xs.take j).filter (fun p => !pr p)) ++ G ++ xs.drop j).map Part.d)), (1, .box [.d (.raw (.int .i64 n))])] (by kernel_rfl) h ?_; clear h; intro a w h
      refine then_n ?_
      have hp : pr x = true := (by simpa using hc3)
      replace h := h.conv (f' := F.of [(0, .t (.c (.own 0 xs.length))), (1, .t (.c (.fn (.func 109) [] [.ptr 1 0]))), (4, .t (.c (.d (.raw nilV)))), (5, vi .i64 (((xs.take (j + 1)).filter (fun p => !pr p)).length : Int)), (6, vi .i64 ((j : Int) + 1))] [(0, .row 32 3 ((((xs.take j).filter (fun p => !pr p)) ++ G ++ xs.drop j).map Part.d)), (1, .box [.d (.raw (.int .i64 n))])]) (by rw [← filt_len0 hx hp])
      replace h := h.conv (f' := F.of [(0, .t (.c (.own 0 xs.length))), (1, .t (.c (.fn (.func 109) [] [.ptr 1 0]))), (4, .t (.c (.d (.raw nilV)))), (5, vi .i64 (((xs.take (j + 1)).filter (fun p => !pr p)).length : Int)), (6, vi .i64 ((j : Int) + 1))] [(0, .row 32 3 ((((xs.take (j + 1)).filter (fun p => !pr p)) ++ (G ++ [x]) ++ xs.drop (j + 1)).map Part.d)), (1, .box [.d (.raw (.int .i64 n))])]) (congrArg (fun (z_ : List Part) => F.of [(0, .t (.c (.own 0 xs.length))), (1, .t (.c (.fn (.func 109) [] [.ptr 1 0]))), (4, .t (.c (.d (.raw nilV)))), (5, vi .i64 (((xs.take (j + 1)).filter (fun p => !pr p)).length : Int)), (6, vi .i64 ((j : Int) + 1))] [(0, .row 32 3 (z_.map Part.d)), (1, .box [.d (.raw (.int .i64 n))])]) (show ((((xs.take j).filter (fun p => !pr p)) ++ G ++ xs.drop j) : List Part) = (((xs.take (j + 1)).filter (fun p => !pr p)) ++ (G ++ [x]) ++ xs.drop (j + 1)) from del_skip hx hp))
      refine roundS (x := (j, G)) (y := ((j + 1), (G ++ [x]))) h ?_ ?_ (by kernel_rfl) (by kernel_rfl)
      ·exact ⟨by have := at_lt hx; omega, by rw [← filt_len0 hx hp, List.length_append]; simp only [List.length_cons, List.length_nil]; omega, by rw [List.length_append]; simp only [List.length_cons, List.length_nil]; omega⟩
      ·show xs.length - (j + 1) < xs.length - j
       have := at_lt hx; omega
    ·have hc4 := hc; clear hc
     have hc4' := of_decide_eq_false hc4
     refine wp_exit ?_
     refine then_x ?_
     refine then_x ?_
     refine inBlock_exit ?_
     refine then_n ?_
     have hj : j = xs.length := by omega
     have hF : ((xs.take j).filter (fun p => !pr p)) = (xs.filter (fun p => !pr p)) := by rw [hj, List.take_length]
     refine rSeq fam0ok 3 [(2, .gen _ _ _ fun _ _ _ _ => Op.sliceLo (d := 38) (t := 36) (k := .i64) (n := 0) (len := xs.length) (l := ((xs.take j).filter (fun p => !pr p)).length) (rows := (((xs.take j).filter (fun p => !pr p)) ++ G ++ xs.drop j).map Part.d) (rty := 32) ta_0 (by first | omega | (simp only [List.length_map, List.length_append, List.length_drop]; omega)) (OV.tmp 37 _) (by first | omega | (simp at *; omega)) rfl), (3, .gen _ _ _ fun _ _ _ _ => Op.clearCut' (rows' := ((xs.take j).filter (fun p => !pr p)).map Part.d) (o := none) (t := 38) (n := 0) (off := ((xs.take j).filter (fun p => !pr p)).length * 3) (len := (xs.length - ((xs.take j).filter (fun p => !pr p)).length)) (l := ((xs.take j).filter (fun p => !pr p)).length) (es := 3) (rows := (((xs.take j).filter (fun p => !pr p)) ++ G ++ xs.drop j).map Part.d) (rty := 32) (zs := [.d (.raw (.int .i64 0)), .d (.raw (.bool false)), .d (nsl [])]) ta_0.hu tk_4 rfl rfl (by first | omega | (simp only [List.length_map, List.length_append, List.length_drop]; omega)) _ rfl (by simp [List.map_append]))] [(0, .t (.c (.own 0 xs.length))), (4, .t (.c (.d (.raw nilV)))), (5, vi .i64 (((xs.take j).filter (fun p => !pr p)).length : Int))] [(0, .row 32 3 (((xs.take j).filter (fun p => !pr p)).map Part.d)), (1, .box [.d (.raw (.int .i64 n))])] (by kernel_rfl) h ?_; clear h; intro a w h
     refine rSeq fam0ok 3 [(2, .gen _ _ _ fun _ _ _ _ => Op.sliceHi (d := 41) (t := 39) (k := .i64) (n := 0) (len := xs.length) (h := ((xs.take j).filter (fun p => !pr p)).length) (rows := ((xs.take j).filter (fun p => !pr p)).map Part.d) (rty := 32) ta_0 (by first | omega | (simp only [List.length_map]; omega)) (OV.tmp 40 _))] [(4, .t (.c (.own 0 ((xs.take j).filter (fun p => !pr p)).length)))] [(0, .row 32 3 (((xs.take j).filter (fun p => !pr p)).map Part.d)), (1, .box [.d (.raw (.int .i64 n))])] (by kernel_rfl) h ?_; clear h; intro a w h
     refine wp_ret ?_
     replace h := h.conv (f' := F.of [(4, .t (.c (.own 0 (xs.filter (fun p => !pr p)).length)))] [(0, .row 32 3 (((xs.take j).filter (fun p => !pr p)).map Part.d)), (1, .box [.d (.raw (.int .i64 n))])]) (by rw [hF])
     replace h := h.conv (f' := F.of [(4, .t (.c (.own 0 (xs.filter (fun p => !pr p)).length)))] [(0, .row 32 3 ((xs.filter (fun p => !pr p)).map Part.d)), (1, .box [.d (.raw (.int .i64 n))])]) (congrArg (fun (z_ : List Part) => F.of [(4, .t (.c (.own 0 (xs.filter (fun p => !pr p)).length)))] [(0, .row 32 3 (z_.map Part.d)), (1, .box [.d (.raw (.int .i64 n))])]) (show (((xs.take j).filter (fun p => !pr p)) : List Part) = (xs.filter (fun p => !pr p)) from hF))
     refine retS [.c (.own 0 (xs.filter (fun p => !pr p)).length)] h Exit.ret (.inl rfl)  rfl ⟨RV.tmp _ _ rfl, trivial⟩ ?_ (by kernel_rfl) (by kernel_rfl)
     rfl
theorem SPlainO0 (t : Term) (ht : PsOk 40000 t.parts) (hk : Lb t.k.abs) (lk : t.k.abs.length ≤ 40000) : Fn Tryz.prog 41 [] [.t (.agg ([.d (.sl 3 (t.parts.map Part.d))] ++ zi t.k))] (.t (.agg ([.own 0 (plainT t).parts.length] ++ zi (plainT t).k))) [(0, .row 32 3 ((plainT t).parts.map Part.d))] := by
 have ln := ht.1
 refine Fn.body Tryz.func41 rfl 74 rfl fun w H B a h => ?_
 refine rSeq fam0ok 5 [] [(1, vp 5 0), (2, vp 6 0)] [(5, .box ([.d (.sl 3 (t.parts.map Part.d))] ++ zi t.k)), (6, .box [.d (.raw nilV), .d (.raw (.bool false)), .d (nsl [])])] (by kernel_rfl) h ?_; clear h; intro a w h
 refine rSeq fam0ok 7 [(2, .call (SClone t.parts (by omega)) tl_3)] [(1, vp 5 0), (2, vp 6 0), (3, .t (.c (.own 0 t.parts.length)))] [(5, .box ([.d (.sl 3 (t.parts.map Part.d))] ++ zi t.k)), (6, .box [.d (.raw nilV), .d (.raw (.bool false)), .d (nsl [])]), (0, .row 32 3 (t.parts.map Part.d))] (by kernel_rfl) h ?_; clear h; intro a w h
 refine rSeq fam0ok 7 [(1, .call (SSortStable t.parts (by omega)) tl_4)] [(1, vp 5 0), (2, vp 6 0), (3, .t (.c (.own 0 t.parts.length)))] [(5, .box ([.d (.sl 3 (t.parts.map Part.d))] ++ zi t.k)), (6, .box [.d (.raw nilV), .d (.raw (.bool false)), .d (nsl [])]), (0, .row 32 3 ((ssV Part.v t.parts).map Part.d))] (by kernel_rfl) h ?_; clear h; intro a w h
 obtain ⟨r3, er3, vr3, or3, lr3⟩ := mkZ (v := t.k.val) (m := t.k.abs.length) (len_id hk)
 refine rSeq fam0ok 7 [(2, .call (Fn.cast (Scopied t.k hk (by omega)) (congrArg vz er3.symm)) tl_5)] [(2, vp 6 0), (3, .t (.c (.own 0 t.parts.length))), (4, vp 7 0)] [(6, .box [.d (.raw nilV), .d (.raw (.bool false)), .d (nsl [])]), (0, .row 32 3 ((ssV Part.v t.parts).map Part.d)), (7, .box ([.d (.raw nilV)] ++ zi r3))] (by kernel_rfl) h ?_; clear h; intro a w h
 refine wp_seq ?_
 replace h := nilOLs 7 0 8 3 32 ([.d (.raw nilV)] ++ zi r3) [(2, vp 6 0), (3, .t (.c (.own 0 t.parts.length))), (4, vp 7 0)] [(6, .box [.d (.raw nilV), .d (.raw (.bool false)), .d (nsl [])]), (0, .row 32 3 ((ssV Part.v t.parts).map Part.d)), (7, .box ([.own 8 0] ++ zi r3)), (8, .row 32 3 ([].map Part.d))] h (by kernel_rfl) rfl rfl (by kernel_rfl) (by kernel_rfl)
 refine rSeq fam0ok 9 [] [(2, vp 6 0), (4, vp 7 0), (17, .t (.c (.own 0 t.parts.length))), (18, vi .i64 (t.parts.length : Int)), (19, vi .i64 0)] [(6, .box [.d (.raw nilV), .d (.raw (.bool false)), .d (nsl [])]), (0, .row 32 3 ((ssV Part.v t.parts).map Part.d)), (7, .box ([.own 8 0] ++ zi r3)), (8, .row 32 3 ([].map Part.d))] (by kernel_rfl) h ?_; clear h; intro a w h
 refine wp_block ?_
 refine loopS (ι := (Nat) × (List Part)) (fun (z_ : (Nat) × (List Part)) => match z_ with | (j, out) => out = (mrgZ ((ssV Part.v t.parts).take j)) ∧ j ≤ (ssV Part.v t.parts).length ∧ out.length ≤ j ∧ MOk 40000 j out)
   (fun (z_ : (Nat) × (List Part)) => match z_ with | (j, out) => [(2, vp 6 0), (4, vp 7 0), (17, .t (.c (.own 0 t.parts.length))), (18, vi .i64 (t.parts.length : Int)), (19, vi .i64 (j : Int))])
   (fun (z_ : (Nat) × (List Part)) => match z_ with | (j, out) => [(6, .box [.d (.raw nilV), .d (.raw (.bool false)), .d (nsl [])]), (0, .row 32 3 ((ssV Part.v t.parts).map Part.d)), (7, .box ([.own 8 out.length] ++ zi r3)), (8, .row 32 3 (out.map Part.d))])
   (fun (z_ : (Nat) × (List Part)) => match z_ with | (j, out) => (ssV Part.v t.parts).length - j) (0, []) ?_ h (by kernel_rfl) (by kernel_rfl) ?_
 ·exact ⟨by simp [mrgZ], Nat.zero_le _, Nat.zero_le _, fun q hq => (by cases hq)⟩
 ·clear h; rintro ⟨j, out⟩ a w hI h
  change St _ (F.of [(2, vp 6 0), (4, vp 7 0), (17, .t (.c (.own 0 t.parts.length))), (18, vi .i64 (t.parts.length : Int)), (19, vi .i64 (j : Int))] [(6, .box [.d (.raw nilV), .d (.raw (.bool false)), .d (nsl [])]), (0, .row 32 3 ((ssV Part.v t.parts).map Part.d)), (7, .box ([.own 8 out.length] ++ zi r3)), (8, .row 32 3 (out.map Part.d))]) a w at h
  obtain ⟨hI1, hI2, hI3, hI4⟩ := hI
  have ln := ht.1
  have ls : (ssV Part.v t.parts).length = t.parts.length := ssV_len _
  refine rSeq fam0ok 9 [] [(2, vp 6 0), (4, vp 7 0), (17, .t (.c (.own 0 t.parts.length))), (18, vi .i64 (t.parts.length : Int)), (19, vi .i64 (j : Int)), (20, vb (decide ((j : Int) < (t.parts.length : Int))))] [(6, .box [.d (.raw nilV), .d (.raw (.bool false)), .d (nsl [])]), (0, .row 32 3 ((ssV Part.v t.parts).map Part.d)), (7, .box ([.own 8 out.length] ++ zi r3)), (8, .row 32 3 (out.map Part.d))] (by kernel_rfl) h ?_; clear h; intro a w h
  refine wp_seq ?_
  refine condS (decide ((j : Int) < (t.parts.length : Int))) h rfl (fun hc => ?_) (fun hc => ?_)
  ·have hc1 := hc; clear hc
   have hc1' := of_decide_eq_true hc1
   refine wp_skip ?_
   refine then_n ?_
   refine wp_seq ?_
   refine wp_block ?_
   obtain ⟨x4, hx4⟩ : ∃ z_ : Part, (ssV Part.v t.parts)[j]? = some z_ := ⟨_, List.getElem?_eq_getElem (by first | omega | (simp at *; omega))⟩
   obtain ⟨ox4, lx4⟩ := ht.get_mem (ssV_mem (List.mem_of_getElem? hx4))
   refine rSeq fam0ok 9 [(0, .gen _ _ _ fun _ _ _ _ => Op.idxO (d := 21) (t := 17) (k := .i64) (n := 0) (len := t.parts.length) (i := j) ta_0 (by first | omega | (simp at *; omega)) (OV.tmp 19 _)), (1, .gen _ _ _ fun _ _ _ _ => Op.loadR_agg (d := 22) (t := 21) (n := 0) (i := j) (fo := 0) (rty := 32) (es := 3) (xs := [.raw (.int .i64 x4.v), .raw (.bool x4.c.neg), nsl x4.c.abs]) te_1 rfl (map_at hx4 (f := Part.d)) rfl rfl)] [(2, vp 6 0), (4, vp 7 0), (6, vp 9 0), (17, .t (.c (.own 0 t.parts.length))), (18, vi .i64 (t.parts.length : Int)), (19, vi .i64 (j : Int))] [(6, .box [.d (.raw nilV), .d (.raw (.bool false)), .d (nsl [])]), (0, .row 32 3 ((ssV Part.v t.parts).map Part.d)), (7, .box ([.own 8 out.length] ++ zi r3)), (8, .row 32 3 (out.map Part.d)), (9, .box ([.d (.raw (.int .i64 x4.v))] ++ zi x4.c))] (by kernel_rfl) h ?_; clear h; intro a w h
   refine wp_seq ?_
   refine rSeq fam0ok 10 [] [(2, vp 6 0), (4, vp 7 0), (6, vp 9 0), (17, .t (.c (.own 0 t.parts.length))), (18, vi .i64 (t.parts.length : Int)), (19, vi .i64 (j : Int)), (25, vb (decide (x4.v < 0)))] [(6, .box [.d (.raw nilV), .d (.raw (.bool false)), .d (nsl [])]), (0, .row 32 3 ((ssV Part.v t.parts).map Part.d)), (7, .box ([.own 8 out.length] ++ zi r3)), (8, .row 32 3 (out.map Part.d)), (9, .box ([.d (.raw (.int .i64 x4.v))] ++ zi x4.c))] (by kernel_rfl) h ?_; clear h; intro a w h
   refine condS (decide (x4.v < 0)) h rfl (fun hc => ?_) (fun hc => ?_)
   ·have hc2 := hc; clear hc
    have hc2' := of_decide_eq_true hc2
    refine wp_exit ?_
    refine then_x ?_
    refine inBlock_exit ?_
    refine then_n ?_
    refine rS fam0ok 10 [(0, .add .i64 (m := (j : Int)) (n := 1) (i64_id (by omega) (by omega)))] [(2, vp 6 0), (4, vp 7 0), (17, .t (.c (.own 0 t.parts.length))), (18, vi .i64 (t.parts.length : Int)), (19, vi .i64 ((j : Int) + 1))] [(6, .box [.d (.raw nilV), .d (.raw (.bool false)), .d (nsl [])]), (0, .row 32 3 ((ssV Part.v t.parts).map Part.d)), (7, .box ([.own 8 out.length] ++ zi r3)), (8, .row 32 3 (out.map Part.d))] (by kernel_rfl) h ?_; clear h; intro a w h
    refine then_n ?_
    have hst : (mrgZ ((ssV Part.v t.parts).take (j + 1))) = mrgStep out x4 := by rw [hI1, show ((ssV Part.v t.parts).take (j + 1) : List Part) = (ssV Part.v t.parts).take j ++ [x4] from by rw [List.take_add_one, hx4]; rfl, mrgZ_snoc]
    have hst2 := mrg_neg (out := out) hc2'
    refine roundS (x := (j, out)) (y := ((j + 1), out)) h ?_ ?_ (by kernel_rfl) (by kernel_rfl)
    ·exact ⟨by rw [hst, hst2], (by have := at_lt hx4; omega), by omega, by have hh := hI4.step (ht.get_mem (ssV_mem (List.mem_of_getElem? hx4))); rw [hst2] at hh; exact hh⟩
    ·show (ssV Part.v t.parts).length - (j + 1) < (ssV Part.v t.parts).length - j
     have := at_lt hx4; omega
   ·have hc3 := hc; clear hc
    have hc3' := of_decide_eq_false hc3
    refine wp_skip ?_
    refine then_n ?_
    rcases Nat.eq_zero_or_pos out.length with hz | hz
    ·refine rSeq fam0ok 10 [(3, .gen _ _ _ fun _ _ _ _ => Op.arith (op := .sub) (d := 29) (xt := 3) (yt := 3) (k := .i64) (m := (out.length : Int)) (n := 1) (r := (-1)) (OV.tmp 28 _) (OV.const (.int .i64 1) rfl) (.inr (.inl ⟨rfl, (by omega)⟩)) (i64_id (by omega) (by omega)))] [(2, vp 6 0), (4, vp 7 0), (6, vp 9 0), (7, vi .i64 (-1)), (17, .t (.c (.own 0 t.parts.length))), (18, vi .i64 (t.parts.length : Int)), (19, vi .i64 (j : Int))] [(6, .box [.d (.raw nilV), .d (.raw (.bool false)), .d (nsl [])]), (0, .row 32 3 ((ssV Part.v t.parts).map Part.d)), (7, .box ([.own 8 out.length] ++ zi r3)), (8, .row 32 3 (out.map Part.d)), (9, .box ([.d (.raw (.int .i64 x4.v))] ++ zi x4.c))] (by kernel_rfl) h ?_; clear h; intro a w h
     refine rSeq fam0ok 10 [(1, .cmp (op := .geq) (m := (-1)) (n := 0) (b := false) .i64 rfl)] [(2, vp 6 0), (4, vp 7 0), (6, vp 9 0), (7, vi .i64 (-1)), (17, .t (.c (.own 0 t.parts.length))), (18, vi .i64 (t.parts.length : Int)), (19, vi .i64 (j : Int)), (42, vb false)] [(6, .box [.d (.raw nilV), .d (.raw (.bool false)), .d (nsl [])]), (0, .row 32 3 ((ssV Part.v t.parts).map Part.d)), (7, .box ([.own 8 out.length] ++ zi r3)), (8, .row 32 3 (out.map Part.d)), (9, .box ([.d (.raw (.int .i64 x4.v))] ++ zi x4.c))] (by kernel_rfl) h ?_; clear h; intro a w h
     refine condS false h rfl (fun hc => ?_) (fun hc => ?_)
     ·cases hc
     ·clear hc
      obtain ⟨r5, er5, vr5, or5, lr5⟩ := mkZ (v := x4.c.val) (m := x4.c.abs.length) (len_id ox4)
      refine rS fam0ok 10 [(6, .call (Fn.cast (Scopied x4.c ox4 (by omega)) (congrArg vz er5.symm)) tl_5), (8, .gen _ _ _ fun _ _ _ _ => Op.buildD (d := 65) (len := 1) (rows := [(Part.mk x4.v r5)].map Part.d) (rs := [(64, .t (.agg ([.d (.raw (.int .i64 x4.v))] ++ zi r5)))]) tb_9 (.cons (i := 0) (OV.tmp 64 _) (.nil)) (by kernel_rfl) rfl (by simp [Part.d]) (by decide) (by decide)), (9, .gen _ _ _ fun _ _ _ _ => Op.appOD (d := 66) (t := 58) (u := 65) (n := 8) (n' := 10) (len := out.length) (len' := (out ++ [(Part.mk x4.v r5)]).length) (rows := out.map Part.d) (rows2 := [(Part.mk x4.v r5)].map Part.d) (rows' := (out ++ [(Part.mk x4.v r5)]).map Part.d) tb_10 (by first | exact (List.length_map _).symm | simp) (by first | (rw [List.length_append, List.length_map]; done) | simp) (by simp) (by simp [Part.d]) (by first | omega | (simp at *; done) | (simp at *; omega)))] [(2, vp 6 0), (4, vp 7 0), (17, .t (.c (.own 0 t.parts.length))), (18, vi .i64 (t.parts.length : Int)), (19, vi .i64 (j : Int))] [(6, .box [.d (.raw nilV), .d (.raw (.bool false)), .d (nsl [])]), (0, .row 32 3 ((ssV Part.v t.parts).map Part.d)), (7, .box ([.own 10 (out ++ [(Part.mk x4.v r5)]).length] ++ zi r3)), (10, .row 32 3 ((out ++ [(Part.mk x4.v r5)]).map Part.d))] (by kernel_rfl) h ?_; clear h; intro a w h
      refine block_n ?_
      refine then_n ?_
      refine rS fam0ok 11 [(0, .add .i64 (m := (j : Int)) (n := 1) (i64_id (by omega) (by omega)))] [(2, vp 6 0), (4, vp 7 0), (17, .t (.c (.own 0 t.parts.length))), (18, vi .i64 (t.parts.length : Int)), (19, vi .i64 ((j : Int) + 1))] [(6, .box [.d (.raw nilV), .d (.raw (.bool false)), .d (nsl [])]), (0, .row 32 3 ((ssV Part.v t.parts).map Part.d)), (7, .box ([.own 10 (out ++ [(Part.mk x4.v r5)]).length] ++ zi r3)), (10, .row 32 3 ((out ++ [(Part.mk x4.v r5)]).map Part.d))] (by kernel_rfl) h ?_; clear h; intro a w h
      refine then_n ?_
      have hst : (mrgZ ((ssV Part.v t.parts).take (j + 1))) = mrgStep out x4 := by rw [hI1, show ((ssV Part.v t.parts).take (j + 1) : List Part) = (ssV Part.v t.parts).take j ++ [x4] from by rw [List.take_add_one, hx4]; rfl, mrgZ_snoc]
      have hst2 := mrg_nil hc3' hz
      replace h := renS 10 8 [(2, vp 6 0), (4, vp 7 0), (17, .t (.c (.own 0 t.parts.length))), (18, vi .i64 (t.parts.length : Int)), (19, vi .i64 ((j : Int) + 1))] [(6, .box [.d (.raw nilV), .d (.raw (.bool false)), .d (nsl [])]), (0, .row 32 3 ((ssV Part.v t.parts).map Part.d)), (7, .box ([.own 8 (out ++ [(Part.mk x4.v r5)]).length] ++ zi r3)), (8, .row 32 3 ((out ++ [(Part.mk x4.v r5)]).map Part.d))] h (by kernel_rfl) (by kernel_rfl) (by kernel_rfl)
      refine roundS (x := (j, out)) (y := ((j + 1), (out ++ [(Part.mk x4.v r5)]))) h ?_ ?_ (by kernel_rfl) (by kernel_rfl)
      ·have hnew : (out ++ [(Part.mk x4.v r5)]) = mrgStep out x4 := by rw [hst2, er5]
       exact ⟨by rw [hst]; exact hnew, (by have := at_lt hx4; omega), by rw [List.length_append]; simp only [List.length_cons, List.length_nil]; omega, by rw [hnew]; exact hI4.step (ht.get_mem (ssV_mem (List.mem_of_getElem? hx4)))⟩
      ·show (ssV Part.v t.parts).length - (j + 1) < (ssV Part.v t.parts).length - j
       have := at_lt hx4; omega
    ·obtain ⟨k, hk1⟩ : ∃ k, out.length = k + 1 := ⟨out.length - 1, by omega⟩
     refine rSeq fam0ok 11 [(3, .gen _ _ _ fun _ _ _ _ => Op.arith (op := .sub) (d := 29) (xt := 3) (yt := 3) (k := .i64) (m := (out.length : Int)) (n := 1) (r := (k : Int)) (OV.tmp 28 _) (OV.const (.int .i64 1) rfl) (.inr (.inl ⟨rfl, (by omega)⟩)) (i64_id (by omega) (by omega)))] [(2, vp 6 0), (4, vp 7 0), (6, vp 9 0), (7, vi .i64 (k : Int)), (17, .t (.c (.own 0 t.parts.length))), (18, vi .i64 (t.parts.length : Int)), (19, vi .i64 (j : Int))] [(6, .box [.d (.raw nilV), .d (.raw (.bool false)), .d (nsl [])]), (0, .row 32 3 ((ssV Part.v t.parts).map Part.d)), (7, .box ([.own 8 out.length] ++ zi r3)), (8, .row 32 3 (out.map Part.d)), (9, .box ([.d (.raw (.int .i64 x4.v))] ++ zi x4.c))] (by kernel_rfl) h ?_; clear h; intro a w h
     obtain ⟨x6, hx6⟩ : ∃ z_ : Part, out[k]? = some z_ := ⟨_, List.getElem?_eq_getElem (by first | omega | (simp at *; omega))⟩
     obtain ⟨ox6, lx6⟩ := hI4.lb (List.mem_of_getElem? hx6) (by omega)
     refine rSeq fam0ok 11 [(1, .cmp (op := .geq) (m := (k : Int)) (n := 0) (b := true) .i64 (show decide ((k : Int) ≥ 0) = true from decide_eq_true (by omega))), (6, .gen _ _ _ fun _ _ _ _ => Op.idxO (d := 36) (t := 34) (k := .i64) (n := 8) (len := out.length) (i := k) ta_0 (by first | omega | (simp at *; omega)) (OV.tmp 35 _)), (8, .gen _ _ _ fun _ _ _ _ => Op.loadR_c (d := 38) (t := 37) (n := 8) (i := k) (fo := 0) (rty := 32) (es := 3) (x := (.raw (.int .i64 x6.v))) tl_7 rfl (map_at hx6 (f := Part.d)) rfl)] [(2, vp 6 0), (4, vp 7 0), (6, vp 9 0), (7, vi .i64 (k : Int)), (17, .t (.c (.own 0 t.parts.length))), (18, vi .i64 (t.parts.length : Int)), (19, vi .i64 (j : Int)), (42, vb (x6.v == x4.v))] [(6, .box [.d (.raw nilV), .d (.raw (.bool false)), .d (nsl [])]), (0, .row 32 3 ((ssV Part.v t.parts).map Part.d)), (7, .box ([.own 8 out.length] ++ zi r3)), (8, .row 32 3 (out.map Part.d)), (9, .box ([.d (.raw (.int .i64 x4.v))] ++ zi x4.c))] (by kernel_rfl) h ?_; clear h; intro a w h
     refine condS (x6.v == x4.v) h rfl (fun hc => ?_) (fun hc => ?_)
     ·have hc4 := hc; clear hc
      have hc4' := hc4; (try simp at hc4')
      obtain ⟨r7, er7, vr7, or7, lr7⟩ := mkZ (v := x6.c.val + x4.c.val) (m := x6.c.abs.length + x4.c.abs.length + 1) (len_add ox6 ox4)
      refine rS fam0ok 11 [(6, .gen _ _ _ fun _ _ _ _ => Op.idxO (d := 49) (t := 47) (k := .i64) (n := 8) (len := out.length) (i := k) ta_0 (by first | omega | (simp at *; omega)) (OV.tmp 48 _)), (8, .gen _ _ _ fun _ _ _ _ => Op.loadR_agg (d := 51) (t := 50) (n := 8) (i := k) (fo := 1) (rty := 32) (es := 3) (xs := [.raw (.bool x6.c.neg), nsl x6.c.abs]) ia_1 rfl (map_at hx6 (f := Part.d)) rfl rfl), (11, .call (Fn.cast (SAdd x6.c x4.c ox6 ox4 (by omega) (by omega)) (congrArg vz er7.symm)) tl_9), (12, .gen _ _ _ fun _ _ _ _ => Op.idxO (d := 55) (t := 44) (k := .i64) (n := 8) (len := out.length) (i := k) ta_0 (by first | omega | (simp at *; omega)) (OV.tmp 45 _)), (14, .gen _ _ _ fun _ _ _ _ => Op.storeR (t := 56) (n := 8) (i := k) (fo := 1) (rty := 32) (es := 3) (r := Part.d x6) (ds := [.raw (.bool r7.neg), nsl r7.abs]) (rs := [(54, vz r7)]) (rows := out.map Part.d) (rows' := (out.set k (Part.mk x6.v r7)).map Part.d) ia_1 (OV.tmp 54 _) rfl rfl rfl (map_at hx6 (f := Part.d)) (by simp [Part.d]) (set_map (xs := out) (F := Part.d) k _ _ rfl))] [(2, vp 6 0), (4, vp 7 0), (17, .t (.c (.own 0 t.parts.length))), (18, vi .i64 (t.parts.length : Int)), (19, vi .i64 (j : Int))] [(6, .box [.d (.raw nilV), .d (.raw (.bool false)), .d (nsl [])]), (0, .row 32 3 ((ssV Part.v t.parts).map Part.d)), (7, .box ([.own 8 out.length] ++ zi r3)), (8, .row 32 3 ((out.set k (Part.mk x6.v r7)).map Part.d))] (by kernel_rfl) h ?_; clear h; intro a w h
      refine block_n ?_
      refine then_n ?_
      refine rS fam0ok 11 [(0, .add .i64 (m := (j : Int)) (n := 1) (i64_id (by omega) (by omega)))] [(2, vp 6 0), (4, vp 7 0), (17, .t (.c (.own 0 t.parts.length))), (18, vi .i64 (t.parts.length : Int)), (19, vi .i64 ((j : Int) + 1))] [(6, .box [.d (.raw nilV), .d (.raw (.bool false)), .d (nsl [])]), (0, .row 32 3 ((ssV Part.v t.parts).map Part.d)), (7, .box ([.own 8 out.length] ++ zi r3)), (8, .row 32 3 ((out.set k (Part.mk x6.v r7)).map Part.d))] (by kernel_rfl) h ?_; clear h; intro a w h
      refine then_n ?_
      have hst : (mrgZ ((ssV Part.v t.parts).take (j + 1))) = mrgStep out x4 := by rw [hI1, show ((ssV Part.v t.parts).take (j + 1) : List Part) = (ssV Part.v t.parts).take j ++ [x4] from by rw [List.take_add_one, hx4]; rfl, mrgZ_snoc]
      replace h := h.conv (f' := F.of [(2, vp 6 0), (4, vp 7 0), (17, .t (.c (.own 0 t.parts.length))), (18, vi .i64 (t.parts.length : Int)), (19, vi .i64 ((j : Int) + 1))] [(6, .box [.d (.raw nilV), .d (.raw (.bool false)), .d (nsl [])]), (0, .row 32 3 ((ssV Part.v t.parts).map Part.d)), (7, .box ([.own 8 (out.set k (Part.mk x6.v r7)).length] ++ zi r3)), (8, .row 32 3 ((out.set k (Part.mk x6.v r7)).map Part.d))]) (by rw [List.length_set])
      have hst2 := mrg_same hc3' hk1 hx6 (by simpa using hc4)
      refine roundS (x := (j, out)) (y := ((j + 1), (out.set k (Part.mk x6.v r7)))) h ?_ ?_ (by kernel_rfl) (by kernel_rfl)
      ·have hnew : (out.set k (Part.mk x6.v r7)) = mrgStep out x4 := by rw [hst2, er7]
       exact ⟨by rw [hst]; exact hnew, (by have := at_lt hx4; omega), by rw [List.length_set]; omega, by rw [hnew]; exact hI4.step (ht.get_mem (ssV_mem (List.mem_of_getElem? hx4)))⟩
      ·show (ssV Part.v t.parts).length - (j + 1) < (ssV Part.v t.parts).length - j
       have := at_lt hx4; omega
     ·have hc5 := hc; clear hc
      have hc5' := hc5; (try simp at hc5')
      obtain ⟨r8, er8, vr8, or8, lr8⟩ := mkZ (v := x4.c.val) (m := x4.c.abs.length) (len_id ox4)
      refine rS fam0ok 11 [(6, .call (Fn.cast (Scopied x4.c ox4 (by omega)) (congrArg vz er8.symm)) tl_5), (8, .gen _ _ _ fun _ _ _ _ => Op.buildD (d := 65) (len := 1) (rows := [(Part.mk x4.v r8)].map Part.d) (rs := [(64, .t (.agg ([.d (.raw (.int .i64 x4.v))] ++ zi r8)))]) tb_9 (.cons (i := 0) (OV.tmp 64 _) (.nil)) (by kernel_rfl) rfl (by simp [Part.d]) (by decide) (by decide)), (9, .gen _ _ _ fun _ _ _ _ => Op.appOD (d := 66) (t := 58) (u := 65) (n := 8) (n' := 11) (len := out.length) (len' := (out ++ [(Part.mk x4.v r8)]).length) (rows := out.map Part.d) (rows2 := [(Part.mk x4.v r8)].map Part.d) (rows' := (out ++ [(Part.mk x4.v r8)]).map Part.d) tb_10 (by first | exact (List.length_map _).symm | simp) (by first | (rw [List.length_append, List.length_map]; done) | simp) (by simp) (by simp [Part.d]) (by first | omega | (simp at *; done) | (simp at *; omega)))] [(2, vp 6 0), (4, vp 7 0), (17, .t (.c (.own 0 t.parts.length))), (18, vi .i64 (t.parts.length : Int)), (19, vi .i64 (j : Int))] [(6, .box [.d (.raw nilV), .d (.raw (.bool false)), .d (nsl [])]), (0, .row 32 3 ((ssV Part.v t.parts).map Part.d)), (7, .box ([.own 11 (out ++ [(Part.mk x4.v r8)]).length] ++ zi r3)), (11, .row 32 3 ((out ++ [(Part.mk x4.v r8)]).map Part.d))] (by kernel_rfl) h ?_; clear h; intro a w h
      refine block_n ?_
      refine then_n ?_
      refine rS fam0ok 12 [(0, .add .i64 (m := (j : Int)) (n := 1) (i64_id (by omega) (by omega)))] [(2, vp 6 0), (4, vp 7 0), (17, .t (.c (.own 0 t.parts.length))), (18, vi .i64 (t.parts.length : Int)), (19, vi .i64 ((j : Int) + 1))] [(6, .box [.d (.raw nilV), .d (.raw (.bool false)), .d (nsl [])]), (0, .row 32 3 ((ssV Part.v t.parts).map Part.d)), (7, .box ([.own 11 (out ++ [(Part.mk x4.v r8)]).length] ++ zi r3)), (11, .row 32 3 ((out ++ [(Part.mk x4.v r8)]).map Part.d))] (by kernel_rfl) h ?_; clear h; intro a w h
      refine then_n ?_
      have hst : (mrgZ ((ssV Part.v t.parts).take (j + 1))) = mrgStep out x4 := by rw [hI1, show ((ssV Part.v t.parts).take (j + 1) : List Part) = (ssV Part.v t.parts).take j ++ [x4] from by rw [List.take_add_one, hx4]; rfl, mrgZ_snoc]
      have hst2 := mrg_new hc3' hk1 hx6 (by simpa using hc5)
      replace h := renS 11 8 [(2, vp 6 0), (4, vp 7 0), (17, .t (.c (.own 0 t.parts.length))), (18, vi .i64 (t.parts.length : Int)), (19, vi .i64 ((j : Int) + 1))] [(6, .box [.d (.raw nilV), .d (.raw (.bool false)), .d (nsl [])]), (0, .row 32 3 ((ssV Part.v t.parts).map Part.d)), (7, .box ([.own 8 (out ++ [(Part.mk x4.v r8)]).length] ++ zi r3)), (8, .row 32 3 ((out ++ [(Part.mk x4.v r8)]).map Part.d))] h (by kernel_rfl) (by kernel_rfl) (by kernel_rfl)
      refine roundS (x := (j, out)) (y := ((j + 1), (out ++ [(Part.mk x4.v r8)]))) h ?_ ?_ (by kernel_rfl) (by kernel_rfl)
      ·have hnew : (out ++ [(Part.mk x4.v r8)]) = mrgStep out x4 := by rw [hst2, er8]
       exact ⟨by rw [hst]; exact hnew, (by have := at_lt hx4; omega), by rw [List.length_append]; simp only [List.length_cons, List.length_nil]; omega, by rw [hnew]; exact hI4.step (ht.get_mem (ssV_mem (List.mem_of_getElem? hx4)))⟩
      ·show (ssV Part.v t.parts).length - (j + 1) < (ssV Part.v t.parts).length - j
       have := at_lt hx4; omega
  ·have hc6 := hc; clear hc
   have hc6' := of_decide_eq_false hc6
   refine wp_exit ?_
   refine then_x ?_
   refine then_x ?_
   refine inBlock_exit ?_
   refine then_n ?_
   replace h := atS (sl' := [(2, vp 6 0), (4, vp 7 0)]) (lc' := [(6, .box [.d (.raw nilV), .d (.raw (.bool false)), .d (nsl [])]), (7, .box ([.own 8 out.length] ++ zi r3)), (8, .row 32 3 (out.map Part.d))]) h (by kernel_rfl) (by kernel_rfl)
   replace h := renS 8 0 [(2, vp 6 0), (4, vp 7 0)] [(6, .box [.d (.raw nilV), .d (.raw (.bool false)), .d (nsl [])]), (7, .box ([.own 0 out.length] ++ zi r3)), (0, .row 32 3 (out.map Part.d))] h (by kernel_rfl) (by kernel_rfl) (by kernel_rfl)
   refine rSeq fam0ok 12 [(2, .call (SDeleteFZ isZ out (fun p hp => SPlain2 p (hI4.lb hp (by omega)).1 (by have := (hI4.lb hp (by omega)).2; omega)) (by omega)) tl_10)] [(2, vp 6 0), (4, vp 7 0)] [(6, .box [.d (.raw nilV), .d (.raw (.bool false)), .d (nsl [])]), (7, .box ([.own 0 (out.filter (fun p => !isZ p)).length] ++ zi r3)), (0, .row 32 3 ((out.filter (fun p => !isZ p)).map Part.d))] (by kernel_rfl) h ?_; clear h; intro a w h
   refine rSeq fam0ok 12 [] [(2, vp 6 0)] [(6, .box ([.own 0 (out.filter (fun p => !isZ p)).length] ++ zi r3)), (0, .row 32 3 ((out.filter (fun p => !isZ p)).map Part.d))] (by kernel_rfl) h ?_; clear h; intro a w h
   refine wp_ret ?_
   have hj : j = (ssV Part.v t.parts).length := by omega
   have hpl : (out.filter (fun p => !isZ p)) = (plainT t).parts := by rw [hI1, hj, List.take_length, plain_law]; first | done | rfl
   replace h := h.conv (f' := F.of [(2, vp 6 0)] [(6, .box ([.own 0 (plainT t).parts.length] ++ zi r3)), (0, .row 32 3 ((out.filter (fun p => !isZ p)).map Part.d))]) (by rw [hpl])
   replace h := h.conv (f' := F.of [(2, vp 6 0)] [(6, .box ([.own 0 (plainT t).parts.length] ++ zi r3)), (0, .row 32 3 ((plainT t).parts.map Part.d))]) (congrArg (fun (z_ : List Part) => F.of [(2, vp 6 0)] [(6, .box ([.own 0 (plainT t).parts.length] ++ zi r3)), (0, .row 32 3 (z_.map Part.d))]) (show ((out.filter (fun p => !isZ p)) : List Part) = (plainT t).parts from hpl))
   refine retS [.agg ([.own 0 (plainT t).parts.length] ++ zi r3)] h Exit.ret (.inl rfl)  rfl ⟨RV.agg _ 6 0 _ _ _ _ tb_11 rfl rfl rfl rfl, trivial⟩ ?_ (by kernel_rfl) (by kernel_rfl)
   rw [er3]; first | done | rfl
theorem SPlainO (t : Term) {n L : Nat} (h : TOk n L t) (hn : n ≤ 1000) (hL : L ≤ 40000) : Fn Tryz.prog 41 [] [vd t.d] (.t (.agg ([.own 0 (plainT t).parts.length] ++ zi (plainT t).k))) [(0, .row 32 3 ((plainT t).parts.map Part.d))] :=
 have h' := h.mono hn hL
 SPlainO0 t h'.psok h'.kb h'.kl
theorem mov_at {F : Part → Part} {xs : List Part} {j : Nat} {x : Part} (h : xs[j]? = some x) : ((xs.take j).map F ++ xs.drop j)[j]? = some x := by
 obtain ⟨hj, rfl⟩ := List.getElem?_eq_some_iff.1 h
 rw [List.getElem?_append_right (by rw [List.length_map, List.length_take]; omega), List.length_map, List.length_take, Nat.min_eq_left (by omega), Nat.sub_self, List.drop_eq_getElem_cons hj]; rfl
theorem mov_set {F : Part → Part} {xs : List Part} {j : Nat} {x : Part} (h : xs[j]? = some x) : ((xs.take j).map F ++ xs.drop j).set j (F x) = (xs.take (j + 1)).map F ++ xs.drop (j + 1) := by
 obtain ⟨hj, rfl⟩ := List.getElem?_eq_some_iff.1 h
 have hl : ((xs.take j).map F).length = j := by rw [List.length_map, List.length_take]; omega
 have e : xs.take (j + 1) = xs.take j ++ [xs[j]] := by rw [List.take_add_one, h]; rfl
 rw [List.set_append_right _ _ (by omega), hl, Nat.sub_self, List.drop_eq_getElem_cons hj, List.set_cons_zero, e, List.map_append, List.append_assoc]; rfl
end Go.Proofs.YtekhnajfdaknnaaGreatDoor.S
end
section
namespace Go.Proofs.YtekhnajfdaknnaaGreatDoor.S
open Go.RowKit

theorem tq_13 : ElZ Tryz.prog 59 28 3 := ElZ.mk' Tryz.underlying59 _ _ rfl rfl (by kernel_rfl) (by kernel_rfl) (by kernel_rfl) (by decide)
end Go.Proofs.YtekhnajfdaknnaaGreatDoor.S
end
section
namespace Go.Proofs.YtekhnajfdaknnaaGreatDoor.S
open Go.RowKit

end Go.Proofs.YtekhnajfdaknnaaGreatDoor.S
end
section
namespace Go.Proofs
open Go.Shelf
def Tryz.lays128_ren : Go.Shelf.Ren := ⟨fun | 128 => 144 | n => n, fun | 51 => 67 | 3 => 3 | 4 => 4 | 46 => 123 | 5 => 5 | 9 => 9 | n => n, fun | n => n⟩
theorem Tryz.lays128 : Go.Proofs.Lays.n128 Tryz.prog Tryz.lays128_ren := {
 mixed := by kernel_rfl
 f128 := Tryz.func144.trans (congrArg some (by kernel_rfl))
 t3 := Tryz.underlying3
 a3 := Tryz.isAgg3
 z3 := Tryz.sizeOf3
 v3 := Tryz.zeroValue3
 t4 := Tryz.underlying4
 a4 := Tryz.isAgg4
 z4 := Tryz.sizeOf4
 v4 := Tryz.zeroValue4
 t5 := Tryz.underlying5
 a5 := Tryz.isAgg5
 z5 := Tryz.sizeOf5
 v5 := Tryz.zeroValue5
 t9 := Tryz.underlying9
 a9 := Tryz.isAgg9
 z9 := Tryz.sizeOf9
 v9 := Tryz.zeroValue9
 t46 := Tryz.underlying123
 a46 := Tryz.isAgg123
 z46 := Tryz.sizeOf123
 v46 := Tryz.zeroValue123
 t51 := Tryz.underlying67
 a51 := Tryz.isAgg67
 z51 := Tryz.sizeOf67
 v51 := Tryz.zeroValue67 }
theorem Tryz.bits_Len32 (x : Int) (w : World) (h0 : 0 ≤ x) (h1 : x ≤ 4294967295) :
  Calls Tryz.prog 144 #[.int .u32 x] w fun e w' => e = .returned (.int .i64 (Lib.bitLen x.toNat)) ∧ w' = w := Any.bits_Len32 Tryz.lays128 x w h0 h1
def Tryz.lays133_ren : Go.Shelf.Ren := ⟨fun | 133 => 132 | 128 => 144 | n => n, fun | 51 => 67 | 3 => 3 | 4 => 4 | 46 => 123 | 5 => 5 | 9 => 9 | n => n, fun | n => n⟩
theorem Tryz.lays133 : Go.Proofs.Lays.n133 Tryz.prog Tryz.lays133_ren := {
 mixed := by kernel_rfl
 f128 := Tryz.func144.trans (congrArg some (by kernel_rfl))
 f133 := Tryz.func132.trans (congrArg some (by kernel_rfl))
 t3 := Tryz.underlying3
 a3 := Tryz.isAgg3
 z3 := Tryz.sizeOf3
 v3 := Tryz.zeroValue3
 t4 := Tryz.underlying4
 a4 := Tryz.isAgg4
 z4 := Tryz.sizeOf4
 v4 := Tryz.zeroValue4
 t5 := Tryz.underlying5
 a5 := Tryz.isAgg5
 z5 := Tryz.sizeOf5
 v5 := Tryz.zeroValue5
 t9 := Tryz.underlying9
 a9 := Tryz.isAgg9
 z9 := Tryz.sizeOf9
 v9 := Tryz.zeroValue9
 t46 := Tryz.underlying123
 a46 := Tryz.isAgg123
 z46 := Tryz.sizeOf123
 v46 := Tryz.zeroValue123
 t51 := Tryz.underlying67
 a51 := Tryz.isAgg67
 z51 := Tryz.sizeOf67
 v51 := Tryz.zeroValue67 }
theorem Tryz.bits_LeadingZeros32 (x : Int) (w : World) (h0 : 0 ≤ x) (h1 : x ≤ 4294967295) :
  Calls Tryz.prog 132 #[.int .u32 x] w fun e w' => e = .returned (.int .i64 (32 - (Lib.bitLen x.toNat : Int))) ∧ w' = w := Any.bits_LeadingZeros32 Tryz.lays133 x w h0 h1
end Go.Proofs
end
section
namespace Go.Proofs.YtekhnajfdaknnaaGreatDoor
open Go.RowKit

def bl (x : Nat) : Nat := Lib.bitLen x
theorem bl_half {x : Nat} (h0 : x ≠ 0) (h : x < 18446744073709551616) : bl x = 1 + bl (x / 2) := Lib.bitLen_half x h0 h
theorem bl_pow : ∀ (k x : Nat), k ≤ 63 → 2 ^ k ≤ x → x < 2 ^ (k + 1) → bl x = k + 1
 | 0, x, _, h1, h2 => by
  have : x = 1 := by omega
  subst this
  decide +kernel
 | k + 1, x, hk, h1, h2 => by
  have hlt : x < 18446744073709551616 := Nat.lt_of_lt_of_le h2 (by have := Nat.pow_le_pow_right (n := 2) (by omega) (show k + 1 + 1 ≤ 64 by omega); exact this)
  have hp : 0 < 2 ^ (k + 1) := Nat.two_pow_pos _
  rw [bl_half (by omega) hlt]
  rw [Nat.pow_succ] at h1 h2
  have := bl_pow k (x / 2) (by omega) (by omega) (by rw [Nat.pow_succ] at h2 ⊢; omega)
  omega
theorem bl_spec {x : Nat} (h0 : x ≠ 0) (h : x < 4294967296) : 1 ≤ bl x ∧ bl x ≤ 32 ∧ 2 ^ (bl x - 1) ≤ x ∧ x < 2 ^ bl x := by
 have h1 := Nat.log2_self_le h0
 have h2 : x < 2 ^ (x.log2 + 1) := Nat.lt_log2_self
 have h3 : x.log2 < 32 := (Nat.log2_lt h0).2 h
 have h4 := bl_pow x.log2 x (by omega) h1 h2
 rw [h4]
 exact ⟨by omega, by omega, by simpa using h1, h2⟩

theorem Len32_any (x : Nat) (hx : x < 4294967296) (w : World) :
  Calls Tryz.prog 144 #[.int .u32 x] w fun e w' => e = .returned (.int .i64 (bl x)) ∧ w = w' :=
 (Tryz.bits_Len32 x w (by omega) (by omega)).mono fun _ _ ⟨h1, h2⟩ => ⟨by rw [h1, Int.toNat_natCast]; rfl, h2.symm⟩
theorem Lead32_any (x : Nat) (hx : x < 4294967296) (w : World) :
  Calls Tryz.prog 132 #[.int .u32 x] w fun e w' => e = .returned (.int .i64 (32 - (bl x : Int))) ∧ w = w' :=
 (Tryz.bits_LeadingZeros32 x w (by omega) (by omega)).mono fun _ _ ⟨h1, h2⟩ => ⟨by rw [h1, Int.toNat_natCast]; rfl, h2.symm⟩

theorem shl_fit (x r : Nat) (hx : x < 4294967296) (hr : r < 32) : x * 2 ^ r < 9223372036854775808 := by
 have h1 : 2 ^ r ≤ 2 ^ 31 := Nat.pow_le_pow_right (by omega) (by omega)
 have h2 : x * 2 ^ r ≤ 4294967295 * 2147483648 := Nat.mul_le_mul (by omega) h1
 omega
theorem shl_wrap (x r : Nat) (hx : x < 4294967296) (hr : r < 32) : IntKind.u64.wrap ((x : Int) * 2 ^ r) = ((x * 2 ^ r : Nat) : Int) := by
 have h := shl_fit x r hx hr
 have e : ((x : Int) * 2 ^ r) = ((x * 2 ^ r : Nat) : Int) := by rw [Int.natCast_mul, Int.natCast_pow]; rfl
 rw [e, IntKind.wrap_u64]
 omega
theorem or_shift (x r c : Nat) (hx : x < 4294967296) (hr : r < 32) (hc : c < 2 ^ r) : bits BinOp.or .u64 ((x * 2 ^ r : Nat) : Int) (c : Int) = ((x * 2 ^ r + c : Nat) : Int) := by
 have h := shl_fit x r hx hr
 have h2 : 2 ^ r ≤ 2 ^ 31 := Nat.pow_le_pow_right (by omega) (by omega)
 rw [bits_or_u64_nat _ _ (by omega) (by omega)]
 rw [Nat.mul_comm, ← Nat.two_pow_add_eq_or_of_lt hc]
theorem left_step {zs xs : List Nat} {q r k carry s : Nat} (hl : zs.length = q + k) (h : val zs + pw (q + k) * carry = pw q * (2 ^ r * vk xs k)) (hs : s = lim xs k * 2 ^ r + carry) :
  Hid (val (zs ++ [s % 4294967296]) + pw (q + (k + 1)) * (s / 4294967296) = pw q * (2 ^ r * vk xs (k + 1))) := by
 unfold Hid
 rw [val_snoc, hl, ← Nat.add_assoc, pw_succ, vk_succ]
 have h1 := carry_step (pw (q + k)) s
 have h2 : pw q * (2 ^ r * (vk xs k + pw k * lim xs k)) = pw q * (2 ^ r * vk xs k) + pw (q + k) * (lim xs k * 2 ^ r) := by
  rw [Nat.mul_add, Nat.mul_add, pw_add]
  congr 1
  rw [Nat.mul_assoc (pw q), Nat.mul_left_comm (2 ^ r), Nat.mul_comm (2 ^ r)]
 have h3 : pw (q + k) * s = pw (q + k) * (lim xs k * 2 ^ r) + pw (q + k) * carry := by rw [hs, Nat.mul_add]
 omega

def LeftR (w : World) (xs : List Nat) (q r : Nat) (out cr i : Value) (wr : World) : Prop :=
  ∃ (k carry : Nat) (po : Option Addr) (pc : Nat) (zs : List Nat), k ≤ xs.length ∧ i = .int .i64 k ∧ out = .slice po zs.length pc ∧ cr = .int .u64 carry ∧ carry < 2 ^ r ∧ Hid (zs.length = q + k) ∧ Own wr w.heap.size po pc zs ∧ Ext w wr ∧
    Hid (val zs + pw (q + k) * carry = pw q * (2 ^ r * vk xs k))

def GotE (w : World) (m : Nat) (er : Int) (e : Ending) (w' : World) : Prop := ∃ ao c zs, e = .returned (.tuple #[.slice ao zs.length c, .int .i64 er]) ∧ Own w' w.heap.size ao c zs ∧ Canon zs ∧ val zs = m ∧ Ext w w'

set_option maxHeartbeats 2000000 in
theorem Left_any (ao : Option Addr) (n c : Nat) (xs : List Nat) (E : Int) (K : Nat) (w : World) (hn : n = xs.length) (hE : E = (K : Int)) (ha : Rd w ao c xs) (hl : xs.length ≤ 1000000) (hk : K ≤ 1048576) :
  Calls Tryz.prog 133 #[.slice ao n c, .int .i64 E] w (GotE w (val xs * 2 ^ K) 0) := by
 subst hn hE
 have hA := ha.trm
 have lA := trm_le xs
 have mA := hA.mx
 have cA := hA.cap
 rw [← val_trm xs]
 obtain ⟨q, hq⟩ : ∃ q, q = K / 32 := ⟨_, rfl⟩
 obtain ⟨r, hr⟩ : ∃ r, r = K % 32 := ⟨_, rfl⟩
 have hq1 : (K : Int) / 32 = (q : Int) := by omega
 have hr1 : (K : Int) % 32 = (r : Int) := by omega
 have hqb : q ≤ 32768 := by omega
 have hrb : r < 32 := by omega
 have hpk : 2 ^ K = pw q * 2 ^ r := by
  unfold pw
  rw [show (4294967296 : Nat) = 2 ^ 32 from rfl, ← Nat.pow_mul, ← Nat.pow_add]; congr 1; omega
 have Hpk := Lib.hid hpk
 clear hpk hq hr
 go_enter Tryz.func133, Tryz.ntmps133
 go_wp2_with fail
 refine (trim_any ao _ c xs w rfl ha).mono ?_
 rintro e w' ⟨rfl, rfl⟩
 go_wp2_with (at_make; refine mkn rfl _ _ rfl _ _ _ _ rfl rfl ?_ ?_ ?_ (Ext.refl w) ?_; omega; omega; omega; intro w1 hown hx0 hext)
 rw [Int.toNat_natCast] at hown
 go_loopw [8, 9, 34] (LeftR w (trm xs) q r) (fun _ _ i _ => ((trm xs).length - intOf i).toNat)
 case atStart => exact ⟨0, 0, _, _, List.replicate q 0, by omega, rfl, by simp; omega, rfl, Nat.two_pow_pos r, by simp [Hid], hown, hext, by unfold Hid; rw [val_replicate_zero, vk_zero]; simp⟩
 case round =>
  obtain ⟨k, carry, po, pc, zs, hk, rfl, rfl, rfl, hc, hzl, hown, hext, heq⟩ := hrel
  by_cases hkA : k < (trm xs).length
  ·have hx := (hA.ext hext).cell k hkA
   have hix := ixk hA (trm xs).length rfl k hkA wr
   have bx := lim_lt hA.lb k
   have hwr := shl_wrap (lim (trm xs) k) r bx hrb
   have hor := or_shift (lim (trm xs) k) r carry bx hrb hc
   have hft := shl_fit (lim (trm xs) k) r bx hrb
   have hst := left_step hzl.out heq.out rfl
   have hcd : (lim (trm xs) k * 2 ^ r + carry) / 4294967296 < 2 ^ r := by
    rw [Nat.div_lt_iff_lt_mul (by omega)]
    have h2 : (lim (trm xs) k + 1) * 2 ^ r ≤ 4294967296 * 2 ^ r := Nat.mul_le_mul_right _ bx
    rw [Nat.add_mul] at h2
    rw [Nat.mul_comm (2 ^ r)]
    omega
   have hcs : carry < 4294967296 := Nat.lt_of_lt_of_le hc (by have : 2 ^ r ≤ 2 ^ 31 := Nat.pow_le_pow_right (by omega) (by omega); omega)
   obtain ⟨X, hX⟩ : ∃ X, X = lim (trm xs) k * 2 ^ r := ⟨_, rfl⟩
   rw [← hX] at hwr hor hft hst hcd
   have hzb : zs.length ≤ 1100000 := by have := hzl.out; omega
   have Hcd := Lib.hid hcd
   clear hX hcd hc heq
   go_wp2_with (at_builtin; refine push (wi := w) rfl _ _ rfl _ _ zs _ rfl rfl hown _ ?_ ?_ rfl ?_ rfl hext ?_; omega; omega; omega; intro ao' c' w2 hown2 hext2)
   go_roundw
   case rel => exact ⟨k + 1, (X + carry) / 4294967296, ao', c', zs ++ [(X + carry) % 4294967296], by omega, by go_num, by simp, by go_num, Hcd.out, by unfold Hid; rw [List.length_append, hzl.out]; simp; omega, hown2.snocEq (by omega), hext2, hst⟩
   case measure => simp [intOf]; try omega
  ·have hv : val (zs ++ [(carry : Int).toNat]) = val (trm xs) * 2 ^ K := by
    have h1 := heq.out
    have h2 := hzl.out
    rw [vk_full (by omega)] at h1
    rw [val_snoc, h2, Int.toNat_natCast, h1, Hpk.out, ← Nat.mul_assoc, Nat.mul_comm]
   have hcs : carry < 4294967296 := Nat.lt_of_lt_of_le hc (by have : 2 ^ r ≤ 2 ^ 31 := Nat.pow_le_pow_right (by omega) (by omega); omega)
   have hzb : zs.length ≤ 1100000 := by have := hzl.out; omega
   have Hv := Lib.hid hv
   clear hv hc heq
   go_wp2_with (at_builtin; refine push (wi := w) rfl _ _ rfl _ _ zs _ rfl rfl hown _ ?_ ?_ rfl ?_ rfl hext ?_; omega; omega; omega; intro ao' c' w2 hown2 hext2)
   refine (Trim_got _ _ _ _ _ (by simp) hown2.rd (by simp; omega)).mono ?_
   intro e w' hg
   rw [Hv.out] at hg
   obtain ⟨ao3, c3, zs3, rfl, h1, h2, h3, h4⟩ := hg.from hext2
   go_wp2_with fail
   go_ret2
   exact ⟨ao3, c3, zs3, rfl, h1, h2, h3, h4⟩

end Go.Proofs.YtekhnajfdaknnaaGreatDoor
end
section
namespace Go.Proofs.YtekhnajfdaknnaaGreatDoor
open Go.RowKit

theorem low32 (s : Nat) (hs : s < 18446744073709551616) : bits BinOp.and .u64 (s : Int) 4294967295 = ((s % 4294967296 : Nat) : Int) := by
 have h := bits_and_u64_nat s 4294967295 hs (by omega)
 have e : s &&& 4294967295 = s % 4294967296 := Nat.and_two_pow_sub_one_eq_mod s 32
 rw [e] at h
 exact h

/-! ### windows -/
section
variable {w : World} {B g c : Nat} {zs : List Nat}
theorem Own.winCell (h : Own w B (some ⟨g, 0, none⟩) c zs) (K i : Nat) (hi : K + i < zs.length) : w.cell? ⟨g, K + i, none⟩ = some (.int .u32 (lim zs (K + i))) := by
 have := h.rd.cell (K + i) hi
 simp only [bk, of, Nat.zero_add] at this
 exact this
theorem Own.winFrozen (h : Own w B (some ⟨g, 0, none⟩) c zs) (K i : Nat) (hp : 0 < zs.length) : w.frozen? ⟨g, K + i, none⟩ = false := by
 have := h.frozen hp (K + i)
 simp only [bk, of, Nat.zero_add] at this
 exact this
theorem Own.winStore (h : Own w B (some ⟨g, 0, none⟩) c zs) (K i : Nat) (hi : K + i < zs.length) (E : Int) (y : Nat) (hE : E = (y : Int)) (hy : y < 4294967296) :
  Own (w.setCell ⟨g, K + i, none⟩ (.int .u32 E)) B (some ⟨g, 0, none⟩) c (zs.set (K + i) y) ∧ w.grownBy (w.setCell ⟨g, K + i, none⟩ (.int .u32 E)) (some g) := by
 have := h.store (K + i) hi E y hE hy
 simp only [bk, of, Nat.zero_add] at this
 exact this
end
theorem winIx (g K m C i : Nat) (E : Int) (hE : E = (i : Int)) (hi : i < m) (w : World) :
   (Instr.indexAt 24 (.slice (some ⟨g, K, none⟩) m C) (.int .i64 E)).run Tryz.prog w = .ok (.pointer (some ⟨g, K + i, none⟩)) w := by
  subst hE
  simp [Instr.indexAt, asIntOf, run_underlying und, hi, go_sem]

def TakeR (w : World) (B g c : Nat) (zs ys : List Nat) (K T : Nat) (cr br i : Value) (wr : World) : Prop :=
  ∃ (k carry b : Nat) (qs : List Nat), k ≤ ys.length ∧ i = .int .i64 k ∧ cr = .int .u64 carry ∧ br = .int .u64 b ∧ carry < 4294967296 ∧ b ≤ 1 ∧ Hid (qs.length = zs.length) ∧ Own wr B (some ⟨g, 0, none⟩) c qs ∧ w.grownBy wr (some g) ∧
    Hid (val qs + pw K * (T * vk ys k) = val zs + pw (K + k) * (carry + b)) ∧ Hid (∀ t, K + ys.length < t → lim qs t = lim zs t)
def GotTake (w : World) (B g c : Nat) (zs ys : List Nat) (K T : Nat) (e : Ending) (w' : World) : Prop :=
  ∃ (b : Bool) (qs : List Nat), e = .returned (.bool b) ∧ qs.length = zs.length ∧ Own w' B (some ⟨g, 0, none⟩) c qs ∧ w.grownBy w' (some g) ∧
    val qs + pw K * (T * val ys) = val zs + (if b then pw (K + (ys.length + 1)) else 0) ∧ ∀ t, K + ys.length < t → lim qs t = lim zs t

theorem take_step {zs qs ys : List Nat} {K T k carry b h y x : Nat} (hv : val qs + pw K * (T * vk ys k) = val zs + pw (K + k) * (carry + b)) (hK : K + k < qs.length)
  (hy : y + (T * lim ys k + carry) % 4294967296 + b = lim qs (K + k) + 4294967296 * x) (hh : h = (T * lim ys k + carry) / 4294967296) :
  Hid (val (qs.set (K + k) y) + pw K * (T * vk ys (k + 1)) = val zs + pw (K + (k + 1)) * (h + x)) := by
 unfold Hid
 have h1 := val_set (y := y) hK
 have h3 : pw K * (T * vk ys (k + 1)) = pw K * (T * vk ys k) + pw (K + k) * (T * lim ys k) := by
  rw [vk_succ, Nat.mul_add, Nat.mul_add, pw_add]
  congr 1
  rw [← Nat.mul_assoc T, Nat.mul_comm T, Nat.mul_assoc (pw k), Nat.mul_assoc (pw K)]
 rw [← Nat.add_assoc K k 1, pw_succ, h3]
 have h4 := carry_step (pw (K + k)) (T * lim ys k + carry)
 rw [← hh] at h4
 have h5 : pw (K + k) * (y + (T * lim ys k + carry) % 4294967296 + b) = pw (K + k) * (lim qs (K + k) + 4294967296 * x) := by rw [hy]
 rw [Nat.mul_add, Nat.mul_add, Nat.mul_add] at h5
 rw [Nat.mul_add (pw (K + k)) (T * lim ys k)] at h4
 rw [Nat.mul_add] at hv
 rw [Nat.mul_add, Nat.mul_assoc, Nat.mul_assoc] 
 rw [Nat.mul_assoc] at h4
 have h6 : pw (K + k) * (4294967296 * x) = 4294967296 * (pw (K + k) * x) := Nat.mul_left_comm _ _ _
 omega

theorem take_end {zs qs ys : List Nat} {K T carry b y x : Nat} (hv : val qs + pw K * (T * vk ys ys.length) = val zs + pw (K + ys.length) * (carry + b)) (hK : K + ys.length < qs.length)
  (hy : y + (carry + b) = lim qs (K + ys.length) + 4294967296 * x) :
  val (qs.set (K + ys.length) y) + pw K * (T * val ys) = val zs + pw (K + (ys.length + 1)) * x := by
 have h1 := val_set (y := y) hK
 rw [vk_full (Nat.le_refl _)] at hv
 rw [← Nat.add_assoc K, pw_succ]
 have h5 : pw (K + ys.length) * (y + (carry + b)) = pw (K + ys.length) * (lim qs (K + ys.length) + 4294967296 * x) := by rw [hy]
 rw [Nat.mul_add, Nat.mul_add, Nat.mul_add] at h5
 rw [Nat.mul_add] at hv
 have h6 : pw (K + ys.length) * (4294967296 * x) = 4294967296 * (pw (K + ys.length) * x) := Nat.mul_left_comm _ _ _
 rw [Nat.mul_assoc]
 omega

set_option maxHeartbeats 2000000 in
theorem takeAway_any (B g c : Nat) (zs : List Nat) (K m C : Nat) (bo : Option Addr) (n d : Nat) (ys : List Nat) (T : Nat) (w : World) (hn : n = ys.length) (hm : m = ys.length + 1) (hK : K + m ≤ zs.length)
  (hown : Own w B (some ⟨g, 0, none⟩) c zs) (hb : Rd w bo d ys) (hne : 0 < ys.length → bk bo ≠ g) (hT : T < 4294967296) (hl : ys.length ≤ 10000000) :
  Calls Tryz.prog 135 #[.slice (some ⟨g, K, none⟩) m C, .slice bo n d, .int .u64 T] w (GotTake w B g c zs ys K T) := by
 subst hn hm
 have mB := hb.mx
 have cB := hb.cap
 go_enter Tryz.func135, Tryz.ntmps135
 go_wp2_with fail
 go_loopw [7, 8, 19] (TakeR w B g c zs ys K T) (fun _ _ i _ => (ys.length - intOf i).toNat)
 case atStart => exact ⟨0, 0, 0, zs, by omega, rfl, rfl, rfl, by omega, by omega, rfl, hown, World.grownBy.refl _ _, by unfold Hid; simp [vk_zero], fun _ _ => rfl⟩
 case round =>
  obtain ⟨k, carry, b, qs, hk, rfl, rfl, rfl, hc, hb1, hql, hqo, hqx, hqv, hqt⟩ := hrel
  by_cases hkB : k < ys.length
  ·have hy := (hb.kept hqx hne).cell k hkB
   have hiy := ixk hb ys.length rfl k hkB wr
   have bY := lim_lt hb.lb k
   have hkq : K + k < qs.length := by have := hql.out; omega
   have hqc := hqo.winCell K k hkq
   have hiq := winIx g K (ys.length + 1) C k k rfl (by omega) wr
   have hf := hqo.winFrozen K k (by omega)
   have bQ := lim_lt hqo.lb (K + k)
   have bp := prod_lt hT bY
   obtain ⟨p, hp⟩ : ∃ p, p = T * lim ys k := ⟨_, rfl⟩
   have hst := fun h y x => take_step (h := h) (y := y) (x := x) hqv.out hkq
   rw [← hp] at bp hst
   have hp' : ((T : Nat) : Int) * ((lim ys k : Nat) : Int) = (p : Int) := by rw [hp, Int.natCast_mul]
   have hlow : bits BinOp.and .u64 ((p : Int) + (carry : Int)) 4294967295 = ((p : Int) + (carry : Int)) % 4294967296 := by
    have := low32 (p + carry) (by omega)
    rw [Int.natCast_add] at this
    rw [this]; omega
   clear hp hqv
   by_cases hlt : lim qs (K + k) < (p + carry) % 4294967296 + b
   ·have hlt' : ((lim qs (K + k) : Nat) : Int) < ((p : Int) + (carry : Int)) % 4294967296 + (b : Int) := by omega
    go_wp2_with fail
    obtain ⟨y, hy⟩ : ∃ y, y = lim qs (K + k) + 4294967296 - ((p + carry) % 4294967296 + b) := ⟨_, rfl⟩
    have hs1 := hqo.winStore K k hkq ((lim qs (K + k) : Int) + 4294967296 - (((p : Int) + (carry : Int)) % 4294967296 + (b : Int))) y (by omega) (by omega)
    have hst1 := hst ((p + carry) / 4294967296) y 1 (by omega) rfl
    go_roundw
    case rel => exact ⟨k + 1, (p + carry) / 4294967296, 1, _, by omega, by go_num, by go_num, by go_num, by omega, by omega, by unfold Hid; rw [List.length_set]; exact hql.out, hs1.1, grown_trans hqx hs1.2, hst1, fun t ht => by rw [lim_set_ne (by omega)]; exact hqt.out t ht⟩
    case measure => simp [intOf]; try omega
   ·go_wp2_with fail
    obtain ⟨y, hy⟩ : ∃ y, y = lim qs (K + k) - ((p + carry) % 4294967296 + b) := ⟨_, rfl⟩
    have hs1 := hqo.winStore K k hkq ((lim qs (K + k) : Int) - (((p : Int) + (carry : Int)) % 4294967296 + (b : Int))) y (by omega) (by omega)
    have hst1 := hst ((p + carry) / 4294967296) y 0 (by omega) rfl
    go_roundw
    case rel => exact ⟨k + 1, (p + carry) / 4294967296, 0, _, by omega, by go_num, by go_num, by go_num, by omega, by omega, by unfold Hid; rw [List.length_set]; exact hql.out, hs1.1, grown_trans hqx hs1.2, hst1, fun t ht => by rw [lim_set_ne (by omega)]; exact hqt.out t ht⟩
    case measure => simp [intOf]; try omega
  ·obtain rfl : k = ys.length := by omega
   have hkq : K + ys.length < qs.length := by have := hql.out; omega
   have hqc := hqo.winCell K ys.length hkq
   have hiq := winIx g K (ys.length + 1) C ys.length ys.length rfl (by omega) wr
   have hf := hqo.winFrozen K ys.length (by omega)
   have bQ := lim_lt hqo.lb (K + ys.length)
   have hst := fun y x => take_end (y := y) (x := x) hqv.out hkq
   clear hqv
   by_cases hlt : lim qs (K + ys.length) < carry + b
   ·have hlt' : ((lim qs (K + ys.length) : Nat) : Int) < (carry : Int) + (b : Int) := by omega
    go_wp2_with fail
    obtain ⟨y, hy⟩ : ∃ y, y = lim qs (K + ys.length) + 4294967296 - (carry + b) := ⟨_, rfl⟩
    have hs1 := hqo.winStore K ys.length hkq (IntKind.u64.wrap ((lim qs (K + ys.length) : Int) - ((carry : Int) + (b : Int))) % 4294967296) y (by rw [IntKind.wrap_u64]; omega) (by omega)
    have hst1 := hst y 1 (by omega)
    go_ret
    exact ⟨true, _, rfl, by rw [List.length_set]; exact hql.out, hs1.1, grown_trans hqx hs1.2, by rw [hst1, Nat.mul_one, if_pos rfl], fun t ht => by rw [lim_set_ne (by omega)]; exact hqt.out t ht⟩
   ·have hlt' : decide (((lim qs (K + ys.length) : Nat) : Int) < (carry : Int) + (b : Int)) = false := by simp; omega
    go_wp2_with fail
    obtain ⟨y, hy⟩ : ∃ y, y = lim qs (K + ys.length) - (carry + b) := ⟨_, rfl⟩
    have hs1 := hqo.winStore K ys.length hkq ((lim qs (K + ys.length) : Int) - ((carry : Int) + (b : Int))) y (by omega) (by omega)
    have hst1 := hst y 0 (by omega)
    go_ret
    exact ⟨false, _, rfl, by rw [List.length_set]; exact hql.out, hs1.1, grown_trans hqx hs1.2, by rw [hst1, Nat.mul_zero, if_neg Bool.false_ne_true], fun t ht => by rw [lim_set_ne (by omega)]; exact hqt.out t ht⟩

def PutR (w : World) (B g c : Nat) (zs ys : List Nat) (K : Nat) (cr i : Value) (wr : World) : Prop :=
  ∃ (k carry : Nat) (qs : List Nat), k ≤ ys.length ∧ i = .int .i64 k ∧ cr = .int .u64 carry ∧ carry ≤ 1 ∧ Hid (qs.length = zs.length) ∧ Own wr B (some ⟨g, 0, none⟩) c qs ∧ w.grownBy wr (some g) ∧
    Hid (val qs + pw (K + k) * carry = val zs + pw K * vk ys k) ∧ Hid (∀ t, K + ys.length < t → lim qs t = lim zs t)
def GotPut (w : World) (B g c : Nat) (zs ys : List Nat) (K : Nat) (e : Ending) (w' : World) : Prop :=
  ∃ (x : Nat) (qs : List Nat), e = .returned (.tuple #[]) ∧ x ≤ 1 ∧ qs.length = zs.length ∧ Own w' B (some ⟨g, 0, none⟩) c qs ∧ w.grownBy w' (some g) ∧
    val qs + pw (K + (ys.length + 1)) * x = val zs + pw K * val ys ∧ ∀ t, K + ys.length < t → lim qs t = lim zs t
theorem put_step {zs qs ys : List Nat} {K k carry s : Nat} (hv : val qs + pw (K + k) * carry = val zs + pw K * vk ys k) (hK : K + k < qs.length) (hs : s = lim qs (K + k) + lim ys k + carry) :
  Hid (val (qs.set (K + k) (s % 4294967296)) + pw (K + (k + 1)) * (s / 4294967296) = val zs + pw K * vk ys (k + 1)) := by
 unfold Hid
 have h1 := val_set (y := s % 4294967296) hK
 have h2 := carry_step (pw (K + k)) s
 have h3 : pw K * vk ys (k + 1) = pw K * vk ys k + pw (K + k) * lim ys k := by
  rw [vk_succ, Nat.mul_add, pw_add, Nat.mul_assoc]
 rw [← Nat.add_assoc K k 1, pw_succ, h3]
 have h4 : pw (K + k) * s = pw (K + k) * lim qs (K + k) + pw (K + k) * lim ys k + pw (K + k) * carry := by rw [hs, Nat.mul_add, Nat.mul_add]
 omega
theorem put_end {zs qs ys : List Nat} {K carry s : Nat} (hv : val qs + pw (K + ys.length) * carry = val zs + pw K * vk ys ys.length) (hK : K + ys.length < qs.length) (hs : s = lim qs (K + ys.length) + carry) :
  val (qs.set (K + ys.length) (s % 4294967296)) + pw (K + (ys.length + 1)) * (s / 4294967296) = val zs + pw K * val ys := by
 rw [vk_full (Nat.le_refl _)] at hv
 have h1 := val_set (y := s % 4294967296) hK
 have h2 := carry_step (pw (K + ys.length)) s
 rw [← Nat.add_assoc K ys.length 1, pw_succ]
 have h4 : pw (K + ys.length) * s = pw (K + ys.length) * lim qs (K + ys.length) + pw (K + ys.length) * carry := by rw [hs, Nat.mul_add]
 omega

set_option maxHeartbeats 2000000 in
theorem putBack_any (B g c : Nat) (zs : List Nat) (K m C : Nat) (bo : Option Addr) (n d : Nat) (ys : List Nat) (w : World) (hn : n = ys.length) (hm : m = ys.length + 1) (hK : K + m ≤ zs.length)
  (hown : Own w B (some ⟨g, 0, none⟩) c zs) (hb : Rd w bo d ys) (hne : 0 < ys.length → bk bo ≠ g) (hl : ys.length ≤ 10000000) :
  Calls Tryz.prog 136 #[.slice (some ⟨g, K, none⟩) m C, .slice bo n d] w (GotPut w B g c zs ys K) := by
 subst hn hm
 have mB := hb.mx
 have cB := hb.cap
 go_enter Tryz.func136, Tryz.ntmps136
 go_wp2_with fail
 go_loopw [4, 10] (PutR w B g c zs ys K) (fun _ i _ => (ys.length - intOf i).toNat)
 case atStart => exact ⟨0, 0, zs, by omega, rfl, rfl, by omega, rfl, hown, World.grownBy.refl _ _, by unfold Hid; simp [vk_zero], fun _ _ => rfl⟩
 case round =>
  obtain ⟨k, carry, qs, hk, rfl, rfl, hc, hql, hqo, hqx, hqv, hqt⟩ := hrel
  by_cases hkB : k < ys.length
  ·have hy := (hb.kept hqx hne).cell k hkB
   have hiy := ixk hb ys.length rfl k hkB wr
   have bY := lim_lt hb.lb k
   have hkq : K + k < qs.length := by have := hql.out; omega
   have hqc := hqo.winCell K k hkq
   have hiq := winIx g K (ys.length + 1) C k k rfl (by omega) wr
   have hf := hqo.winFrozen K k (by omega)
   have bQ := lim_lt hqo.lb (K + k)
   have hst := put_step hqv.out hkq rfl
   clear hqv
   go_wp2_with fail
   have hs1 := hqo.winStore K k hkq (((lim qs (K + k) : Int) + (lim ys k : Int) + (carry : Int)) % 4294967296) ((lim qs (K + k) + lim ys k + carry) % 4294967296) (by omega) (by omega)
   go_roundw
   case rel => exact ⟨k + 1, (lim qs (K + k) + lim ys k + carry) / 4294967296, _, by omega, by go_num, by go_num, by omega, by unfold Hid; rw [List.length_set]; exact hql.out, hs1.1, grown_trans hqx hs1.2, hst, fun t ht => by rw [lim_set_ne (by omega)]; exact hqt.out t ht⟩
   case measure => simp [intOf]; try omega
  ·obtain rfl : k = ys.length := by omega
   have hkq : K + ys.length < qs.length := by have := hql.out; omega
   have hqc := hqo.winCell K ys.length hkq
   have hiq := winIx g K (ys.length + 1) C ys.length ys.length rfl (by omega) wr
   have hf := hqo.winFrozen K ys.length (by omega)
   have bQ := lim_lt hqo.lb (K + ys.length)
   have hst := put_end hqv.out hkq rfl
   clear hqv
   go_wp2_with fail
   have hs1 := hqo.winStore K ys.length hkq (((lim qs (K + ys.length) : Int) + (carry : Int)) % 4294967296) ((lim qs (K + ys.length) + carry) % 4294967296) (by omega) (by omega)
   go_end0
   exact ⟨_, _, rfl, by omega, by rw [List.length_set]; exact hql.out, hs1.1, grown_trans hqx hs1.2, hst, fun t ht => by rw [lim_set_ne (by omega)]; exact hqt.out t ht⟩
end Go.Proofs.YtekhnajfdaknnaaGreatDoor
end
section
namespace Go.Proofs.YtekhnajfdaknnaaGreatDoor

def ch (s : ByteArray) (i : Nat) : Nat := (s.data.toList.map UInt8.toNat).getD i 0
def isd (s : ByteArray) (i : Nat) : Prop := 48 ≤ ch s i ∧ ch s i ≤ 57
def alld (s : ByteArray) (k : Nat) : Prop := ∀ i, i < k → isd s i
instance (s : ByteArray) (i : Nat) : Decidable (isd s i) := inferInstanceAs (Decidable (_ ∧ _))
instance (s : ByteArray) (k : Nat) : Decidable (alld s k) := Nat.decidableBallLT k (fun i _ => isd s i)

/-! ### texts -/
def bytes (s : ByteArray) : List Nat := s.data.toList.map UInt8.toNat
theorem bytes_inj {s t : ByteArray} (h : bytes s = bytes t) : s = t := by
 apply ByteArray.ext
 apply Array.toList_inj.1
 unfold bytes at h
 have h2 := congrArg (fun l => l.map UInt8.ofNat) h
 simpa [List.map_map, Function.comp_def] using h2
def dvl (l : List Nat) : Nat := l.foldl (fun n c => n * 10 + (c - 48)) 0
theorem dvl_snoc (l : List Nat) (c : Nat) : dvl (l ++ [c]) = dvl l * 10 + (c - 48) := by simp [dvl]
theorem dvl_foldl (l : List Nat) : ∀ a, l.foldl (fun n c => n * 10 + (c - 48)) a = a * 10 ^ l.length + dvl l := by
 induction l with
 | nil => intro a; simp [dvl]
 | cons c l ih =>
  intro a
  have h1 := ih (a * 10 + (c - 48))
  have h2 := ih (0 * 10 + (c - 48))
  simp only [dvl, List.foldl_cons, List.length_cons] at h1 h2 ⊢
  rw [h1, h2, Nat.pow_succ, Nat.add_mul, Nat.mul_assoc a, Nat.mul_comm 10 (10 ^ l.length)]
  simp
  omega
theorem dvl_cons (c : Nat) (l : List Nat) : dvl (c :: l) = (c - 48) * 10 ^ l.length + dvl l := by
 have := dvl_foldl l (0 * 10 + (c - 48))
 simp only [dvl, List.foldl_cons] at this ⊢
 simpa using this
def allD (l : List Nat) : Prop := ∀ c ∈ l, 48 ≤ c ∧ c ≤ 57
theorem dvl_lt {l : List Nat} (h : allD l) : dvl l < 10 ^ l.length := by
 induction l with
 | nil => simp [dvl]
 | cons c l ih =>
  have h1 := ih (fun x hx => h x (by simp [hx]))
  have h2 := h c (by simp)
  rw [dvl_cons, List.length_cons, Nat.pow_succ]
  have : (c - 48) * 10 ^ l.length ≤ 9 * 10 ^ l.length := Nat.mul_le_mul_right _ (by omega)
  omega
def isT (l : List Nat) (n : Nat) : Prop := 0 < l.length ∧ allD l ∧ dvl l = n ∧ (1 < l.length → l.getD 0 0 ≠ 48)
theorem isT_ge {l : List Nat} {n : Nat} (h : isT l n) (h1 : 1 < l.length) : 10 ^ (l.length - 1) ≤ n := by
 obtain ⟨_, hd, hv, hz⟩ := h
 cases l with
 | nil => simp at h1
 | cons c l =>
  have hc := hd c (by simp)
  have h3 := hz h1
  simp at h3
  rw [← hv, dvl_cons]
  simp only [List.length_cons, Nat.add_sub_cancel]
  have : 1 * 10 ^ l.length ≤ (c - 48) * 10 ^ l.length := Nat.mul_le_mul_right _ (by omega)
  omega
theorem dvl_inj {l m : List Nat} (hl : allD l) (hm : allD m) (hlen : l.length = m.length) (h : dvl l = dvl m) : l = m := by
 induction l generalizing m with
 | nil => cases m with
  | nil => rfl
  | cons d m => simp at hlen
 | cons c l ih => cases m with
  | nil => simp at hlen
  | cons d m =>
   have hc := hl c (by simp)
   have hd := hm d (by simp)
   have hl' : allD l := fun x hx => hl x (by simp [hx])
   have hm' : allD m := fun x hx => hm x (by simp [hx])
   have hlen' : l.length = m.length := by simpa using hlen
   rw [dvl_cons, dvl_cons, hlen'] at h
   have h1 := dvl_lt hl'
   have h2 := dvl_lt hm'
   rw [hlen'] at h1
   have hcd : c = d := by
    rcases Nat.lt_trichotomy (c - 48) (d - 48) with k | k | k
    ·have : (c - 48 + 1) * 10 ^ m.length ≤ (d - 48) * 10 ^ m.length := Nat.mul_le_mul_right _ k
     rw [Nat.add_mul] at this; omega
    ·omega
    ·have : (d - 48 + 1) * 10 ^ m.length ≤ (c - 48) * 10 ^ m.length := Nat.mul_le_mul_right _ k
     rw [Nat.add_mul] at this; omega
   subst hcd
   rw [ih hl' hm' hlen' (by omega)]
theorem isT_len_lt {l m : List Nat} {a b : Nat} (hl : isT l a) (hm : isT m b) (h : l.length < m.length) : a < b := by
 have h1 := dvl_lt hl.2.1
 rw [hl.2.2.1] at h1
 have h2 := isT_ge hm (by have := hl.1; omega)
 have h3 : 10 ^ l.length ≤ 10 ^ (m.length - 1) := Nat.pow_le_pow_right (by omega) (by omega)
 omega
theorem isT_inj {l m : List Nat} {a : Nat} (hl : isT l a) (hm : isT m a) : l = m := by
 rcases Nat.lt_trichotomy l.length m.length with h | h | h
 ·have := isT_len_lt hl hm h; omega
 ·exact dvl_inj hl.2.1 hm.2.1 h (hl.2.2.1.trans hm.2.2.1.symm)
 ·have := isT_len_lt hm hl h; omega
def lowD (D : List Nat) : Nat := match D with | [] => 0 | d :: D => (d - 48) + 10 * lowD D
theorem lowD_snoc (D : List Nat) (c : Nat) : lowD (D ++ [c]) = lowD D + 10 ^ D.length * (c - 48) := by
 induction D with
 | nil => simp [lowD]
 | cons d D ih => simp only [List.cons_append, lowD, ih, List.length_cons, Nat.pow_succ, Nat.mul_add]; rw [Nat.mul_comm (10 ^ D.length) 10, Nat.mul_assoc]; omega
theorem dvl_reverse (D : List Nat) : dvl D.reverse = lowD D := by
 induction D with
 | nil => rfl
 | cons d D ih => rw [List.reverse_cons, dvl_snoc, ih, lowD]; omega
theorem dvl_zero {l : List Nat} (h : l.getD 0 0 = 48) : dvl l.tail = dvl l := by
 cases l with
 | nil => rfl
 | cons c l =>
  simp at h
  subst h
  rw [dvl_cons]; simp
theorem isT_zero : isT [48] 0 := ⟨by simp, by intro c hc; simp at hc; omega, rfl, by simp⟩

def isTB (l : List Nat) (n : Nat) : Bool := decide (0 < l.length) && l.all (fun c => decide (48 ≤ c) && decide (c ≤ 57)) && decide (dvl l = n) && (decide (l.length ≤ 1) || decide (l.getD 0 0 ≠ 48))
theorem isT_lit {l : List Nat} {n : Nat} (h : isTB l n = true) : isT l n := by
 simp only [isTB, Bool.and_eq_true, decide_eq_true_eq, List.all_eq_true, Bool.or_eq_true] at h
 obtain ⟨⟨⟨h1, h2⟩, h3⟩, h4⟩ := h
 exact ⟨h1, fun c hc => h2 c hc, h3, fun h => by rcases h4 with h4 | h4; omega; exact h4⟩
theorem isT_str {s t : ByteArray} {n : Nat} (h : isT (bytes s) n) (k : isT (bytes t) n) : s = t := bytes_inj (isT_inj h k)

end Go.Proofs.YtekhnajfdaknnaaGreatDoor
end
section
namespace Go.Proofs.YtekhnajfdaknnaaGreatDoor
open Go.RowKit

def LbB (zs : List Nat) : Prop := ∀ z ∈ zs, z < 256
theorem LbB_nil : LbB [] := fun _ h => by simp at h
theorem LbB_drop {zs : List Nat} (h : LbB zs) (k : Nat) : LbB (zs.drop k) := fun z hz => h z (List.mem_of_mem_drop hz)
theorem LbB_append {xs ys : List Nat} (h : LbB xs) (k : LbB ys) : LbB (xs ++ ys) := fun z hz => by
 rcases List.mem_append.1 hz with a | a
 ·exact h z a
 ·exact k z a
theorem LbB_snoc {xs : List Nat} {x : Nat} (h : LbB xs) (k : x < 256) : LbB (xs ++ [x]) := LbB_append h (fun z hz => by simp at hz; omega)
theorem limB_lt {zs : List Nat} (h : LbB zs) (i : Nat) : lim zs i < 256 := by
 by_cases hi : i < zs.length
 ·have : lim zs i = zs[i] := by unfold lim; simp [List.getD_eq_getElem?_getD, hi]
  rw [this]; exact h _ (List.getElem_mem hi)
 ·rw [lim_of_le (by omega)]; omega

/-- the slice at ao, of length zs.length and capacity c, reads as zs -/
structure RdB (w : World) (ao : Option Addr) (c : Nat) (zs : List Nat) : Prop where
  cap : zs.length ≤ c
  mx : c ≤ 9223372036854775807
  nl : ao = none → c = 0
  lb : LbB zs
  ad : 0 < zs.length → ao = some ⟨bk ao, of ao, none⟩
  cell : ∀ i, i < zs.length → w.cell? ⟨bk ao, of ao + i, none⟩ = some (.int .u8 (lim zs i))

theorem RdB.nil (w : World) : RdB w none 0 [] := ⟨Nat.le_refl _, by omega, fun _ => rfl, LbB_nil, fun h => by simp at h, fun i h => by simp at h⟩
theorem RdB.drop {w : World} {b o c : Nat} {zs : List Nat} (h : RdB w (some ⟨b, o, none⟩) c zs) (k : Nat) (hk : k ≤ zs.length) : RdB w (some ⟨b, o + k, none⟩) (c - k) (zs.drop k) := by
 have h1 := h.cap
 refine ⟨by rw [List.length_drop]; omega, Nat.le_trans (Nat.sub_le _ _) h.mx, fun e => by simp at e, LbB_drop h.lb _, fun _ => rfl, ?_⟩
 intro i hi
 rw [List.length_drop] at hi
 have := h.cell (k + i) (by omega)
 simp only [bk, of] at this ⊢
 rw [lim_drop, Nat.add_assoc]; exact this
theorem RdB.isAt {w : World} {ao : Option Addr} {c : Nat} {zs : List Nat} (h : RdB w ao c zs) (hp : 0 < zs.length) : ∃ b o, ao = some ⟨b, o, none⟩ := ⟨_, _, h.ad hp⟩

theorem run_ixB {P : Program} {t e : TypeId} (ht : P.underlying t = some (.slice e)) (hs : ∀ w, (sizeOf e).run P w = .ok 1 w) {w0 : World} {ao : Option Addr} {c : Nat} {zs : List Nat} (h : RdB w0 ao c zs)
   (k : IntKind) (i : Int) (w : World) (h0 : 0 ≤ i) (h1 : i < zs.length) :
   (Instr.indexAt t (.slice ao zs.length c) (.int k i)).run P w = .ok (.pointer (some ⟨bk ao, of ao + i.toNat, none⟩)) w := by
  have h2 := h.ad (by omega)
  rw [h2]
  simp [Instr.indexAt, asIntOf, run_underlying ht, h0, h1, go_sem, hs, bk, of]

/-- the slice at ao is a row of the call's own (from block B on) that holds zs -/
structure OwB (w : World) (B : Nat) (ao : Option Addr) (c : Nat) (zs : List Nat) : Prop where
  lb : LbB zs
  row : w.ownsRow B 5 1 (.slice ao zs.length c) zs.length (zs.map fun (x : Nat) => Value.int .u8 (x : Int))

theorem OwB.nil (w : World) (B : Nat) : OwB w B none 0 [] := ⟨LbB_nil, World.ownsRow_nil _ _ _ _⟩
theorem OwB.rd {w : World} {B : Nat} {ao : Option Addr} {c : Nat} {zs : List Nat} (h : OwB w B ao c zs) : RdB w ao c zs := by
 have hr := h.row
 rcases hr.2 with ⟨hv, hn⟩ | ⟨g, cap, cur, hv, hb, hg, hnc, hcm, hcs, htake⟩
 ·have : zs = [] := List.length_eq_zero_iff.1 hn
  subst this
  simp at hv
  obtain ⟨rfl, rfl⟩ := hv
  exact RdB.nil w
 ·simp only [Value.slice.injEq, true_and] at hv
  obtain ⟨rfl, rfl⟩ := hv
  refine ⟨hnc, by simpa [maxLen] using hcm, fun e => by simp at e, h.lb, fun _ => rfl, ?_⟩
  intro i hi
  have := hr.cellAt i (by omega)
  simp only [bk, of, Nat.zero_add]
  rw [this, List.getElem?_map, lim_map_at hi]
  rfl
theorem OwB.lt {w : World} {B : Nat} {ao : Option Addr} {c : Nat} {zs : List Nat} (h : OwB w B ao c zs) : ∀ k, (Value.slice ao zs.length c).ownBlock = some k → B ≤ k ∧ k < w.heap.size := h.row.lt
theorem OwB.blk {w : World} {B : Nat} {ao : Option Addr} {c : Nat} {zs : List Nat} (h : OwB w B ao c zs) (hp : 0 < zs.length) : B ≤ bk ao ∧ bk ao < w.heap.size ∧ of ao = 0 ∧ ao = some ⟨bk ao, 0, none⟩ := by
 rcases h.row.2 with ⟨hv, hn⟩ | ⟨g, cap, cur, hv, hb, hg, hnc, hcm, hcs, htake⟩
 ·omega
 ·simp only [Value.slice.injEq, true_and] at hv
  obtain ⟨rfl, rfl⟩ := hv
  exact ⟨hb, (Array.getElem?_eq_some_iff.1 hg).1, rfl, rfl⟩
theorem OwB.frozen {w : World} {B : Nat} {ao : Option Addr} {c : Nat} {zs : List Nat} (h : OwB w B ao c zs) (hp : 0 < zs.length) (i : Nat) : w.frozen? ⟨bk ao, of ao + i, none⟩ = false := by
 rcases h.row.2 with ⟨hv, hn⟩ | ⟨g, cap, cur, hv, hb, hg, hnc, hcm, hcs, htake⟩
 ·omega
 ·have hr := h.row
  simp only [Value.slice.injEq, true_and] at hv
  obtain ⟨rfl, rfl⟩ := hv
  simp only [bk, of, Nat.zero_add]
  exact hr.frozenAt i
theorem OwB.ext {w w' : World} {B : Nat} {ao : Option Addr} {c : Nat} {zs : List Nat} (h : OwB w B ao c zs) (k : Ext w w') : OwB w' B ao c zs :=
 ⟨h.lb, h.row.kept (row := none) ⟨k.os, k.tape, k.output, k.size, fun i hi _ => k.block i hi⟩ (by cases hv : Value.ownBlock _ <;> simp)⟩

theorem size8 (w : World) : (sizeOf 5).run Tryz.prog w = .ok 1 w := by kernel_rfl
theorem info8 : (Tryz.prog.info? 5).map (fun i => (i.zero, i.size, i.bytes)) = some (some (.int .u8 0), 1, 1) := by kernel_rfl
theorem undB : Tryz.prog.underlying 95 = some (.slice 5) := Tryz.underlying95
theorem ixnB {w0 : World} {ao : Option Addr} {c : Nat} {zs : List Nat} (h : RdB w0 ao c zs) (k : IntKind) (i : Int) (w : World) (h0 : 0 ≤ i) (h1 : i < zs.length) :
   (Instr.indexAt 95 (.slice ao zs.length c) (.int k i)).run Tryz.prog w = .ok (.pointer (some ⟨bk ao, of ao + i.toNat, none⟩)) w := run_ixB undB size8 h k i w h0 h1

theorem pushB {wi w : World} {ops : Array Oper} {rest : List Oper} {o : Oper} {a : Act} {Q : Exit → Act → World → Prop} (hgd : o.guard = none) (s x : Operand)
  (ho : o.op = .call { callee := .builtin .append, args := #[s, x], argTypes := #[95, 95] })
  {B : Nat} (ao : Option Addr) (c : Nat) (zs : List Nat) (n : Nat) (hn : n = zs.length) (hs : a.eval s = .slice ao n c) (hown : OwB w B ao c zs)
  (E : Int) (hE : 0 ≤ E) (hy : E < 256) (hx : a.eval x = .slice (some ⟨w.heap.size, 0, none⟩) 1 1)
  (hlen : zs.length ≤ 4294967296) (hB : B = wi.heap.size) (hext : Ext wi w)
  (h : ∀ ao' c' w', OwB w' B ao' c' (zs ++ [E.toNat]) → Ext wi w' → wpList Tryz.prog ops Q rest (a.put o.dst (.slice ao' (zs.length + 1) c')) w') :
  wpList Tryz.prog ops Q (o :: rest) a (w.alloc (.cells #[.int .u8 E] 5)) := by
 subst hn
 obtain ⟨i0, hi, hz0, hz1, hz2⟩ := info_parts info8
 have hsz := hext.size
 refine wpList_append_own _ hgd s x 95 ho B 5 i0 (.int .u8 0) 1 1 undB hi hz0 hz1 hz2 rfl (by decide) _ _ _ hs (hown.row.alloc _) ⟨w.heap.size, 0, none⟩ 1 1 [.int .u8 E] hx rfl ?_ ?_ ?_ ?_ ?_ ?_
 ·intro j u hj
  match j, hj with
  | 0, hj => simp at hj; subst hj; simp [Addr.add]
 ·intro u hu; simp at hu; subst hu; rfl
 ·unfold maxLen; omega
 ·omega
 ·simp; omega
 ·intro v' w' hown' hgrow _
  obtain ⟨y, rfl⟩ := Int.eq_ofNat_of_zero_le hE
  have hlb : LbB (zs ++ [y]) := LbB_snoc hown.lb (by omega)
  have he : Ext wi w' := (hext.alloc _).grown hgrow (fun k hk => by have := (hown.lt k hk).1; omega)
  rcases hown'.2 with ⟨hv, hn⟩ | ⟨g, cap, cur, hv, hb, hg, hnc, hcm, hcs, htake⟩
  ·omega
  ·subst hv
   refine h _ _ w' ⟨hlb, ?_⟩ he
   simpa using hown'

theorem OwB.store {w : World} {B : Nat} {ao : Option Addr} {c : Nat} {zs : List Nat} (h : OwB w B ao c zs) (i : Nat) (hi : i < zs.length) (E : Int) (y : Nat) (hE : E = (y : Int)) (hy : y < 256) :
  OwB (w.setCell ⟨bk ao, of ao + i, none⟩ (.int .u8 E)) B ao c (zs.set i y) ∧ w.grownBy (w.setCell ⟨bk ao, of ao + i, none⟩ (.int .u8 E)) (some (bk ao)) := by
 subst hE
 obtain ⟨h1, h2, h3, h4⟩ := h.blk (by omega)
 have hr := h.row
 rw [h4] at hr
 have := hr.stored i (.int .u8 (y : Int))
 rw [h3, Nat.zero_add]
 refine ⟨⟨?_, ?_⟩, this.2⟩
 ·intro z hz
  rcases List.mem_or_eq_of_mem_set hz with hm | hm
  ·exact h.lb z hm
  ·omega
 ·rw [h4, List.length_set, List.map_set]
  exact this.1

theorem pushGB {wi w : World} {ops : Array Oper} {rest : List Oper} {o : Oper} {a : Act} {Q : Exit → Act → World → Prop} (hgd : o.guard = none) (s x : Operand)
  (ho : o.op = .call { callee := .builtin .append, args := #[s, x], argTypes := #[95, 95] })
  {B : Nat} (ao : Option Addr) (c : Nat) (zs : List Nat) (n : Nat) (hn : n = zs.length) (hs : a.eval s = .slice ao n c) (hown : OwB w B ao c zs)
  (E : Int) (hE : 0 ≤ E) (hy : E < 256) (hx : a.eval x = .slice (some ⟨w.heap.size, 0, none⟩) 1 1)
  (hlen : zs.length ≤ 4294967296) (hB : B = wi.heap.size) (hext : Ext wi w)
  (h : ∀ ao' c' w', OwB w' B ao' c' (zs ++ [E.toNat]) → Ext wi w' → w.grownBy w' (Value.slice ao zs.length c).ownBlock → wpList Tryz.prog ops Q rest (a.put o.dst (.slice ao' (zs.length + 1) c')) w') :
  wpList Tryz.prog ops Q (o :: rest) a (w.alloc (.cells #[.int .u8 E] 5)) := by
 subst hn
 obtain ⟨i0, hi, hz0, hz1, hz2⟩ := info_parts info8
 have hsz := hext.size
 refine wpList_append_own _ hgd s x 95 ho B 5 i0 (.int .u8 0) 1 1 undB hi hz0 hz1 hz2 rfl (by decide) _ _ _ hs (hown.row.alloc _) ⟨w.heap.size, 0, none⟩ 1 1 [.int .u8 E] hx rfl ?_ ?_ ?_ ?_ ?_ ?_
 ·intro j u hj
  match j, hj with
  | 0, hj => simp at hj; subst hj; simp [Addr.add]
 ·intro u hu; simp at hu; subst hu; rfl
 ·unfold maxLen; omega
 ·omega
 ·simp; omega
 ·intro v' w' hown' hgrow _
  obtain ⟨y, rfl⟩ := Int.eq_ofNat_of_zero_le hE
  have hlb : LbB (zs ++ [y]) := LbB_snoc hown.lb (by omega)
  have he : Ext wi w' := (hext.alloc _).grown hgrow (fun k hk => by have := (hown.lt k hk).1; omega)
  rcases hown'.2 with ⟨hv, hn⟩ | ⟨g, cap, cur, hv, hb, hg, hnc, hcm, hcs, htake⟩
  ·omega
  ·subst hv
   refine h _ _ w' ⟨hlb, ?_⟩ he (grown_trans (World.grownBy_alloc _ _ _) hgrow)
   simpa using hown'

end Go.Proofs.YtekhnajfdaknnaaGreatDoor
end
section
namespace Go.Proofs.YtekhnajfdaknnaaGreatDoor
open Go.RowKit

def ByR (w : World) (xs : List Nat) (b : Nat) (po : Option Addr) (pc : Nat) (rest i : Value) (wr : World) : Prop :=
  ∃ (k R : Nat) (zs : List Nat), k ≤ xs.length ∧ i = .int .i64 ((k : Int) - 1) ∧ rest = .int .u64 R ∧ R < b ∧ Hid (zs.length = xs.length) ∧ Own wr w.heap.size po pc zs ∧ Ext w wr ∧ Hid (vd xs k = vd zs k * b + R)

theorem by_step {xs zs : List Nat} {k b R : Nat} (h : vd xs (k + 1) = vd zs (k + 1) * b + R) (hx : k < xs.length) (hz : k < zs.length) :
  Hid (vd xs k = vd (zs.set k ((R * 4294967296 + lim xs k) / b)) k * b + (R * 4294967296 + lim xs k) % b) := by
 unfold Hid
 rw [vd_step hx, vd_step (zs := zs.set k ((R * 4294967296 + lim xs k) / b)) (by rw [List.length_set]; exact hz), lim_set_eq hz, vd_set (by omega), h, Nat.add_mul, Nat.mul_assoc 4294967296]
 have h1 := Nat.div_add_mod (R * 4294967296 + lim xs k) b
 rw [Nat.mul_comm b] at h1
 omega
theorem by_lt {R x b : Nat} (h : R < b) (hx : x < 4294967296) : (R * 4294967296 + x) / b < 4294967296 := by
 rw [Nat.div_lt_iff_lt_mul (by omega)]
 have : (R + 1) * 4294967296 ≤ b * 4294967296 := Nat.mul_le_mul_right _ h
 rw [Nat.mul_comm 4294967296 b]
 omega

set_option maxHeartbeats 1000000 in
theorem byLimb_any (ao : Option Addr) (n c : Nat) (xs : List Nat) (E : Int) (b : Nat) (w : World) (hn : n = xs.length) (hE : E = (b : Int)) (ha : Rd w ao c xs) (hl : xs.length ≤ 1000000) (hb : 0 < b) (hb2 : b < 4294967296) :
  Calls Tryz.prog 118 #[.slice ao n c, .int .u32 E] w fun e w' => ∃ po pc zs, e = .returned (.tuple #[.slice po zs.length pc, .int .u32 ((val xs % b : Nat) : Int)]) ∧ Own w' w.heap.size po pc zs ∧ Canon zs ∧ val zs = val xs / b ∧ Ext w w' := by
 subst hn hE
 have bA := ha.cap
 have mA := ha.mx
 go_enter Tryz.func118, Tryz.ntmps118
 go_wp2_with (at_make; refine mkf rfl _ _ rfl _ _ _ rfl rfl ?_ ?_ (Ext.refl w) ?_; omega; omega; intro w1 hown hx0 hext)
 go_loopw [7, 8] (ByR w xs b (some ⟨w.heap.size, 0, none⟩) xs.length) (fun _ i _ => (intOf i + 1).toNat)
 case atStart => exact ⟨xs.length, 0, List.replicate xs.length 0, Nat.le_refl _, rfl, rfl, hb, by simp [Hid], by simpa using hown, hext, by unfold Hid; rw [vd_end (by omega), vd_end (by simp)]; simp⟩
 case round =>
  obtain ⟨k, R, zs, hk, rfl, rfl, hR, hzl, hown, hext, heq⟩ := hrel
  rcases k with _ | k
  ·have hv : val xs = val zs * b + R := by have := heq.out; rwa [vd_zero, vd_zero] at this
   have hq : val zs = val xs / b := by rw [hv, Nat.mul_comm, Nat.mul_add_div hb, Nat.div_eq_of_lt hR, Nat.add_zero]
   have hm : val xs % b = R := by rw [hv, Nat.mul_comm, Nat.mul_add_mod, Nat.mod_eq_of_lt hR]
   have Hq := Lib.hid hq
   have Hm := Lib.hid hm
   clear hv hq hm heq
   go_wp2_with fail
   refine (Trim_got _ _ _ zs _ hzl.out.symm hown.rd (by have := hzl.out; omega)).mono ?_
   intro e w2 hg
   rw [Hq.out] at hg
   obtain ⟨ao3, c3, zs3, rfl, h1, h2, h3, h4⟩ := hg.from hext
   go_wp2_with fail
   go_ret2
   exact ⟨ao3, c3, zs3, by rw [Hm.out]; rfl, h1, h2, h3, h4⟩
  ·have hx := (ha.ext hext).cell k (by omega)
   have hix := ixk ha xs.length rfl k (by omega) wr
   have bx := lim_lt ha.lb k
   have hkz : k < zs.length := by have := hzl.out; omega
   have hiz := ixk hown.rd xs.length hzl.out.symm k (by omega) wr
   have hxz := hown.rd.cell k hkz
   have hf := hown.frozen (by omega) k
   have hor := or_join R (lim xs k) (by omega) bx
   have hq1 := by_lt (b := b) hR bx
   have hm1 : (R * 4294967296 + lim xs k) % b < b := Nat.mod_lt _ hb
   have hs := by_step heq.out (by omega) hkz
   obtain ⟨H, hH⟩ : ∃ H, H = R * 4294967296 + lim xs k := ⟨_, rfl⟩
   rw [← hH] at hor hq1 hm1 hs
   have bH : H < 18446744073709551616 := by omega
   have htd := tdiv_nat H b
   have htm := tmod_nat H b
   obtain ⟨q, hq⟩ : ∃ q, q = H / b := ⟨_, rfl⟩
   obtain ⟨m, hm⟩ : ∃ m, m = H % b := ⟨_, rfl⟩
   rw [← hq] at htd hq1 hs
   rw [← hm] at htm hm1 hs
   have hnd : (H : Int) / (b : Int) = (q : Int) := by rw [hq]; push_cast; rfl
   have hnm : (H : Int) % (b : Int) = (m : Int) := by rw [hm]; push_cast; rfl
   clear hH hq hm
   go_wp2_with fail
   have hst := hown.store k hkz (q : Int) q rfl hq1
   go_roundw
   case rel => exact ⟨k, m, zs.set k q, by omega, by go_num, rfl, hm1, by unfold Hid; rw [List.length_set]; exact hzl.out, hst.1, hext.store (show w.heap.size ≤ w.heap.size by omega) _, hs⟩
   case measure => simp [intOf]

def revK (zs ys : List Nat) (k : Nat) : Prop := ys.length = zs.length ∧ ∀ t, t < zs.length → lim ys t = if t < k ∨ zs.length - k ≤ t then lim zs (zs.length - 1 - t) else lim zs t

theorem revK_step {zs ys : List Nat} {k : Nat} (h : revK zs ys k) (hk : k < zs.length - 1 - k) : revK zs ((ys.set k (lim ys (zs.length - 1 - k))).set (zs.length - 1 - k) (lim ys k)) (k + 1) := by
 obtain ⟨hl, h⟩ := h
 refine ⟨by simp [hl], ?_⟩
 intro t ht
 have h1 := h k (by omega)
 have h2 := h (zs.length - 1 - k) (by omega)
 rw [if_neg (by omega)] at h1 h2
 by_cases e : t = zs.length - 1 - k
 ·subst e
  rw [lim_set_eq (by simp; omega), h1, if_pos (by omega)]
  congr 1; omega
 ·rw [lim_set_ne (by omega)]
  by_cases e2 : t = k
  ·subst e2
   rw [lim_set_eq (by omega), h2, if_pos (by omega)]
  ·rw [lim_set_ne (by omega), h t ht]
   by_cases c1 : t < k ∨ zs.length - k ≤ t
   ·rw [if_pos c1, if_pos (by omega)]
   ·rw [if_neg c1, if_neg (by omega)]
theorem revK_end {zs ys : List Nat} {k : Nat} (h : revK zs ys k) (hk : zs.length ≤ k + k + 1) : ys = zs.reverse := by
 obtain ⟨hl, h⟩ := h
 apply list_ext_lim (by simp [hl])
 intro t ht
 have ht' : t < zs.length := by omega
 have hr : lim zs.reverse t = lim zs (zs.length - 1 - t) := by
  unfold lim
  rw [List.getD_eq_getElem?_getD, List.getD_eq_getElem?_getD, List.getElem?_reverse ht']
 rw [hr, h t ht']
 split
 ·rfl
 ·congr 1; omega

set_option maxHeartbeats 1000000 in
theorem Reverse_any (ao : Option Addr) (n c : Nat) (zs : List Nat) (B : Nat) (w : World) (hn : n = zs.length) (ha : OwB w B ao c zs) :
  Calls Tryz.prog 126 #[.slice ao n c] w fun e w' => e = .returned (.tuple #[]) ∧ OwB w' B ao c zs.reverse ∧ w.grownBy w' (some (bk ao)) := by
 subst hn
 have bA := ha.rd.cap
 have mA := ha.rd.mx
 go_enter Tryz.func126, Tryz.ntmps126
 go_wp2_with fail
 go_loopw [2, 3] (fun i j wr => ∃ (k : Nat) (ys : List Nat), k ≤ zs.length ∧ i = .int .i64 k ∧ j = .int .i64 ((zs.length : Int) - 1 - k) ∧ Hid (revK zs ys k) ∧ OwB wr B ao c ys ∧ w.grownBy wr (some (bk ao))) (fun _ j _ => (intOf j + 1).toNat)
 case atStart => exact ⟨0, zs, by omega, rfl, by go_num, ⟨rfl, fun t ht => by rw [if_neg (by omega)]⟩, ha, World.grownBy.refl _ _⟩
 case round =>
  obtain ⟨k, ys, hk, rfl, rfl, hrev, hown, hg⟩ := hrel
  have hyl : ys.length = zs.length := hrev.out.1
  have Hyl := Lib.hid hyl
  by_cases hkA : k < zs.length - 1 - k
  ·have hx1 := hown.rd.cell k (by omega)
   have hx2 := hown.rd.cell (zs.length - 1 - k) (by omega)
   have hi1 := fun w => ixnB hown.rd .i64 (k : Int) w (by omega) (by omega)
   have hi2 := fun w => ixnB hown.rd .i64 ((zs.length : Int) - 1 - (k : Int)) w (by omega) (by omega)
   rw [hyl] at hi1 hi2
   have et : ((zs.length : Int) - 1 - (k : Int)).toNat = zs.length - 1 - k := by omega
   rw [et] at hi2
   have hf1 := hown.frozen (by omega) k
   have hf2 := hown.frozen (by omega) (zs.length - 1 - k)
   clear hyl et
   go_wp2_with fail
   go_region
   all_goals
    have hst1 := hown.store k (by have := Hyl.out; omega) _ (lim ys (zs.length - 1 - k)) rfl (limB_lt hown.lb _)
    have hst2 := hst1.1.store (zs.length - 1 - k) (by rw [List.length_set]; have := Hyl.out; omega) _ (lim ys k) rfl (limB_lt hown.lb _)
    have hrs := revK_step hrev.out hkA
    clear hx1 hx2 hi1 hi2 hf1 hf2
    go_wp2_with fail
    go_roundw
    case rel => exact ⟨k + 1, _, by omega, by go_num, by go_num, hrs, hst2.1.ext (Ext.refl _).drew, grown_trans (grown_trans hg hst1.2) (grown_trans hst2.2 (grown_of_ext (Ext.refl _).drew _))⟩
    case measure => simp [intOf]; omega
  ·have he := revK_end hrev.out (by omega)
   have He := Lib.hid he
   clear he hyl
   go_wp2_with fail
   go_end0
   exact ⟨rfl, by rw [← He.out]; exact hown, hg⟩

def GotText (w : World) (n : Nat) (e : Ending) (w' : World) : Prop := ∃ s, e = .returned (.string s) ∧ isT (bytes s) n ∧ Ext w w'

def strN (L : List Nat) : ByteArray := strOfNums (L.map fun (x : Nat) => (x : Int))
theorem bytes_strN {L : List Nat} (h : LbB L) : bytes (strN L) = L := by
 unfold bytes strN
 rw [strOfNums_data, List.map_map, List.map_map]
 conv => rhs; rw [← List.map_id L]
 apply List.map_congr_left
 intro x hx
 have := h x hx
 simp only [Function.comp_apply, Int.toNat_natCast, id]
 rw [UInt8.toNat_ofNat']
 omega
theorem run_str {w : World} {b o c : Nat} {L : List Nat} (h : RdB w (some ⟨b, o, none⟩) c L) :
  (convert 95 9 (.slice (some ⟨b, o, none⟩) L.length c)).run Tryz.prog w = .ok (.string (strN L)) w := by
 refine run_convert_bytes_arg w 95 5 undB Tryz.underlying5 b o L.length c (L.map fun (x : Nat) => (x : Int)) (by simp) ?_ 9 Tryz.underlying9
 intro i hi
 have := h.cell i hi
 simp only [bk, of] at this
 rw [this]
 have e : L[i]? = some (lim L i) := lim_map_at hi
 simp only [List.getD_eq_getElem?_getD, List.getElem?_map, e]
 rfl

theorem text_step {D : List Nat} {p R N : Nat} (h : lowD D + 10 ^ D.length * (R + 10 * p) = N) : lowD (D ++ [48 + R % 10]) + 10 ^ (D ++ [48 + R % 10]).length * (R / 10 + p) = N := by
 rw [lowD_snoc, List.length_append, List.length_cons, List.length_nil, Nat.zero_add, Nat.pow_succ, ← h, Nat.add_sub_cancel_left, Nat.mul_assoc]
 rw [show R + 10 * p = 10 * (R / 10 + p) + R % 10 from by omega, Nat.mul_add (10 ^ D.length) (10 * (R / 10 + p)) (R % 10)]
 omega

def TextI (w : World) (n0 N V : Nat) (d0 : Nat) (ao : Option Addr) (c : Nat) (zs : List Nat) (out rest i : Value) (wr : World) : Prop :=
  ∃ (j R : Nat) (po : Option Addr) (pc : Nat) (D : List Nat), j ≤ 9 ∧ i = .int .i64 j ∧ rest = .int .u32 R ∧ R < 10 ^ (9 - j) ∧ out = .slice po D.length pc ∧ Hid (D.length = d0 + j) ∧ d0 ≤ 10 * n0 ∧ allD D ∧ OwB wr w.heap.size po pc D ∧ Own wr w.heap.size ao c zs ∧ Ext w wr ∧
    Hid (lowD D + 10 ^ D.length * (R + 10 ^ (9 - j) * V) = N)
def TextO (w : World) (n0 N g : Nat) (a out : Value) (wr : World) : Prop :=
  ∃ (ao : Option Addr) (c : Nat) (zs : List Nat) (po : Option Addr) (pc : Nat) (D : List Nat), a = .slice ao zs.length c ∧ out = .slice po D.length pc ∧ D.length ≤ 10 * n0 + 9 ∧ zs.length ≤ 1000000 ∧ allD D ∧ Canon zs ∧ OwB wr w.heap.size po pc D ∧ Rd wr ao c zs ∧ Ext w wr ∧
    Hid (lowD D + 10 ^ D.length * val zs = N) ∧ Hid (val zs = g)
def TextS (w : World) (N : Nat) (out : Value) (wr : World) : Prop :=
  ∃ (b o c : Nat) (L : List Nat), out = .slice (some ⟨b, o, none⟩) L.length c ∧ allD L ∧ Hid (dvl L = N) ∧ RdB wr (some ⟨b, o, none⟩) c L ∧ Ext w wr
def lenOf : Value → Nat
  | .slice _ n _ => n
  | _ => 0
theorem pw_10 (n : Nat) : pw n ≤ 10 ^ (10 * n) := by
 unfold pw
 rw [Nat.pow_mul]
 exact Nat.pow_le_pow_left (by decide) n

set_option maxHeartbeats 2000000 in
theorem Text_any (ao : Option Addr) (n c : Nat) (xs : List Nat) (w : World) (hn : n = xs.length) (ha : Rd w ao c xs) (hl : xs.length ≤ 10000) :
  Calls Tryz.prog 110 #[.slice ao n c] w (GotText w (val xs)) := by
 subst hn
 have hA := ha.trm
 have cA := canon_trm ha.lb
 have lA := trm_le xs
 rw [← val_trm xs]
 rcases Nat.eq_zero_or_pos (trm xs).length with h0 | hp
 ·have e0 : trm xs = [] := List.length_eq_zero_iff.1 h0
  rw [e0]
  have hz : (((trm xs).length : Int) == 0) = true := beq_iff_eq.2 (by omega)
  clear h0 e0
  go_enter Tryz.func110, Tryz.ntmps110
  go_wp2_with fail
  refine (trim_any ao _ c xs w rfl ha).mono ?_
  rintro e w' ⟨rfl, rfl⟩
  go_wp2_with fail
  go_ret
  exact ⟨_, rfl, isT_zero, Ext.refl _⟩
 ·have hz : (((trm xs).length : Int) == 0) = false := beq_eq_false_iff_ne.2 (by omega)
  obtain ⟨N, hN⟩ : ∃ N, N = val (trm xs) := ⟨_, rfl⟩
  have hNpos : 0 < N := by
   have := canon_ge cA hp
   have := pw_pos ((trm xs).length - 1)
   omega
  have hNb : N < 10 ^ (10 * xs.length) := by
   rw [hN]
   exact Nat.lt_of_lt_of_le (Nat.lt_of_lt_of_le (val_lt cA.1) (pw_le lA)) (pw_10 _)
  have HNb := Lib.hid hNb
  clear hNb
  rw [← hN]
  go_enter Tryz.func110, Tryz.ntmps110
  go_wp2_with fail
  refine (trim_any ao _ c xs w rfl ha).mono ?_
  rintro e w' ⟨rfl, rfl⟩
  go_wp2_with fail
  go_loopg [0, 3] N (TextO w xs.length N)
  case atStart => exact ⟨ao, c, trm xs, none, 0, [], rfl, rfl, by simp, by omega, (fun c hc => by simp at hc), cA, OwB.nil _ _, hA, Ext.refl _, by unfold Hid; rw [hN]; simp [lowD], hN.symm⟩
  case round =>
   obtain ⟨bo, d, zs, po, pc, D, rfl, rfl, hDl, hzl, hDd, cZ, hown, hrd, hext, heq, hgk⟩ := hrel
   rcases Nat.eq_zero_or_pos zs.length with hz0 | hzp
   ·have ez : zs = [] := List.length_eq_zero_iff.1 hz0
    subst ez
    have hv : dvl D.reverse = N := by rw [dvl_reverse, ← heq.out]; simp [val]
    have hD0 : 0 < D.length := by
     cases D with
     | nil => simp [dvl] at hv; omega
     | cons d D => simp
    have Hv := Lib.hid hv
    clear hv heq
    go_wp2_with fail
    refine (Reverse_any _ _ _ D _ _ rfl hown).mono ?_
    rintro e w2 ⟨rfl, hown2, hg2⟩
    have hext2 : Ext w w2 := hext.grown hg2 (fun k hk => by cases hk; exact (hown.blk hD0).1)
    have hrd2 := hown2.rd
    have hl2 : (D.reverse).length = D.length := by simp
    obtain ⟨b, o, hat⟩ := hrd2.isAt (by omega)
    have hdd : allD D.reverse := fun c hc => hDd c (by simpa using hc)
    rw [← hl2]
    generalize D.reverse = L at *
    subst hat
    clear hown hg2 hown2 hext hrd hDd
    have Hl2 := Lib.hid hl2
    clear hl2
    go_wp2_with fail
    go_loopw [3] (TextS w N) (fun a _ => lenOf a)
    case atStart => exact ⟨b, o, pc, L, rfl, hdd, Hv, hrd2, hext2⟩
    case round =>
     obtain ⟨b, o, pc, L, rfl, hLd, hLv, hLr, hLe⟩ := hrel
     have hL0 : 0 < L.length := by
      cases L with
      | nil => have := hLv.out; simp [dvl] at this; omega
      | cons d D => simp
     have hx := hLr.cell 0 hL0
     have hcap := hLr.cap
     have hmx := hLr.mx
     simp only [bk, of, Nat.add_zero] at hx
     by_cases h48 : lim L 0 = 48
     ·have hb : (((lim L 0 : Nat) : Int) == 48) = true := by simp [h48]
      have hv2 : dvl L.tail = N := by rw [dvl_zero h48]; exact hLv.out
      have hL1 : 0 < L.tail.length := by
       cases hL : L.tail with
       | nil => rw [hL] at hv2; simp [dvl] at hv2; omega
       | cons d D => simp
      rw [List.length_tail] at hL1
      have hdr := hLr.drop 1 hL0
      rw [List.drop_one] at hdr
      clear h48
      go_wp2_with fail
      go_roundw
      case rel => exact ⟨b, o + 1, pc - 1, L.tail, by simp, (fun c hc => hLd c (List.mem_of_mem_tail hc)), hv2, hdr, hLe⟩
      case measure => simp [lenOf]; try omega
     ·have hb : (((lim L 0 : Nat) : Int) == 48) = false := beq_eq_false_iff_ne.2 (by omega)
      have hcv := run_str hLr
      have hlb := hLr.lb
      go_wp2_with fail
      go_ret
      exact ⟨strN L, rfl, by rw [bytes_strN hlb]; exact ⟨hL0, hLd, hLv.out, fun _ => h48⟩, hLe⟩
   ·have hV := canon_ge cZ hzp
    have hV1 := pw_pos (zs.length - 1)
    have hVl := val_lt cZ.1
    have hDb : D.length < 10 * xs.length := by
     have h1 := heq.out
     have h2 := HNb.out
     have h3 : 10 ^ D.length * 1 ≤ 10 ^ D.length * val zs := Nat.mul_le_mul_left _ (by omega)
     exact (Nat.pow_lt_pow_iff_right (by omega)).1 (show 10 ^ D.length < 10 ^ (10 * xs.length) by omega)
    have hVp : 0 < val zs := by omega
    clear hV hV1
    have HVl := Lib.hid hVl
    clear hVl
    go_wp2_with fail
    refine (byLimb_any _ _ _ zs _ 1000000000 _ rfl rfl hrd hzl (by omega) (by omega)).mono ?_
    rintro e w2 ⟨eo, ec, ys, rfl, hyo, hyk, hyv, hyx⟩
    have hyl : ys.length ≤ 1000000 := Nat.le_trans (canon_len hyk (by rw [hyv]; exact Nat.lt_of_le_of_lt (Nat.div_le_self _ _) HVl.out)) hzl
    have heq2 : lowD D + 10 ^ D.length * (val zs % 1000000000 + 10 ^ (9 - 0) * val ys) = N := by
     have e : val zs % 1000000000 + 10 ^ (9 - 0) * val ys = val zs := by
      rw [hyv]; simp; omega
     rw [e]; exact heq.out
    have Heq2 := Lib.hid heq2
    have hRb : val zs % 1000000000 < 10 ^ (9 - 0) := Nat.mod_lt _ (by decide)
    replace hyv := Lib.hid hyv
    have hdec : val ys < val zs := by rw [hyv.out]; omega
    have hown2 := hown.ext hyx
    have hext2 := hext.trans hyx
    have hext0 := hext.size
    clear heq2 hown hext heq
    go_wp2_with fail
    go_loopw [3, 4, 18] (TextI w xs.length N (val ys) D.length eo ec ys) (fun _ _ i _ => (9 - intOf i).toNat)
    case atStart => exact ⟨0, val zs % 1000000000, po, pc, D, by omega, rfl, rfl, hRb, rfl, rfl, by omega, hDd, hown2, hyo.mono hext0, hext2, Heq2⟩
    case round =>
     obtain ⟨j, R, po, pc, E, hj, rfl, rfl, hR, rfl, hEl, hDn, hEd, hown, hyo, hext, heq⟩ := hrel
     have hEl2 : E.length ≤ 200000 := by have := hEl.out; omega
     by_cases hj9 : j < 9
     ·have hRb : R < 1000000000 := Nat.lt_of_lt_of_le hR (by exact Nat.pow_le_pow_right (by omega) (by omega) : 10 ^ (9 - j) ≤ 10 ^ 9)
      have e9 : 10 ^ (9 - j) = 10 * 10 ^ (9 - (j + 1)) := by
       rw [Nat.mul_comm, ← Nat.pow_succ]; congr 1; omega
      have hst : lowD (E ++ [48 + R % 10]) + 10 ^ (E ++ [48 + R % 10]).length * (R / 10 + 10 ^ (9 - (j + 1)) * val ys) = N := by
       apply text_step
       rw [← Nat.mul_assoc, ← e9]; exact heq.out
      have hR' : R / 10 < 10 ^ (9 - (j + 1)) := by omega
      have Hst := Lib.hid hst
      have HR' := Lib.hid hR'
      clear hst hR' hR e9 heq
      go_wp2_with (at_builtin; refine pushGB (wi := w) rfl _ _ rfl _ _ E _ rfl rfl hown _ ?_ ?_ rfl ?_ rfl hext ?_; omega; omega; omega; intro ao' c' w3 hown3 hext3 hg3)
      go_roundw
      case rel =>
       have et : (48 + (R : Int) % 10).toNat = 48 + R % 10 := by omega
       rw [et] at hown3
       exact ⟨j + 1, R / 10, ao', c', E ++ [48 + R % 10], by omega, by go_num, by go_num, HR'.out, by simp, by unfold Hid; rw [List.length_append, hEl.out]; simp; omega, hDn, (fun c hc => by rcases List.mem_append.1 hc with h | h; exact hEd c h; simp at h; omega), hown3, hyo.keptO hg3 (ownsRow_ne hyo.row hown.row (by decide)), hext3, Hst⟩
      case measure => simp [intOf]; try omega
     ·obtain rfl : j = 9 := by omega
      have hR0 : R = 0 := by simpa using hR
      have heq3 : lowD E + 10 ^ E.length * val ys = N := by have := heq.out; rw [hR0] at this; simpa using this
      have Heq3 := Lib.hid heq3
      clear hR0 heq3 hR
      go_wp2_with fail
      go_roundg (val ys)
      case rel => exact ⟨eo, ec, ys, po, pc, E, rfl, rfl, by have := hEl.out; omega, hyl, hEd, hyk, hown, hyo.rd, hext, Heq3, rfl⟩
      case measure => have := hgk.out; omega
end Go.Proofs.YtekhnajfdaknnaaGreatDoor
end
section
namespace Go.Proofs.YtekhnajfdaknnaaGreatDoor
open Go.RowKit

def gSpec (top u2 first d2 g : Nat) : Prop := g < 4294967296 ∧ g * (first * 4294967296 + d2) ≤ top * 4294967296 + u2 ∧ (top * 4294967296 + u2 < (g + 1) * (first * 4294967296 + d2) ∨ 4294967296 ≤ g + 1)
def GueR (w : World) (top u2 first d2 : Nat) (gu re : Value) (wr : World) : Prop :=
  ∃ (g r : Nat), gu = .int .u64 g ∧ re = .int .u64 r ∧ g ≤ 4294967297 ∧ r < 4294967296 ∧ Hid (g = 4294967297 → r + first < 4294967296) ∧ Hid (g * first + r = top) ∧
    Hid (top * 4294967296 + u2 < (g + 1) * (first * 4294967296 + d2) ∨ 4294967296 ≤ g + 1) ∧ Qt w wr

theorem gue_start {top u2 first d2 un u1 : Nat} (hf : 2147483648 ≤ first) (hf2 : first < 4294967296) (h2 : u2 < 4294967296) (ht : top = un * 4294967296 + u1) (h1 : u1 < 4294967296) (hu : un ≤ first) :
  top / first ≤ 4294967297 ∧ top % first < 4294967296 ∧ (top / first = 4294967297 → top % first + first < 4294967296) ∧ top / first * first + top % first = top ∧
   (top * 4294967296 + u2 < (top / first + 1) * (first * 4294967296 + d2) ∨ 4294967296 ≤ top / first + 1) := by
 have h3 : top / first * first + top % first = top := by have := Nat.div_add_mod top first; rw [Nat.mul_comm] at this; exact this
 have h4 : top % first < first := Nat.mod_lt _ (by omega)
 obtain ⟨g, hg⟩ : ∃ g, g = top / first := ⟨_, rfl⟩
 obtain ⟨r, hr⟩ : ∃ r, r = top % first := ⟨_, rfl⟩
 rw [← hg, ← hr] at h3 ⊢
 rw [← hr] at h4
 have h5 : g ≤ 4294967297 := by
  rcases Nat.lt_or_ge 4294967297 g with h | h
  ·have := Nat.mul_le_mul_right first (show 4294967298 ≤ g by omega)
   omega
  ·exact h
 refine ⟨h5, by omega, ?_, h3, .inl ?_⟩
 ·intro e
  rw [e] at h3
  omega
 ·rw [Nat.mul_add, ← Nat.mul_assoc]
  have : (g + 1) * first = g * first + first := Nat.succ_mul _ _
  omega
theorem gue_more {top u2 first d2 g r : Nat} (hv : g * first + r = top) :
  g * (first * 4294967296 + d2) ≤ top * 4294967296 + u2 ↔ g * d2 ≤ r * 4294967296 + u2 := by
 rw [Nat.mul_add, ← Nat.mul_assoc, ← hv, Nat.add_mul]
 omega
theorem gue_down {top first g r : Nat} (hv : g * first + r = top) (hg : 1 ≤ g) : (g - 1) * first + (r + first) = top := by
 obtain ⟨h, rfl⟩ : ∃ h, g = h + 1 := ⟨g - 1, by omega⟩
 rw [Nat.succ_mul] at hv
 simp only [Nat.add_sub_cancel]
 omega
theorem gue_break {top u2 first d2 g r : Nat} (hv : g * first + r = top) (hg2 : g ≤ 4294967296) (hr : 4294967296 ≤ r) (hd : d2 < 4294967296) : g * (first * 4294967296 + d2) ≤ top * 4294967296 + u2 := by
 rw [gue_more hv]
 have := Nat.mul_le_mul hg2 (show d2 ≤ 4294967295 by omega)
 omega

set_option maxHeartbeats 2000000 in
set_option maxRecDepth 40000 in
theorem guessed_any (ao : Option Addr) (m c : Nat) (us : List Nat) (bo : Option Addr) (n d : Nat) (ys : List Nat) (i1 i2 : Nat) (w : World) (hm : m = us.length) (hn : n = ys.length) (h1 : i1 + 1 = n) (h2 : i2 + 2 = n) (hlen : n < m)
  (ha : Rd w ao c us) (hb : Rd w bo d ys) (hf : 2147483648 ≤ lim ys i1) (hu : lim us n ≤ lim ys i1) :
  Calls Tryz.prog 134 #[.slice ao m c, .slice bo n d] w
   (fun e w' => ∃ g : Nat, e = .returned (.int .u64 g) ∧ gSpec (lim us n * 4294967296 + lim us i1) (lim us i2) (lim ys i1) (lim ys i2) g ∧ Qt w w') := by
 have mA := ha.mx
 have mB := hb.mx
 have cA := ha.cap
 have cB := hb.cap
 have xun := ixk ha m hm n hlen
 have xu1 := ixe ha m hm ((n : Int) - 1) i1 (by omega) (by omega)
 have xu2 := ixe ha m hm ((n : Int) - 2) i2 (by omega) (by omega)
 have xd1 := ixe hb n hn ((n : Int) - 1) i1 (by omega) (by omega)
 have xd2 := ixe hb n hn ((n : Int) - 2) i2 (by omega) (by omega)
 have kun := fun wr (q : Qt w wr) => (ha.ext q.ext).cell n (by omega)
 have ku1 := fun wr (q : Qt w wr) => (ha.ext q.ext).cell i1 (by omega)
 have ku2 := fun wr (q : Qt w wr) => (ha.ext q.ext).cell i2 (by omega)
 have kd1 := fun wr (q : Qt w wr) => (hb.ext q.ext).cell i1 (by omega)
 have kd2 := fun wr (q : Qt w wr) => (hb.ext q.ext).cell i2 (by omega)
 have bun := lim_lt ha.lb n
 have bu1 := lim_lt ha.lb i1
 have bu2 := lim_lt ha.lb i2
 have bd1 := lim_lt hb.lb i1
 have bd2 := lim_lt hb.lb i2
 have hbl : n ≤ 9223372036854775807 := by omega
 have hn2 : 2 ≤ n := by omega
 clear hm hn h1 h2 hlen cA cB
 generalize lim us n = un at *
 generalize lim us i1 = u1 at *
 generalize lim us i2 = u2 at *
 generalize lim ys i1 = first at *
 generalize lim ys i2 = d2 at *
 have hor := or_join un u1 bun bu1
 obtain ⟨top, htop⟩ : ∃ top, top = un * 4294967296 + u1 := ⟨_, rfl⟩
 obtain ⟨s1, s2, s3, s4, s5⟩ := gue_start (u2 := u2) (d2 := d2) hf bd1 bu2 htop bu1 hu
 rw [← htop] at hor ⊢
 have bT : top < 18446744073709551616 := by omega
 have htd := tdiv_nat top first
 have htm := tmod_nat top first
 obtain ⟨q, hq⟩ : ∃ q, q = top / first := ⟨_, rfl⟩
 obtain ⟨r0, hr⟩ : ∃ r0, r0 = top % first := ⟨_, rfl⟩
 rw [← hq] at htd s1 s3 s4 s5
 rw [← hr] at htm s2 s3 s4
 have hnd : (top : Int) / (first : Int) = (q : Int) := by rw [hq]; push_cast; rfl
 have hnm : (top : Int) % (first : Int) = (r0 : Int) := by rw [hr]; push_cast; rfl
 have S3 := Lib.hid s3
 have S4 := Lib.hid s4
 have S5 := Lib.hid s5
 clear hq hr s3 s4 s5 htop
 go_enter Tryz.func134, Tryz.ntmps134
 have k0 := kun w (Qt.refl w)
 have k1 := ku1 w (Qt.refl w)
 have k3 := kd1 w (Qt.refl w)
 have wn1 : IntKind.i64.wrap ((n : Int) - 1) = (n : Int) - 1 := IntWalk.i64_in _ (by omega)
 have wn2 : IntKind.i64.wrap ((n : Int) - 2) = (n : Int) - 2 := IntWalk.i64_in _ (by omega)
 have wsh : IntKind.u64.wrap ((un : Int) * 4294967296) = (un : Int) * 4294967296 := by rw [IntKind.wrap_u64]; omega
 go_wp2_with fail
 go_quiet (fail)
 have k4 := kd1 _ ((Qt.refl w).drewN nq)
 go_wp2_with fail
 have wq : IntKind.u64.wrap (q : Int) = (q : Int) := by rw [IntKind.wrap_u64]; omega
 have wr0 : IntKind.u64.wrap (r0 : Int) = (r0 : Int) := by rw [IntKind.wrap_u64]; omega
 go_quiet (fail)
 go_wp2_with fail
 go_loopw [8, 9] (GueR w top u2 first d2) (fun g _ _ => (intOf g).toNat)
 case atStart => exact ⟨q, r0, rfl, rfl, s1, s2, S3, S4, S5, ((Qt.refl w).drewN _).drewN _⟩
 case round =>
  obtain ⟨g, r, rfl, rfl, hg, hr, H3, H4, H5, hqt⟩ := hrel
  by_cases hbig : 4294967296 ≤ g
  ·have hd1 : decide ((4294967296 : Int) ≤ (g : Int)) = true := by simp; omega
   have hb1 : (4294967296 : Int) ≤ (g : Int) := by omega
   have hdn := gue_down H4.out (by omega)
   have h6 : top * 4294967296 + u2 < (g - 1 + 1) * (first * 4294967296 + d2) ∨ 4294967296 ≤ g - 1 + 1 := .inr (by omega)
   by_cases hbr : 4294967296 ≤ r + first
   ·have h7 : g ≤ 4294967296 := by
     rcases Nat.lt_or_ge 4294967296 g with h | h
     ·have := H3.out (by omega); omega
     ·exact h
    have h8 := gue_break (u2 := u2) hdn (by omega) hbr bd2
    have F := Lib.hid (show gSpec top u2 first d2 (g - 1) from ⟨by omega, h8, h6⟩)
    clear h6 h8 hdn H3 H4 H5
    have hbr1 : (4294967296 : Int) ≤ (r : Int) + (first : Int) := by omega
    go_wp2_with fail
    go_quiet (fail)
    go_wp2_with fail
    go_ret
    exact ⟨g - 1, by go_num, F.out, hqt.drewN _⟩
   ·have hbr1 : decide ((4294967296 : Int) ≤ (r : Int) + (first : Int)) = false := by simp; omega
    have Hd := Lib.hid hdn
    have H6 := Lib.hid h6
    clear hdn h6 H3 H4 H5
    go_wp2_with fail
    go_quiet (fail)
    go_wp2_with fail
    go_roundw
    case rel => exact ⟨g - 1, r + first, by go_num, by go_num, by omega, by omega, by unfold Hid; omega, Hd, H6, hqt.drewN _⟩
    case measure => simp [intOf]; try omega
  ·have hd1 : decide ((4294967296 : Int) ≤ (g : Int)) = false := by simp; omega
   have hb1 : ¬ (4294967296 : Int) ≤ (g : Int) := by omega
   have k1 := kd2 _ hqt
   have k2 := ku2 _ hqt
   have hor := or_join r u2 hr bu2
   have bp := prod_lt (show g < 4294967296 by omega) bd2
   have hmore := gue_more (u2 := u2) (d2 := d2) H4.out
   obtain ⟨p, hp⟩ : ∃ p, p = g * d2 := ⟨_, rfl⟩
   obtain ⟨R, hR⟩ : ∃ R, R = r * 4294967296 + u2 := ⟨_, rfl⟩
   rw [← hR] at hor hmore
   rw [← hp] at bp hmore
   have bR : R < 18446744073709551616 := by omega
   have hp' : (g : Int) * (d2 : Int) = (p : Int) := by rw [hp, Int.natCast_mul]
   have wp' : IntKind.u64.wrap (p : Int) = (p : Int) := by rw [IntKind.wrap_u64]; omega
   have wsh2 : IntKind.u64.wrap ((r : Int) * 4294967296) = (r : Int) * 4294967296 := by rw [IntKind.wrap_u64]; omega
   clear hR
   by_cases hgt : R < p
   ·have hdn := gue_down H4.out (by rcases g with _ | g; simp at hp; omega; omega)
    have h6 : top * 4294967296 + u2 < (g - 1 + 1) * (first * 4294967296 + d2) ∨ 4294967296 ≤ g - 1 + 1 := by
     rcases g with _ | g
     ·simp at hp; omega
     ·left
      simp only [Nat.add_sub_cancel]
      rcases Nat.lt_or_ge (top * 4294967296 + u2) ((g + 1) * (first * 4294967296 + d2)) with h | h
      ·exact h
      ·have := hmore.1 h; omega
    have hg1 : 1 ≤ g := by rcases g with _ | g; simp at hp; omega; omega
    have hgt1 : (R : Int) < (p : Int) := by omega
    have hgt2 : decide ((R : Int) < (p : Int)) = true := by simp; omega
    by_cases hbr : 4294967296 ≤ r + first
    ·have h8 := gue_break (u2 := u2) hdn (by omega) hbr bd2
     have F := Lib.hid (show gSpec top u2 first d2 (g - 1) from ⟨by omega, h8, h6⟩)
     clear h6 h8 hdn hmore H3 H4 H5 hp
     have hbr1 : (4294967296 : Int) ≤ (r : Int) + (first : Int) := by omega
     go_wp2_with fail
     go_quiet (fail)
     go_wp2_with fail
     go_ret
     exact ⟨g - 1, by go_num, F.out, hqt.drewN _⟩
    ·have hbr1 : decide ((4294967296 : Int) ≤ (r : Int) + (first : Int)) = false := by simp; omega
     have Hd := Lib.hid hdn
     have H6 := Lib.hid h6
     clear hdn h6 hmore hp H3 H4 H5
     go_wp2_with fail
     go_quiet (fail)
     go_wp2_with fail
     go_roundw
     case rel => exact ⟨g - 1, r + first, by go_num, by go_num, by omega, by omega, by unfold Hid; omega, Hd, H6, hqt.drewN _⟩
     case measure => simp [intOf]; try omega
   ·have F := Lib.hid (show gSpec top u2 first d2 g from ⟨by omega, hmore.2 (by omega), H5.out⟩)
    clear hmore H3 H4 H5 hp
    have hgt1 : ¬ (R : Int) < (p : Int) := by omega
    have hgt2 : decide ((R : Int) < (p : Int)) = false := by simp; omega
    go_wp2_with fail
    go_quiet (fail)
    go_wp2_with fail
    go_ret
    exact ⟨g, rfl, F.out, hqt.drewN _⟩
end Go.Proofs.YtekhnajfdaknnaaGreatDoor
end
section
namespace Go.Proofs.YtekhnajfdaknnaaGreatDoor

theorem vk_of_lt {zs : List Nat} {k : Nat} (h : val zs < pw k) : vk zs k = val zs := by
 by_cases hk : k ≤ zs.length
 ·have h1 := vk_split zs k hk
  rcases Nat.eq_zero_or_pos (val (zs.drop k)) with h0 | h0
  ·rw [h0] at h1; omega
  ·have := Nat.mul_le_mul_left (pw k) h0
   omega
 ·exact vk_full (by omega)
theorem lim_zero_of_lt {zs : List Nat} {k t : Nat} (h : val zs < pw k) (ht : k ≤ t) : lim zs t = 0 := by
 by_cases hk : t < zs.length
 ·have h1 := vk_of_lt h
  have h2 : vk zs (t + 1) = val zs := vk_of_lt (Nat.lt_of_lt_of_le h (pw_le (by omega)))
  have h3 : vk zs t = val zs := vk_of_lt (Nat.lt_of_lt_of_le h (pw_le ht))
  rw [vk_succ, h3] at h2
  have h4 : pw t * lim zs t = 0 := by omega
  rcases Nat.mul_eq_zero.1 h4 with h5 | h5
  ·have := pw_pos t; omega
  ·exact h5
 ·exact lim_of_le (by omega)
theorem lt_of_lims {zs : List Nat} (hl : Lb zs) {k : Nat} (h : ∀ t, k ≤ t → lim zs t = 0) : val zs < pw k := by
 have h1 : ∀ j, vk zs (k + j) = vk zs k := by
  intro j
  induction j with
  | zero => rfl
  | succ j ih => rw [← Nat.add_assoc, vk_succ, ih, h (k + j) (by omega)]; simp
 have h2 := h1 zs.length
 rw [vk_full (by omega)] at h2
 rw [h2]
 exact vk_lt hl k

theorem guess_fits {us ys : List Nat} {n i1 i2 g : Nat} (hu : Lb us) (hy : Lb ys) (hn : n = ys.length) (h1 : i1 + 1 = n) (h2 : i2 + 2 = n) (hf : 2147483648 ≤ lim ys i1) (hT : val us < val ys * 4294967296)
  (hg : gSpec (lim us n * 4294967296 + lim us i1) (lim us i2) (lim ys i1) (lim ys i2) g) : val us / val ys ≤ g ∧ g ≤ val us / val ys + 1 := by
 obtain rfl : i1 = i2 + 1 := by omega
 obtain rfl : n = i2 + 2 := by omega
 obtain ⟨g1, g2, g3⟩ := hg
 have hyp : val ys < pw (i2 + 2) := by rw [hn]; exact val_lt hy
 have hT2 : val us < pw (i2 + 3) := by
  rw [pw_succ]
  have := Nat.mul_le_mul_left 4294967296 (Nat.le_of_lt hyp)
  omega
 have eU := vk_of_lt hT2
 have eY := vk_of_lt hyp
 rw [vk_succ, vk_succ, vk_succ, pw_succ (i2 + 1), pw_succ i2] at eU
 rw [vk_succ, vk_succ, pw_succ i2] at eY
 have hlo := vk_lt hu i2
 have hdl := vk_lt hy i2
 generalize vk us i2 = lo at *
 generalize vk ys i2 = dl at *
 generalize pw i2 = P at *
 generalize lim us (i2 + 2) = un at *
 generalize lim us (i2 + 1) = u1 at *
 generalize lim us i2 = u2 at *
 generalize lim ys (i2 + 1) = first at *
 generalize lim ys i2 = d2 at *
 obtain ⟨U3, hU3⟩ : ∃ U3, U3 = (un * 4294967296 + u1) * 4294967296 + u2 := ⟨_, rfl⟩
 obtain ⟨V, hV⟩ : ∃ V, V = first * 4294967296 + d2 := ⟨_, rfl⟩
 rw [← hU3, ← hV] at g2 g3
 have eT : val us = lo + P * U3 := by
  rw [← eU, hU3]
  have e1 : P * ((un * 4294967296 + u1) * 4294967296 + u2) = P * u2 + 4294967296 * (P * u1) + 4294967296 * (4294967296 * (P * un)) := by
   rw [Nat.mul_add, Nat.add_mul, Nat.mul_add, ← Nat.mul_assoc P u1, ← Nat.mul_assoc P (un * 4294967296), ← Nat.mul_assoc P un]
   omega
  rw [e1, Nat.mul_assoc 4294967296 P u1, Nat.mul_assoc 4294967296 (4294967296 * P) un, Nat.mul_assoc 4294967296 P un]
  omega
 have eD : val ys = dl + P * V := by
  rw [← eY, hV, Nat.mul_add, ← Nat.mul_assoc P first, Nat.mul_assoc 4294967296 P first]
  omega
 have hVb : 4294967296 ≤ V := by omega
 have hP : 0 < P := by omega
 have hD : 0 < val ys := by
  have := Nat.mul_le_mul hP hVb
  omega
 constructor
 ·refine Nat.le_of_lt_succ (Nat.div_lt_of_lt_mul ?_)
  rcases g3 with h | h
  ·have e1 := Nat.mul_le_mul_left P (Nat.succ_le_of_lt h)
   have e2 : P * ((g + 1) * V) ≤ (g + 1) * val ys := by
    rw [Nat.mul_left_comm]
    exact Nat.mul_le_mul_left _ (by omega)
   have e3 : P * (U3 + 1) = P * U3 + P := Nat.mul_succ _ _
   rw [Nat.mul_comm (val ys)]
   simp only [Nat.succ_eq_add_one] at *
   omega
  ·have := Nat.mul_le_mul_left (val ys) h
   simp only [Nat.succ_eq_add_one]
   omega
 ·rcases g with _ | h
  ·exact Nat.zero_le _
  ·refine Nat.succ_le_succ ((Nat.le_div_iff_mul_le hD).2 ?_)
   have e1 := Nat.mul_le_mul_left P g2
   rw [Nat.succ_mul, Nat.mul_add] at e1
   have e2 : h * val ys = h * dl + P * (h * V) := by rw [eD, Nat.mul_add, Nat.mul_left_comm]
   have e3 : h * dl ≤ 4294967296 * P := Nat.mul_le_mul (by omega) (by omega)
   have e4 := Nat.mul_le_mul_left P hVb
   rw [Nat.mul_comm P 4294967296] at e4
   omega

theorem top_le {us ys : List Nat} {n i1 : Nat} (hy : Lb ys) (hn : n = ys.length) (h1 : i1 + 1 = n) (hT : val us < val ys * 4294967296) : lim us n ≤ lim ys i1 := by
 subst h1
 have eY : vk ys (i1 + 1) = val ys := by rw [hn]; exact vk_full (Nat.le_refl _)
 rw [vk_succ] at eY
 have hdl := vk_lt hy i1
 have h3 : pw (i1 + 1) * lim us (i1 + 1) ≤ val us := by
  by_cases hk : i1 + 1 < us.length
  ·have h5 := vk_split us (i1 + 1 + 1) (by omega)
   rw [vk_succ] at h5
   omega
  ·rw [lim_of_le (by omega)]; simp
 rcases Nat.lt_or_ge (lim ys i1) (lim us (i1 + 1)) with h | h
 ·have e1 := Nat.mul_le_mul_left (pw (i1 + 1)) (Nat.succ_le_of_lt h)
  rw [pw_succ] at e1 h3
  have e2 : 4294967296 * pw i1 * (lim ys i1).succ = 4294967296 * (pw i1 * lim ys i1) + 4294967296 * pw i1 := by rw [Nat.mul_succ, Nat.mul_assoc]
  omega
 ·exact h

theorem took {zs zs1 ys : List Nat} {k g : Nat} (hz : Lb zs) (hk : k ≤ zs.length) (hT : val zs < val ys * pw (k + 1)) (hg : val (zs.drop k) / val ys ≤ g ∧ g ≤ val (zs.drop k) / val ys + 1)
  (hv : val zs1 + pw k * (g * val ys) = val zs) : val zs1 < val ys * pw k := by
 have h1 := vk_split zs k hk
 have h2 := vk_lt hz k
 have hD : 0 < val ys := by
  rcases Nat.eq_zero_or_pos (val ys) with h | h
  ·rw [h] at hT; omega
  ·exact h
 generalize val (zs.drop k) = T at *
 have h3 : T < (T / val ys + 1) * val ys := by
  have := Nat.lt_div_mul_add (a := T) hD
  rw [Nat.add_mul, Nat.one_mul]; exact this
 have h4 : T < (g + 1) * val ys := Nat.lt_of_lt_of_le h3 (Nat.mul_le_mul_right _ (by omega))
 have h5 := Nat.mul_le_mul_left (pw k) (Nat.succ_le_of_lt h4)
 rw [Nat.add_mul, Nat.one_mul, Nat.mul_add] at h5
 have h6 : pw k * T.succ = pw k * T + pw k := Nat.mul_succ _ _
 rw [Nat.mul_comm (val ys)]
 omega

theorem take_zero {zs zs1 ys : List Nat} {k g : Nat} (hz : Lb zs) (hz1 : Lb zs1) (hk : k ≤ zs.length) (hy : Lb ys) (hT : val zs < val ys * pw (k + 1))
  (hg : val (zs.drop k) / val ys ≤ g ∧ g ≤ val (zs.drop k) / val ys + 1) (hlim : ∀ t, k + ys.length < t → lim zs1 t = lim zs t)
  (hv : val zs1 + pw k * (g * val ys) = val zs + pw (k + (ys.length + 1))) : val zs1 < pw (k + (ys.length + 1)) ∧ 1 ≤ g ∧ g - 1 = val (zs.drop k) / val ys ∧ pw k * ((g - 1) * val ys) ≤ val zs := by
 have h0 : val zs < pw (k + (ys.length + 1)) := by
  have e : pw (k + (ys.length + 1)) = pw ys.length * pw (k + 1) := by rw [← pw_add]; congr 1; omega
  rw [e]
  exact Nat.lt_of_lt_of_le hT (Nat.mul_le_mul_right _ (Nat.le_of_lt (val_lt hy)))
 have hD : 0 < val ys := by
  rcases Nat.eq_zero_or_pos (val ys) with h | h
  ·rw [h] at hT; omega
  ·exact h
 have hz2 : val zs1 < pw (k + (ys.length + 1)) := lt_of_lims hz1 (fun t ht => by rw [hlim t (by omega)]; exact lim_zero_of_lt h0 ht)
 have h1 := vk_split zs k hk
 have h2 := vk_lt hz k
 generalize val (zs.drop k) = T at *
 have h3 : T < g * val ys := by
  rcases Nat.lt_or_ge T (g * val ys) with h | h
  ·exact h
  ·have := Nat.mul_le_mul_left (pw k) h
   omega
 have h4 : T / val ys < g := (Nat.div_lt_iff_lt_mul hD).2 h3
 have h6 := Nat.mul_le_mul_left (pw k) (Nat.div_mul_le_self T (val ys))
 generalize T / val ys = q at *
 have h5 : g - 1 = q := by have := hg.2; omega
 refine ⟨hz2, by omega, h5, ?_⟩
 rw [h5]
 omega

theorem put_val {zs zs1 zs2 ys : List Nat} {k g x : Nat} (hx : x ≤ 1) (hg : 1 ≤ g)
  (hv : val zs1 + pw k * (g * val ys) = val zs + pw (k + (ys.length + 1))) (hle : pw k * ((g - 1) * val ys) ≤ val zs) (h2 : val zs2 < pw (k + (ys.length + 1)))
  (hp : val zs2 + pw (k + (ys.length + 1)) * x = val zs1 + pw k * val ys) : val zs2 + pw k * ((g - 1) * val ys) = val zs := by
 obtain ⟨h, rfl⟩ : ∃ h, g = h + 1 := ⟨g - 1, by omega⟩
 rw [Nat.add_sub_cancel] at hle ⊢
 rw [Nat.succ_mul, Nat.mul_add] at hv
 rcases x with _ | x
 ·omega
 ·obtain rfl : x = 0 := by omega
  omega
end Go.Proofs.YtekhnajfdaknnaaGreatDoor
end
section
namespace Go.Proofs.YtekhnajfdaknnaaGreatDoor
open Go.RowKit

theorem undInt : Tryz.prog.underlying 3 = some (.int .i64) := Tryz.underlying3
theorem zeroCells32 (n : Nat) : Builtin.zeroCells (Value.int .u32 0).cells n = ((List.replicate n 0).map fun (x : Nat) => Value.int .u32 (x : Int)).toArray := by
 unfold Builtin.zeroCells
 apply Array.ext
 ·simp [Value.cells]
 ·intro i h1 h2
  simp [Value.cells, Nat.mod_one]
theorem cells32 : (Value.int .u32 0).cells = #[Value.int .u32 0] := rfl

section
variable (w : World) (ty : TypeId) (L : Nat)
theorem app_room (g n cap : Nat) (cur : Array Value) (hg : w.heap[g]? = some (.cells cur 67 (0, 0))) (hL : L ≤ 4294967296) (hroom : n + L ≤ cap) (hfit : n + L ≤ cur.size) :
  (Builtin.append_ #[24, 3] ty #[.slice (some ⟨g, 0, none⟩) n cap, .int .i64 (L : Int)]).run Tryz.prog w =
   .ok (.slice (some ⟨g, 0, none⟩) (n + L) cap) (w.setRow g (cur.toList.take n ++ ((List.replicate L 0).map fun (x : Nat) => Value.int .u32 (x : Int)) ++ cur.toList.drop (n + L)).toArray) := by
 obtain ⟨i0, hi, hz0, hz1, hz2⟩ := info_parts info32
 have wl : IntKind.i64.wrap (L : Int) = (L : Int) := by rw [IntKind.wrap_i64]; omega
 have c1 : ¬ ((L : Int) < 0) := by omega
 have c2 : ¬ (281474976710656 < (L : Int) * 4) := by omega
 have hst := run_storeCells_at Tryz.prog g n 67 ((List.replicate L 0).map fun (x : Nat) => Value.int .u32 (x : Int)) 0 cur w hg (by simpa using hfit) (fun u hu => by simp at hu; obtain ⟨_, rfl⟩ := hu; rfl)
 simp only [Nat.add_zero] at hst
 rcases Nat.eq_zero_or_pos L with h0 | hp
 ·subst h0
  have w0 : IntKind.i64.wrap 0 = 0 := by decide
  simp [Builtin.append_, run_underlying und, run_underlying undInt, sizeOf, typeInfo, hi, hz1, hz2, asInt, asIntOf, w0]
  have hn : n ≤ cap := by omega
  simp at hst
  simp [hn, storeCells] at hst ⊢
  exact hst
 ·have hp' : ¬ L = 0 := by omega
  simp [Builtin.append_, run_underlying und, run_underlying undInt, sizeOf, typeInfo, zeroValue, hi, hz0, hz1, hz2, asInt, asIntOf, wl, c1, c2, hroom, hp', zeroCells32, Addr.add_lit]
  simp at hst
  simp [hst]
theorem app_grow (ao : Option Addr) (n cap : Nat) (olds : List Value) (hao : ao = none → n = 0) (hlo : olds.length = n) (holds : ∀ b, ao = some b → ∀ j v, olds[j]? = some v → w.cell? (b.add j) = some v)
  (hL : L ≤ 4294967296) (hn : n ≤ 4294967296) (hg : cap < n + L) :
  (Builtin.append_ #[24, 3] ty #[.slice ao n cap, .int .i64 (L : Int)]).run Tryz.prog w =
   .ok (.slice (some ⟨w.heap.size, 0, none⟩) (n + L) (grownCap w (n + L) cap 67))
    (w.drew.alloc (.cells (olds.toArray ++ ((List.replicate L 0).map fun (x : Nat) => Value.int .u32 (x : Int)).toArray ++ Builtin.zeroCells (Value.int .u32 0).cells (grownCap w (n + L) cap 67 - (n + L))) 67)) := by
 obtain ⟨i0, hi, hz0, hz1, hz2⟩ := info_parts info32
 have wl : IntKind.i64.wrap (L : Int) = (L : Int) := by rw [IntKind.wrap_i64]; omega
 have c1 : ¬ ((L : Int) < 0) := by omega
 have c2 : ¬ (281474976710656 < (L : Int) * 4) := by omega
 have c3 : ¬ (n + L ≤ cap) := by omega
 have c4 : ¬ (9223372036854775807 < ((n : Int) + (L : Int))) := by omega
 have c5 : ¬ (281474976710656 < Builtin.nextslicecap (n + L) cap * 4) := by
  have := growslice_fits (need := n + L) (old := cap) (bytes := 4) (by omega) (by omega)
  omega
 have hf : (Builtin.firstCells 1 n (.slice ao n cap)).run Tryz.prog w.drew = .ok olds.toArray w.drew := by
  rcases ao with _ | b
  ·have : olds = [] := List.length_eq_zero_iff.1 (by rw [hlo]; exact hao rfl)
   subst this
   simp [Builtin.firstCells, Sem.run_pure]
  ·exact run_firstCells_some (P := Tryz.prog) w.drew 1 n b n cap olds (by simpa using hlo) (by simpa using holds b rfl)
 by_cases hL0 : L = 0
 ·subst hL0
  have w0 : IntKind.i64.wrap 0 = 0 := by decide
  simp [Builtin.append_, run_underlying und, run_underlying undInt, sizeOf, typeInfo, zeroValue, hi, hz0, hz1, hz2, asInt, asIntOf, w0] 
  have c3' : ¬ (n ≤ cap) := by omega
  have c4' : ¬ (9223372036854775807 < (n : Int)) := by omega
  simp at c5
  simp [c3', c4', Question.forced, hf, newRow, grownCap]
  omega
 ·simp [Builtin.append_, run_underlying und, run_underlying undInt, sizeOf, typeInfo, zeroValue, hi, hz0, hz1, hz2, asInt, asIntOf, wl, c1, c2, c3, c4, c5, hL0, Question.forced, hf, newRow, grownCap, zeroCells32]
end

theorem pushZ {wi w : World} {ops : Array Oper} {rest : List Oper} {o : Oper} {a : Act} {Q : Exit → Act → World → Prop} (hgd : o.guard = none) (s x : Operand)
  (ho : o.op = .call { callee := .builtin .append, args := #[s, x], argTypes := #[24, 3] })
  {B : Nat} (ao : Option Addr) (c : Nat) (zs : List Nat) (n : Nat) (hn : n = zs.length) (hs : a.eval s = .slice ao n c) (hown : Own w B ao c zs)
  (E : Int) (hx : a.eval x = .int .i64 E) (hE : 0 ≤ E) (hlen : (zs.length : Int) + E ≤ 4294967296) (hB : wi.heap.size ≤ B) (hext : Ext wi w) (hBw : B ≤ w.heap.size)
  (h : ∀ ao' c' w', Own w' B ao' c' (zs ++ List.replicate E.toNat 0) → Ext wi w' → w.grownBy w' (Value.slice ao zs.length c).ownBlock → wpList Tryz.prog ops Q rest (a.put o.dst (.slice ao' (zs.length + E.toNat) c')) w') :
  wpList Tryz.prog ops Q (o :: rest) a w := by
 subst hn
 obtain ⟨L, rfl⟩ := Int.eq_ofNat_of_zero_le hE
 have hll : (zs ++ List.replicate L 0).length = zs.length + L := by simp
 have hlb : Lb (zs ++ List.replicate L 0) := Lb_append hown.lb (fun z hz => by have := List.eq_of_mem_replicate hz; omega)
 have key : ∃ ao' c' w', (Builtin.append_ #[24, 3] o.type #[.slice ao zs.length c, .int .i64 (L : Int)]).run Tryz.prog w = .ok (.slice ao' (zs.length + L) c') w' ∧ Own w' B ao' c' (zs ++ List.replicate L 0) ∧ w.grownBy w' (Value.slice ao zs.length c).ownBlock := by
  by_cases hroom : zs.length + L ≤ c ∧ ao ≠ none
  ·obtain ⟨hroom, hne⟩ := hroom
   rcases hown.row.2 with ⟨hv, hn⟩ | ⟨g, cap, cur, hv, hb, hg, hnc, hcm, hcs, htake⟩
   ·simp at hv; exact absurd hv.1 hne
   ·simp only [Value.slice.injEq, true_and] at hv
    obtain ⟨rfl, rfl⟩ := hv
    have hcu : cur.toList.length = cur.size := rfl
    have hz1 : ((List.replicate L 0).map fun (x : Nat) => Value.int .u32 (x : Int)).length = L := by simp
    generalize hzz : ((List.replicate L 0).map fun (x : Nat) => Value.int .u32 (x : Int)) = zz at hz1
    have har := app_room w o.type L g zs.length c cur hg (by omega) hroom (by rw [hcs]; omega)
    rw [hzz] at har
    refine ⟨_, _, _, har, ⟨hlb, by simp, .inr ⟨g, c, _, by rw [hll], hb, setRow_heap w g cur _ _ _ hg, by omega, hcm, ?_, ?_⟩⟩, ⟨rfl, rfl, rfl, by simp, fun k _ hk => setRow_other w g k _ (fun e => hk (by simp [Value.ownBlock, e]))⟩⟩
    ·rw [List.size_toArray, List.length_append, List.length_append, List.length_take, List.length_drop, hz1, hcu]
     omega
    ·simp only [Nat.mul_one] at htake
     rw [hll, Nat.mul_one, List.map_append, hzz, htake]
     have h1 : (zs.map fun (x : Nat) => Value.int .u32 (x : Int)).length = zs.length := by simp
     show List.take (zs.length + L) ((zs.map fun (x : Nat) => Value.int .u32 (x : Int)) ++ zz ++ List.drop (zs.length + L) cur.toList) = _
     rw [List.take_append_of_le_length (by rw [List.length_append, h1, hz1]; omega), List.take_of_length_le (by rw [List.length_append, h1, hz1]; omega)]
  ·have hgrow : c < zs.length + L ∨ (ao = none ∧ L = 0) := by
    by_cases hc : c < zs.length + L
    ·exact .inl hc
    ·right
     have hnone : ao = none := by
      cases ao with
      | none => rfl
      | some a => exact absurd ⟨by omega, by simp⟩ hroom
     have := hown.rd.nl hnone
     exact ⟨hnone, by omega⟩
   rcases hgrow with hc | ⟨rfl, rfl⟩
   ·have hge := grownCap_ge w (zs.length + L) c 67
    have hle := grownCap_le_maxLen w (zs.length + L) c 67 (by unfold maxLen; omega)
    refine ⟨_, _, _, app_grow w o.type L ao zs.length c (zs.map fun (x : Nat) => Value.int .u32 (x : Int)) ?_ (by simp) ?_ (by omega) (by omega) hc, ⟨hlb, by simp, .inr ⟨w.heap.size, _, _, by rw [hll], hBw, heap_alloc_new w.drew _, by omega, hle, ?_, ?_⟩⟩, ⟨rfl, rfl, rfl, by simp, fun k hk _ => heap_alloc_old w.drew _ (by simpa using hk)⟩⟩
    ·intro e
     rcases Nat.eq_zero_or_pos zs.length with h0 | hp
     ·exact h0
     ·have := hown.rd.ad hp
      rw [e] at this; simp at this
    ·intro b hb j v hj
     have hlt : j < zs.length := by have := (List.getElem?_eq_some_iff.1 hj).1; simpa using this
     rw [List.getElem?_map, lim_map_at hlt] at hj
     simp at hj
     subst hj
     have h0 := hown.rd.cell j hlt
     have h1 := hown.rd.ad (by omega)
     rw [hb] at h0 h1
     simp only [bk, of, Option.some.injEq] at h0 h1
     have h2 : b.add j = ⟨b.block, b.off + j, none⟩ := by
      unfold Addr.add
      split
      ·subst_vars; exact h1
      ·rfl
     rw [h2]; exact h0
    ·simp [size_zeroCells, cells32]
     omega
    ·rw [hll, Nat.mul_one]
     simp only [Array.toList_append, List.map_append]
     rw [List.take_append_of_le_length (by simp)]
     rw [List.take_of_length_le (by simp)]
   ·have hz := hown.rd.ad
    have e1 : zs = [] := by
     rcases Nat.eq_zero_or_pos zs.length with h0 | hp
     ·exact List.length_eq_zero_iff.1 h0
     ·have := hz hp; simp at this
    subst e1
    have ec := hown.rd.nl rfl
    subst ec
    obtain ⟨i0, hi, hz0, hz1, hz2⟩ := info_parts info32
    have w0 : IntKind.i64.wrap 0 = 0 := by decide
    refine ⟨none, 0, w, ?_, Own.nil _ _, World.grownBy.refl _ _⟩
    simp [Builtin.append_, run_underlying und, run_underlying undInt, sizeOf, typeInfo, hi, hz2, asInt, asIntOf, w0]
 obtain ⟨ao', c', w', hrun, hown', hg'⟩ := key
 refine wpList_plain hgd fun K hK => ?_
 unfold Oper.wp
 simp [execOp, ho, resolve, invoke, builtin, hs, hx, hrun, Result.andThen]
 refine hK _ _ (h ao' c' w' hown' (hext.grown hg' (fun k hk => by have := (hown.lt k hk).1; omega)) hg')
end Go.Proofs.YtekhnajfdaknnaaGreatDoor
end
section
namespace Go.Proofs.YtekhnajfdaknnaaGreatDoor
open Go.RowKit

theorem vd_div {xs : List Nat} (hx : Lb xs) (k : Nat) : val xs / pw k = vd xs k := by
 by_cases h : k ≤ xs.length
 ·have h1 := vk_split xs k h
  have h2 := vk_lt hx k
  rw [h1, Nat.add_mul_div_left _ _ (pw_pos k), Nat.div_eq_of_lt h2, Nat.zero_add]
  rfl
 ·rw [vd_end (by omega)]
  exact Nat.div_eq_of_lt (Nat.lt_of_lt_of_le (val_lt hx) (pw_le (by omega)))
theorem mod_step (Q k : Nat) : Q % pw (k + 1) = Q % pw k + pw k * (Q / pw k % 4294967296) := by
 rw [pw_succ, Nat.mul_comm 4294967296, Nat.mod_mul]
theorem right_limb {xs : List Nat} (hx : Lb xs) (r k : Nat) (hr : r < 32) : val xs / 2 ^ r / pw k % 4294967296 = (lim xs (k + 1) * 4294967296 + lim xs k) / 2 ^ r % 4294967296 := by
 rw [Nat.div_div_eq_div_mul, Nat.mul_comm, ← Nat.div_div_eq_div_mul, vd_div hx]
 have e : ∀ j, vd xs j = lim xs j + 4294967296 * vd xs (j + 1) := by
  intro j
  by_cases h : j < xs.length
  ·exact vd_step h
  ·rw [vd_end (by omega), vd_end (by omega), lim_of_le (by omega)]
 have h32 : (4294967296 : Nat) = 2 ^ r * 2 ^ (32 - r) := by
  rw [← Nat.pow_add]
  have : r + (32 - r) = 32 := by omega
  rw [this]
 have h1 : vd xs k = (lim xs (k + 1) * 4294967296 + lim xs k) + 2 ^ r * (2 ^ (32 - r) * 4294967296 * vd xs (k + 1 + 1)) := by
  rw [e k, e (k + 1), ← Nat.mul_assoc, ← Nat.mul_assoc (2 ^ r), ← h32, Nat.mul_add, ← Nat.mul_assoc]
  omega
 rw [h1, Nat.add_mul_div_left _ _ (Nat.two_pow_pos r)]
 rw [show 2 ^ (32 - r) * 4294967296 * vd xs (k + 1 + 1) = 4294967296 * (2 ^ (32 - r) * vd xs (k + 1 + 1)) by rw [Nat.mul_comm (2 ^ (32 - r)), Nat.mul_assoc], Nat.add_mul_mod_self_left]

theorem Own.capEq {w : World} {B : Nat} {ao : Option Addr} {c c' : Nat} {zs : List Nat} (h : Own w B ao c zs) (e : c = c') : Own w B ao c' zs := e ▸ h

def RightR (w : World) (xs : List Nat) (q r : Nat) (out i : Value) (wr : World) : Prop :=
  ∃ (j : Nat) (po : Option Addr) (pc : Nat) (zs : List Nat), q ≤ j ∧ j ≤ xs.length ∧ i = .int .i64 j ∧ out = .slice po zs.length pc ∧ Hid (q + zs.length = j) ∧ Own wr w.heap.size po pc zs ∧ Ext w wr ∧
    Hid (val zs = val (xs.drop q) / 2 ^ r % pw zs.length)

theorem right_val {xs : List Nat} (hx : Lb xs) {K q r : Nat} (hq : q = K / 32) (hr : r = K % 32) : val xs / 2 ^ K = val (xs.drop q) / 2 ^ r := by
 have h1 : val (xs.drop q) = val xs / pw q := (vd_div hx q).symm
 have h2 : 2 ^ K = pw q * 2 ^ r := by
  unfold pw
  rw [show (4294967296 : Nat) = 2 ^ 32 from rfl, ← Nat.pow_mul, ← Nat.pow_add]; congr 1; omega
 rw [h1, h2, Nat.div_div_eq_div_mul]

set_option maxHeartbeats 2000000 in
theorem Right_max (ao : Option Addr) (n c : Nat) (xs : List Nat) (E : Int) (K : Nat) (w : World) (hn : n = xs.length) (hE : max E 0 = (K : Int)) (hE2 : K < 9223372036854775808) (ha : Rd w ao c xs) (hl : xs.length ≤ 1000000) :
  Calls Tryz.prog 137 #[.slice ao n c, .int .i64 E] w (GotN w (val xs / 2 ^ K)) := by
 subst hn
 have hA := ha.trm
 have lA := trm_le xs
 have mA := hA.mx
 have cA := hA.cap
 rw [← val_trm xs]
 obtain ⟨q, hq⟩ : ∃ q, q = K / 32 := ⟨_, rfl⟩
 obtain ⟨r, hr⟩ : ∃ r, r = K % 32 := ⟨_, rfl⟩
 have hq1 : (K : Int) / 32 = (q : Int) := by omega
 have hr1 : (K : Int) % 32 = (r : Int) := by omega
 have hqb : q < 9223372036854775808 := by omega
 have hrb : r < 32 := by omega
 have hv := right_val hA.lb hq hr
 have Hv := Lib.hid hv
 have hK0 : ¬ (K : Int) < 0 := by omega
 clear hv hq hr
 by_cases hql : q < (trm xs).length
 ·go_enter Tryz.func137, Tryz.ntmps137
  go_wp2_with fail
  refine (trim_any ao _ c xs w rfl ha).mono ?_
  rintro e w' ⟨rfl, rfl⟩
  go_wp2_with (at_make; refine mk0 rfl _ _ rfl _ _ _ rfl rfl ?_ ?_ (Ext.refl w) ?_; omega; omega; intro w1 hown hext)
  go_loopw [7, 8] (RightR w (trm xs) q r) (fun _ i _ => ((trm xs).length - intOf i).toNat)
  case atStart => exact ⟨q, _, _, [], by omega, by omega, rfl, rfl, rfl, hown.capEq (by omega), hext, by unfold Hid; simp [val, pw, Nat.mod_one]⟩
  case round =>
   obtain ⟨j, po, pc, zs, hqj, hk, rfl, rfl, hzl, hown, hext, heq⟩ := hrel
   have hzb : zs.length ≤ 1100000 := by have := hzl.out; omega
   by_cases hkA : j < (trm xs).length
   ·have hx := (hA.ext hext).cell j hkA
    have hix := ixk hA (trm xs).length rfl j hkA wr
    have bx := lim_lt hA.lb j
    have bx2 := lim_lt hA.lb (j + 1)
    have hrl := right_limb (Lb_drop hA.lb q) r zs.length hrb
    rw [lim_drop, lim_drop, ← Nat.add_assoc, hzl.out] at hrl
    have hor := or_join (lim (trm xs) (j + 1)) (lim (trm xs) j) bx2 bx
    have hor0 := or_join 0 (lim (trm xs) j) (by omega) bx
    have hst : val (zs ++ [(lim (trm xs) (j + 1) * 4294967296 + lim (trm xs) j) / 2 ^ r % 4294967296]) = val ((trm xs).drop q) / 2 ^ r % pw (zs.length + 1) := by
     rw [val_snoc, mod_step, heq.out, hrl]
    have Hst := Lib.hid hst
    obtain ⟨H, hH⟩ : ∃ H, H = lim (trm xs) (j + 1) * 4294967296 + lim (trm xs) j := ⟨_, rfl⟩
    have hHb : H < 18446744073709551616 := by omega
    obtain ⟨G, hG⟩ : ∃ G, G = H / 2 ^ r := ⟨_, rfl⟩
    have hGb : G < 18446744073709551616 := by rw [hG]; exact Nat.lt_of_le_of_lt (Nat.div_le_self _ _) hHb
    have hG1 : (H : Int) / 2 ^ r = (G : Int) := by rw [hG, Int.natCast_ediv, Int.natCast_pow]; rfl
    rw [← hH] at hor Hst
    rw [← hG] at Hst
    clear hst hrl heq hG
    by_cases hkB : j + 1 < (trm xs).length
    ·have hx2 := (hA.ext hext).cell (j + 1) hkB
     have hix2 := ixe hA (trm xs).length rfl ((j : Int) + 1) (j + 1) (by omega) hkB wr
     clear hor0 hH
     go_wp2_with (at_builtin; refine push (wi := w) rfl _ _ rfl _ _ zs _ rfl rfl hown _ ?_ ?_ rfl ?_ rfl hext ?_; omega; omega; omega; intro ao' c' w2 hown2 hext2)
     go_roundw
     case rel => exact ⟨j + 1, ao', c', zs ++ [G % 4294967296], by omega, by omega, by go_num, by simp, by unfold Hid; have := hzl.out; simp; omega, hown2.snocEq (by omega), hext2, by unfold Hid; rw [List.length_append]; exact Hst.out⟩
     case measure => simp [intOf]; try omega
    ·have hl0 : lim (trm xs) (j + 1) = 0 := lim_of_le (by omega)
     rw [hl0] at hH
     have hH2 : H = lim (trm xs) j := by omega
     rw [← hH2] at hx bx
     clear hH hor hor0 hl0 hH2 bx2
     have hor1 : bits BinOp.or .u64 0 (H : Int) = (H : Int) := by have := or_join 0 H (by omega) bx; simpa using this
     go_wp2_with (at_builtin; refine push (wi := w) rfl _ _ rfl _ _ zs _ rfl rfl hown _ ?_ ?_ rfl ?_ rfl hext ?_; omega; omega; omega; intro ao' c' w2 hown2 hext2)
     go_roundw
     case rel => exact ⟨j + 1, ao', c', zs ++ [G % 4294967296], by omega, by omega, by go_num, by simp, by unfold Hid; have := hzl.out; simp; omega, hown2.snocEq (by omega), hext2, by unfold Hid; rw [List.length_append]; exact Hst.out⟩
     case measure => simp [intOf]; try omega
   ·have hv : val zs = val (trm xs) / 2 ^ K := by
     rw [heq.out, Hv.out]
     apply Nat.mod_eq_of_lt
     refine Nat.lt_of_le_of_lt (Nat.div_le_self _ _) (val_lt_pw (Lb_drop hA.lb q) ?_)
     have := hzl.out
     rw [List.length_drop]; omega
    have HV := Lib.hid hv
    clear hv heq
    go_wp2_with fail
    refine (Trim_got _ _ _ _ _ rfl hown.rd (by omega)).mono ?_
    intro e w' hg
    rw [HV.out] at hg
    obtain ⟨ao3, c3, zs3, rfl, h3⟩ := hg.from hext
    go_wp2_with fail
    go_ret
    exact ⟨ao3, c3, zs3, rfl, h3⟩
 ·have hv : val (trm xs) / 2 ^ K = 0 := by
   rw [Hv.out, List.drop_eq_nil_of_le (by omega)]; simp [val]
  rw [hv]
  clear hv
  go_enter Tryz.func137, Tryz.ntmps137
  go_wp2_with fail
  refine (trim_any ao _ c xs w rfl ha).mono ?_
  rintro e w' ⟨rfl, rfl⟩
  go_wp2_with fail
  go_ret
  exact ⟨none, 0, [], rfl, Own.nil _ _, canon_nil, rfl, Ext.refl _⟩
theorem Right_any (ao : Option Addr) (n c : Nat) (xs : List Nat) (E : Int) (K : Nat) (w : World) (hn : n = xs.length) (hE : E = (K : Int)) (hE2 : K < 9223372036854775808) (ha : Rd w ao c xs) (hl : xs.length ≤ 1000000) :
  Calls Tryz.prog 137 #[.slice ao n c, .int .i64 E] w (GotN w (val xs / 2 ^ K)) := Right_max ao n c xs E K w hn (by omega) hE2 ha hl
end Go.Proofs.YtekhnajfdaknnaaGreatDoor
end
section
namespace Go.Proofs.YtekhnajfdaknnaaGreatDoor
open Go.RowKit

theorem Own.at0 {w : World} {B : Nat} {ao : Option Addr} {c : Nat} {zs : List Nat} (h : Own w B ao c zs) (hp : 0 < zs.length) : ∃ g, ao = some ⟨g, 0, none⟩ ∧ B ≤ g ∧ g < w.heap.size := by
 obtain ⟨h1, h2, h3, h4⟩ := h.blk hp
 exact ⟨_, h4, h1, h2⟩
theorem ownB_ne {g h n c : Nat} (hne : h ≠ g) : (Value.slice (some ⟨h, 0, none⟩) n c).ownBlock ≠ some g := by simpa [Value.ownBlock] using hne

theorem norm_len {ds ys : List Nat} {n i1 x : Nat} (hy : Lb ys) (hn : n = ys.length) (h1 : i1 + 1 = n) (hx : x = lim ys i1) (h0 : x ≠ 0) (hd : Canon ds) (hv : val ds = val ys * 2 ^ (32 - bl x)) :
  ds.length = n ∧ 2147483648 ≤ lim ds i1 := by
 subst h1
 have bx : x < 4294967296 := by rw [hx]; exact lim_lt hy _
 obtain ⟨b1, b2, b3, b4⟩ := bl_spec h0 bx
 have eY : vk ys (i1 + 1) = val ys := by rw [hn]; exact vk_full (Nat.le_refl _)
 rw [vk_succ, ← hx] at eY
 have hl := vk_lt hy i1
 obtain ⟨s, hs⟩ : ∃ s, s = 32 - bl x := ⟨_, rfl⟩
 rw [← hs] at hv
 have e31 : 2 ^ (bl x - 1) * 2 ^ s = 2147483648 := by rw [← Nat.pow_add, show bl x - 1 + s = 31 by omega]
 have e32 : 2 ^ bl x * 2 ^ s = 4294967296 := by rw [← Nat.pow_add, show bl x + s = 32 by omega]
 have lo : 2147483648 * pw i1 ≤ val ds := by
  rw [hv, ← e31, Nat.mul_right_comm]
  refine Nat.mul_le_mul_right _ ?_
  have := Nat.mul_le_mul_left (pw i1) b3
  rw [Nat.mul_comm]
  omega
 have hi : val ds < pw (i1 + 1) := by
  rw [pw_succ, hv, ← e32, Nat.mul_right_comm]
  refine Nat.mul_lt_mul_of_pos_right ?_ (Nat.two_pow_pos s)
  have := Nat.mul_le_mul_left (pw i1) (Nat.succ_le_of_lt b4)
  rw [Nat.mul_succ] at this
  rw [Nat.mul_comm (2 ^ bl x)]
  omega
 have hlen : ds.length = i1 + 1 := by
  have h1 := canon_len hd hi
  rcases Nat.lt_or_ge ds.length (i1 + 1) with h | h
  ·have h2 := val_lt_pw hd.1 (show ds.length ≤ i1 by omega)
   have := pw_pos i1
   omega
  ·omega
 refine ⟨hlen, ?_⟩
 have eD : vk ds (i1 + 1) = val ds := vk_full (by omega)
 rw [vk_succ] at eD
 have hl2 := vk_lt hd.1 i1
 rcases Nat.lt_or_ge (lim ds i1) 2147483648 with h | h
 ·have := Nat.mul_le_mul_left (pw i1) (Nat.succ_le_of_lt h)
  rw [Nat.mul_succ] at this
  rw [Nat.mul_comm] at lo
  omega
 ·exact h

def LongR (w1 w3 : World) (g uc gq qc N U : Nat) (ds : List Nat) (k : Value) (wr : World) : Prop :=
  ∃ (j : Nat) (zs qs : List Nat), k = .int .i64 ((j : Int) - 1) ∧ j + ds.length ≤ N ∧ Hid (zs.length = N) ∧ Hid (qs.length + ds.length = N) ∧ Own wr w1.heap.size (some ⟨g, 0, none⟩) uc zs ∧ Own wr w3.heap.size (some ⟨gq, 0, none⟩) qc qs ∧ Ext w1 wr ∧
    Hid (val zs + val ds * val qs = U) ∧ Hid (val zs < val ds * pw j) ∧ Hid (∀ t, t < j → lim qs t = 0)

def Got2 (w : World) (p r : Nat) (e : Ending) (w' : World) : Prop :=
  ∃ ao c xs bo d ys, e = .returned (.tuple #[.slice ao xs.length c, .slice bo ys.length d]) ∧ Own w' w.heap.size ao c xs ∧ Canon xs ∧ val xs = p ∧ Own w' w.heap.size bo d ys ∧ Canon ys ∧ val ys = r ∧ Ext w w'

theorem quot_step {zs z1 qs : List Nat} {k g D U : Nat} (hq : lim qs k = 0) (hk : k < qs.length) (hv : val z1 + pw k * (g * D) = val zs) (hu : val zs + D * val qs = U) : Hid (val z1 + D * val (qs.set k g) = U) := by
 unfold Hid
 have h1 := val_set (y := g) hk
 rw [hq, Nat.mul_zero, Nat.add_zero] at h1
 rw [h1, Nat.mul_add, ← hu, ← hv]
 have : D * (pw k * g) = pw k * (g * D) := by rw [Nat.mul_left_comm, Nat.mul_comm D]
 omega
theorem quot_end {z q X Y P : Nat} (hP : 0 < P) (hv : z + (Y * P) * q = X * P) (hz : z < Y * P) : q = X / Y ∧ z / P = X % Y := by
 have hYP : 0 < Y * P := by omega
 have h1 : X * P / (Y * P) = q := by rw [← hv, Nat.add_mul_div_left _ _ hYP, Nat.div_eq_of_lt hz, Nat.zero_add]
 have h2 : X * P % (Y * P) = z := by rw [← hv, Nat.add_mul_mod_self_left, Nat.mod_eq_of_lt hz]
 rw [Nat.mul_div_mul_right _ _ hP] at h1
 rw [Nat.mul_mod_mul_right] at h2
 exact ⟨h1.symm, by rw [← h2, Nat.mul_div_cancel _ hP]⟩
set_option maxHeartbeats 4000000 in
theorem long_any (ao : Option Addr) (n c : Nat) (xs : List Nat) (bo : Option Addr) (m d : Nat) (ys : List Nat) (i1 : Nat) (w : World) (hn : n = xs.length) (hm : m = ys.length) (h1 : i1 + 1 = m) (h2 : 2 ≤ m) (hmn : m ≤ n)
  (ha : Rd w ao c xs) (hb : Rd w bo d ys) (h0 : lim ys i1 ≠ 0) (hl : n ≤ 900000) :
  Calls Tryz.prog 119 #[.slice ao n c, .slice bo m d] w (Got2 w (val xs / val ys) (val xs % val ys)) := by
 have mA := ha.mx
 have cA := ha.cap
 have mB := hb.mx
 have cB := hb.cap
 have xb := ixe hb m hm ((m : Int) - 1) i1 (by omega) (by omega)
 have kb := hb.cell i1 (by omega)
 have bx := lim_lt hb.lb i1
 obtain ⟨x, hx⟩ : ∃ x, x = lim ys i1 := ⟨_, rfl⟩
 have hno := fun ds => norm_len (ds := ds) hb.lb hm h1 hx (by omega)
 rw [← hx] at h0 bx kb
 obtain ⟨b1, b2, b3, b4⟩ := bl_spec h0 bx
 clear b3 b4
 obtain ⟨s, hs⟩ : ∃ s, s = 32 - bl x := ⟨_, rfl⟩
 have hs1 : (32 : Int) - (bl x : Int) = (s : Int) := by omega
 have hs2 : s ≤ 31 := by omega
 rw [← hs] at hno
 have Hn := Lib.hid hn
 have Hm := Lib.hid hm
 have H1 := Lib.hid h1
 clear hs hx hn hm h1
 go_enter Tryz.func119, Tryz.ntmps119
 go_wp2_with fail
 refine (Lead32_any x bx _).mono ?_
 rintro e w' ⟨rfl, rfl⟩
 rw [hs1]
 clear hs1
 go_wp2_with fail
 refine (Left_any bo _ d ys _ s _ Hm.out rfl hb (by have := Hm.out; omega) (by omega)).mono ?_
 rintro e w1 ⟨dao, dc, ds, rfl, od, cd, vd1, ed⟩
 obtain ⟨dl, df⟩ := hno ds cd vd1
 have Dl := Lib.hid dl
 have dle : ds.length ≤ n := by omega
 have dge : 2 ≤ ds.length := by omega
 have Vd := Lib.hid vd1
 clear dl vd1 hno
 go_wp2_with fail
 refine (Left_any ao _ c xs _ s _ Hn.out rfl (ha.ext ed) (by have := Hn.out; omega) (by omega)).mono ?_
 rintro e w2 ⟨mao, mc, ms, rfl, om, cm, vm, em⟩
 have lm : ms.length ≤ n + 1 := by
  refine canon_len cm ?_
  rw [vm, pw_succ, Nat.mul_comm]
  have h3 := val_lt_pw ha.lb (show xs.length ≤ n by have := Hn.out; omega)
  have h4 : 2 ^ s ≤ 2 ^ 31 := Nat.pow_le_pow_right (by omega) hs2
  exact Nat.mul_lt_mul_of_le_of_lt (by omega) h3 (by omega)
 have Vm := Lib.hid vm
 clear vm
 go_wp2_with (first
  | (at_builtin; refine pushZ (wi := w1) rfl _ _ rfl _ _ ms _ rfl rfl om _ rfl ?_ ?_ (Nat.le_refl _) em em.size ?_; omega; omega; intro uao uc w3 ou eu gu)
  | (at_make; refine mkf (wi := w1) rfl _ _ rfl _ _ _ rfl rfl ?_ ?_ eu ?_; omega; omega; intro w4 oq eq e14))
 obtain ⟨us, hus⟩ : ∃ us, us = ms ++ List.replicate (((n : Int) + 1 - (ms.length : Int))).toNat 0 := ⟨_, rfl⟩
 have lus : us.length = n + 1 := by rw [hus, List.length_append, List.length_replicate]; omega
 have vus : val us = val xs * 2 ^ s := by rw [hus, val_append, val_replicate_zero, Vm.out]; simp
 rw [← hus] at ou
 obtain ⟨g, rfl, g1, g2⟩ := ou.at0 (by omega)
 have U0 : val us < val ds * pw (n + 1 - ds.length) := by
  have Dl' := Dl.out
  have h3 := val_lt_pw ha.lb (show xs.length ≤ n by have := Hn.out; omega)
  have h4 : 2 ^ s ≤ 2 ^ 31 := Nat.pow_le_pow_right (by omega) hs2
  have h5 : 2147483648 * pw i1 ≤ val ds := by
   have h6 : vk ds (i1 + 1) = val ds := vk_full (by have := H1.out; omega)
   rw [vk_succ] at h6
   have := Nat.mul_le_mul_left (pw i1) df
   rw [Nat.mul_comm]
   omega
  have h7 : pw n = pw i1 * pw (n + 1 - ds.length) := by rw [← pw_add]; congr 1; have := H1.out; omega
  have h8 := Nat.mul_le_mul_right (pw (n + 1 - ds.length)) h5
  rw [Nat.mul_assoc, ← h7] at h8
  rw [vus]
  have h9 : val xs * 2 ^ s < pw n * 2 ^ 31 := Nat.mul_lt_mul_of_lt_of_le h3 h4 (by omega)
  omega
 have Vus := Lib.hid vus
 have Lus := Lib.hid lus
 have HU0 := Lib.hid U0
 clear vus U0 lus hus
 go_loopw [13] (LongR w1 w3 g uc w3.heap.size (n + 1 - ds.length) (n + 1) (val xs * 2 ^ s) ds) (fun k _ => (intOf k + 1).toNat)
 case atStart => exact ⟨n + 1 - ds.length, us, List.replicate (((n : Int) + 1 - (ds.length : Int))).toNat 0, by go_num, by omega, Lus, by unfold Hid; rw [List.length_replicate]; omega, ou.ext eq, oq.capEq (by omega), e14, by unfold Hid; rw [val_replicate_zero, Vus.out]; simp, HU0, fun t _ => lim_replicate_zero _ t⟩
 case round =>
  obtain ⟨j, zs, qs, rfl, hj, hzl, hql, oz, oq, e1r, hv, hlt, hq0⟩ := hrel
  rcases j with _ | k
  ·have zl := hzl.out
   have czl := oz.rd.cap
   have hv0 := hv.out
   rw [Vd.out] at hv0
   have hz0 : val zs < val ys * 2 ^ s := by have := hlt.out; rw [pw_zero, Nat.mul_one, Vd.out] at this; exact this
   obtain ⟨r1, r2⟩ := quot_end (Nat.two_pow_pos s) hv0 hz0
   have hzt : val (zs.take ds.length) = val zs := vk_of_lt (Nat.lt_trans hz0 (by rw [← Vd.out]; exact val_lt cd.1))
   have oT := oz.rd.take ds.length (by omega) uc (by rw [List.length_take]; omega) (Nat.le_refl _)
   have lT : ds.length = (zs.take ds.length).length := by rw [List.length_take]; omega
   have R1 := Lib.hid r1
   have R2 := Lib.hid r2
   have Hzt := Lib.hid hzt
   have LT := Lib.hid lT
   have hb1 : (ds.length : Int) ≤ (uc : Int) := by omega
   have hb2 : ds.length ≤ uc := by omega
   have hqb : qs.length ≤ 1000000 := by have := hql.out; omega
   clear zl czl hv0 hz0 r1 r2 hzt lT hv hlt
   go_wp2_with fail
   go_region_with (first
    | (go_at_call 114; refine (Trim_got _ _ _ qs _ (by have := hql.out; omega) ?_ (by omega)).mono ?_; (first | exact oq.rd.ext (Ext.refl _) | exact oq.rd.ext (Ext.refl _).drew); rintro e wa ⟨qo, qc, qz, rfl, p1, p2, p3, p4⟩; replace p3 := Lib.hid p3)
    | (go_at_call 137; refine (Right_any _ _ _ (zs.take ds.length) _ s _ LT.out rfl (by omega) ?_ (by rw [List.length_take]; omega)).mono ?_; (first | exact oT.ext p4 | exact (oT.ext (Ext.refl _).drew).ext p4); rintro e wb ⟨ro, rc, rz, rfl, t1, t2, t3, t4⟩; replace t3 := Lib.hid t3))
   all_goals
    go_wp2_with fail
    go_ret2
    have ew := ed.trans e1r
    have hw0 : w.heap.size ≤ wr.heap.size := ew.size
    have hw1 := p4.size
    refine ⟨qo, qc, qz, ro, rc, rz, rfl, (p1.ext t4).mono hw0, p2, by rw [p3.out]; exact R1.out, t1.mono (Nat.le_trans hw0 hw1), t2, by rw [t3.out, Hzt.out]; exact R2.out, ?_⟩
    first
    | exact (ew.trans p4).trans t4
    | exact (ew.drew.trans p4).trans t4
    | exact ((ew.trans p4).drew).trans t4
  ·have cz := oz.rd.cap
   have zl := hzl.out
   have ql := hql.out
   have hkc : ¬ uc = k := by omega
   have hkl : k + 1 + ds.length ≤ n + 1 := hj
   have hT : val (zs.drop k) < val ds * 4294967296 := by
    have h3 := vk_split zs k (by omega)
    have h4 := hlt.out
    rw [pw_succ, Nat.mul_left_comm, ← Nat.mul_assoc, Nat.mul_comm] at h4
    rw [Nat.mul_comm 4294967296] at h4
    exact Nat.lt_of_mul_lt_mul_left (a := pw k) (by omega)
   have htl := top_le (i1 := i1) cd.1 rfl (by have := Dl.out; have := H1.out; omega) hT
   have czl : n + 1 ≤ uc := by omega
   have zl2 : zs.length = (n + 1) := zl
   clear zl cz ql zl2
   have HT := Lib.hid hT
   have Htl := Lib.hid htl
   have hdm : ds.length = m := Dl.out
   have hi1 : i1 + 1 = m := H1.out
   obtain ⟨i2, hi2⟩ : ∃ i2, i2 + 2 = ds.length := ⟨ds.length - 2, by omega⟩
   have Hi1 := Lib.hid (show i1 + 1 = ds.length by omega)
   have Hi2 := Lib.hid hi2
   clear hT htl hi2 hi1 hdm
   have od' := od.rd.ext e1r
   have dne : 0 < ds.length → bk dao ≠ g := fun h => by have := (od.blk h).2.1; omega
   have o5 := oz.rd.drop k (by have := hzl.out; omega)
   rw [Nat.zero_add] at o5
   go_wp2_with fail
   refine (guessed_any _ _ _ (zs.drop k) _ _ _ ds i1 i2 _ (by rw [List.length_drop, hzl.out]) rfl Hi1.out Hi2.out (by omega) o5 od' df Htl.out).mono ?_
   rintro e w5 ⟨gg, rfl, gs, qt5⟩
   have gf := guess_fits (Lb_drop oz.lb k) cd.1 rfl Hi1.out Hi2.out df HT.out gs
   have gb := gs.1
   have Gf := Lib.hid gf
   clear gs gf
   have oz5 := oz.ext qt5.ext
   have oq5 := oq.ext qt5.ext
   have e15 := e1r.trans qt5.ext
   go_wp2_with fail
   refine (takeAway_any _ g uc zs k _ _ _ _ _ ds gg _ rfl ?_ ?_ oz5 (od'.ext qt5.ext) dne gb ?_).mono ?_
   ·omega
   ·have := hzl.out; omega
   ·omega
   rintro e w6 ⟨b, z1, rfl, hl1, oz6, gr6, v1, t1⟩
   have oq6 := oq5.kept gr6 (ownB_ne (by omega))
   have e16 := e15.grown gr6 (fun k hk => by cases hk; exact g1)
   have zl := hzl.out
   rcases b with _ | _
   ·have hlt1 := took oz5.lb (by omega) hlt.out Gf.out (by simpa using v1)
    have V1 := Lib.hid (show val z1 + pw k * (gg * val ds) = val zs by simpa using v1)
    have Hlt1 := Lib.hid hlt1
    have Hl1 := Lib.hid hl1
    clear v1 hlt1 hl1 zl t1
    have xq := ixe oq6.rd (n + 1 - ds.length) (by have := hql.out; omega) (k : Int) k rfl (by omega)
    have kq := oq6.rd.cell k (by have := hql.out; omega)
    have fq := oq6.frozen (by have := hql.out; omega) k
    have hq1 := oq6.store k (by have := hql.out; omega) (gg : Int) gg rfl gb
    go_wp2_with fail
    go_roundw
    case rel => exact ⟨k, z1, qs.set k gg, by go_num, by omega, by unfold Hid; rw [Hl1.out]; exact hzl.out, by unfold Hid; rw [List.length_set]; exact hql.out, oz6.kept hq1.2 (ownB_ne (by simp only [bk]; omega)), hq1.1, e16.grown hq1.2 (fun k hk => by cases hk; simp only [bk]; omega), quot_step (hq0.out k (by omega)) (by have := hql.out; omega) V1.out hv.out, Hlt1, fun t ht => by rw [lim_set_ne (by omega)]; exact hq0.out t (by omega)⟩
    case measure => simp [intOf]; try omega
   ·have tz := take_zero oz5.lb oz6.lb (by omega) cd.1 hlt.out Gf.out t1 (by simpa using v1)
    obtain ⟨tz1, tz2, tz3, tz4⟩ := tz
    have V1 := Lib.hid (show val z1 + pw k * (gg * val ds) = val zs + pw (k + (ds.length + 1)) by simpa using v1)
    have Tz4 := Lib.hid tz4
    have Tz3 := Lib.hid tz3
    have Tz1 := Lib.hid tz1
    have Hl1 := Lib.hid hl1
    have T1 := Lib.hid t1
    clear v1 tz1 tz3 tz4 hl1 zl t1
    go_wp2_with fail
    refine (putBack_any _ g uc z1 k _ _ _ _ _ ds _ rfl ?_ ?_ oz6 ((od'.ext qt5.ext).kept gr6 dne) dne ?_).mono ?_
    ·omega
    ·have := hzl.out; have := Hl1.out; omega
    ·omega
    rintro e w7 ⟨y, z2, rfl, hy1, hl2, oz7, gr7, v2, t2⟩
    have oq7 := oq6.kept gr7 (ownB_ne (by omega))
    have e17 := e16.grown gr7 (fun k hk => by cases hk; exact g1)
    have h7 : val z2 < pw (k + (ds.length + 1)) := lt_of_lims oz7.lb (fun t ht => by rw [t2 t (by omega)]; exact lim_zero_of_lt Tz1.out ht)
    have V2 := Lib.hid (put_val hy1 tz2 V1.out Tz4.out h7 v2)
    have Hlt2 := Lib.hid (took oz5.lb (by have := hzl.out; omega) hlt.out ⟨Nat.le_of_eq Tz3.out.symm, by rw [Tz3.out]; exact Nat.le_succ _⟩ V2.out)
    have Hl2 := Lib.hid hl2
    clear v2 t2 h7 hl2
    have gb1 : gg - 1 < 4294967296 := by omega
    have xq := ixe oq7.rd (n + 1 - ds.length) (by have := hql.out; omega) (k : Int) k rfl (by omega)
    have kq := oq7.rd.cell k (by have := hql.out; omega)
    have fq := oq7.frozen (by have := hql.out; omega) k
    have hq1 := oq7.store k (by have := hql.out; omega) ((gg : Int) - 1) (gg - 1) (by omega) gb1
    go_wp2_with fail
    go_roundw
    case rel => exact ⟨k, z2, qs.set k (gg - 1), by go_num, by omega, by unfold Hid; rw [Hl2.out, Hl1.out]; exact hzl.out, by unfold Hid; rw [List.length_set]; exact hql.out, oz7.kept hq1.2 (ownB_ne (by simp only [bk]; omega)), hq1.1, e17.grown hq1.2 (fun k hk => by cases hk; simp only [bk]; omega), quot_step (hq0.out k (by omega)) (by have := hql.out; omega) V2.out hv.out, Hlt2, fun t ht => by rw [lim_set_ne (by omega)]; exact hq0.out t (by omega)⟩
    case measure => simp [intOf]; try omega
end Go.Proofs.YtekhnajfdaknnaaGreatDoor
end
section
namespace Go.Proofs.YtekhnajfdaknnaaGreatDoor
open Go.RowKit

def GotD (w : World) (p r : Nat) (er : Int) (e : Ending) (w' : World) : Prop :=
  ∃ ao c xs bo d ys, e = .returned (.tuple #[.slice ao xs.length c, .slice bo ys.length d, .int .i64 er]) ∧ Own w' w.heap.size ao c xs ∧ Canon xs ∧ val xs = p ∧ Own w' w.heap.size bo d ys ∧ Canon ys ∧ val ys = r ∧ Ext w w'

set_option maxHeartbeats 2000000 in
theorem Div_any (ao : Option Addr) (n c : Nat) (xs : List Nat) (bo : Option Addr) (m d : Nat) (ys : List Nat) (w : World) (hn : n = xs.length) (hm : m = ys.length)
  (ha : Rd w ao c xs) (hb : Rd w bo d ys) (hl : xs.length ≤ 900000) :
  Calls Tryz.prog 97 #[.slice ao n c, .slice bo m d] w (if val ys = 0 then GotD w 0 0 10 else GotD w (val xs / val ys) (val xs % val ys) 0) := by
 subst hn hm
 have hA := ha.trm
 have hB := hb.trm
 have kA := canon_trm ha.lb
 have kB := canon_trm hb.lb
 have lA := trm_le xs
 have cA := hA.cap
 have cB := hB.cap
 have mA := hA.mx
 have mB := hB.mx
 rw [← val_trm xs, ← val_trm ys]
 by_cases h0 : (trm ys).length = 0
 ·have e0 : trm ys = [] := List.length_eq_zero_iff.1 h0
  have hv : val (trm ys) = 0 := by rw [e0]; rfl
  rw [if_pos hv]
  clear hv
  go_enter Tryz.func97, Tryz.ntmps97
  go_wp2_with fail
  refine (trim_any ao _ c xs w rfl ha).mono ?_
  rintro e w' ⟨rfl, rfl⟩
  go_wp2_with fail
  refine (trim_any bo _ d ys w rfl hb).mono ?_
  rintro e w' ⟨rfl, rfl⟩
  rw [e0]
  clear e0 h0
  go_wp2_with fail
  go_ret3
  exact ⟨none, 0, [], none, 0, [], rfl, Own.nil _ _, canon_nil, rfl, Own.nil _ _, canon_nil, rfl, Ext.refl _⟩
 ·have hv : val (trm ys) ≠ 0 := fun e => h0 (by rw [canon_zero kB e]; rfl)
  rw [if_neg hv]
  have hb0 : ((((trm ys).length : Nat) : Int) == 0) = false := beq_eq_false_iff_ne.2 (by omega)
  by_cases hlt : val (trm xs) < val (trm ys)
  ·have hc := cmpI_lt hlt
   have r1 : val (trm xs) / val (trm ys) = 0 := Nat.div_eq_of_lt hlt
   have r2 : val (trm xs) % val (trm ys) = val (trm xs) := Nat.mod_eq_of_lt hlt
   rw [r1, r2]
   clear r1 r2 hlt
   go_enter Tryz.func97, Tryz.ntmps97
   go_wp2_with fail
   refine (trim_any ao _ c xs w rfl ha).mono ?_
   rintro e w' ⟨rfl, rfl⟩
   go_wp2_with fail
   refine (trim_any bo _ d ys w rfl hb).mono ?_
   rintro e w' ⟨rfl, rfl⟩
   go_wp2_with fail
   refine (Cmp_any _ _ _ (trm xs) _ _ _ (trm ys) _ rfl rfl hA hB).mono ?_
   rintro e w1 ⟨rfl, q1⟩
   rw [hc]
   clear hc
   go_wp2_with fail
   refine (Trim_got _ _ _ (trm xs) _ rfl (hA.ext q1.ext) (by omega)).mono ?_
   intro e w2 hg
   obtain ⟨ro, rc, rz, rfl, p1, p2, p3, p4⟩ := hg.from q1.ext
   go_wp2_with fail
   go_ret3
   exact ⟨none, 0, [], ro, rc, rz, rfl, Own.nil _ _, canon_nil, rfl, p1, p2, p3, p4⟩
  ·have hc : decide (cmpI (val (trm xs)) (val (trm ys)) < 0) = false := by
    unfold cmpI
    rw [if_neg hlt]
    split <;> decide
   by_cases h1 : (trm ys).length = 1
   ·have hb1 : ((((trm ys).length : Nat) : Int) == 1) = true := by simp; omega
    have hx0 := ixe hB (trm ys).length rfl 0 0 rfl (by omega)
    simp only [Nat.add_zero] at hx0
    have k0 := fun wr (q : Qt w wr) => (hB.ext q.ext).cell 0 (by omega)
    have b0 := lim_lt kB.1 0
    have ey : val (trm ys) = lim (trm ys) 0 := by
     rw [← vk_full (zs := trm ys) (k := 1) (by omega), vk_succ, vk_zero, pw_zero]; omega
    have Ey := Lib.hid ey
    have b1 : lim (trm ys) 0 ≠ 0 := by rw [← ey]; exact hv
    clear ey hv hlt h1 h0
    go_enter Tryz.func97, Tryz.ntmps97
    go_wp2_with fail
    refine (trim_any ao _ c xs w rfl ha).mono ?_
    rintro e w' ⟨rfl, rfl⟩
    go_wp2_with fail
    refine (trim_any bo _ d ys w rfl hb).mono ?_
    rintro e w' ⟨rfl, rfl⟩
    go_wp2_with fail
    refine (Cmp_any _ _ _ (trm xs) _ _ _ (trm ys) _ rfl rfl hA hB).mono ?_
    rintro e w1 ⟨rfl, q1⟩
    have k1 := k0 w1 q1
    simp only [Nat.add_zero] at k1
    go_wp2_with fail
    refine (byLimb_any _ _ _ (trm xs) _ (lim (trm ys) 0) _ rfl rfl (hA.ext q1.ext) (by omega) (by omega) b0).mono ?_
    rintro e w2 ⟨qo, qc, qz, rfl, p1, p2, p3, p4⟩
    have P3 := Lib.hid p3
    clear p3
    obtain ⟨M, hM⟩ : ∃ M, M = val (trm xs) % lim (trm ys) 0 := ⟨_, rfl⟩
    have bM : M < 4294967296 := by rw [hM]; exact Nat.lt_trans (Nat.mod_lt _ (by omega)) b0
    rw [← hM]
    have HM := Lib.hid hM
    clear hM
    go_wp2_with fail
    refine (Of_any (M : Int) (by omega) (by omega) _).mono ?_
    intro e w3 hg
    obtain ⟨ro, rc, rz, rfl, t1, t2, t3, t4⟩ := hg
    go_wp2_with fail
    go_ret3
    have e2 := q1.ext.trans p4
    exact ⟨qo, qc, qz, ro, rc, rz, rfl, (p1.ext t4).mono q1.ext.size, p2, by rw [P3.out, Ey.out], t1.mono e2.size, t2, by rw [t3, Int.toNat_natCast, HM.out, Ey.out], e2.trans t4⟩
   ·have hb1 : ((((trm ys).length : Nat) : Int) == 1) = false := beq_eq_false_iff_ne.2 (by omega)
    obtain ⟨i1, hi1⟩ : ∃ i1, i1 + 1 = (trm ys).length := ⟨(trm ys).length - 1, by omega⟩
    have hlen : (trm ys).length ≤ (trm xs).length := by
     rcases Nat.lt_or_ge (trm xs).length (trm ys).length with h | h
     ·exact absurd (canon_len_lt kA.1 kB h) hlt
     ·exact h
    have hlast : lim (trm ys) i1 ≠ 0 := by
     have := kB.2 (by omega)
     rwa [show (trm ys).length - 1 = i1 by omega] at this
    have Hi1 := Lib.hid hi1
    have hge : 2 ≤ (trm ys).length := by omega
    clear hi1 hv hlt h1 h0
    go_enter Tryz.func97, Tryz.ntmps97
    go_wp2_with fail
    refine (trim_any ao _ c xs w rfl ha).mono ?_
    rintro e w' ⟨rfl, rfl⟩
    go_wp2_with fail
    refine (trim_any bo _ d ys w rfl hb).mono ?_
    rintro e w' ⟨rfl, rfl⟩
    go_wp2_with fail
    refine (Cmp_any _ _ _ (trm xs) _ _ _ (trm ys) _ rfl rfl hA hB).mono ?_
    rintro e w1 ⟨rfl, q1⟩
    go_wp2_with fail
    refine (long_any _ _ _ (trm xs) _ _ _ (trm ys) i1 _ rfl rfl Hi1.out hge hlen (hA.ext q1.ext) (hB.ext q1.ext) hlast (by omega)).mono ?_
    rintro e w2 ⟨qo, qc, qz, ro, rc, rz, rfl, p1, p2, p3, p4, p5, p6, p7⟩
    go_wp2_with fail
    go_ret3
    exact ⟨qo, qc, qz, ro, rc, rz, rfl, p1.mono q1.ext.size, p2, p3, p4.mono q1.ext.size, p5, p6, q1.ext.trans p7⟩
end Go.Proofs.YtekhnajfdaknnaaGreatDoor
end
section
namespace Go.Proofs.YtekhnajfdaknnaaGreatDoor
open Go.RowKit

def GcdR (w : World) (G L : Nat) (k : Nat) (a b : Value) (wr : World) : Prop :=
  ∃ (ao : Option Addr) (c : Nat) (xs : List Nat) (bo : Option Addr) (d : Nat) (ys : List Nat), a = .slice ao xs.length c ∧ b = .slice bo ys.length d ∧ Own wr w.heap.size ao c xs ∧ Own wr w.heap.size bo d ys ∧ Canon xs ∧ Canon ys ∧ xs.length ≤ L ∧ ys.length ≤ L ∧ Ext w wr ∧
    Hid (Nat.gcd (val xs) (val ys) = G) ∧ Hid (k = val ys)

set_option maxHeartbeats 2000000 in
theorem Gcd_any (ao : Option Addr) (n c : Nat) (xs : List Nat) (bo : Option Addr) (m d : Nat) (ys : List Nat) (L : Nat) (w : World) (hn : n = xs.length) (hm : m = ys.length)
  (ha : Rd w ao c xs) (hb : Rd w bo d ys) (hl1 : xs.length ≤ L) (hl2 : ys.length ≤ L) (hL : L ≤ 900000) :
  Calls Tryz.prog 102 #[.slice ao n c, .slice bo m d] w (GotN w (Nat.gcd (val xs) (val ys))) := by
 subst hn hm
 go_enter Tryz.func102, Tryz.ntmps102
 go_wp2_with fail
 refine (Trim_got _ _ _ xs _ rfl ha (by omega)).mono ?_
 rintro e w1 ⟨xo, xc, xz, rfl, p1, p2, p3, p4⟩
 replace p3 := Lib.hid p3
 go_wp2_with fail
 refine (Trim_got _ _ _ ys _ rfl (hb.ext p4) (by omega)).mono ?_
 rintro e w2 ⟨yo, yc, yz, rfl, q1, q2, q3, q4⟩
 replace q3 := Lib.hid q3
 have lx : xz.length ≤ L := canon_len p2 (by rw [p3.out]; exact val_lt_pw ha.lb hl1)
 have ly : yz.length ≤ L := canon_len q2 (by rw [q3.out]; exact val_lt_pw hb.lb hl2)
 go_wp2_with fail
 go_loopg [0, 1] (val yz) (GcdR w (Nat.gcd (val xs) (val ys)) L)
 case atStart => exact ⟨xo, xc, xz, yo, yc, yz, rfl, rfl, p1.ext q4, q1.mono p4.size, p2, q2, lx, ly, p4.trans q4, by unfold Hid; rw [p3.out, q3.out], rfl⟩
 case round =>
  obtain ⟨ao, c, us, bo, d, bs, rfl, rfl, oa, ob, ca, cb, la, lb, hext, hg, hk⟩ := hrel
  rcases Nat.eq_zero_or_pos bs.length with h0 | hp
  ·have e0 : bs = [] := List.length_eq_zero_iff.1 h0
   subst e0
   clear h0
   have hv : val us = Nat.gcd (val xs) (val ys) := by have := hg.out; rwa [show val [] = 0 from rfl, Nat.gcd_zero_right] at this
   go_wp2_with fail
   go_ret
   exact ⟨ao, c, us, rfl, oa, ca, hv, hext⟩
  ·have hne : val bs ≠ 0 := fun e => by rw [canon_zero cb e] at hp; exact absurd hp (by decide)
   have hp1 : (0 : Int) < (bs.length : Int) := by omega
   have hp2 : decide (0 < bs.length) = true := by simpa using hp
   go_wp2_with fail
   refine (Div_any _ _ _ us _ _ _ bs _ rfl rfl oa.rd ob.rd (by omega)).mono ?_
   intro e w3 hgot
   rw [if_neg hne] at hgot
   obtain ⟨qo, qc, qz, ro, rc, rz, rfl, t1, t2, t3, t4, t5, t6, t7⟩ := hgot
   have hlt : val rz < val bs := by rw [t6]; exact Nat.mod_lt _ (by omega)
   have lr : rz.length ≤ L := canon_len t5 (Nat.lt_trans hlt (val_lt_pw cb.1 lb))
   have hg2 : Nat.gcd (val bs) (val rz) = Nat.gcd (val xs) (val ys) := by
    rw [t6, ← hg.out, Nat.gcd_comm (val us), Nat.gcd_rec (val bs) (val us), Nat.gcd_comm]
   have Hg2 := Lib.hid hg2
   have Hlt := Lib.hid hlt
   clear t3 t6 hg2 hlt hne
   go_wp2_with fail
   go_roundg (val rz)
   case rel => exact ⟨bo, d, bs, ro, rc, rz, rfl, rfl, ob.ext t7, t4.mono hext.size, cb, t5, lb, lr, hext.trans t7, Hg2, rfl⟩
   case measure => have h1 := hk.out; have h2 := Hlt.out; omega

theorem Div_pos (ao : Option Addr) (n c : Nat) (xs : List Nat) (bo : Option Addr) (m d : Nat) (ys : List Nat) (w : World) (hn : n = xs.length) (hm : m = ys.length)
  (ha : Rd w ao c xs) (hb : Rd w bo d ys) (hl : xs.length ≤ 900000) (hv : val ys ≠ 0) :
  Calls Tryz.prog 97 #[.slice ao n c, .slice bo m d] w (GotD w (val xs / val ys) (val xs % val ys) 0) := by
 have h := Div_any ao n c xs bo m d ys w hn hm ha hb hl
 rwa [if_neg hv] at h
end Go.Proofs.YtekhnajfdaknnaaGreatDoor
end
section
namespace Go.Proofs.YtekhnajfdaknnaaGreatDoor

end Go.Proofs.YtekhnajfdaknnaaGreatDoor
end
section
namespace Go.Proofs.YtekhnajfdaknnaaGreatDoor
open Go.RowKit

end Go.Proofs.YtekhnajfdaknnaaGreatDoor
end
section
namespace Go.Proofs.YtekhnajfdaknnaaGreatDoor
open Go.RowKit

end Go.Proofs.YtekhnajfdaknnaaGreatDoor
end
section
namespace Go.Proofs.YtekhnajfdaknnaaGreatDoor
open Go.RowKit

def GotDM (w : World) (p r : Nat) (L M : Nat) (er : Int) (e : Ending) (w' : World) : Prop :=
  ∃ ao c xs B bo d ys C, e = .returned (.tuple #[.slice ao xs.length c, .slice bo ys.length d, .int .i64 er]) ∧ w.heap.size ≤ B ∧ Own w' B ao c xs ∧ Hid (Canon xs) ∧ Hid (val xs = p) ∧ xs.length ≤ L ∧
    w.heap.size ≤ C ∧ Own w' C bo d ys ∧ Hid (Canon ys) ∧ Hid (val ys = r) ∧ ys.length ≤ M ∧ Ext w w'
theorem GotD.len {w : World} {p r L M : Nat} {er : Int} {e : Ending} {w' : World} (h : GotD w p r er e w') (hp : p < pw L) (hr : r < pw M) : GotDM w p r L M er e w' := by
 obtain ⟨ao, c, xs, bo, d, ys, he, h1, h2, h3, h4, h5, h6, h7⟩ := h
 exact ⟨ao, c, xs, _, bo, d, ys, _, he, Nat.le_refl _, h1, h2, h3, canon_short h2 h3 hp, Nat.le_refl _, h4, h5, h6, canon_short h5 h6 hr, h7⟩

section
variable (ao : Option Addr) (n c : Nat) (xs : List Nat) (bo : Option Addr) (m d : Nat) (ys : List Nat) (w : World)
theorem DivM (hn : n = xs.length) (hm : m = ys.length) (ha : Rd w ao c xs) (hb : Rd w bo d ys) (hl1 : xs.length ≤ 100000) (_hl2 : ys.length ≤ 100000) (h : val ys ≠ 0) :
  Calls Tryz.prog 97 #[.slice ao n c, .slice bo m d] w (GotDM w (val xs / val ys) (val xs % val ys) xs.length ys.length 0) :=
 (Div_pos ao n c xs bo m d ys w hn hm ha hb (by omega) h).mono fun _ _ k => k.len (Nat.lt_of_le_of_lt (Nat.div_le_self _ _) (val_lt ha.lb)) (Nat.lt_trans (Nat.mod_lt _ (Nat.pos_of_ne_zero h)) (val_lt hb.lb))
theorem gcd_lt_pw {x y a b : Nat} (hx : x < pw a) (hy : y < pw b) : Nat.gcd x y < pw (a + b) := by
 rcases Nat.eq_zero_or_pos x with h0 | h0
 ·rw [h0, Nat.gcd_zero_left]; exact Nat.lt_of_lt_of_le hy (pw_le (by omega))
 ·exact Nat.lt_of_le_of_lt (Nat.gcd_le_left _ h0) (Nat.lt_of_lt_of_le hx (pw_le (by omega)))
theorem GcdM (hn : n = xs.length) (hm : m = ys.length) (ha : Rd w ao c xs) (hb : Rd w bo d ys) (hl1 : xs.length ≤ 50000) (hl2 : ys.length ≤ 50000) :
  Calls Tryz.prog 102 #[.slice ao n c, .slice bo m d] w (GotM w (Nat.gcd (val xs) (val ys)) (xs.length + ys.length)) :=
 (Gcd_any ao n c xs bo m d ys (xs.length + ys.length) w hn hm ha hb (by omega) (by omega) (by omega)).mono fun _ _ k => k.len (gcd_lt_pw (val_lt ha.lb) (val_lt hb.lb))
end
end Go.Proofs.YtekhnajfdaknnaaGreatDoor
end
section
namespace Go.Proofs.YtekhnajfdaknnaaGreatDoor.S
open Go.RowKit
theorem postDM {w w' : World} {H : Im} {B : Bl} {p r L M : Nat} {er : Int} {en : Ending} (hs : ∀ b o, H b = some o → w.heap[b]? = some o) (h : GotDM w p r L M er en w') : ∃ v H' B', en = .returned v ∧ Post [] w H B (.tup [.c (.d (nsl (lbs p))), .c (.d (nsl (lbs r))), .c (.d (.raw (.int .i64 er)))]) [] v w' H' B' := by
 obtain ⟨ao, c, xs, Bk, bo, d, ys, Ck, rfl, hb, ho, hc, hv, _, hb2, ho2, hc2, hv2, _, hx⟩ := h
 exact ⟨_, _, _, rfl, postE hx hs ⟨_, rfl, own_vn (Bb := B) ho hb hc.out hv.out, own_vn (Bb := B) ho2 hb2 hc2.out hv2.out, DR.raw _ rfl, trivial⟩⟩
section
variable (xs ys : List Nat)
theorem SnGcd (hx : Lb xs) (hy : Lb ys) (lx : xs.length ≤ 50000) (ly : ys.length ≤ 50000) : Fn Tryz.prog 102 [] [vn xs, vn ys] (vn (lbs (Nat.gcd (Go.Proofs.YtekhnajfdaknnaaGreatDoor.val xs) (Go.Proofs.YtekhnajfdaknnaaGreatDoor.val ys)))) [] := by
 intro w H B vals pre
 obtain ⟨a, b, rfl, h1, h2⟩ := args2 pre.arg
 obtain ⟨ao, c, rfl, r1⟩ := openN h1 hx
 obtain ⟨bo, d, rfl, r2⟩ := openN h2 hy
 exact (GcdM ao _ c xs bo _ d ys w rfl rfl (r1 w pre.sat) (r2 w pre.sat) (by omega) (by omega)).mono fun _ _ h => postM pre.sat h
theorem SnDiv (hx : Lb xs) (hy : Lb ys) (lx : xs.length ≤ 50000) (ly : ys.length ≤ 50000) (h0 : Go.Proofs.YtekhnajfdaknnaaGreatDoor.val ys ≠ 0) : Fn Tryz.prog 97 [] [vn xs, vn ys] (.tup [.c (.d (nsl (lbs (Go.Proofs.YtekhnajfdaknnaaGreatDoor.val xs / Go.Proofs.YtekhnajfdaknnaaGreatDoor.val ys)))), .c (.d (nsl (lbs (Go.Proofs.YtekhnajfdaknnaaGreatDoor.val xs % Go.Proofs.YtekhnajfdaknnaaGreatDoor.val ys)))), .c (.d (.raw (.int .i64 0)))]) [] := by
 intro w H B vals pre
 obtain ⟨a, b, rfl, h1, h2⟩ := args2 pre.arg
 obtain ⟨ao, c, rfl, r1⟩ := openN h1 hx
 obtain ⟨bo, d, rfl, r2⟩ := openN h2 hy
 exact (DivM ao _ c xs bo _ d ys w rfl rfl (r1 w pre.sat) (r2 w pre.sat) (by omega) (by omega) h0).mono fun _ _ h => postDM pre.sat h
end
end Go.Proofs.YtekhnajfdaknnaaGreatDoor.S
end
section
namespace Go.Proofs.YtekhnajfdaknnaaGreatDoor.S
open Go.RowKit

theorem ZI.val_abs (x : ZI) : Go.Proofs.YtekhnajfdaknnaaGreatDoor.val x.abs = x.val.natAbs := (iv_abs x.neg x.abs).symm
theorem fmod_neg_range (a : Int) {b : Int} (h : b < 0) : b < a.fmod b ∧ a.fmod b ≤ 0 := by
 have h1 := Int.fmod_lt_of_pos (-a) (b := -b) (by omega)
 have h2 := Int.fmod_nonneg_of_pos (-a) (b := -b) (by omega)
 rw [Int.neg_fmod_neg] at h1 h2
 omega
theorem fdiv_unique {a b q r : Int} (h : a = q * b + r) (hp : 0 < b → 0 ≤ r ∧ r < b) (hn : b < 0 → b < r ∧ r ≤ 0) (hb : b ≠ 0) : q = a.fdiv b ∧ r = a.fmod b := by
 have h1 := Int.mul_fdiv_add_fmod a b
 rcases Int.lt_or_lt_of_ne hb with hlt | hgt
 ·obtain ⟨h2, h3⟩ := hn hlt
  obtain ⟨h4, h5⟩ := fmod_neg_range a hlt
  have hq : q = a.fdiv b := by
   have e : b * (a.fdiv b - q) = r - a.fmod b := by
    have : b * (a.fdiv b - q) = b * a.fdiv b - q * b := by rw [Int.mul_sub, Int.mul_comm b q]
    omega
   rcases Int.lt_trichotomy (a.fdiv b - q) 0 with g | g | g
   ·have : b * (a.fdiv b - q) ≥ -b := by
     have h6 : (-b) * 1 ≤ (-b) * (-(a.fdiv b - q)) := Int.mul_le_mul_of_nonneg_left (by omega) (by omega)
     rw [Int.neg_mul_neg] at h6; omega
    omega
   ·omega
   ·have : b * (a.fdiv b - q) ≤ b := by
     have h6 : (-b) * 1 ≤ (-b) * (a.fdiv b - q) := Int.mul_le_mul_of_nonneg_left (by omega) (by omega)
     rw [Int.neg_mul b (a.fdiv b - q)] at h6; omega
    omega
  refine ⟨hq, ?_⟩
  rw [hq, Int.mul_comm] at h
  omega
 ·obtain ⟨h2, h3⟩ := hp hgt
  have h4 : a.fmod b < b := Int.fmod_lt_of_pos a hgt
  have h5 : 0 ≤ a.fmod b := Int.fmod_nonneg_of_pos a hgt
  have hq : q = a.fdiv b := by
   have e : b * (a.fdiv b - q) = r - a.fmod b := by
    have : b * (a.fdiv b - q) = b * a.fdiv b - q * b := by rw [Int.mul_sub, Int.mul_comm b q]
    omega
   rcases Int.lt_trichotomy (a.fdiv b - q) 0 with g | g | g
   ·have h6 : b * 1 ≤ b * (-(a.fdiv b - q)) := Int.mul_le_mul_of_nonneg_left (by omega) (by omega)
    rw [Int.mul_neg] at h6; omega
   ·omega
   ·have h6 : b * 1 ≤ b * (a.fdiv b - q) := Int.mul_le_mul_of_nonneg_left (by omega) (by omega)
    omega
  refine ⟨hq, ?_⟩
  rw [hq, Int.mul_comm] at h
  omega
theorem fmod_range (a : Int) {b : Int} (_hb : b ≠ 0) : (0 < b → 0 ≤ a.fmod b ∧ a.fmod b < b) ∧ (b < 0 → b < a.fmod b ∧ a.fmod b ≤ 0) :=
 ⟨fun h => ⟨Int.fmod_nonneg_of_pos a h, Int.fmod_lt_of_pos a h⟩, fun h => fmod_neg_range a h⟩
theorem fdiv_fmod (a b : Int) : a = a.fdiv b * b + a.fmod b := by have := Int.mul_fdiv_add_fmod a b; rw [Int.mul_comm] at this; exact this.symm
theorem fdiv_same {X Y : Int} (hY : Y ≠ 0) {s t : Bool} (hs : s = decide (X < 0)) (ht : t = decide (Y < 0)) {zq zr : List Nat} (hq : Go.Proofs.YtekhnajfdaknnaaGreatDoor.val zq = X.natAbs / Y.natAbs) (hr : Go.Proofs.YtekhnajfdaknnaaGreatDoor.val zr = X.natAbs % Y.natAbs) (h : (s != t) = true → Go.Proofs.YtekhnajfdaknnaaGreatDoor.val zr = 0) :
  iv (s != t) zq = X.fdiv Y ∧ iv s zr = X.fmod Y := by
 have hm := Nat.mod_lt X.natAbs (Nat.pos_of_ne_zero (by omega : Y.natAbs ≠ 0))
 have hd := Nat.div_add_mod X.natAbs Y.natAbs
 generalize X.natAbs / Y.natAbs = q at *
 generalize X.natAbs % Y.natAbs = r at *
 subst hs ht
 refine fdiv_unique ?_ ?_ ?_ hY
 ·unfold iv
  rw [hq, hr]
  have hd2 : ((Y.natAbs : Int) * (q : Int) + (r : Int)) = (X.natAbs : Int) := by rw [← hd]; simp
  by_cases h1 : X < 0 <;> by_cases h2 : Y < 0
  ·have e1 : (X.natAbs : Int) = -X := by omega
   have e2 : (Y.natAbs : Int) = -Y := by omega
   rw [e1, e2, Int.neg_mul] at hd2
   simp [h1, h2]
   rw [Int.mul_comm]; omega
  ·have e1 : (X.natAbs : Int) = -X := by omega
   have e2 : (Y.natAbs : Int) = Y := by omega
   rw [e1, e2] at hd2
   simp [h1, h2]
   rw [Int.neg_mul, Int.mul_comm]; omega
  ·have e1 : (X.natAbs : Int) = X := by omega
   have e2 : (Y.natAbs : Int) = -Y := by omega
   rw [e1, e2, Int.neg_mul] at hd2
   simp [h1, h2]
   rw [Int.neg_mul, Int.mul_comm]; omega
  ·have e1 : (X.natAbs : Int) = X := by omega
   have e2 : (Y.natAbs : Int) = Y := by omega
   rw [e1, e2] at hd2
   simp [h1, h2]
   rw [Int.mul_comm]; omega
 ·intro hp
  unfold iv
  have h2 : ¬ Y < 0 := by omega
  by_cases h1 : X < 0
  ·have := h (by simp [h1, h2])
   simp [h1, this]; omega
  ·simp [h1, hr]; omega
 ·intro hp
  unfold iv
  by_cases h1 : X < 0
  ·simp [h1, hr]; omega
  ·have := h (by simp [h1, hp])
   simp [h1, this]; omega
theorem fdiv_other {X Y : Int} (hY : Y ≠ 0) {s t : Bool} (hs : s = decide (X < 0)) (ht : t = decide (Y < 0)) {zq zr : List Nat} (hq : Go.Proofs.YtekhnajfdaknnaaGreatDoor.val zq = X.natAbs / Y.natAbs) (hr : Go.Proofs.YtekhnajfdaknnaaGreatDoor.val zr = X.natAbs % Y.natAbs) (h : (s != t) = true) (h0 : Go.Proofs.YtekhnajfdaknnaaGreatDoor.val zr ≠ 0) :
  iv (s != t) zq - 1 = X.fdiv Y ∧ iv s zr + Y = X.fmod Y := by
 have hm := Nat.mod_lt X.natAbs (Nat.pos_of_ne_zero (by omega : Y.natAbs ≠ 0))
 have hd := Nat.div_add_mod X.natAbs Y.natAbs
 generalize X.natAbs / Y.natAbs = q at *
 generalize X.natAbs % Y.natAbs = r at *
 subst hs ht
 rw [hr] at h0
 have hd2 : ((Y.natAbs : Int) * (q : Int) + (r : Int)) = (X.natAbs : Int) := by rw [← hd]; simp
 rw [h]
 refine fdiv_unique ?_ ?_ ?_ hY
 ·unfold iv
  rw [hq, hr]
  by_cases h1 : X < 0 <;> by_cases h2 : Y < 0
  ·simp [h1, h2] at h
  ·have e1 : (X.natAbs : Int) = -X := by omega
   have e2 : (Y.natAbs : Int) = Y := by omega
   rw [e1, e2] at hd2
   simp [h1]
   rw [Int.sub_mul, Int.neg_mul, Int.mul_comm]; omega
  ·have e1 : (X.natAbs : Int) = X := by omega
   have e2 : (Y.natAbs : Int) = -Y := by omega
   rw [e1, e2, Int.neg_mul] at hd2
   simp [h1]
   rw [Int.sub_mul, Int.neg_mul, Int.mul_comm]; omega
  ·simp [h1, h2] at h
 ·intro hp
  unfold iv
  have h2 : ¬ Y < 0 := by omega
  by_cases h1 : X < 0
  ·simp [h1, hr]; omega
  ·simp [h1, h2] at h
 ·intro hp
  unfold iv
  by_cases h1 : X < 0
  ·simp [h1, hp] at h
  ·simp [h1, hr]; omega
theorem val_zero {zs : List Nat} (h : Canon zs) : Go.Proofs.YtekhnajfdaknnaaGreatDoor.val zs = 0 ↔ zs.length = 0 :=
 ⟨fun e => by rw [canon_zero h e]; rfl, fun e => by rw [List.length_eq_zero_iff.1 e]; rfl⟩
theorem fdiv_natAbs_le (X : Int) {Y : Int} (hY : Y ≠ 0) : (X.fdiv Y).natAbs ≤ X.natAbs := by
 have h := fdiv_fmod X Y
 obtain ⟨h1, h2⟩ := fmod_range X hY
 rcases Int.lt_or_lt_of_ne hY with g | g
 ·obtain ⟨h3, h4⟩ := h2 g
  by_cases hq : 0 ≤ X.fdiv Y
  ·have : X.fdiv Y * Y ≤ X.fdiv Y * (-1) := Int.mul_le_mul_of_nonneg_left (by omega) hq
   omega
  ·have : (-X.fdiv Y - 1) * 1 ≤ (-X.fdiv Y - 1) * (-Y) := Int.mul_le_mul_of_nonneg_left (by omega) (by omega)
   have e : (-X.fdiv Y - 1) * (-Y) = X.fdiv Y * Y + Y := by rw [Int.sub_mul, Int.neg_mul_neg]; omega
   omega
 ·obtain ⟨h3, h4⟩ := h1 g
  by_cases hq : 0 ≤ X.fdiv Y
  ·have : X.fdiv Y * 1 ≤ X.fdiv Y * Y := Int.mul_le_mul_of_nonneg_left (by omega) hq
   omega
  ·have : (-X.fdiv Y - 1) * 1 ≤ (-X.fdiv Y - 1) * Y := Int.mul_le_mul_of_nonneg_left (by omega) (by omega)
   have e : (-X.fdiv Y - 1) * Y = -(X.fdiv Y * Y) - Y := by rw [Int.sub_mul, Int.neg_mul]; omega
   omega
theorem fmod_natAbs_lt (X : Int) {Y : Int} (hY : Y ≠ 0) : (X.fmod Y).natAbs < Y.natAbs := by
 obtain ⟨h1, h2⟩ := fmod_range X hY
 rcases Int.lt_or_lt_of_ne hY with g | g
 ·have := h2 g; omega
 ·have := h1 g; omega
theorem len_fdiv {x y : ZI} (hx : Lb x.abs) (h : y.val ≠ 0) : (ZI.of (x.val.fdiv y.val)).abs.length ≤ x.abs.length := ZI.len_of (Nat.lt_of_le_of_lt (fdiv_natAbs_le _ h) (ZI.abs_lt hx))
theorem len_fmod {x y : ZI} (hy : Lb y.abs) (h : y.val ≠ 0) : (ZI.of (x.val.fmod y.val)).abs.length ≤ y.abs.length := ZI.len_of (Nat.lt_trans (fmod_natAbs_lt _ h) (ZI.abs_lt hy))
end Go.Proofs.YtekhnajfdaknnaaGreatDoor.S
end
section
namespace Go.Proofs.YtekhnajfdaknnaaGreatDoor.S
open Go.RowKit

def bez (r0 x0 y0 r1 x1 y1 : Int) : Int × Int × Int :=
  if _h : r1 ≤ 0 then (r0, x0, y0) else bez r1 x1 y1 (r0.fmod r1) (x0 - r0.fdiv r1 * x1) (y0 - r0.fdiv r1 * y1)
  termination_by r1.natAbs
  decreasing_by exact fmod_natAbs_lt _ (by omega)
/-- what holds of Euclid's numbers on the way; A, B: the absolute values -/
structure BzI (A B r0 x0 y0 r1 x1 y1 : Int) : Prop where
  a : 0 ≤ A
  b : 0 ≤ B
  p0 : 0 ≤ r0
  p1 : 0 ≤ r1
  g : Nat.gcd r0.natAbs r1.natAbs = Nat.gcd A.natAbs B.natAbs
  e0 : r0 = A * x0 + B * y0
  e1 : r1 = A * x1 + B * y1
  sx : (0 ≤ x0 ∧ x1 ≤ 0) ∨ (x0 ≤ 0 ∧ 0 ≤ x1)
  sy : (0 ≤ y0 ∧ y1 ≤ 0) ∨ (y0 ≤ 0 ∧ 0 ≤ y1)
  bx : r0 * (x1.natAbs : Int) + r1 * (x0.natAbs : Int) = B
  byy : r0 * (y1.natAbs : Int) + r1 * (y0.natAbs : Int) = A
  lx : (x1.natAbs : Int) ≤ B + 1
  ly : (y1.natAbs : Int) ≤ A + 1
  z : bez r0 x0 y0 r1 x1 y1 = bez A 1 0 B 0 1
end Go.Proofs.YtekhnajfdaknnaaGreatDoor.S
end
