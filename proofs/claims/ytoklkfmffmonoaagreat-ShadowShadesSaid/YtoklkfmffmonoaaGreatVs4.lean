/-
  Part 4 of the proof of the statement ShadowShades: the walk through the program and the references lifted to the given row. It holds for every input.
-/
import Derived.Test.YtoklkfmffmonoaaGreatVs3
import Derived.Test.YtoklkfmffmonoaaGreatVs2
import Derived.Shelf.Small.Bits
import Derived.Test.YtoklkfmffmonoaaGreatProg
import Derived.Test.YtoklkfmffmonoaaGreatVs1
import Derived.Laws.Bits64b
import Derived.Deep.RegionWith
import Derived.Deep.LoopGhost
import Derived.Laws.Strings
import Derived.Laws.MakeOwn
set_option maxRecDepth 100000
section
namespace Go.Proofs.YtoklkfmffmonoaaGreat.S
open Go.RowKit

theorem tm_2 : SlT Tryz.prog 161 41 1 := SlT.mk' Tryz.underlying161 (by kernel_rfl)
theorem tm_3 : Bodied Tryz.prog 153 := Bodied.mk' (by kernel_rfl)
theorem tm_4 : ElZ Tryz.prog 161 41 1 := ElZ.mk' Tryz.underlying161 _ _ rfl rfl (by kernel_rfl) (by kernel_rfl) (by kernel_rfl) (by decide)
theorem tm_5 : Bodied Tryz.prog 133 := Bodied.mk' (by kernel_rfl)
theorem tm_7 : Bodied Tryz.prog 69 := Bodied.mk' (by kernel_rfl)
theorem tm_10 : Bodied Tryz.prog 93 := Bodied.mk' (by kernel_rfl)
theorem tm_12 : Bodied Tryz.prog 94 := Bodied.mk' (by kernel_rfl)
theorem tm_13 : Bodied Tryz.prog 90 := Bodied.mk' (by kernel_rfl)
theorem tm_14 : Bodied Tryz.prog 137 := Bodied.mk' (by kernel_rfl)
theorem tm_15 : Bodied Tryz.prog 89 := Bodied.mk' (by kernel_rfl)
theorem SGrow (n : Nat) (hn : n ≤ 1000000) : Fn Tryz.prog 153 [] [.t (.c (.d (.raw nilV))), vi .i64 (n : Int)] (.t (.c (.own 0 0))) [(0, .row 57 3 ([].map Part.d))] := by
 refine Fn.body Tryz.func153 rfl 27 rfl fun w H B a h => ?_
 refine rSeq fam0ok 1 [] [(0, .t (.c (.d (.raw nilV)))), (1, vi .i64 (n : Int)), (4, .t (.c (.d (.raw nilV))))] [] (by kernel_rfl) h ?_; clear h; intro a w h
 refine wp_seq ?_
 refine rSeq fam0ok 1 [(1, .cmp (op := .lss) (m := (n : Int)) (n := 0) (b := false) .i64 (show decide ((n : Int) < 0) = false from decide_eq_false (by omega)))] [(0, .t (.c (.d (.raw nilV)))), (1, vi .i64 (n : Int)), (4, .t (.c (.d (.raw nilV)))), (6, vb false)] [] (by kernel_rfl) h ?_; clear h; intro a w h
 refine condS false h rfl (fun hc => ?_) (fun hc => ?_)
 ·cases hc
 ·clear hc
  refine wp_skip ?_
  refine then_n ?_
  refine wp_seq ?_
  refine rSeq fam0ok 1 [(2, .gen _ _ _ fun _ _ _ _ => Op.capR (d := 10) (ao := none) (n := 0) (c := 0) ta_0.hu (OV.tmp 9 _)), (5, .gen _ _ _ fun _ _ _ _ => Op.arith (op := .sub) (d := 13) (xt := 3) (yt := 3) (k := .i64) (m := 0) (n := 0) (r := 0) (OV.tmp 10 _) (OV.tmp 12 _) (.inr (.inl ⟨rfl, rfl⟩)) (i64_id (by omega) (by omega))), (6, .gen _ _ _ fun _ _ _ _ => Op.arith (op := .sub) (d := 14) (xt := 3) (yt := 3) (k := .i64) (m := (n : Int)) (n := 0) (r := (n : Int)) (OV.tmp 8 _) (OV.tmp 13 _) (.inr (.inl ⟨rfl, (Int.sub_zero _).symm⟩)) (i64_id (by omega) (by omega)))] [(0, .t (.c (.d (.raw nilV)))), (1, vi .i64 (n : Int)), (4, .t (.c (.d (.raw nilV))))] [] (by kernel_rfl) h ?_; clear h; intro a w h
  refine rSeq fam0ok 1 [] [(0, .t (.c (.d (.raw nilV)))), (1, vi .i64 (n : Int)), (4, .t (.c (.d (.raw nilV)))), (16, vb (decide ((n : Int) > 0)))] [] (by kernel_rfl) h ?_; clear h; intro a w h
  refine condS (decide ((n : Int) > 0)) h rfl (fun hc => ?_) (fun hc => ?_)
  ·have hc1 := hc; clear hc
   have hc1' := of_decide_eq_true hc1
   refine rS fam0ok 1 [(2, .gen _ _ _ fun _ _ _ _ => Op.capR (d := 19) (ao := none) (n := 0) (c := 0) ta_0.hu (OV.tmp 18 _)), (3, .gen _ _ _ fun _ _ _ _ => Op.sliceR0 (d := 20) (k := .i64) ta_0 (OV.tmp 17 _) (OV.tmp 19 _)), (5, .gen _ _ _ fun _ _ _ _ => Op.appNM (d := 22) (t := 20) (u := 21) (n := 1) (L := n) tb_10 Tryz.underlying3 (by omega) (by omega) (by omega)), (8, .gen _ _ _ fun _ _ _ _ => Op.sliceHi (d := 25) (t := 22) (k := .i64) (n := 1) (len := n) (h := 0) (rows := [].map Part.d) (rty := 57) ta_0 (by first | omega | (simp at *; omega)) (OV.tmp 24 _))] [(0, .t (.c (.own 1 0))), (4, .t (.c (.d (.raw nilV))))] [(1, .row 57 3 ([].map Part.d))] (by kernel_rfl) h ?_; clear h; intro a w h
   refine then_n ?_
   refine rSeq fam0ok 2 [] [(4, .t (.c (.own 1 0)))] [(1, .row 57 3 ([].map Part.d))] (by kernel_rfl) h ?_; clear h; intro a w h
   refine wp_ret ?_
   replace h := renS 1 0 [(4, .t (.c (.own 0 0)))] [(0, .row 57 3 ([].map Part.d))] h (by kernel_rfl) (by kernel_rfl) (by kernel_rfl)
   refine retS [.c (.own 0 0)] h Exit.ret (.inl rfl)  rfl ⟨RV.tmp _ _ rfl, trivial⟩ ?_ (by kernel_rfl) (by kernel_rfl)
   rfl
  ·have hc2 := hc; clear hc
   have hc2' := of_decide_eq_false hc2
   refine wp_skip ?_
   refine then_n ?_
   refine rSeq fam0ok 2 [] [(4, .t (.c (.d (.raw nilV))))] [] (by kernel_rfl) h ?_; clear h; intro a w h
   refine wp_ret ?_
   replace h := nilOSs 4 0 2 3 57 (.t (.c (.d (.raw nilV)))) [(4, .t (.c (.own 2 0)))] [(2, .row 57 3 ([].map Part.d))] h (by kernel_rfl) rfl rfl (by kernel_rfl) (by kernel_rfl)
   replace h := renS 2 0 [(4, .t (.c (.own 0 0)))] [(0, .row 57 3 ([].map Part.d))] h (by kernel_rfl) (by kernel_rfl) (by kernel_rfl)
   refine retS [.c (.own 0 0)] h Exit.ret (.inl rfl)  rfl ⟨RV.tmp _ _ rfl, trivial⟩ ?_ (by kernel_rfl) (by kernel_rfl)
   rfl
theorem sum_take_le (l : List Nat) : ∀ j, (l.take j).sum ≤ l.sum := by
 induction l with
 | nil => intro j; simp
 | cons x l ih =>
  intro j
  cases j with
  | zero => simp
  | succ j => simp only [List.take_succ_cons, List.sum_cons]; have := ih j; omega
theorem flat_sum {α : Type} (l : List (List α)) : l.flatten.length = (l.map List.length).sum := List.length_flatten
theorem sum_mem {l : List Nat} {x : Nat} (h : x ∈ l) : x ≤ l.sum := by
 induction l with
 | nil => cases h
 | cons y l ih =>
  rw [List.sum_cons]
  rcases List.mem_cons.1 h with rfl | h
  ·omega
  ·have := ih h; omega
theorem SConcat (xss : List (List Part)) (hl : (xss.map List.length).sum ≤ 1000000) (hn : xss.length ≤ 1000) : Fn Tryz.prog 133 [] [.t (.c (.d (.sl 1 (xss.map (slD 3 Part.d)))))] (.t (.c (.d (.sl 3 (xss.flatten.map Part.d))))) [] := by
 refine Fn.body Tryz.func133 rfl 36 rfl fun w H B a h => ?_
 refine rSeq fam0ok 5 [] [(0, .t (.c (.d (.sl 1 (xss.map (slD 3 Part.d)))))), (2, .t (.c (.d (.raw nilV))))] [] (by kernel_rfl) h ?_; clear h; intro a w h
 refine rSeq fam0ok 5 [] [(0, .t (.c (.d (.sl 1 (xss.map (slD 3 Part.d)))))), (2, .t (.c (.d (.raw nilV)))), (3, vi .i64 0)] [] (by kernel_rfl) h ?_; clear h; intro a w h
 refine wp_seq ?_
 refine rSeq fam0ok 5 [(1, .len (c := (.d (.sl 1 (xss.map (slD 3 Part.d))))) (n := xss.length) (lenC_map _ _ _))] [(0, .t (.c (.d (.sl 1 (xss.map (slD 3 Part.d)))))), (2, .t (.c (.d (.raw nilV)))), (3, vi .i64 0), (9, .t (.c (.d (.sl 1 (xss.map (slD 3 Part.d)))))), (10, vi .i64 (xss.length : Int)), (11, vi .i64 0)] [] (by kernel_rfl) h ?_; clear h; intro a w h
 refine wp_block ?_
 refine loopS (ι := (Nat)) (fun (z_ : (Nat)) => match z_ with | j => j ≤ xss.length)
   (fun (z_ : (Nat)) => match z_ with | j => [(0, .t (.c (.d (.sl 1 (xss.map (slD 3 Part.d)))))), (2, .t (.c (.d (.raw nilV)))), (3, vi .i64 ((((xss.map List.length).take j).sum : Nat) : Int)), (9, .t (.c (.d (.sl 1 (xss.map (slD 3 Part.d)))))), (10, vi .i64 (xss.length : Int)), (11, vi .i64 (j : Int))])
   (fun (z_ : (Nat)) => match z_ with | j => [])
   (fun (z_ : (Nat)) => match z_ with | j => xss.length - j) 0 ?_ h (by kernel_rfl) (by kernel_rfl) ?_
 ·exact Nat.zero_le _
 ·clear h; rintro j a w hI h
  change St _ (F.of [(0, .t (.c (.d (.sl 1 (xss.map (slD 3 Part.d)))))), (2, .t (.c (.d (.raw nilV)))), (3, vi .i64 ((((xss.map List.length).take j).sum : Nat) : Int)), (9, .t (.c (.d (.sl 1 (xss.map (slD 3 Part.d)))))), (10, vi .i64 (xss.length : Int)), (11, vi .i64 (j : Int))] []) a w at h
  have hs1 := sum_take_le (xss.map List.length) j
  have hs2 := sum_take_le (xss.map List.length) (j + 1)
  refine rSeq fam0ok 5 [] [(0, .t (.c (.d (.sl 1 (xss.map (slD 3 Part.d)))))), (2, .t (.c (.d (.raw nilV)))), (3, vi .i64 ((((xss.map List.length).take j).sum : Nat) : Int)), (9, .t (.c (.d (.sl 1 (xss.map (slD 3 Part.d)))))), (10, vi .i64 (xss.length : Int)), (11, vi .i64 (j : Int)), (12, vb (decide ((j : Int) < (xss.length : Int))))] [] (by kernel_rfl) h ?_; clear h; intro a w h
  refine wp_seq ?_
  refine condS (decide ((j : Int) < (xss.length : Int))) h rfl (fun hc => ?_) (fun hc => ?_)
  ·have hc1 := hc; clear hc
   have hc1' := of_decide_eq_true hc1
   refine wp_skip ?_
   refine then_n ?_
   refine wp_seq ?_
   refine wp_block ?_
   obtain ⟨x1, hx1⟩ : ∃ z_ : List Part, xss[j]? = some z_ := ⟨_, List.getElem?_eq_getElem (by first | omega | (simp at *; omega))⟩
   have hsx : x1.length ≤ (xss.map List.length).sum := by
    have := sum_mem (List.mem_map_of_mem (f := List.length) (List.mem_of_getElem? hx1))
    omega
   refine rSeq fam0ok 5 [(0, .gen _ _ _ fun _ _ _ _ => Op.idxD (d := 13) (t := 9) (k := .i64) tm_2 (map_at hx1 (f := (slD 3 Part.d))) (OV.tmp 11 _))] [(0, .t (.c (.d (.sl 1 (xss.map (slD 3 Part.d)))))), (2, .t (.c (.d (.raw nilV)))), (3, vi .i64 ((((xss.map List.length).take j).sum : Nat) : Int)), (5, .t (.c (.d (.sl 3 (x1.map Part.d))))), (9, .t (.c (.d (.sl 1 (xss.map (slD 3 Part.d)))))), (10, vi .i64 (xss.length : Int)), (11, vi .i64 (j : Int))] [] (by kernel_rfl) h ?_; clear h; intro a w h
   refine rSeq fam0ok 5 [(2, .len (c := (.d (.sl 3 (x1.map Part.d)))) (n := x1.length) (lenC_map _ _ _)), (3, .gen _ _ _ fun _ _ _ _ => Op.arith (op := .add) (d := 18) (xt := 3) (yt := 3) (k := .i64) (m := ((((xss.map List.length).take j).sum : Nat) : Int)) (n := (x1.length : Int)) (r := ((((xss.map List.length).take (j + 1)).sum : Nat) : Int)) (OV.tmp 15 _) (OV.tmp 17 _) (.inl ⟨rfl, (by rw [List.take_add_one, List.getElem?_map, hx1]; simp)⟩) (i64_id (by omega) (by omega)))] [(0, .t (.c (.d (.sl 1 (xss.map (slD 3 Part.d)))))), (2, .t (.c (.d (.raw nilV)))), (3, vi .i64 ((((xss.map List.length).take (j + 1)).sum : Nat) : Int)), (9, .t (.c (.d (.sl 1 (xss.map (slD 3 Part.d)))))), (10, vi .i64 (xss.length : Int)), (11, vi .i64 (j : Int))] [] (by kernel_rfl) h ?_; clear h; intro a w h
   refine rSeq fam0ok 5 [(1, .cmp (op := .lss) (m := ((((xss.map List.length).take (j + 1)).sum : Nat) : Int)) (n := 0) (b := false) .i64 (show decide (((((xss.map List.length).take (j + 1)).sum : Nat) : Int) < 0) = false from decide_eq_false (by omega)))] [(0, .t (.c (.d (.sl 1 (xss.map (slD 3 Part.d)))))), (2, .t (.c (.d (.raw nilV)))), (3, vi .i64 ((((xss.map List.length).take (j + 1)).sum : Nat) : Int)), (9, .t (.c (.d (.sl 1 (xss.map (slD 3 Part.d)))))), (10, vi .i64 (xss.length : Int)), (11, vi .i64 (j : Int)), (20, vb false)] [] (by kernel_rfl) h ?_; clear h; intro a w h
   refine condS false h rfl (fun hc => ?_) (fun hc => ?_)
   ·cases hc
   ·clear hc
    refine wp_skip ?_
    refine block_n ?_
    refine then_n ?_
    refine rS fam0ok 5 [(0, .add .i64 (m := (j : Int)) (n := 1) (i64_id (by omega) (by omega)))] [(0, .t (.c (.d (.sl 1 (xss.map (slD 3 Part.d)))))), (2, .t (.c (.d (.raw nilV)))), (3, vi .i64 ((((xss.map List.length).take (j + 1)).sum : Nat) : Int)), (9, .t (.c (.d (.sl 1 (xss.map (slD 3 Part.d)))))), (10, vi .i64 (xss.length : Int)), (11, vi .i64 ((j : Int) + 1))] [] (by kernel_rfl) h ?_; clear h; intro a w h
    refine then_n ?_
    refine roundS (x := j) (y := (j + 1)) h ?_ ?_ (by kernel_rfl) (by kernel_rfl)
    ·have := at_lt hx1; omega
    ·show xss.length - (j + 1) < xss.length - j
     have := at_lt hx1; omega
  ·have hc2 := hc; clear hc
   have hc2' := of_decide_eq_false hc2
   refine wp_exit ?_
   refine then_x ?_
   refine then_x ?_
   refine inBlock_exit ?_
   refine then_n ?_
   have hj : j = xss.length := by omega
   refine rSeq fam0ok 5 [(1, .call (SGrow ((xss.map List.length).take j).sum (by omega)) tm_3)] [(0, .t (.c (.d (.sl 1 (xss.map (slD 3 Part.d)))))), (2, .t (.c (.d (.raw nilV)))), (6, .t (.c (.own 0 0)))] [(0, .row 57 3 ([].map Part.d))] (by kernel_rfl) h ?_; clear h; intro a w h
   refine wp_seq ?_
   refine rSeq fam0ok 5 [(1, .len (c := (.d (.sl 1 (xss.map (slD 3 Part.d))))) (n := xss.length) (lenC_map _ _ _))] [(2, .t (.c (.d (.raw nilV)))), (6, .t (.c (.own 0 0))), (25, .t (.c (.d (.sl 1 (xss.map (slD 3 Part.d)))))), (26, vi .i64 (xss.length : Int)), (27, vi .i64 0)] [(0, .row 57 3 ([].map Part.d))] (by kernel_rfl) h ?_; clear h; intro a w h
   refine wp_block ?_
   refine loopS (ι := (Nat)) (fun (z_ : (Nat)) => match z_ with | i => i ≤ xss.length)
     (fun (z_ : (Nat)) => match z_ with | i => [(2, .t (.c (.d (.raw nilV)))), (6, .t (.c (.own 0 ((xss.take i).flatten).length))), (25, .t (.c (.d (.sl 1 (xss.map (slD 3 Part.d)))))), (26, vi .i64 (xss.length : Int)), (27, vi .i64 (i : Int))])
     (fun (z_ : (Nat)) => match z_ with | i => [(0, .row 57 3 (((xss.take i).flatten).map Part.d))])
     (fun (z_ : (Nat)) => match z_ with | i => xss.length - i) 0 ?_ h (by kernel_rfl) (by kernel_rfl) ?_
   ·exact Nat.zero_le _
   ·clear h; rintro i a w hI h
    change St _ (F.of [(2, .t (.c (.d (.raw nilV)))), (6, .t (.c (.own 0 ((xss.take i).flatten).length))), (25, .t (.c (.d (.sl 1 (xss.map (slD 3 Part.d)))))), (26, vi .i64 (xss.length : Int)), (27, vi .i64 (i : Int))] [(0, .row 57 3 (((xss.take i).flatten).map Part.d))]) a w at h
    have hs1 := sum_take_le (xss.map List.length) i
    have hs2 := sum_take_le (xss.map List.length) (i + 1)
    have hf1 : ((xss.take i).flatten).length = ((xss.map List.length).take i).sum := by rw [flat_sum, List.map_take]
    have hf2 : ((xss.take (i + 1)).flatten).length = ((xss.map List.length).take (i + 1)).sum := by rw [flat_sum, List.map_take]
    refine rSeq fam0ok 5 [] [(2, .t (.c (.d (.raw nilV)))), (6, .t (.c (.own 0 ((xss.take i).flatten).length))), (25, .t (.c (.d (.sl 1 (xss.map (slD 3 Part.d)))))), (26, vi .i64 (xss.length : Int)), (27, vi .i64 (i : Int)), (28, vb (decide ((i : Int) < (xss.length : Int))))] [(0, .row 57 3 (((xss.take i).flatten).map Part.d))] (by kernel_rfl) h ?_; clear h; intro a w h
    refine wp_seq ?_
    refine condS (decide ((i : Int) < (xss.length : Int))) h rfl (fun hc => ?_) (fun hc => ?_)
    ·have hc3 := hc; clear hc
     have hc3' := of_decide_eq_true hc3
     refine wp_skip ?_
     refine then_n ?_
     refine wp_seq ?_
     refine wp_block ?_
     obtain ⟨x3, hx3⟩ : ∃ z_ : List Part, xss[i]? = some z_ := ⟨_, List.getElem?_eq_getElem (by first | omega | (simp at *; omega))⟩
     have hsx : x3.length ≤ (xss.map List.length).sum := by
      have := sum_mem (List.mem_map_of_mem (f := List.length) (List.mem_of_getElem? hx3))
      omega
     refine rSeq fam0ok 5 [(0, .gen _ _ _ fun _ _ _ _ => Op.idxD (d := 29) (t := 25) (k := .i64) tm_2 (map_at hx3 (f := (slD 3 Part.d))) (OV.tmp 27 _))] [(2, .t (.c (.d (.raw nilV)))), (6, .t (.c (.own 0 ((xss.take i).flatten).length))), (8, .t (.c (.d (.sl 3 (x3.map Part.d))))), (25, .t (.c (.d (.sl 1 (xss.map (slD 3 Part.d)))))), (26, vi .i64 (xss.length : Int)), (27, vi .i64 (i : Int))] [(0, .row 57 3 (((xss.take i).flatten).map Part.d))] (by kernel_rfl) h ?_; clear h; intro a w h
     refine rS fam0ok 5 [(2, .gen _ _ _ fun _ _ _ _ => Op.appOD (d := 33) (t := 31) (u := 32) (n := 0) (n' := 5) (len := ((xss.take i).flatten).length) (len' := (((xss.take i).flatten) ++ x3).length) (rows := ((xss.take i).flatten).map Part.d) (rows2 := x3.map Part.d) (rows' := (((xss.take i).flatten) ++ x3).map Part.d) tb_10 (by first | exact (List.length_map _).symm | simp) (by first | (rw [List.length_append, List.length_map]; done) | simp) (by simp) (by simp [Part.d]) (by first | omega | (simp at *; done) | (simp at *; omega)))] [(2, .t (.c (.d (.raw nilV)))), (6, .t (.c (.own 5 (((xss.take i).flatten) ++ x3).length))), (25, .t (.c (.d (.sl 1 (xss.map (slD 3 Part.d)))))), (26, vi .i64 (xss.length : Int)), (27, vi .i64 (i : Int))] [(5, .row 57 3 ((((xss.take i).flatten) ++ x3).map Part.d))] (by kernel_rfl) h ?_; clear h; intro a w h
     refine block_n ?_
     refine then_n ?_
     refine rS fam0ok 6 [(0, .add .i64 (m := (i : Int)) (n := 1) (i64_id (by omega) (by omega)))] [(2, .t (.c (.d (.raw nilV)))), (6, .t (.c (.own 5 (((xss.take i).flatten) ++ x3).length))), (25, .t (.c (.d (.sl 1 (xss.map (slD 3 Part.d)))))), (26, vi .i64 (xss.length : Int)), (27, vi .i64 ((i : Int) + 1))] [(5, .row 57 3 ((((xss.take i).flatten) ++ x3).map Part.d))] (by kernel_rfl) h ?_; clear h; intro a w h
     refine then_n ?_
     have hnw : (((xss.take i).flatten) ++ x3) = ((xss.take (i + 1)).flatten) := by rw [List.take_add_one, hx3]; simp
     replace h := h.conv (f' := F.of [(2, .t (.c (.d (.raw nilV)))), (6, .t (.c (.own 5 ((xss.take (i + 1)).flatten).length))), (25, .t (.c (.d (.sl 1 (xss.map (slD 3 Part.d)))))), (26, vi .i64 (xss.length : Int)), (27, vi .i64 ((i : Int) + 1))] [(5, .row 57 3 (((xss.take (i + 1)).flatten).map Part.d))]) (by rw [hnw])
     replace h := renS 5 0 [(2, .t (.c (.d (.raw nilV)))), (6, .t (.c (.own 0 ((xss.take (i + 1)).flatten).length))), (25, .t (.c (.d (.sl 1 (xss.map (slD 3 Part.d)))))), (26, vi .i64 (xss.length : Int)), (27, vi .i64 ((i : Int) + 1))] [(0, .row 57 3 (((xss.take (i + 1)).flatten).map Part.d))] h (by kernel_rfl) (by kernel_rfl) (by kernel_rfl)
     refine roundS (x := i) (y := (i + 1)) h ?_ ?_ (by kernel_rfl) (by kernel_rfl)
     ·have := at_lt hx3; omega
     ·show xss.length - (i + 1) < xss.length - i
      have := at_lt hx3; omega
    ·have hc4 := hc; clear hc
     have hc4' := of_decide_eq_false hc4
     refine wp_exit ?_
     refine then_x ?_
     refine then_x ?_
     refine inBlock_exit ?_
     refine then_n ?_
     refine rSeq fam0ok 6 [] [(2, .t (.c (.own 0 ((xss.take i).flatten).length)))] [(0, .row 57 3 (((xss.take i).flatten).map Part.d))] (by kernel_rfl) h ?_; clear h; intro a w h
     refine wp_ret ?_
     replace h := pubS 0 3 57 (((xss.take i).flatten).map Part.d) [(2, .t (.c (.d (.sl 3 (((xss.take i).flatten).map Part.d)))))] [] h rfl (show AllEq _ [((xss.take i).flatten).length] from ⟨by first | exact (List.length_map _).symm | simp, trivial⟩) trivial (by kernel_rfl) (by kernel_rfl)
     refine retS [.c (.d (.sl 3 (((xss.take i).flatten).map Part.d)))] h Exit.ret (.inl rfl)  rfl ⟨RV.tmp _ _ rfl, trivial⟩ ?_ (by kernel_rfl) (by kernel_rfl)
     have hi : i = xss.length := by omega
     subst hi
     rw [List.take_length]; first | done | rfl
theorem STAdd (s t : Term) (hs : TOk 400 15000 s) (ht : TOk 400 15000 t) : Fn Tryz.prog 89 [] [.t (.agg ([.d (.sl 3 (s.parts.map Part.d))] ++ zi s.k)), .t (.agg ([.d (.sl 3 (t.parts.map Part.d))] ++ zi t.k))] (vd (addT s t).d) [] := by
 have ks := hs.kl
 have kt := ht.kl
 have ls := hs.len
 have lt := ht.len
 refine Fn.body Tryz.func89 rfl 18 rfl fun w H B a h => ?_
 refine rSeq fam0ok 0 [] [(2, vp 0 0), (3, vp 1 0), (4, vp 2 0)] [(0, .box ([.d (.sl 3 (s.parts.map Part.d))] ++ zi s.k)), (1, .box ([.d (.sl 3 (t.parts.map Part.d))] ++ zi t.k)), (2, .box [.d (.raw nilV), .d (.raw (.bool false)), .d (nsl [])])] (by kernel_rfl) h ?_; clear h; intro a w h
 obtain ⟨r2, er2, vr2, or2, lr2⟩ := mkZ (v := s.k.val + t.k.val) (m := s.k.abs.length + t.k.abs.length + 1) (len_add hs.kb ht.kb)
 refine rSeq fam0ok 3 [(4, .gen _ _ _ fun _ _ _ _ => Op.buildD (d := 9) (len := 2) (rows := [s.parts, t.parts].map (slD 3 Part.d)) (rs := [(6, .t (.c (.d (.sl 3 (s.parts.map Part.d))))), (8, .t (.c (.d (.sl 3 (t.parts.map Part.d)))))]) tm_4 (.cons (i := 0) (OV.tmp 6 _) (.cons (i := 1) (OV.tmp 8 _) (.nil))) (by kernel_rfl) rfl (by simp [slD]) (by decide) (by decide)), (5, .call (Fn.cast (SConcat [s.parts, t.parts] (by simp only [List.map_cons, List.map_nil, List.sum_cons, List.sum_nil]; omega) (by simp)) (show _ = (.t (.c (.d (.sl 3 ((s.parts ++ t.parts).map Part.d)))) : V) by simp)) tm_5), (10, .call (Fn.cast (SAdd s.k t.k hs.kb ht.kb (by omega) (by omega)) (congrArg vz er2.symm)) tl_9), (12, .call (SPlain (Term.mk (s.parts ++ t.parts) r2) (TOk.add hs ht r2 or2 (by have := hs.kl; have := ht.kl; omega)) (by decide) (by decide)) tm_7)] [(4, vp 2 0)] [(2, .box ([.d (.sl 3 ((plainT (Term.mk (s.parts ++ t.parts) r2)).parts.map Part.d))] ++ zi (plainT (Term.mk (s.parts ++ t.parts) r2)).k))] (by kernel_rfl) h ?_; clear h; intro a w h
 refine wp_ret ?_
 refine retS [.agg ([.d (.sl 3 ((plainT (Term.mk (s.parts ++ t.parts) r2)).parts.map Part.d))] ++ zi (plainT (Term.mk (s.parts ++ t.parts) r2)).k)] h Exit.ret (.inl rfl)  rfl ⟨RV.agg _ 2 0 _ _ _ _ tb_11 rfl rfl rfl rfl, trivial⟩ ?_ (by kernel_rfl) (by kernel_rfl)
 rw [er2]; first | done | rfl
theorem SNumber (k : ZI) (hk : Lb k.abs) (lk : k.abs.length ≤ 40000) : Fn Tryz.prog 97 [] [vz k] (vd (numT k).d) [] := by
 refine Fn.body Tryz.func97 rfl 6 rfl fun w H B a h => ?_
 refine rSeq fam0ok 0 [] [(1, vp 0 0), (2, vp 1 0)] [(0, .box (zi k)), (1, .box [.d (.raw nilV), .d (.raw (.bool false)), .d (nsl [])])] (by kernel_rfl) h ?_; clear h; intro a w h
 obtain ⟨r1, er1, vr1, or1, lr1⟩ := mkZ (v := k.val) (m := k.abs.length) (len_id hk)
 refine rSeq fam0ok 2 [(1, .call (Fn.cast (Scopied k hk (by omega)) (congrArg vz er1.symm)) tl_5)] [(2, vp 1 0)] [(1, .box ([.d (.raw nilV)] ++ zi r1))] (by kernel_rfl) h ?_; clear h; intro a w h
 refine wp_ret ?_
 replace h := nilDLs 1 0 3 ([.d (.raw nilV)] ++ zi r1) [(2, vp 1 0)] [(1, .box ([.d (.sl 3 ([].map Part.d))] ++ zi r1))] h rfl rfl (by kernel_rfl) (by kernel_rfl)
 refine retS [.agg ([.d (.sl 3 ([].map Part.d))] ++ zi r1)] h Exit.ret (.inl rfl)  rfl ⟨RV.agg _ 1 0 _ _ _ _ tb_11 rfl rfl rfl rfl, trivial⟩ ?_ (by kernel_rfl) (by kernel_rfl)
 rw [er1]; first | done | rfl
theorem SScale (t : Term) (q : ZI) {n L M : Nat} (ht : TOk n L t) (hn : n ≤ 1000) (hq : Lb q.abs) (lq : q.abs.length ≤ M) (hL : L + M ≤ 40000) : Fn Tryz.prog 90 [] [.t (.agg ([.d (.sl 3 (t.parts.map Part.d))] ++ zi t.k)), vz q] (vd (scaleT t q).d) [] := by
 have kt := ht.kl
 have nt := ht.len
 refine Fn.body Tryz.func90 rfl 35 rfl fun w H B a h => ?_
 refine rSeq fam0ok 0 [] [(2, vp 0 0), (3, vp 1 0), (4, vp 2 0)] [(0, .box ([.d (.sl 3 (t.parts.map Part.d))] ++ zi t.k)), (1, .box (zi q)), (2, .box [.d (.raw nilV), .d (.raw (.bool false)), .d (nsl [])])] (by kernel_rfl) h ?_; clear h; intro a w h
 obtain ⟨r1, er1, vr1, or1, lr1⟩ := mkZ (v := t.k.val * q.val) (m := t.k.abs.length + q.abs.length) (len_mul ht.kb hq)
 refine rSeq fam0ok 3 [(3, .call (Fn.cast (SMul t.k q ht.kb hq (by omega) (by omega)) (congrArg vz er1.symm)) tm_12)] [(2, vp 0 0), (3, vp 1 0), (4, vp 2 0), (5, vp 3 0)] [(0, .box ([.d (.sl 3 (t.parts.map Part.d))] ++ zi t.k)), (1, .box (zi q)), (2, .box [.d (.raw nilV), .d (.raw (.bool false)), .d (nsl [])]), (3, .box ([.d (.raw nilV)] ++ zi r1))] (by kernel_rfl) h ?_; clear h; intro a w h
 refine wp_seq ?_
 replace h := nilOLs 3 0 4 3 57 ([.d (.raw nilV)] ++ zi r1) [(2, vp 0 0), (3, vp 1 0), (4, vp 2 0), (5, vp 3 0)] [(0, .box ([.d (.sl 3 (t.parts.map Part.d))] ++ zi t.k)), (1, .box (zi q)), (2, .box [.d (.raw nilV), .d (.raw (.bool false)), .d (nsl [])]), (3, .box ([.own 4 0] ++ zi r1)), (4, .row 57 3 ([].map Part.d))] h (by kernel_rfl) rfl rfl (by kernel_rfl) (by kernel_rfl)
 refine rSeq fam0ok 5 [(2, .len (c := (.d (.sl 3 (t.parts.map Part.d)))) (n := t.parts.length) (lenC_map _ _ _))] [(3, vp 1 0), (4, vp 2 0), (5, vp 3 0), (14, .t (.c (.d (.sl 3 (t.parts.map Part.d))))), (15, vi .i64 (t.parts.length : Int)), (16, vi .i64 0)] [(1, .box (zi q)), (2, .box [.d (.raw nilV), .d (.raw (.bool false)), .d (nsl [])]), (3, .box ([.own 4 0] ++ zi r1)), (4, .row 57 3 ([].map Part.d))] (by kernel_rfl) h ?_; clear h; intro a w h
 refine wp_block ?_
 refine loopS (ι := (Nat) × (List Part)) (fun (z_ : (Nat) × (List Part)) => match z_ with | (j, out) => out = (t.parts.take j).map (fun p => Part.mk p.v (ZI.of (p.c.val * q.val))) ∧ j ≤ t.parts.length ∧ out.length ≤ j)
   (fun (z_ : (Nat) × (List Part)) => match z_ with | (j, out) => [(3, vp 1 0), (4, vp 2 0), (5, vp 3 0), (14, .t (.c (.d (.sl 3 (t.parts.map Part.d))))), (15, vi .i64 (t.parts.length : Int)), (16, vi .i64 (j : Int))])
   (fun (z_ : (Nat) × (List Part)) => match z_ with | (j, out) => [(1, .box (zi q)), (2, .box [.d (.raw nilV), .d (.raw (.bool false)), .d (nsl [])]), (3, .box ([.own 4 out.length] ++ zi r1)), (4, .row 57 3 (out.map Part.d))])
   (fun (z_ : (Nat) × (List Part)) => match z_ with | (j, out) => t.parts.length - j) (0, []) ?_ h (by kernel_rfl) (by kernel_rfl) ?_
 ·exact ⟨by simp, Nat.zero_le _, Nat.zero_le _⟩
 ·clear h; rintro ⟨j, out⟩ a w hI h
  change St _ (F.of [(3, vp 1 0), (4, vp 2 0), (5, vp 3 0), (14, .t (.c (.d (.sl 3 (t.parts.map Part.d))))), (15, vi .i64 (t.parts.length : Int)), (16, vi .i64 (j : Int))] [(1, .box (zi q)), (2, .box [.d (.raw nilV), .d (.raw (.bool false)), .d (nsl [])]), (3, .box ([.own 4 out.length] ++ zi r1)), (4, .row 57 3 (out.map Part.d))]) a w at h
  obtain ⟨hI1, hI2, hI3⟩ := hI
  refine rSeq fam0ok 5 [] [(3, vp 1 0), (4, vp 2 0), (5, vp 3 0), (14, .t (.c (.d (.sl 3 (t.parts.map Part.d))))), (15, vi .i64 (t.parts.length : Int)), (16, vi .i64 (j : Int)), (17, vb (decide ((j : Int) < (t.parts.length : Int))))] [(1, .box (zi q)), (2, .box [.d (.raw nilV), .d (.raw (.bool false)), .d (nsl [])]), (3, .box ([.own 4 out.length] ++ zi r1)), (4, .row 57 3 (out.map Part.d))] (by kernel_rfl) h ?_; clear h; intro a w h
  refine wp_seq ?_
  refine condS (decide ((j : Int) < (t.parts.length : Int))) h rfl (fun hc => ?_) (fun hc => ?_)
  ·have hc1 := hc; clear hc
   have hc1' := of_decide_eq_true hc1
   refine wp_skip ?_
   refine then_n ?_
   refine wp_seq ?_
   refine wp_block ?_
   obtain ⟨x2, hx2⟩ : ∃ z_ : Part, t.parts[j]? = some z_ := ⟨_, List.getElem?_eq_getElem (by first | omega | (simp at *; omega))⟩
   obtain ⟨ox2, lx2⟩ := ht.get hx2
   refine rSeq fam0ok 5 [(0, .gen _ _ _ fun _ _ _ _ => Op.idxD (d := 18) (t := 14) (k := .i64) ta_0 (map_at hx2 (f := Part.d)) (OV.tmp 16 _))] [(3, vp 1 0), (4, vp 2 0), (5, vp 3 0), (7, vp 5 0), (14, .t (.c (.d (.sl 3 (t.parts.map Part.d))))), (15, vi .i64 (t.parts.length : Int)), (16, vi .i64 (j : Int))] [(1, .box (zi q)), (2, .box [.d (.raw nilV), .d (.raw (.bool false)), .d (nsl [])]), (3, .box ([.own 4 out.length] ++ zi r1)), (4, .row 57 3 (out.map Part.d)), (5, .box ([.d (.raw (.int .i64 x2.v))] ++ zi x2.c))] (by kernel_rfl) h ?_; clear h; intro a w h
   obtain ⟨r3, er3, vr3, or3, lr3⟩ := mkZ (v := x2.c.val * q.val) (m := x2.c.abs.length + q.abs.length) (len_mul ox2 hq)
   refine rS fam0ok 6 [(7, .call (Fn.cast (SMul x2.c q ox2 hq (by omega) (by omega)) (congrArg vz er3.symm)) tm_12), (9, .gen _ _ _ fun _ _ _ _ => Op.buildD (d := 29) (len := 1) (rows := [(Part.mk x2.v r3)].map Part.d) (rs := [(28, .t (.agg ([.d (.raw (.int .i64 x2.v))] ++ zi r3)))]) tb_9 (.cons (i := 0) (OV.tmp 28 _) (.nil)) (by kernel_rfl) rfl (by simp [Part.d]) (by decide) (by decide)), (10, .gen _ _ _ fun _ _ _ _ => Op.appOD (d := 30) (t := 21) (u := 29) (n := 4) (n' := 6) (len := out.length) (len' := (out ++ [(Part.mk x2.v r3)]).length) (rows := out.map Part.d) (rows2 := [(Part.mk x2.v r3)].map Part.d) (rows' := (out ++ [(Part.mk x2.v r3)]).map Part.d) tb_10 (by first | exact (List.length_map _).symm | simp) (by first | (rw [List.length_append, List.length_map]; done) | simp) (by simp) (by simp [Part.d]) (by first | omega | (simp at *; done) | (simp at *; omega)))] [(3, vp 1 0), (4, vp 2 0), (5, vp 3 0), (14, .t (.c (.d (.sl 3 (t.parts.map Part.d))))), (15, vi .i64 (t.parts.length : Int)), (16, vi .i64 (j : Int))] [(1, .box (zi q)), (2, .box [.d (.raw nilV), .d (.raw (.bool false)), .d (nsl [])]), (3, .box ([.own 6 (out ++ [(Part.mk x2.v r3)]).length] ++ zi r1)), (6, .row 57 3 ((out ++ [(Part.mk x2.v r3)]).map Part.d))] (by kernel_rfl) h ?_; clear h; intro a w h
   refine block_n ?_
   refine then_n ?_
   refine rS fam0ok 7 [(0, .add .i64 (m := (j : Int)) (n := 1) (i64_id (by omega) (by omega)))] [(3, vp 1 0), (4, vp 2 0), (5, vp 3 0), (14, .t (.c (.d (.sl 3 (t.parts.map Part.d))))), (15, vi .i64 (t.parts.length : Int)), (16, vi .i64 ((j : Int) + 1))] [(1, .box (zi q)), (2, .box [.d (.raw nilV), .d (.raw (.bool false)), .d (nsl [])]), (3, .box ([.own 6 (out ++ [(Part.mk x2.v r3)]).length] ++ zi r1)), (6, .row 57 3 ((out ++ [(Part.mk x2.v r3)]).map Part.d))] (by kernel_rfl) h ?_; clear h; intro a w h
   refine then_n ?_
   replace h := renS 6 4 [(3, vp 1 0), (4, vp 2 0), (5, vp 3 0), (14, .t (.c (.d (.sl 3 (t.parts.map Part.d))))), (15, vi .i64 (t.parts.length : Int)), (16, vi .i64 ((j : Int) + 1))] [(1, .box (zi q)), (2, .box [.d (.raw nilV), .d (.raw (.bool false)), .d (nsl [])]), (3, .box ([.own 4 (out ++ [(Part.mk x2.v r3)]).length] ++ zi r1)), (4, .row 57 3 ((out ++ [(Part.mk x2.v r3)]).map Part.d))] h (by kernel_rfl) (by kernel_rfl) (by kernel_rfl)
   refine roundS (x := (j, out)) (y := (j + 1, (out ++ [(Part.mk x2.v r3)]))) h ?_ ?_ (by kernel_rfl) (by kernel_rfl)
   ·refine ⟨?_, by have := at_lt hx2; omega, by simp; omega⟩
    rw [take_map hx2, ← hI1, er3]
   ·simp; omega
  ·have hc2 := hc; clear hc
   have hc2' := of_decide_eq_false hc2
   refine wp_exit ?_
   refine then_x ?_
   refine then_x ?_
   refine inBlock_exit ?_
   refine then_n ?_
   have hj : j = t.parts.length := by have := hc2'; omega
   rw [hj, List.take_length] at hI1
   have hq2 : Term.mk out r1 = mulT t q := by rw [hI1, er1]; first | done | rfl
   replace h := pubS 4 3 57 (out.map Part.d) [(3, vp 1 0), (4, vp 2 0), (5, vp 3 0), (14, .t (.c (.d (.sl 3 (t.parts.map Part.d))))), (15, vi .i64 (t.parts.length : Int)), (16, vi .i64 (j : Int)), (17, vb (decide ((j : Int) < (t.parts.length : Int))))] [(1, .box (zi q)), (2, .box [.d (.raw nilV), .d (.raw (.bool false)), .d (nsl [])]), (3, .box ([.d (.sl 3 (out.map Part.d))] ++ zi r1))] h rfl trivial (show AllEq _ [out.length] from ⟨by first | exact (List.length_map _).symm | simp, trivial⟩) (by kernel_rfl) (by kernel_rfl)
   refine rSeq fam0ok 7 [(1, .call ((show Fn _ _ _ [vd (Term.mk out r1).d] _ _ from by rw [hq2]; exact SPlain (mulT t q) (TOk.mul ht hq lq) (by omega) (by omega))) tm_7)] [(4, vp 2 0)] [(2, .box ([.d (.sl 3 ((scaleT t q).parts.map Part.d))] ++ zi (scaleT t q).k))] (by kernel_rfl) h ?_; clear h; intro a w h
   refine wp_ret ?_
   refine retS [.agg ([.d (.sl 3 ((scaleT t q).parts.map Part.d))] ++ zi (scaleT t q).k)] h Exit.ret (.inl rfl)  rfl ⟨RV.agg _ 2 0 _ _ _ _ tb_11 rfl rfl rfl rfl, trivial⟩ ?_ (by kernel_rfl) (by kernel_rfl)
   rfl
theorem SNeg3 (t : Term) (ht : TOk 400 10000 t) : Fn Tryz.prog 137 [] [.t (.agg ([.d (.sl 3 (t.parts.map Part.d))] ++ zi t.k))] (vd (negT t).d) [] := by
 refine Fn.body Tryz.func137 rfl 6 rfl fun w H B a h => ?_
 refine rSeq fam0ok 0 [] [(1, vp 0 0), (2, vp 1 0)] [(0, .box ([.d (.sl 3 (t.parts.map Part.d))] ++ zi t.k)), (1, .box [.d (.raw nilV), .d (.raw (.bool false)), .d (nsl [])])] (by kernel_rfl) h ?_; clear h; intro a w h
 obtain ⟨r1, er1, vr1, or1, lr1⟩ := mkZ (v := (-1)) (m := 2) (ZI.len_of (by have := pw2; omega))
 refine rSeq fam0ok 2 [(1, .call (Fn.cast (SOf (-1) ⟨by omega, by omega⟩) (congrArg vz er1.symm)) tm_10), (2, .call (SScale t r1 ht (by decide) or1 lr1 (by decide)) tm_13)] [(2, vp 1 0)] [(1, .box ([.d (.sl 3 ((scaleT t r1).parts.map Part.d))] ++ zi (scaleT t r1).k))] (by kernel_rfl) h ?_; clear h; intro a w h
 refine wp_ret ?_
 refine retS [.agg ([.d (.sl 3 ((scaleT t r1).parts.map Part.d))] ++ zi (scaleT t r1).k)] h Exit.ret (.inl rfl)  rfl ⟨RV.agg _ 1 0 _ _ _ _ tb_11 rfl rfl rfl rfl, trivial⟩ ?_ (by kernel_rfl) (by kernel_rfl)
 rw [er1]; first | done | rfl
theorem STSub (s t : Term) (hs : TOk 400 10000 s) (ht : TOk 400 10000 t) : Fn Tryz.prog 96 [] [.t (.agg ([.d (.sl 3 (s.parts.map Part.d))] ++ zi s.k)), .t (.agg ([.d (.sl 3 (t.parts.map Part.d))] ++ zi t.k))] (vd (subT s t).d) [] := by
 refine Fn.body Tryz.func96 rfl 9 rfl fun w H B a h => ?_
 refine rSeq fam0ok 0 [] [(2, vp 0 0), (3, vp 1 0), (4, vp 2 0)] [(0, .box ([.d (.sl 3 (s.parts.map Part.d))] ++ zi s.k)), (1, .box ([.d (.sl 3 (t.parts.map Part.d))] ++ zi t.k)), (2, .box [.d (.raw nilV), .d (.raw (.bool false)), .d (nsl [])])] (by kernel_rfl) h ?_; clear h; intro a w h
 refine rSeq fam0ok 3 [(2, .call (SNeg3 t (ht.mono (by decide) (by decide))) tm_14), (3, .call (STAdd s (negT t) (hs.mono (by decide) (by decide)) (((TOk.mul ht (ZI.lb_of _) (show (ZI.of (-1)).abs.length ≤ 2 from by decide)).plain (by decide)).mono (by decide) (by decide))) tm_15)] [(4, vp 2 0)] [(2, .box ([.d (.sl 3 ((addT s (negT t)).parts.map Part.d))] ++ zi (addT s (negT t)).k))] (by kernel_rfl) h ?_; clear h; intro a w h
 refine wp_ret ?_
 refine retS [.agg ([.d (.sl 3 ((addT s (negT t)).parts.map Part.d))] ++ zi (addT s (negT t)).k)] h Exit.ret (.inl rfl)  rfl ⟨RV.agg _ 2 0 _ _ _ _ tb_11 rfl rfl rfl rfl, trivial⟩ ?_ (by kernel_rfl) (by kernel_rfl)
 rfl
end Go.Proofs.YtoklkfmffmonoaaGreat.S
end
section
namespace Go.Proofs.YtoklkfmffmonoaaGreat.S
open Go.RowKit

theorem tn_1 : SlT Tryz.prog 98 2 1 := SlT.mk' Tryz.underlying98 (by kernel_rfl)
theorem tn_5 : Bodied Tryz.prog 84 := Bodied.mk' (by kernel_rfl)
theorem plainT_eq {t u : Term} (h1 : SR u.parts) (h2 : ∀ q ∈ u.parts, 0 ≤ q.v ∧ q.c = ZI.of q.c.val ∧ q.c.val ≠ 0) (h3 : ∀ v, coefZ t.parts v = coefZ u.parts v) (h4 : u.k = ZI.of t.k.val) : plainT t = u := by
 obtain ⟨v1, v2⟩ := varsZ_ok t.parts
 have hp : (varsZ t.parts).map (partOf t.parts) = u.parts := by
  refine SR.unique (List.pairwise_map.2 v1) h1 (fun q hq => ?_) h2 fun v => ?_
  ·obtain ⟨v, hv, rfl⟩ := List.mem_map.1 hq
   have hv := (v2 v).1 hv
   exact ⟨(coefZ_some hv).1, by simp [partOf, ZI.val_of], by simpa [partOf, ZI.val_of] using hv⟩
  ·rw [← h3 v]
   by_cases hv : 0 ≤ v
   ·rw [coefZ_map t.parts v hv v1]
    by_cases h : v ∈ varsZ t.parts
    ·rw [if_pos h]
    ·rw [if_neg h]; exact (Classical.byContradiction fun e => h ((v2 v).2 fun e2 => e e2.symm))
   ·have z1 : coefZ t.parts v = 0 := Classical.byContradiction fun e => hv (coefZ_some e).1
    have z2 : coefZ ((varsZ t.parts).map (partOf t.parts)) v = 0 := Classical.byContradiction fun e => hv (coefZ_some e).1
    rw [z1, z2]
 cases u with
 | mk ps k =>
  simp only at hp h4
  unfold plainT
  rw [h4, ← hp]; rfl
theorem plainT_parts (t : Term) : SR (plainT t).parts ∧ (∀ q ∈ (plainT t).parts, 0 ≤ q.v ∧ q.c = ZI.of q.c.val ∧ q.c.val ≠ 0) ∧ ∀ v, coefZ (plainT t).parts v = coefZ t.parts v := by
 obtain ⟨v1, v2⟩ := varsZ_ok t.parts
 refine ⟨List.pairwise_map.2 v1, fun q hq => ?_, fun v => ?_⟩
 ·obtain ⟨v, hv, rfl⟩ := List.mem_map.1 hq
  have hv := (v2 v).1 hv
  exact ⟨(coefZ_some hv).1, by simp [ZI.val_of], by simpa [ZI.val_of] using hv⟩
 ·show coefZ ((varsZ t.parts).map (partOf t.parts)) v = _
  by_cases hv : 0 ≤ v
  ·rw [coefZ_map t.parts v hv v1]
   by_cases h : v ∈ varsZ t.parts
   ·rw [if_pos h]
   ·rw [if_neg h]; exact (Classical.byContradiction fun e => h ((v2 v).2 fun e2 => e e2.symm))
  ·have z1 : coefZ t.parts v = 0 := Classical.byContradiction fun e => hv (coefZ_some e).1
   have z2 : coefZ ((varsZ t.parts).map (partOf t.parts)) v = 0 := Classical.byContradiction fun e => hv (coefZ_some e).1
   rw [z1, z2]
end Go.Proofs.YtoklkfmffmonoaaGreat.S
end
section
namespace Go.Proofs.YtoklkfmffmonoaaGreat.S

theorem plain_congr {s t : Term} (h : ∀ v, coefZ s.parts v = coefZ t.parts v) (hk : s.k.val = t.k.val) : plainT s = plainT t := by
 obtain ⟨h1, h2, h3⟩ := plainT_parts t
 exact plainT_eq h1 h2 (fun v => (h v).trans (h3 v).symm) (by rw [hk]; rfl)
theorem coefZ_mul (ps : List Part) (q : Int) (v : Int) : coefZ (ps.map fun p => Part.mk p.v (ZI.of (p.c.val * q))) v = coefZ ps v * q := by
 induction ps with
 | nil => simp [coefZ]
 | cons p ps ih =>
  simp only [List.map_cons, coefZ, ih, ZI.val_of, Int.add_mul]
  split <;> simp
def idxI (v : Int) : List Int → Nat → Int
  | [], _ => -1
  | x :: xs, n => if v = x then n else idxI v xs (n + 1)
end Go.Proofs.YtoklkfmffmonoaaGreat.S
end
section
namespace Go.Proofs.YtoklkfmffmonoaaGreat.S
open Go.RowKit

theorem to_1 : ElZ Tryz.prog 98 2 1 := ElZ.mk' Tryz.underlying98 _ _ rfl rfl (by kernel_rfl) (by kernel_rfl) (by kernel_rfl) (by decide)
theorem to_7 : Bodied Tryz.prog 97 := Bodied.mk' (by kernel_rfl)
theorem to_9 : Bodied Tryz.prog 96 := Bodied.mk' (by kernel_rfl)
end Go.Proofs.YtoklkfmffmonoaaGreat.S
end
section
namespace Go.Proofs.YtoklkfmffmonoaaGreat.S
open Go.RowKit

section
variable {P : Program}
theorem Op.makeF1 {d t : Nat} {fn : Go.Fn} {x : A} {ty : TypeId} {pos af gd} :
  OpOk P ⟨some d, .makeFunc fn #[] #[.tmp t], ty, pos, af, gd⟩ { rs := [(t, .t (.c x.c))], ws := [(d, some (.t (.c (.fn fn [] [x]))))] } :=
 OpOk.value d _ rfl rfl rfl fun e f H B a w hok hr => by
  have h1 : CR H B x.c (a.eval (.tmp t)) := hok.slot t _ (hr.1 (t, .t (.c x.c)) (by simp))
  refine ⟨.func fn #[] #[a.eval (.tmp t)], ?_, [], [a.eval (.tmp t)], rfl, trivial, ?_, trivial⟩
  ·simp [execOp, Instr.makeFunc]
  ·cases x <;> exact h1
end
end Go.Proofs.YtoklkfmffmonoaaGreat.S
end
section
namespace Go.Proofs.YtoklkfmffmonoaaGreat.S
open Go.RowKit

theorem SPlainO0 (t : Term) (ht : PsOk 40000 t.parts) (hk : Lb t.k.abs) (lk : t.k.abs.length ≤ 40000) : Fn Tryz.prog 69 [] [.t (.agg ([.d (.sl 3 (t.parts.map Part.d))] ++ zi t.k))] (.t (.agg ([.own 0 (plainT t).parts.length] ++ zi (plainT t).k))) [(0, .row 57 3 ((plainT t).parts.map Part.d))] := by
 have ln := ht.1
 refine Fn.body Tryz.func69 rfl 74 rfl fun w H B a h => ?_
 refine rSeq fam0ok 5 [] [(1, vp 5 0), (2, vp 6 0)] [(5, .box ([.d (.sl 3 (t.parts.map Part.d))] ++ zi t.k)), (6, .box [.d (.raw nilV), .d (.raw (.bool false)), .d (nsl [])])] (by kernel_rfl) h ?_; clear h; intro a w h
 refine rSeq fam0ok 7 [(2, .call (SClone t.parts (by omega)) tl_3)] [(1, vp 5 0), (2, vp 6 0), (3, .t (.c (.own 0 t.parts.length)))] [(5, .box ([.d (.sl 3 (t.parts.map Part.d))] ++ zi t.k)), (6, .box [.d (.raw nilV), .d (.raw (.bool false)), .d (nsl [])]), (0, .row 57 3 (t.parts.map Part.d))] (by kernel_rfl) h ?_; clear h; intro a w h
 refine rSeq fam0ok 7 [(1, .call (SSortStable t.parts (by omega)) tl_4)] [(1, vp 5 0), (2, vp 6 0), (3, .t (.c (.own 0 t.parts.length)))] [(5, .box ([.d (.sl 3 (t.parts.map Part.d))] ++ zi t.k)), (6, .box [.d (.raw nilV), .d (.raw (.bool false)), .d (nsl [])]), (0, .row 57 3 ((ssV Part.v t.parts).map Part.d))] (by kernel_rfl) h ?_; clear h; intro a w h
 obtain ⟨r3, er3, vr3, or3, lr3⟩ := mkZ (v := t.k.val) (m := t.k.abs.length) (len_id hk)
 refine rSeq fam0ok 7 [(2, .call (Fn.cast (Scopied t.k hk (by omega)) (congrArg vz er3.symm)) tl_5)] [(2, vp 6 0), (3, .t (.c (.own 0 t.parts.length))), (4, vp 7 0)] [(6, .box [.d (.raw nilV), .d (.raw (.bool false)), .d (nsl [])]), (0, .row 57 3 ((ssV Part.v t.parts).map Part.d)), (7, .box ([.d (.raw nilV)] ++ zi r3))] (by kernel_rfl) h ?_; clear h; intro a w h
 refine wp_seq ?_
 replace h := nilOLs 7 0 8 3 57 ([.d (.raw nilV)] ++ zi r3) [(2, vp 6 0), (3, .t (.c (.own 0 t.parts.length))), (4, vp 7 0)] [(6, .box [.d (.raw nilV), .d (.raw (.bool false)), .d (nsl [])]), (0, .row 57 3 ((ssV Part.v t.parts).map Part.d)), (7, .box ([.own 8 0] ++ zi r3)), (8, .row 57 3 ([].map Part.d))] h (by kernel_rfl) rfl rfl (by kernel_rfl) (by kernel_rfl)
 refine rSeq fam0ok 9 [] [(2, vp 6 0), (4, vp 7 0), (17, .t (.c (.own 0 t.parts.length))), (18, vi .i64 (t.parts.length : Int)), (19, vi .i64 0)] [(6, .box [.d (.raw nilV), .d (.raw (.bool false)), .d (nsl [])]), (0, .row 57 3 ((ssV Part.v t.parts).map Part.d)), (7, .box ([.own 8 0] ++ zi r3)), (8, .row 57 3 ([].map Part.d))] (by kernel_rfl) h ?_; clear h; intro a w h
 refine wp_block ?_
 refine loopS (ι := (Nat) × (List Part)) (fun (z_ : (Nat) × (List Part)) => match z_ with | (j, out) => out = (mrgZ ((ssV Part.v t.parts).take j)) ∧ j ≤ (ssV Part.v t.parts).length ∧ out.length ≤ j ∧ MOk 40000 j out)
   (fun (z_ : (Nat) × (List Part)) => match z_ with | (j, out) => [(2, vp 6 0), (4, vp 7 0), (17, .t (.c (.own 0 t.parts.length))), (18, vi .i64 (t.parts.length : Int)), (19, vi .i64 (j : Int))])
   (fun (z_ : (Nat) × (List Part)) => match z_ with | (j, out) => [(6, .box [.d (.raw nilV), .d (.raw (.bool false)), .d (nsl [])]), (0, .row 57 3 ((ssV Part.v t.parts).map Part.d)), (7, .box ([.own 8 out.length] ++ zi r3)), (8, .row 57 3 (out.map Part.d))])
   (fun (z_ : (Nat) × (List Part)) => match z_ with | (j, out) => (ssV Part.v t.parts).length - j) (0, []) ?_ h (by kernel_rfl) (by kernel_rfl) ?_
 ·exact ⟨by simp [mrgZ], Nat.zero_le _, Nat.zero_le _, fun q hq => (by cases hq)⟩
 ·clear h; rintro ⟨j, out⟩ a w hI h
  change St _ (F.of [(2, vp 6 0), (4, vp 7 0), (17, .t (.c (.own 0 t.parts.length))), (18, vi .i64 (t.parts.length : Int)), (19, vi .i64 (j : Int))] [(6, .box [.d (.raw nilV), .d (.raw (.bool false)), .d (nsl [])]), (0, .row 57 3 ((ssV Part.v t.parts).map Part.d)), (7, .box ([.own 8 out.length] ++ zi r3)), (8, .row 57 3 (out.map Part.d))]) a w at h
  obtain ⟨hI1, hI2, hI3, hI4⟩ := hI
  have ln := ht.1
  have ls : (ssV Part.v t.parts).length = t.parts.length := ssV_len _
  refine rSeq fam0ok 9 [] [(2, vp 6 0), (4, vp 7 0), (17, .t (.c (.own 0 t.parts.length))), (18, vi .i64 (t.parts.length : Int)), (19, vi .i64 (j : Int)), (20, vb (decide ((j : Int) < (t.parts.length : Int))))] [(6, .box [.d (.raw nilV), .d (.raw (.bool false)), .d (nsl [])]), (0, .row 57 3 ((ssV Part.v t.parts).map Part.d)), (7, .box ([.own 8 out.length] ++ zi r3)), (8, .row 57 3 (out.map Part.d))] (by kernel_rfl) h ?_; clear h; intro a w h
  refine wp_seq ?_
  refine condS (decide ((j : Int) < (t.parts.length : Int))) h rfl (fun hc => ?_) (fun hc => ?_)
  ·have hc1 := hc; clear hc
   have hc1' := of_decide_eq_true hc1
   refine wp_skip ?_
   refine then_n ?_
   refine wp_seq ?_
   refine wp_block ?_
   obtain ⟨x4, hx4⟩ : ∃ z_ : Part, (ssV Part.v t.parts)[j]? = some z_ := ⟨_, List.getElem?_eq_getElem (by first | omega | (simp at *; omega))⟩
   obtain ⟨ox4, lx4⟩ := ht.get_mem (ssV_mem (List.mem_of_getElem? hx4))
   refine rSeq fam0ok 9 [(0, .gen _ _ _ fun _ _ _ _ => Op.idxO (d := 21) (t := 17) (k := .i64) (n := 0) (len := t.parts.length) (i := j) ta_0 (by first | omega | (simp at *; omega)) (OV.tmp 19 _)), (1, .gen _ _ _ fun _ _ _ _ => Op.loadR_agg (d := 22) (t := 21) (n := 0) (i := j) (fo := 0) (rty := 57) (es := 3) (xs := [.raw (.int .i64 x4.v), .raw (.bool x4.c.neg), nsl x4.c.abs]) te_1 rfl (map_at hx4 (f := Part.d)) rfl rfl)] [(2, vp 6 0), (4, vp 7 0), (6, vp 9 0), (17, .t (.c (.own 0 t.parts.length))), (18, vi .i64 (t.parts.length : Int)), (19, vi .i64 (j : Int))] [(6, .box [.d (.raw nilV), .d (.raw (.bool false)), .d (nsl [])]), (0, .row 57 3 ((ssV Part.v t.parts).map Part.d)), (7, .box ([.own 8 out.length] ++ zi r3)), (8, .row 57 3 (out.map Part.d)), (9, .box ([.d (.raw (.int .i64 x4.v))] ++ zi x4.c))] (by kernel_rfl) h ?_; clear h; intro a w h
   refine wp_seq ?_
   refine rSeq fam0ok 10 [] [(2, vp 6 0), (4, vp 7 0), (6, vp 9 0), (17, .t (.c (.own 0 t.parts.length))), (18, vi .i64 (t.parts.length : Int)), (19, vi .i64 (j : Int)), (25, vb (decide (x4.v < 0)))] [(6, .box [.d (.raw nilV), .d (.raw (.bool false)), .d (nsl [])]), (0, .row 57 3 ((ssV Part.v t.parts).map Part.d)), (7, .box ([.own 8 out.length] ++ zi r3)), (8, .row 57 3 (out.map Part.d)), (9, .box ([.d (.raw (.int .i64 x4.v))] ++ zi x4.c))] (by kernel_rfl) h ?_; clear h; intro a w h
   refine condS (decide (x4.v < 0)) h rfl (fun hc => ?_) (fun hc => ?_)
   ·have hc2 := hc; clear hc
    have hc2' := of_decide_eq_true hc2
    refine wp_exit ?_
    refine then_x ?_
    refine inBlock_exit ?_
    refine then_n ?_
    refine rS fam0ok 10 [(0, .add .i64 (m := (j : Int)) (n := 1) (i64_id (by omega) (by omega)))] [(2, vp 6 0), (4, vp 7 0), (17, .t (.c (.own 0 t.parts.length))), (18, vi .i64 (t.parts.length : Int)), (19, vi .i64 ((j : Int) + 1))] [(6, .box [.d (.raw nilV), .d (.raw (.bool false)), .d (nsl [])]), (0, .row 57 3 ((ssV Part.v t.parts).map Part.d)), (7, .box ([.own 8 out.length] ++ zi r3)), (8, .row 57 3 (out.map Part.d))] (by kernel_rfl) h ?_; clear h; intro a w h
    refine then_n ?_
    have hst : (mrgZ ((ssV Part.v t.parts).take (j + 1))) = mrgStep out x4 := by rw [hI1, show ((ssV Part.v t.parts).take (j + 1) : List Part) = (ssV Part.v t.parts).take j ++ [x4] from by rw [List.take_add_one, hx4]; rfl, mrgZ_snoc]
    have hst2 := mrg_neg (out := out) hc2'
    refine roundS (x := (j, out)) (y := ((j + 1), out)) h ?_ ?_ (by kernel_rfl) (by kernel_rfl)
    ·exact ⟨by rw [hst, hst2], (by have := at_lt hx4; omega), by omega, by have hh := hI4.step (ht.get_mem (ssV_mem (List.mem_of_getElem? hx4))); rw [hst2] at hh; exact hh⟩
    ·show (ssV Part.v t.parts).length - (j + 1) < (ssV Part.v t.parts).length - j
     have := at_lt hx4; omega
   ·have hc3 := hc; clear hc
    have hc3' := of_decide_eq_false hc3
    refine wp_skip ?_
    refine then_n ?_
    rcases Nat.eq_zero_or_pos out.length with hz | hz
    ·refine rSeq fam0ok 10 [(3, .gen _ _ _ fun _ _ _ _ => Op.arith (op := .sub) (d := 29) (xt := 3) (yt := 3) (k := .i64) (m := (out.length : Int)) (n := 1) (r := (-1)) (OV.tmp 28 _) (OV.const (.int .i64 1) rfl) (.inr (.inl ⟨rfl, (by omega)⟩)) (i64_id (by omega) (by omega)))] [(2, vp 6 0), (4, vp 7 0), (6, vp 9 0), (7, vi .i64 (-1)), (17, .t (.c (.own 0 t.parts.length))), (18, vi .i64 (t.parts.length : Int)), (19, vi .i64 (j : Int))] [(6, .box [.d (.raw nilV), .d (.raw (.bool false)), .d (nsl [])]), (0, .row 57 3 ((ssV Part.v t.parts).map Part.d)), (7, .box ([.own 8 out.length] ++ zi r3)), (8, .row 57 3 (out.map Part.d)), (9, .box ([.d (.raw (.int .i64 x4.v))] ++ zi x4.c))] (by kernel_rfl) h ?_; clear h; intro a w h
     refine rSeq fam0ok 10 [(1, .cmp (op := .geq) (m := (-1)) (n := 0) (b := false) .i64 rfl)] [(2, vp 6 0), (4, vp 7 0), (6, vp 9 0), (7, vi .i64 (-1)), (17, .t (.c (.own 0 t.parts.length))), (18, vi .i64 (t.parts.length : Int)), (19, vi .i64 (j : Int)), (42, vb false)] [(6, .box [.d (.raw nilV), .d (.raw (.bool false)), .d (nsl [])]), (0, .row 57 3 ((ssV Part.v t.parts).map Part.d)), (7, .box ([.own 8 out.length] ++ zi r3)), (8, .row 57 3 (out.map Part.d)), (9, .box ([.d (.raw (.int .i64 x4.v))] ++ zi x4.c))] (by kernel_rfl) h ?_; clear h; intro a w h
     refine condS false h rfl (fun hc => ?_) (fun hc => ?_)
     ·cases hc
     ·clear hc
      obtain ⟨r5, er5, vr5, or5, lr5⟩ := mkZ (v := x4.c.val) (m := x4.c.abs.length) (len_id ox4)
      refine rS fam0ok 10 [(6, .call (Fn.cast (Scopied x4.c ox4 (by omega)) (congrArg vz er5.symm)) tl_5), (8, .gen _ _ _ fun _ _ _ _ => Op.buildD (d := 65) (len := 1) (rows := [(Part.mk x4.v r5)].map Part.d) (rs := [(64, .t (.agg ([.d (.raw (.int .i64 x4.v))] ++ zi r5)))]) tb_9 (.cons (i := 0) (OV.tmp 64 _) (.nil)) (by kernel_rfl) rfl (by simp [Part.d]) (by decide) (by decide)), (9, .gen _ _ _ fun _ _ _ _ => Op.appOD (d := 66) (t := 58) (u := 65) (n := 8) (n' := 10) (len := out.length) (len' := (out ++ [(Part.mk x4.v r5)]).length) (rows := out.map Part.d) (rows2 := [(Part.mk x4.v r5)].map Part.d) (rows' := (out ++ [(Part.mk x4.v r5)]).map Part.d) tb_10 (by first | exact (List.length_map _).symm | simp) (by first | (rw [List.length_append, List.length_map]; done) | simp) (by simp) (by simp [Part.d]) (by first | omega | (simp at *; done) | (simp at *; omega)))] [(2, vp 6 0), (4, vp 7 0), (17, .t (.c (.own 0 t.parts.length))), (18, vi .i64 (t.parts.length : Int)), (19, vi .i64 (j : Int))] [(6, .box [.d (.raw nilV), .d (.raw (.bool false)), .d (nsl [])]), (0, .row 57 3 ((ssV Part.v t.parts).map Part.d)), (7, .box ([.own 10 (out ++ [(Part.mk x4.v r5)]).length] ++ zi r3)), (10, .row 57 3 ((out ++ [(Part.mk x4.v r5)]).map Part.d))] (by kernel_rfl) h ?_; clear h; intro a w h
      refine block_n ?_
      refine then_n ?_
      refine rS fam0ok 11 [(0, .add .i64 (m := (j : Int)) (n := 1) (i64_id (by omega) (by omega)))] [(2, vp 6 0), (4, vp 7 0), (17, .t (.c (.own 0 t.parts.length))), (18, vi .i64 (t.parts.length : Int)), (19, vi .i64 ((j : Int) + 1))] [(6, .box [.d (.raw nilV), .d (.raw (.bool false)), .d (nsl [])]), (0, .row 57 3 ((ssV Part.v t.parts).map Part.d)), (7, .box ([.own 10 (out ++ [(Part.mk x4.v r5)]).length] ++ zi r3)), (10, .row 57 3 ((out ++ [(Part.mk x4.v r5)]).map Part.d))] (by kernel_rfl) h ?_; clear h; intro a w h
      refine then_n ?_
      have hst : (mrgZ ((ssV Part.v t.parts).take (j + 1))) = mrgStep out x4 := by rw [hI1, show ((ssV Part.v t.parts).take (j + 1) : List Part) = (ssV Part.v t.parts).take j ++ [x4] from by rw [List.take_add_one, hx4]; rfl, mrgZ_snoc]
      have hst2 := mrg_nil hc3' hz
      replace h := renS 10 8 [(2, vp 6 0), (4, vp 7 0), (17, .t (.c (.own 0 t.parts.length))), (18, vi .i64 (t.parts.length : Int)), (19, vi .i64 ((j : Int) + 1))] [(6, .box [.d (.raw nilV), .d (.raw (.bool false)), .d (nsl [])]), (0, .row 57 3 ((ssV Part.v t.parts).map Part.d)), (7, .box ([.own 8 (out ++ [(Part.mk x4.v r5)]).length] ++ zi r3)), (8, .row 57 3 ((out ++ [(Part.mk x4.v r5)]).map Part.d))] h (by kernel_rfl) (by kernel_rfl) (by kernel_rfl)
      refine roundS (x := (j, out)) (y := ((j + 1), (out ++ [(Part.mk x4.v r5)]))) h ?_ ?_ (by kernel_rfl) (by kernel_rfl)
      ·have hnew : (out ++ [(Part.mk x4.v r5)]) = mrgStep out x4 := by rw [hst2, er5]
       exact ⟨by rw [hst]; exact hnew, (by have := at_lt hx4; omega), by rw [List.length_append]; simp only [List.length_cons, List.length_nil]; omega, by rw [hnew]; exact hI4.step (ht.get_mem (ssV_mem (List.mem_of_getElem? hx4)))⟩
      ·show (ssV Part.v t.parts).length - (j + 1) < (ssV Part.v t.parts).length - j
       have := at_lt hx4; omega
    ·obtain ⟨k, hk1⟩ : ∃ k, out.length = k + 1 := ⟨out.length - 1, by omega⟩
     refine rSeq fam0ok 11 [(3, .gen _ _ _ fun _ _ _ _ => Op.arith (op := .sub) (d := 29) (xt := 3) (yt := 3) (k := .i64) (m := (out.length : Int)) (n := 1) (r := (k : Int)) (OV.tmp 28 _) (OV.const (.int .i64 1) rfl) (.inr (.inl ⟨rfl, (by omega)⟩)) (i64_id (by omega) (by omega)))] [(2, vp 6 0), (4, vp 7 0), (6, vp 9 0), (7, vi .i64 (k : Int)), (17, .t (.c (.own 0 t.parts.length))), (18, vi .i64 (t.parts.length : Int)), (19, vi .i64 (j : Int))] [(6, .box [.d (.raw nilV), .d (.raw (.bool false)), .d (nsl [])]), (0, .row 57 3 ((ssV Part.v t.parts).map Part.d)), (7, .box ([.own 8 out.length] ++ zi r3)), (8, .row 57 3 (out.map Part.d)), (9, .box ([.d (.raw (.int .i64 x4.v))] ++ zi x4.c))] (by kernel_rfl) h ?_; clear h; intro a w h
     obtain ⟨x6, hx6⟩ : ∃ z_ : Part, out[k]? = some z_ := ⟨_, List.getElem?_eq_getElem (by first | omega | (simp at *; omega))⟩
     obtain ⟨ox6, lx6⟩ := hI4.lb (List.mem_of_getElem? hx6) (by omega)
     refine rSeq fam0ok 11 [(1, .cmp (op := .geq) (m := (k : Int)) (n := 0) (b := true) .i64 (show decide ((k : Int) ≥ 0) = true from decide_eq_true (by omega))), (6, .gen _ _ _ fun _ _ _ _ => Op.idxO (d := 36) (t := 34) (k := .i64) (n := 8) (len := out.length) (i := k) ta_0 (by first | omega | (simp at *; omega)) (OV.tmp 35 _)), (8, .gen _ _ _ fun _ _ _ _ => Op.loadR_c (d := 38) (t := 37) (n := 8) (i := k) (fo := 0) (rty := 57) (es := 3) (x := (.raw (.int .i64 x6.v))) tl_7 rfl (map_at hx6 (f := Part.d)) rfl)] [(2, vp 6 0), (4, vp 7 0), (6, vp 9 0), (7, vi .i64 (k : Int)), (17, .t (.c (.own 0 t.parts.length))), (18, vi .i64 (t.parts.length : Int)), (19, vi .i64 (j : Int)), (42, vb (x6.v == x4.v))] [(6, .box [.d (.raw nilV), .d (.raw (.bool false)), .d (nsl [])]), (0, .row 57 3 ((ssV Part.v t.parts).map Part.d)), (7, .box ([.own 8 out.length] ++ zi r3)), (8, .row 57 3 (out.map Part.d)), (9, .box ([.d (.raw (.int .i64 x4.v))] ++ zi x4.c))] (by kernel_rfl) h ?_; clear h; intro a w h
     refine condS (x6.v == x4.v) h rfl (fun hc => ?_) (fun hc => ?_)
     ·have hc4 := hc; clear hc
      have hc4' := hc4; (try simp at hc4')
      obtain ⟨r7, er7, vr7, or7, lr7⟩ := mkZ (v := x6.c.val + x4.c.val) (m := x6.c.abs.length + x4.c.abs.length + 1) (len_add ox6 ox4)
      refine rS fam0ok 11 [(6, .gen _ _ _ fun _ _ _ _ => Op.idxO (d := 49) (t := 47) (k := .i64) (n := 8) (len := out.length) (i := k) ta_0 (by first | omega | (simp at *; omega)) (OV.tmp 48 _)), (8, .gen _ _ _ fun _ _ _ _ => Op.loadR_agg (d := 51) (t := 50) (n := 8) (i := k) (fo := 1) (rty := 57) (es := 3) (xs := [.raw (.bool x6.c.neg), nsl x6.c.abs]) ia_1 rfl (map_at hx6 (f := Part.d)) rfl rfl), (11, .call (Fn.cast (SAdd x6.c x4.c ox6 ox4 (by omega) (by omega)) (congrArg vz er7.symm)) tl_9), (12, .gen _ _ _ fun _ _ _ _ => Op.idxO (d := 55) (t := 44) (k := .i64) (n := 8) (len := out.length) (i := k) ta_0 (by first | omega | (simp at *; omega)) (OV.tmp 45 _)), (14, .gen _ _ _ fun _ _ _ _ => Op.storeR (t := 56) (n := 8) (i := k) (fo := 1) (rty := 57) (es := 3) (r := Part.d x6) (ds := [.raw (.bool r7.neg), nsl r7.abs]) (rs := [(54, vz r7)]) (rows := out.map Part.d) (rows' := (out.set k (Part.mk x6.v r7)).map Part.d) ia_1 (OV.tmp 54 _) rfl rfl rfl (map_at hx6 (f := Part.d)) (by simp [Part.d]) (set_map (xs := out) (F := Part.d) k _ _ rfl))] [(2, vp 6 0), (4, vp 7 0), (17, .t (.c (.own 0 t.parts.length))), (18, vi .i64 (t.parts.length : Int)), (19, vi .i64 (j : Int))] [(6, .box [.d (.raw nilV), .d (.raw (.bool false)), .d (nsl [])]), (0, .row 57 3 ((ssV Part.v t.parts).map Part.d)), (7, .box ([.own 8 out.length] ++ zi r3)), (8, .row 57 3 ((out.set k (Part.mk x6.v r7)).map Part.d))] (by kernel_rfl) h ?_; clear h; intro a w h
      refine block_n ?_
      refine then_n ?_
      refine rS fam0ok 11 [(0, .add .i64 (m := (j : Int)) (n := 1) (i64_id (by omega) (by omega)))] [(2, vp 6 0), (4, vp 7 0), (17, .t (.c (.own 0 t.parts.length))), (18, vi .i64 (t.parts.length : Int)), (19, vi .i64 ((j : Int) + 1))] [(6, .box [.d (.raw nilV), .d (.raw (.bool false)), .d (nsl [])]), (0, .row 57 3 ((ssV Part.v t.parts).map Part.d)), (7, .box ([.own 8 out.length] ++ zi r3)), (8, .row 57 3 ((out.set k (Part.mk x6.v r7)).map Part.d))] (by kernel_rfl) h ?_; clear h; intro a w h
      refine then_n ?_
      have hst : (mrgZ ((ssV Part.v t.parts).take (j + 1))) = mrgStep out x4 := by rw [hI1, show ((ssV Part.v t.parts).take (j + 1) : List Part) = (ssV Part.v t.parts).take j ++ [x4] from by rw [List.take_add_one, hx4]; rfl, mrgZ_snoc]
      replace h := h.conv (f' := F.of [(2, vp 6 0), (4, vp 7 0), (17, .t (.c (.own 0 t.parts.length))), (18, vi .i64 (t.parts.length : Int)), (19, vi .i64 ((j : Int) + 1))] [(6, .box [.d (.raw nilV), .d (.raw (.bool false)), .d (nsl [])]), (0, .row 57 3 ((ssV Part.v t.parts).map Part.d)), (7, .box ([.own 8 (out.set k (Part.mk x6.v r7)).length] ++ zi r3)), (8, .row 57 3 ((out.set k (Part.mk x6.v r7)).map Part.d))]) (by rw [List.length_set])
      have hst2 := mrg_same hc3' hk1 hx6 (by simpa using hc4)
      refine roundS (x := (j, out)) (y := ((j + 1), (out.set k (Part.mk x6.v r7)))) h ?_ ?_ (by kernel_rfl) (by kernel_rfl)
      ·have hnew : (out.set k (Part.mk x6.v r7)) = mrgStep out x4 := by rw [hst2, er7]
       exact ⟨by rw [hst]; exact hnew, (by have := at_lt hx4; omega), by rw [List.length_set]; omega, by rw [hnew]; exact hI4.step (ht.get_mem (ssV_mem (List.mem_of_getElem? hx4)))⟩
      ·show (ssV Part.v t.parts).length - (j + 1) < (ssV Part.v t.parts).length - j
       have := at_lt hx4; omega
     ·have hc5 := hc; clear hc
      have hc5' := hc5; (try simp at hc5')
      obtain ⟨r8, er8, vr8, or8, lr8⟩ := mkZ (v := x4.c.val) (m := x4.c.abs.length) (len_id ox4)
      refine rS fam0ok 11 [(6, .call (Fn.cast (Scopied x4.c ox4 (by omega)) (congrArg vz er8.symm)) tl_5), (8, .gen _ _ _ fun _ _ _ _ => Op.buildD (d := 65) (len := 1) (rows := [(Part.mk x4.v r8)].map Part.d) (rs := [(64, .t (.agg ([.d (.raw (.int .i64 x4.v))] ++ zi r8)))]) tb_9 (.cons (i := 0) (OV.tmp 64 _) (.nil)) (by kernel_rfl) rfl (by simp [Part.d]) (by decide) (by decide)), (9, .gen _ _ _ fun _ _ _ _ => Op.appOD (d := 66) (t := 58) (u := 65) (n := 8) (n' := 11) (len := out.length) (len' := (out ++ [(Part.mk x4.v r8)]).length) (rows := out.map Part.d) (rows2 := [(Part.mk x4.v r8)].map Part.d) (rows' := (out ++ [(Part.mk x4.v r8)]).map Part.d) tb_10 (by first | exact (List.length_map _).symm | simp) (by first | (rw [List.length_append, List.length_map]; done) | simp) (by simp) (by simp [Part.d]) (by first | omega | (simp at *; done) | (simp at *; omega)))] [(2, vp 6 0), (4, vp 7 0), (17, .t (.c (.own 0 t.parts.length))), (18, vi .i64 (t.parts.length : Int)), (19, vi .i64 (j : Int))] [(6, .box [.d (.raw nilV), .d (.raw (.bool false)), .d (nsl [])]), (0, .row 57 3 ((ssV Part.v t.parts).map Part.d)), (7, .box ([.own 11 (out ++ [(Part.mk x4.v r8)]).length] ++ zi r3)), (11, .row 57 3 ((out ++ [(Part.mk x4.v r8)]).map Part.d))] (by kernel_rfl) h ?_; clear h; intro a w h
      refine block_n ?_
      refine then_n ?_
      refine rS fam0ok 12 [(0, .add .i64 (m := (j : Int)) (n := 1) (i64_id (by omega) (by omega)))] [(2, vp 6 0), (4, vp 7 0), (17, .t (.c (.own 0 t.parts.length))), (18, vi .i64 (t.parts.length : Int)), (19, vi .i64 ((j : Int) + 1))] [(6, .box [.d (.raw nilV), .d (.raw (.bool false)), .d (nsl [])]), (0, .row 57 3 ((ssV Part.v t.parts).map Part.d)), (7, .box ([.own 11 (out ++ [(Part.mk x4.v r8)]).length] ++ zi r3)), (11, .row 57 3 ((out ++ [(Part.mk x4.v r8)]).map Part.d))] (by kernel_rfl) h ?_; clear h; intro a w h
      refine then_n ?_
      have hst : (mrgZ ((ssV Part.v t.parts).take (j + 1))) = mrgStep out x4 := by rw [hI1, show ((ssV Part.v t.parts).take (j + 1) : List Part) = (ssV Part.v t.parts).take j ++ [x4] from by rw [List.take_add_one, hx4]; rfl, mrgZ_snoc]
      have hst2 := mrg_new hc3' hk1 hx6 (by simpa using hc5)
      replace h := renS 11 8 [(2, vp 6 0), (4, vp 7 0), (17, .t (.c (.own 0 t.parts.length))), (18, vi .i64 (t.parts.length : Int)), (19, vi .i64 ((j : Int) + 1))] [(6, .box [.d (.raw nilV), .d (.raw (.bool false)), .d (nsl [])]), (0, .row 57 3 ((ssV Part.v t.parts).map Part.d)), (7, .box ([.own 8 (out ++ [(Part.mk x4.v r8)]).length] ++ zi r3)), (8, .row 57 3 ((out ++ [(Part.mk x4.v r8)]).map Part.d))] h (by kernel_rfl) (by kernel_rfl) (by kernel_rfl)
      refine roundS (x := (j, out)) (y := ((j + 1), (out ++ [(Part.mk x4.v r8)]))) h ?_ ?_ (by kernel_rfl) (by kernel_rfl)
      ·have hnew : (out ++ [(Part.mk x4.v r8)]) = mrgStep out x4 := by rw [hst2, er8]
       exact ⟨by rw [hst]; exact hnew, (by have := at_lt hx4; omega), by rw [List.length_append]; simp only [List.length_cons, List.length_nil]; omega, by rw [hnew]; exact hI4.step (ht.get_mem (ssV_mem (List.mem_of_getElem? hx4)))⟩
      ·show (ssV Part.v t.parts).length - (j + 1) < (ssV Part.v t.parts).length - j
       have := at_lt hx4; omega
  ·have hc6 := hc; clear hc
   have hc6' := of_decide_eq_false hc6
   refine wp_exit ?_
   refine then_x ?_
   refine then_x ?_
   refine inBlock_exit ?_
   refine then_n ?_
   replace h := atS (sl' := [(2, vp 6 0), (4, vp 7 0)]) (lc' := [(6, .box [.d (.raw nilV), .d (.raw (.bool false)), .d (nsl [])]), (7, .box ([.own 8 out.length] ++ zi r3)), (8, .row 57 3 (out.map Part.d))]) h (by kernel_rfl) (by kernel_rfl)
   replace h := renS 8 0 [(2, vp 6 0), (4, vp 7 0)] [(6, .box [.d (.raw nilV), .d (.raw (.bool false)), .d (nsl [])]), (7, .box ([.own 0 out.length] ++ zi r3)), (0, .row 57 3 (out.map Part.d))] h (by kernel_rfl) (by kernel_rfl) (by kernel_rfl)
   refine rSeq fam0ok 12 [(2, .call (SDeleteFZ isZ out (fun p hp => SPlain2 p (hI4.lb hp (by omega)).1 (by have := (hI4.lb hp (by omega)).2; omega)) (by omega)) tl_10)] [(2, vp 6 0), (4, vp 7 0)] [(6, .box [.d (.raw nilV), .d (.raw (.bool false)), .d (nsl [])]), (7, .box ([.own 0 (out.filter (fun p => !isZ p)).length] ++ zi r3)), (0, .row 57 3 ((out.filter (fun p => !isZ p)).map Part.d))] (by kernel_rfl) h ?_; clear h; intro a w h
   refine rSeq fam0ok 12 [] [(2, vp 6 0)] [(6, .box ([.own 0 (out.filter (fun p => !isZ p)).length] ++ zi r3)), (0, .row 57 3 ((out.filter (fun p => !isZ p)).map Part.d))] (by kernel_rfl) h ?_; clear h; intro a w h
   refine wp_ret ?_
   have hj : j = (ssV Part.v t.parts).length := by omega
   have hpl : (out.filter (fun p => !isZ p)) = (plainT t).parts := by rw [hI1, hj, List.take_length, plain_law]; first | done | rfl
   replace h := h.conv (f' := F.of [(2, vp 6 0)] [(6, .box ([.own 0 (plainT t).parts.length] ++ zi r3)), (0, .row 57 3 ((out.filter (fun p => !isZ p)).map Part.d))]) (by rw [hpl])
   replace h := h.conv (f' := F.of [(2, vp 6 0)] [(6, .box ([.own 0 (plainT t).parts.length] ++ zi r3)), (0, .row 57 3 ((plainT t).parts.map Part.d))]) (congrArg (fun (z_ : List Part) => F.of [(2, vp 6 0)] [(6, .box ([.own 0 (plainT t).parts.length] ++ zi r3)), (0, .row 57 3 (z_.map Part.d))]) (show ((out.filter (fun p => !isZ p)) : List Part) = (plainT t).parts from hpl))
   refine retS [.agg ([.own 0 (plainT t).parts.length] ++ zi r3)] h Exit.ret (.inl rfl)  rfl ⟨RV.agg _ 6 0 _ _ _ _ tb_11 rfl rfl rfl rfl, trivial⟩ ?_ (by kernel_rfl) (by kernel_rfl)
   rw [er3]; first | done | rfl
theorem SPlainO (t : Term) {n L : Nat} (h : TOk n L t) (hn : n ≤ 1000) (hL : L ≤ 40000) : Fn Tryz.prog 69 [] [vd t.d] (.t (.agg ([.own 0 (plainT t).parts.length] ++ zi (plainT t).k))) [(0, .row 57 3 ((plainT t).parts.map Part.d))] :=
 have h' := h.mono hn hL
 SPlainO0 t h'.psok h'.kb h'.kl
end Go.Proofs.YtoklkfmffmonoaaGreat.S
end
section
namespace Go.Proofs.YtoklkfmffmonoaaGreat.S
open Go.RowKit

end Go.Proofs.YtoklkfmffmonoaaGreat.S
end
section
namespace Go.Proofs.YtoklkfmffmonoaaGreat.S
open Go.RowKit

theorem coef_plain (t : Term) (v : Int) : coefZ (plainT t).parts v = coefZ t.parts v := (plainT_parts t).2.2 v
theorem coef_add (s t : Term) (v : Int) : coefZ (addT s t).parts v = coefZ s.parts v + coefZ t.parts v := by
 unfold addT; rw [coef_plain, coefZ_app]
theorem coef_scale (t : Term) (q : ZI) (v : Int) : coefZ (scaleT t q).parts v = coefZ t.parts v * q.val := by
 unfold scaleT; rw [coef_plain]; exact coefZ_mul _ _ _
theorem k_add (s t : Term) : (addT s t).k.val = s.k.val + t.k.val := by simp [addT, plainT, ZI.val_of]
theorem k_scale (t : Term) (q : ZI) : (scaleT t q).k.val = t.k.val * q.val := by simp [scaleT, plainT, mulT, ZI.val_of]
theorem add_eq {s t u : Term} (h : ∀ v, coefZ s.parts v + coefZ t.parts v = coefZ u.parts v) (hk : s.k.val + t.k.val = u.k.val) : addT s t = plainT u := by
 refine plain_congr (fun v => ?_) ?_
 ·rw [coefZ_app]; exact h v
 ·rw [← hk]; exact ZI.val_of _
end Go.Proofs.YtoklkfmffmonoaaGreat.S
end
section
namespace Go.Proofs
open Go.Shelf
def Tryz.lays128_ren : Go.Shelf.Ren := ⟨fun | 128 => 129 | n => n, fun | 51 => 100 | 3 => 3 | 4 => 4 | 46 => 113 | 5 => 5 | 9 => 9 | n => n, fun | n => n⟩
theorem Tryz.lays128 : Go.Proofs.Lays.n128 Tryz.prog Tryz.lays128_ren := {
 mixed := by kernel_rfl
 f128 := Tryz.func129.trans (congrArg some (by kernel_rfl))
 t3 := Tryz.underlying3
 a3 := Tryz.isAgg3
 z3 := Tryz.sizeOf3
 v3 := Tryz.zeroValue3
 t4 := Tryz.underlying4
 a4 := Tryz.isAgg4
 z4 := Tryz.sizeOf4
 v4 := Tryz.zeroValue4
 t5 := Tryz.underlying5
 a5 := Tryz.isAgg5
 z5 := Tryz.sizeOf5
 v5 := Tryz.zeroValue5
 t9 := Tryz.underlying9
 a9 := Tryz.isAgg9
 z9 := Tryz.sizeOf9
 v9 := Tryz.zeroValue9
 t46 := Tryz.underlying113
 a46 := Tryz.isAgg113
 z46 := Tryz.sizeOf113
 v46 := Tryz.zeroValue113
 t51 := Tryz.underlying100
 a51 := Tryz.isAgg100
 z51 := Tryz.sizeOf100
 v51 := Tryz.zeroValue100 }
theorem Tryz.bits_Len32 (x : Int) (w : World) (h0 : 0 ≤ x) (h1 : x ≤ 4294967295) :
  Calls Tryz.prog 129 #[.int .u32 x] w fun e w' => e = .returned (.int .i64 (Lib.bitLen x.toNat)) ∧ w' = w := Any.bits_Len32 Tryz.lays128 x w h0 h1
end Go.Proofs
end
section
namespace Go.Proofs.YtoklkfmffmonoaaGreat
open Go.RowKit

def bl (x : Nat) : Nat := Lib.bitLen x

end Go.Proofs.YtoklkfmffmonoaaGreat
end
section
namespace Go.Proofs.YtoklkfmffmonoaaGreat
open Go.RowKit

/-! ### windows -/

end Go.Proofs.YtoklkfmffmonoaaGreat
end
section
namespace Go.Proofs.YtoklkfmffmonoaaGreat

def ch (s : ByteArray) (i : Nat) : Nat := (s.data.toList.map UInt8.toNat).getD i 0
def isd (s : ByteArray) (i : Nat) : Prop := 48 ≤ ch s i ∧ ch s i ≤ 57
def alld (s : ByteArray) (k : Nat) : Prop := ∀ i, i < k → isd s i
instance (s : ByteArray) (i : Nat) : Decidable (isd s i) := inferInstanceAs (Decidable (_ ∧ _))
instance (s : ByteArray) (k : Nat) : Decidable (alld s k) := Nat.decidableBallLT k (fun i _ => isd s i)

end Go.Proofs.YtoklkfmffmonoaaGreat
end
section
namespace Go.Proofs.YtoklkfmffmonoaaGreat
open Go.RowKit

def LbB (zs : List Nat) : Prop := ∀ z ∈ zs, z < 256

end Go.Proofs.YtoklkfmffmonoaaGreat
end
section
namespace Go.Proofs.YtoklkfmffmonoaaGreat
open Go.RowKit

end Go.Proofs.YtoklkfmffmonoaaGreat
end
section
namespace Go.Proofs.YtoklkfmffmonoaaGreat
open Go.RowKit

end Go.Proofs.YtoklkfmffmonoaaGreat
end
section
namespace Go.Proofs.YtoklkfmffmonoaaGreat

end Go.Proofs.YtoklkfmffmonoaaGreat
end
section
namespace Go.Proofs.YtoklkfmffmonoaaGreat
open Go.RowKit

theorem cells32 : (Value.int .u32 0).cells = #[Value.int .u32 0] := rfl


end Go.Proofs.YtoklkfmffmonoaaGreat
end
section
namespace Go.Proofs.YtoklkfmffmonoaaGreat
open Go.RowKit

end Go.Proofs.YtoklkfmffmonoaaGreat
end
section
namespace Go.Proofs.YtoklkfmffmonoaaGreat
open Go.RowKit

end Go.Proofs.YtoklkfmffmonoaaGreat
end
section
namespace Go.Proofs.YtoklkfmffmonoaaGreat
open Go.RowKit

end Go.Proofs.YtoklkfmffmonoaaGreat
end
section
namespace Go.Proofs.YtoklkfmffmonoaaGreat
open Go.RowKit

end Go.Proofs.YtoklkfmffmonoaaGreat
end
section
namespace Go.Proofs.YtoklkfmffmonoaaGreat

end Go.Proofs.YtoklkfmffmonoaaGreat
end
section
namespace Go.Proofs.YtoklkfmffmonoaaGreat
open Go.RowKit

end Go.Proofs.YtoklkfmffmonoaaGreat
end
section
namespace Go.Proofs.YtoklkfmffmonoaaGreat
open Go.RowKit

end Go.Proofs.YtoklkfmffmonoaaGreat
end
section
namespace Go.Proofs.YtoklkfmffmonoaaGreat
open Go.RowKit

end Go.Proofs.YtoklkfmffmonoaaGreat
end
section
namespace Go.Proofs.YtoklkfmffmonoaaGreat.S
open Go.RowKit
end Go.Proofs.YtoklkfmffmonoaaGreat.S
end
section
namespace Go.Proofs.YtoklkfmffmonoaaGreat.S
open Go.RowKit

theorem fmod_neg_range (a : Int) {b : Int} (h : b < 0) : b < a.fmod b ∧ a.fmod b ≤ 0 := by
 have h1 := Int.fmod_lt_of_pos (-a) (b := -b) (by omega)
 have h2 := Int.fmod_nonneg_of_pos (-a) (b := -b) (by omega)
 rw [Int.neg_fmod_neg] at h1 h2
 omega
theorem fmod_range (a : Int) {b : Int} (_hb : b ≠ 0) : (0 < b → 0 ≤ a.fmod b ∧ a.fmod b < b) ∧ (b < 0 → b < a.fmod b ∧ a.fmod b ≤ 0) :=
 ⟨fun h => ⟨Int.fmod_nonneg_of_pos a h, Int.fmod_lt_of_pos a h⟩, fun h => fmod_neg_range a h⟩
theorem fmod_natAbs_lt (X : Int) {Y : Int} (hY : Y ≠ 0) : (X.fmod Y).natAbs < Y.natAbs := by
 obtain ⟨h1, h2⟩ := fmod_range X hY
 rcases Int.lt_or_lt_of_ne hY with g | g
 ·have := h2 g; omega
 ·have := h1 g; omega
end Go.Proofs.YtoklkfmffmonoaaGreat.S
end
section
namespace Go.Proofs.YtoklkfmffmonoaaGreat.S
open Go.RowKit

def bez (r0 x0 y0 r1 x1 y1 : Int) : Int × Int × Int :=
  if _h : r1 ≤ 0 then (r0, x0, y0) else bez r1 x1 y1 (r0.fmod r1) (x0 - r0.fdiv r1 * x1) (y0 - r0.fdiv r1 * y1)
  termination_by r1.natAbs
  decreasing_by exact fmod_natAbs_lt _ (by omega)
end Go.Proofs.YtoklkfmffmonoaaGreat.S
end
section
namespace Go.Proofs.YtoklkfmffmonoaaGreat.S
open Go.RowKit

theorem zs_0 : Bodied Tryz.prog 77 := Bodied.mk' (by kernel_rfl)
theorem zs_3 : Bodied Tryz.prog 39 := Bodied.mk' (by kernel_rfl)
theorem zs_6 : Bodied Tryz.prog 79 := Bodied.mk' (by kernel_rfl)
theorem zs_7 : Bodied Tryz.prog 57 := Bodied.mk' (by kernel_rfl)
theorem zs_16 : Bodied Tryz.prog 95 := Bodied.mk' (by kernel_rfl)
theorem zs_18 : Bodied Tryz.prog 56 := Bodied.mk' (by kernel_rfl)
theorem SSub (x y : ZI) (hx : Lb x.abs) (hy : Lb y.abs) (lx : x.abs.length ≤ 49000) (ly : y.abs.length ≤ 49000) : Fn Tryz.prog 95 [] [vz x, vz y] (vz (ZI.of (x.val - y.val))) [] := by
 refine Fn.body Tryz.func95 rfl 9 rfl fun w H B a h => ?_
 refine rSeq fam0ok 0 [] [(2, vp 0 0), (3, vp 1 0), (4, vp 2 0)] [(0, .box (zi x)), (1, .box (zi y)), (2, .box [.d (.raw (.bool false)), .d (nsl [])])] (by kernel_rfl) h ?_; clear h; intro a w h
 obtain ⟨r1, er1, vr1, or1, lr1⟩ := mkZ (v := -y.val) (m := y.abs.length) (len_neg hy)
 obtain ⟨r2, er2, vr2, or2, lr2⟩ := mkZ (v := x.val + r1.val) (m := x.abs.length + r1.abs.length + 1) (len_add hx or1)
 refine rSeq fam0ok 3 [(2, .call (Fn.cast (SNeg y hy (by omega)) (congrArg vz er1.symm)) zs_0), (3, .call (Fn.cast (SAdd x r1 hx or1 (by omega) (by omega)) (congrArg vz er2.symm)) tl_9)] [(4, vp 2 0)] [(2, .box (zi r2))] (by kernel_rfl) h ?_; clear h; intro a w h
 refine wp_ret ?_
 refine retS [.agg (zi r2)] h Exit.ret (.inl rfl)  rfl ⟨RV.agg _ 2 0 _ _ _ _ ia_1 rfl rfl rfl rfl, trivial⟩ ?_ (by kernel_rfl) (by kernel_rfl)
 refine congrArg (fun z => vz z) (er2.trans (congrArg ZI.of ?_))
 rw [vr1]; omega
theorem SRSub (x y : ZI) (hx : Lb x.abs) (hy : Lb y.abs) (lx : x.abs.length ≤ 49000) (ly : y.abs.length ≤ 49000) : Fn Tryz.prog 57 [] [vz x, vz y] (vz (ZI.of (x.val - y.val))) [] := by
 refine Fn.body Tryz.func57 rfl 9 rfl fun w H B a h => ?_
 refine rSeq fam0ok 0 [] [(2, vp 0 0), (3, vp 1 0), (4, vp 2 0)] [(0, .box (zi x)), (1, .box (zi y)), (2, .box [.d (.raw (.bool false)), .d (nsl [])])] (by kernel_rfl) h ?_; clear h; intro a w h
 obtain ⟨r1, er1, vr1, or1, lr1⟩ := mkZ (v := -y.val) (m := y.abs.length) (len_neg hy)
 obtain ⟨r2, er2, vr2, or2, lr2⟩ := mkZ (v := x.val + r1.val) (m := x.abs.length + r1.abs.length + 1) (len_add hx or1)
 refine rSeq fam0ok 3 [(2, .call (Fn.cast (SRNeg y hy (by omega)) (congrArg vz er1.symm)) zs_3), (3, .call (Fn.cast (SRAdd x r1 hx or1 (by omega) (by omega)) (congrArg vz er2.symm)) ib_5)] [(4, vp 2 0)] [(2, .box (zi r2))] (by kernel_rfl) h ?_; clear h; intro a w h
 refine wp_ret ?_
 refine retS [.agg (zi r2)] h Exit.ret (.inl rfl)  rfl ⟨RV.agg _ 2 0 _ _ _ _ ia_1 rfl rfl rfl rfl, trivial⟩ ?_ (by kernel_rfl) (by kernel_rfl)
 refine congrArg (fun z => vz z) (er2.trans (congrArg ZI.of ?_))
 rw [vr1]; omega
theorem cmp_leaf (x y : ZI) : (sgn x.val < sgn y.val → (-1 : Int) = cmpZ x.val y.val) ∧ (¬ sgn x.val < sgn y.val → sgn x.val > sgn y.val → (1 : Int) = cmpZ x.val y.val) ∧ (¬ sgn x.val < sgn y.val → ¬ sgn x.val > sgn y.val → sgn x.val < 0 → cmpI (Go.Proofs.YtoklkfmffmonoaaGreat.val y.abs) (Go.Proofs.YtoklkfmffmonoaaGreat.val x.abs) = cmpZ x.val y.val) ∧ (¬ sgn x.val < sgn y.val → ¬ sgn x.val > sgn y.val → ¬ sgn x.val < 0 → cmpI (Go.Proofs.YtoklkfmffmonoaaGreat.val x.abs) (Go.Proofs.YtoklkfmffmonoaaGreat.val y.abs) = cmpZ x.val y.val) := by
 have e1 : ∀ z : Int, (0 < z → sgn z = 1) ∧ (z < 0 → sgn z = -1) ∧ (z = 0 → sgn z = 0) := fun z => ⟨sgn_pos, sgn_neg, sgn_zero⟩
 rcases sgn_cases x with ⟨h1, h2⟩ | ⟨h1, h2, h3⟩ | ⟨h1, h2⟩ <;> rcases sgn_cases y with ⟨k1, k2⟩ | ⟨k1, k2, k3⟩ | ⟨k1, k2⟩ <;>
  have a1 := e1 x.val <;> have a2 := e1 y.val <;> rw [h1, k1] <;> rw [h1] at a1 <;> rw [k1] at a2 <;> unfold cmpZ cmpI <;> refine ⟨fun _ => ?_, fun _ _ => ?_, fun _ _ _ => ?_, fun _ _ _ => ?_⟩ <;> first | omega | (split <;> first | omega | (split <;> first | omega | (split <;> first | omega | (split <;> omega))))
theorem SCmp (x y : ZI) (hx : Lb x.abs) (hy : Lb y.abs) (lx : x.abs.length ≤ 49000) (ly : y.abs.length ≤ 49000) : Fn Tryz.prog 32 [] [vz x, vz y] (vi .i64 (cmpZ x.val y.val)) [] := by
 refine Fn.body Tryz.func32 rfl 32 rfl fun w H B a h => ?_
 refine rSeq fam0ok 0 [] [(2, vp 0 0), (3, vp 1 0), (4, vi .i64 0)] [(0, .box (zi x)), (1, .box (zi y))] (by kernel_rfl) h ?_; clear h; intro a w h
 refine rSeq fam0ok 2 [(1, .call (SSign x hx (by omega)) td_6), (3, .call (SSign y hy (by omega)) td_6)] [(2, vp 0 0), (3, vp 1 0), (4, vi .i64 0), (5, vi .i64 (sgn x.val)), (6, vi .i64 (sgn y.val))] [(0, .box (zi x)), (1, .box (zi y))] (by kernel_rfl) h ?_; clear h; intro a w h
 refine wp_seq ?_
 refine wp_block ?_
 refine rSeq fam0ok 2 [] [(2, vp 0 0), (3, vp 1 0), (4, vi .i64 0), (5, vi .i64 (sgn x.val)), (6, vi .i64 (sgn y.val)), (11, vb (decide (sgn x.val < sgn y.val)))] [(0, .box (zi x)), (1, .box (zi y))] (by kernel_rfl) h ?_; clear h; intro a w h
 refine condS (decide (sgn x.val < sgn y.val)) h rfl (fun hc => ?_) (fun hc => ?_)
 ·have hc1 := hc; clear hc
  have hc1' := of_decide_eq_true hc1
  refine rSeq fam0ok 2 [] [(2, vp 0 0), (3, vp 1 0), (4, vi .i64 (-1))] [(0, .box (zi x)), (1, .box (zi y))] (by kernel_rfl) h ?_; clear h; intro a w h
  refine wp_ret ?_
  refine block_r ?_
  refine then_r ?_
  refine retS [.c (.d (.raw (.int .i64 (-1))))] h Exit.ret (.inl rfl)  rfl ⟨RV.tmp _ _ rfl, trivial⟩ ?_ (by kernel_rfl) (by kernel_rfl)
  exact congrArg (vi .i64) ((cmp_leaf x y).1 hc1')
 ·have hc2 := hc; clear hc
  have hc2' := of_decide_eq_false hc2
  refine rSeq fam0ok 2 [] [(2, vp 0 0), (3, vp 1 0), (4, vi .i64 0), (5, vi .i64 (sgn x.val)), (15, vb (decide (sgn x.val > sgn y.val)))] [(0, .box (zi x)), (1, .box (zi y))] (by kernel_rfl) h ?_; clear h; intro a w h
  refine condS (decide (sgn x.val > sgn y.val)) h rfl (fun hc => ?_) (fun hc => ?_)
  ·have hc3 := hc; clear hc
   have hc3' := of_decide_eq_true hc3
   refine rSeq fam0ok 2 [] [(2, vp 0 0), (3, vp 1 0), (4, vi .i64 1)] [(0, .box (zi x)), (1, .box (zi y))] (by kernel_rfl) h ?_; clear h; intro a w h
   refine wp_ret ?_
   refine block_r ?_
   refine then_r ?_
   refine retS [.c (.d (.raw (.int .i64 1)))] h Exit.ret (.inl rfl)  rfl ⟨RV.tmp _ _ rfl, trivial⟩ ?_ (by kernel_rfl) (by kernel_rfl)
   exact congrArg (vi .i64) ((cmp_leaf x y).2.1 hc2' hc3')
  ·have hc4 := hc; clear hc
   have hc4' := of_decide_eq_false hc4
   refine rSeq fam0ok 2 [] [(2, vp 0 0), (3, vp 1 0), (4, vi .i64 0), (19, vb (decide (sgn x.val < 0)))] [(0, .box (zi x)), (1, .box (zi y))] (by kernel_rfl) h ?_; clear h; intro a w h
   refine condS (decide (sgn x.val < 0)) h rfl (fun hc => ?_) (fun hc => ?_)
   ·have hc5 := hc; clear hc
    have hc5' := of_decide_eq_true hc5
    refine rSeq fam0ok 2 [(4, .call (SnCmp y.abs x.abs hy hx) zs_6)] [(2, vp 0 0), (3, vp 1 0), (4, vi .i64 (cmpI (Go.Proofs.YtoklkfmffmonoaaGreat.val y.abs) (Go.Proofs.YtoklkfmffmonoaaGreat.val x.abs)))] [(0, .box (zi x)), (1, .box (zi y))] (by kernel_rfl) h ?_; clear h; intro a w h
    refine wp_ret ?_
    refine block_r ?_
    refine then_r ?_
    refine retS [.c (.d (.raw (.int .i64 (cmpI (Go.Proofs.YtoklkfmffmonoaaGreat.val y.abs) (Go.Proofs.YtoklkfmffmonoaaGreat.val x.abs)))))] h Exit.ret (.inl rfl)  rfl ⟨RV.tmp _ _ rfl, trivial⟩ ?_ (by kernel_rfl) (by kernel_rfl)
    exact congrArg (vi .i64) ((cmp_leaf x y).2.2.1 hc2' hc4' hc5')
   ·have hc6 := hc; clear hc
    have hc6' := of_decide_eq_false hc6
    refine wp_skip ?_
    refine block_n ?_
    refine then_n ?_
    refine rSeq fam0ok 2 [(4, .call (SnCmp x.abs y.abs hx hy) zs_6)] [(4, vi .i64 (cmpI (Go.Proofs.YtoklkfmffmonoaaGreat.val x.abs) (Go.Proofs.YtoklkfmffmonoaaGreat.val y.abs)))] [] (by kernel_rfl) h ?_; clear h; intro a w h
    refine wp_ret ?_
    refine retS [.c (.d (.raw (.int .i64 (cmpI (Go.Proofs.YtoklkfmffmonoaaGreat.val x.abs) (Go.Proofs.YtoklkfmffmonoaaGreat.val y.abs)))))] h Exit.ret (.inl rfl)  rfl ⟨RV.tmp _ _ rfl, trivial⟩ ?_ (by kernel_rfl) (by kernel_rfl)
    exact congrArg (vi .i64) ((cmp_leaf x y).2.2.2 hc2' hc4' hc6')
theorem SRCmp (x y : ZI) (hx : Lb x.abs) (hy : Lb y.abs) (lx : x.abs.length ≤ 49000) (ly : y.abs.length ≤ 49000) : Fn Tryz.prog 40 [] [vz x, vz y] (vi .i64 (cmpZ x.val y.val)) [] := by
 refine Fn.body Tryz.func40 rfl 9 rfl fun w H B a h => ?_
 refine rSeq fam0ok 0 [] [(2, vp 0 0), (3, vp 1 0), (4, vi .i64 0)] [(0, .box (zi x)), (1, .box (zi y))] (by kernel_rfl) h ?_; clear h; intro a w h
 obtain ⟨r1, er1, vr1, or1, lr1⟩ := mkZ (v := x.val - y.val) (m := x.abs.length + y.abs.length + 1) (len_sub hx hy)
 refine rSeq fam0ok 2 [(2, .call (Fn.cast (SRSub x y hx hy (by omega) (by omega)) (congrArg vz er1.symm)) zs_7), (3, .call (SRSign r1 or1 (by omega)) ib_0)] [(4, vi .i64 (sgn r1.val))] [] (by kernel_rfl) h ?_; clear h; intro a w h
 refine wp_ret ?_
 refine retS [.c (.d (.raw (.int .i64 (sgn r1.val))))] h Exit.ret (.inl rfl)  rfl ⟨RV.tmp _ _ rfl, trivial⟩ ?_ (by kernel_rfl) (by kernel_rfl)
 rw [vr1, cmpZ_sgn]; first | done | rfl
end Go.Proofs.YtoklkfmffmonoaaGreat.S
end
section
namespace Go.Proofs.YtoklkfmffmonoaaGreat.S
open Go.RowKit

theorem tt_3 : Bodied Tryz.prog 72 := Bodied.mk' (by kernel_rfl)
theorem STCoef (t : Term) (v : Int) (ht : PsOk 40000 t.parts) : Fn Tryz.prog 72 [] [.t (.agg ([.d (.sl 3 (t.parts.map Part.d))] ++ zi t.k)), vi .i64 v] (vz (ZI.of (coefZ t.parts v))) [] := by
 refine Fn.body Tryz.func72 rfl 30 rfl fun w H B a h => ?_
 refine rSeq fam0ok 0 [] [(1, vi .i64 v), (2, vp 0 0), (4, vp 1 0)] [(0, .box ([.d (.sl 3 (t.parts.map Part.d))] ++ zi t.k)), (1, .box [.d (.raw (.bool false)), .d (nsl [])])] (by kernel_rfl) h ?_; clear h; intro a w h
 refine rSeq fam0ok 2 [] [(1, vi .i64 v), (2, vp 0 0), (4, vp 1 0), (5, vp 2 0)] [(0, .box ([.d (.sl 3 (t.parts.map Part.d))] ++ zi t.k)), (1, .box [.d (.raw (.bool false)), .d (nsl [])]), (2, .box [.d (.raw (.bool false)), .d (nsl [])])] (by kernel_rfl) h ?_; clear h; intro a w h
 refine wp_seq ?_
 refine rSeq fam0ok 3 [(2, .len (c := (.d (.sl 3 (t.parts.map Part.d)))) (n := t.parts.length) (lenC_map _ _ _))] [(1, vi .i64 v), (4, vp 1 0), (5, vp 2 0), (10, .t (.c (.d (.sl 3 (t.parts.map Part.d))))), (11, vi .i64 (t.parts.length : Int)), (12, vi .i64 0)] [(1, .box [.d (.raw (.bool false)), .d (nsl [])]), (2, .box [.d (.raw (.bool false)), .d (nsl [])])] (by kernel_rfl) h ?_; clear h; intro a w h
 refine wp_block ?_
 refine loopS (ι := (Nat) × (ZI)) (fun (z_ : (Nat) × (ZI)) => match z_ with | (j, out) => out = ZI.of (coefZ (t.parts.take j) v) ∧ j ≤ t.parts.length)
   (fun (z_ : (Nat) × (ZI)) => match z_ with | (j, out) => [(1, vi .i64 v), (4, vp 1 0), (5, vp 2 0), (10, .t (.c (.d (.sl 3 (t.parts.map Part.d))))), (11, vi .i64 (t.parts.length : Int)), (12, vi .i64 (j : Int))])
   (fun (z_ : (Nat) × (ZI)) => match z_ with | (j, out) => [(1, .box [.d (.raw (.bool false)), .d (nsl [])]), (2, .box (zi out))])
   (fun (z_ : (Nat) × (ZI)) => match z_ with | (j, out) => t.parts.length - j) (0, (ZI.of 0)) ?_ h (by kernel_rfl) (by kernel_rfl) ?_
 ·exact ⟨by simp [coefZ], Nat.zero_le _⟩
 ·clear h; rintro ⟨j, out⟩ a w hI h
  change St _ (F.of [(1, vi .i64 v), (4, vp 1 0), (5, vp 2 0), (10, .t (.c (.d (.sl 3 (t.parts.map Part.d))))), (11, vi .i64 (t.parts.length : Int)), (12, vi .i64 (j : Int))] [(1, .box [.d (.raw (.bool false)), .d (nsl [])]), (2, .box (zi out))]) a w at h
  obtain ⟨hI1, hI2⟩ := hI
  have ln := ht.1
  have lo : out.abs.length ≤ 40001 := by rw [hI1]; exact coef_len (ht.take j) v
  have ho : Lb out.abs := by rw [hI1]; exact ZI.lb_of _
  have vo : out.val = coefZ (t.parts.take j) v := by rw [hI1]; exact ZI.val_of _
  refine rSeq fam0ok 3 [] [(1, vi .i64 v), (4, vp 1 0), (5, vp 2 0), (10, .t (.c (.d (.sl 3 (t.parts.map Part.d))))), (11, vi .i64 (t.parts.length : Int)), (12, vi .i64 (j : Int)), (13, vb (decide ((j : Int) < (t.parts.length : Int))))] [(1, .box [.d (.raw (.bool false)), .d (nsl [])]), (2, .box (zi out))] (by kernel_rfl) h ?_; clear h; intro a w h
  refine wp_seq ?_
  refine condS (decide ((j : Int) < (t.parts.length : Int))) h rfl (fun hc => ?_) (fun hc => ?_)
  ·have hc1 := hc; clear hc
   have hc1' := of_decide_eq_true hc1
   refine wp_skip ?_
   refine then_n ?_
   refine wp_seq ?_
   refine wp_block ?_
   obtain ⟨x1, hx1⟩ : ∃ z_ : Part, t.parts[j]? = some z_ := ⟨_, List.getElem?_eq_getElem (by first | omega | (simp at *; omega))⟩
   obtain ⟨ox1, lx1⟩ := ht.get hx1
   refine rSeq fam0ok 3 [(0, .gen _ _ _ fun _ _ _ _ => Op.idxD (d := 14) (t := 10) (k := .i64) ta_0 (map_at hx1 (f := Part.d)) (OV.tmp 12 _))] [(1, vi .i64 v), (4, vp 1 0), (5, vp 2 0), (7, vp 3 0), (10, .t (.c (.d (.sl 3 (t.parts.map Part.d))))), (11, vi .i64 (t.parts.length : Int)), (12, vi .i64 (j : Int))] [(1, .box [.d (.raw (.bool false)), .d (nsl [])]), (2, .box (zi out)), (3, .box ([.d (.raw (.int .i64 x1.v))] ++ zi x1.c))] (by kernel_rfl) h ?_; clear h; intro a w h
   rcases Bool.eq_false_or_eq_true (x1.v == v) with hc | hc
   ·have hc2 := hc; clear hc
    have hc2' := hc2; (try simp at hc2')
    refine rSeq fam0ok 4 [(3, .cmp (op := .eql) (m := x1.v) (n := v) (b := true) .i64 hc2)] [(1, vi .i64 v), (4, vp 1 0), (5, vp 2 0), (7, vp 3 0), (10, .t (.c (.d (.sl 3 (t.parts.map Part.d))))), (11, vi .i64 (t.parts.length : Int)), (12, vi .i64 (j : Int)), (23, vb (decide (v ≥ 0)))] [(1, .box [.d (.raw (.bool false)), .d (nsl [])]), (2, .box (zi out)), (3, .box ([.d (.raw (.int .i64 x1.v))] ++ zi x1.c))] (by kernel_rfl) h ?_; clear h; intro a w h
    refine condS (decide (v ≥ 0)) h rfl (fun hc => ?_) (fun hc => ?_)
    ·have hc3 := hc; clear hc
     have hc3' := of_decide_eq_true hc3
     obtain ⟨r2, er2, vr2, or2, lr2⟩ := mkZ (v := out.val + x1.c.val) (m := out.abs.length + x1.c.abs.length + 1) (len_add ho ox1)
     refine rS fam0ok 4 [(3, .call (Fn.cast (SAdd out x1.c ho ox1 (by omega) (by omega)) (congrArg vz er2.symm)) tl_9)] [(1, vi .i64 v), (4, vp 1 0), (5, vp 2 0), (10, .t (.c (.d (.sl 3 (t.parts.map Part.d))))), (11, vi .i64 (t.parts.length : Int)), (12, vi .i64 (j : Int))] [(1, .box [.d (.raw (.bool false)), .d (nsl [])]), (2, .box (zi r2))] (by kernel_rfl) h ?_; clear h; intro a w h
     refine block_n ?_
     refine then_n ?_
     refine rS fam0ok 4 [(0, .add .i64 (m := (j : Int)) (n := 1) (i64_id (by omega) (by omega)))] [(1, vi .i64 v), (4, vp 1 0), (5, vp 2 0), (10, .t (.c (.d (.sl 3 (t.parts.map Part.d))))), (11, vi .i64 (t.parts.length : Int)), (12, vi .i64 ((j : Int) + 1))] [(1, .box [.d (.raw (.bool false)), .d (nsl [])]), (2, .box (zi r2))] (by kernel_rfl) h ?_; clear h; intro a w h
     refine then_n ?_
     refine roundS (x := (j, out)) (y := (j + 1, r2)) h ?_ ?_ (by kernel_rfl) (by kernel_rfl)
     ·have hc : x1.v = v ∧ 0 ≤ v := ⟨by simpa using hc2, by have := hc3'; omega⟩
      exact ⟨by rw [er2, vo, coefZ_take hx1, if_pos hc], by have := (List.getElem?_eq_some_iff.1 hx1).1; omega⟩
     ·simp; omega
    ·have hc4 := hc; clear hc
     have hc4' := of_decide_eq_false hc4
     refine wp_skip ?_
     refine block_n ?_
     refine then_n ?_
     refine rS fam0ok 4 [(0, .add .i64 (m := (j : Int)) (n := 1) (i64_id (by omega) (by omega)))] [(1, vi .i64 v), (4, vp 1 0), (5, vp 2 0), (10, .t (.c (.d (.sl 3 (t.parts.map Part.d))))), (11, vi .i64 (t.parts.length : Int)), (12, vi .i64 ((j : Int) + 1))] [(1, .box [.d (.raw (.bool false)), .d (nsl [])]), (2, .box (zi out))] (by kernel_rfl) h ?_; clear h; intro a w h
     refine then_n ?_
     refine roundS (x := (j, out)) (y := (j + 1, out)) h ?_ ?_ (by kernel_rfl) (by kernel_rfl)
     ·exact ⟨by rw [hI1, coefZ_take hx1, if_neg (fun hc => absurd hc.2 (by have := hc4'; omega)), Int.add_zero], by have := (List.getElem?_eq_some_iff.1 hx1).1; omega⟩
     ·simp; omega
   ·have hc5 := hc; clear hc
    have hc5' := hc5; (try simp at hc5')
    refine rSeq fam0ok 4 [(3, .cmp (op := .eql) (m := x1.v) (n := v) (b := false) .i64 hc5)] [(1, vi .i64 v), (4, vp 1 0), (5, vp 2 0), (7, vp 3 0), (10, .t (.c (.d (.sl 3 (t.parts.map Part.d))))), (11, vi .i64 (t.parts.length : Int)), (12, vi .i64 (j : Int)), (23, vb false)] [(1, .box [.d (.raw (.bool false)), .d (nsl [])]), (2, .box (zi out)), (3, .box ([.d (.raw (.int .i64 x1.v))] ++ zi x1.c))] (by kernel_rfl) h ?_; clear h; intro a w h
    refine condS false h rfl (fun hc => ?_) (fun hc => ?_)
    ·cases hc
    ·clear hc
     refine wp_skip ?_
     refine block_n ?_
     refine then_n ?_
     refine rS fam0ok 4 [(0, .add .i64 (m := (j : Int)) (n := 1) (i64_id (by omega) (by omega)))] [(1, vi .i64 v), (4, vp 1 0), (5, vp 2 0), (10, .t (.c (.d (.sl 3 (t.parts.map Part.d))))), (11, vi .i64 (t.parts.length : Int)), (12, vi .i64 ((j : Int) + 1))] [(1, .box [.d (.raw (.bool false)), .d (nsl [])]), (2, .box (zi out))] (by kernel_rfl) h ?_; clear h; intro a w h
     refine then_n ?_
     refine roundS (x := (j, out)) (y := (j + 1, out)) h ?_ ?_ (by kernel_rfl) (by kernel_rfl)
     ·exact ⟨by rw [hI1, coefZ_take hx1, if_neg (fun hc => absurd hc.1 (by simpa using hc5)), Int.add_zero], by have := (List.getElem?_eq_some_iff.1 hx1).1; omega⟩
     ·simp; omega
  ·have hc6 := hc; clear hc
   have hc6' := of_decide_eq_false hc6
   refine wp_exit ?_
   refine then_x ?_
   refine then_x ?_
   refine inBlock_exit ?_
   refine then_n ?_
   refine rSeq fam0ok 4 [] [(4, vp 1 0)] [(1, .box (zi out))] (by kernel_rfl) h ?_; clear h; intro a w h
   refine wp_ret ?_
   refine retS [.agg (zi out)] h Exit.ret (.inl rfl)  rfl ⟨RV.agg _ 1 0 _ _ _ _ ia_1 rfl rfl rfl rfl, trivial⟩ ?_ (by kernel_rfl) (by kernel_rfl)
   have hj : j = t.parts.length := by have := hc6'; omega
   subst hj
   rw [hI1, List.take_length]; first | done | rfl
theorem plain_vars (t : Term) : (plainT t).parts.map Part.v = varsZ t.parts := by
 show ((varsZ t.parts).map (partOf t.parts)).map Part.v = _
 rw [List.map_map]
 exact (List.map_congr_left fun v _ => rfl).trans (List.map_id _)
theorem STVars (t : Term) {n L : Nat} (ht : TOk n L t) (hn : n ≤ 1000) (hL : L ≤ 20000) : Fn Tryz.prog 85 [] [.t (.agg ([.d (.sl 3 (t.parts.map Part.d))] ++ zi t.k))] (.t (.c (.d (.sl 1 ((varsZ t.parts).map intD))))) [] := by
 have lpp := (ht.plain hn).len
 refine Fn.body Tryz.func85 rfl 21 rfl fun w H B a h => ?_
 refine rSeq fam0ok 0 [] [(1, vp 0 0), (2, .t (.c (.d (.raw nilV))))] [(0, .box ([.d (.sl 3 (t.parts.map Part.d))] ++ zi t.k))] (by kernel_rfl) h ?_; clear h; intro a w h
 refine rSeq fam0ok 1 [] [(1, vp 0 0), (2, .t (.c (.d (.raw nilV)))), (3, .t (.c (.d (.raw nilV))))] [(0, .box ([.d (.sl 3 (t.parts.map Part.d))] ++ zi t.k))] (by kernel_rfl) h ?_; clear h; intro a w h
 refine wp_seq ?_
 replace h := nilOSs 3 0 1 1 3 (.t (.c (.d (.raw nilV)))) [(1, vp 0 0), (2, .t (.c (.d (.raw nilV)))), (3, .t (.c (.own 1 0)))] [(0, .box ([.d (.sl 3 (t.parts.map Part.d))] ++ zi t.k)), (1, .row 3 1 ([].map intD))] h (by kernel_rfl) rfl rfl (by kernel_rfl) (by kernel_rfl)
 refine rSeq fam0ok 2 [(1, .call (SPlain t ht (by omega) (by omega)) tm_7), (3, .len (c := (.d (.sl 3 ((plainT t).parts.map Part.d)))) (n := (plainT t).parts.length) (lenC_map _ _ _))] [(2, .t (.c (.d (.raw nilV)))), (3, .t (.c (.own 1 0))), (8, .t (.c (.d (.sl 3 ((plainT t).parts.map Part.d))))), (9, vi .i64 ((plainT t).parts.length : Int)), (10, vi .i64 0)] [(1, .row 3 1 ([].map intD))] (by kernel_rfl) h ?_; clear h; intro a w h
 refine wp_block ?_
 refine loopS (ι := (Nat) × (List Int)) (fun (z_ : (Nat) × (List Int)) => match z_ with | (j, out) => out = ((plainT t).parts.take j).map Part.v ∧ j ≤ (plainT t).parts.length ∧ out.length ≤ j)
   (fun (z_ : (Nat) × (List Int)) => match z_ with | (j, out) => [(2, .t (.c (.d (.raw nilV)))), (3, .t (.c (.own 1 out.length))), (8, .t (.c (.d (.sl 3 ((plainT t).parts.map Part.d))))), (9, vi .i64 ((plainT t).parts.length : Int)), (10, vi .i64 (j : Int))])
   (fun (z_ : (Nat) × (List Int)) => match z_ with | (j, out) => [(1, .row 3 1 (out.map intD))])
   (fun (z_ : (Nat) × (List Int)) => match z_ with | (j, out) => (plainT t).parts.length - j) (0, []) ?_ h (by kernel_rfl) (by kernel_rfl) ?_
 ·exact ⟨by simp, Nat.zero_le _, Nat.zero_le _⟩
 ·clear h; rintro ⟨j, out⟩ a w hI h
  change St _ (F.of [(2, .t (.c (.d (.raw nilV)))), (3, .t (.c (.own 1 out.length))), (8, .t (.c (.d (.sl 3 ((plainT t).parts.map Part.d))))), (9, vi .i64 ((plainT t).parts.length : Int)), (10, vi .i64 (j : Int))] [(1, .row 3 1 (out.map intD))]) a w at h
  obtain ⟨hI1, hI2, hI3⟩ := hI
  refine rSeq fam0ok 2 [] [(2, .t (.c (.d (.raw nilV)))), (3, .t (.c (.own 1 out.length))), (8, .t (.c (.d (.sl 3 ((plainT t).parts.map Part.d))))), (9, vi .i64 ((plainT t).parts.length : Int)), (10, vi .i64 (j : Int)), (11, vb (decide ((j : Int) < ((plainT t).parts.length : Int))))] [(1, .row 3 1 (out.map intD))] (by kernel_rfl) h ?_; clear h; intro a w h
  refine wp_seq ?_
  refine condS (decide ((j : Int) < ((plainT t).parts.length : Int))) h rfl (fun hc => ?_) (fun hc => ?_)
  ·have hc1 := hc; clear hc
   have hc1' := of_decide_eq_true hc1
   refine wp_skip ?_
   refine then_n ?_
   refine wp_seq ?_
   refine wp_block ?_
   obtain ⟨x2, hx2⟩ : ∃ z_ : Part, (plainT t).parts[j]? = some z_ := ⟨_, List.getElem?_eq_getElem (by first | omega | (simp at *; omega))⟩
   refine rSeq fam0ok 2 [(0, .gen _ _ _ fun _ _ _ _ => Op.idxD (d := 12) (t := 8) (k := .i64) ta_0 (map_at hx2 (f := Part.d)) (OV.tmp 10 _))] [(2, .t (.c (.d (.raw nilV)))), (3, .t (.c (.own 1 out.length))), (5, vp 2 0), (8, .t (.c (.d (.sl 3 ((plainT t).parts.map Part.d))))), (9, vi .i64 ((plainT t).parts.length : Int)), (10, vi .i64 (j : Int))] [(1, .row 3 1 (out.map intD)), (2, .box ([.d (.raw (.int .i64 x2.v))] ++ zi x2.c))] (by kernel_rfl) h ?_; clear h; intro a w h
   refine rS fam0ok 3 [(3, .gen _ _ _ fun _ _ _ _ => Op.buildD (d := 17) (len := 1) (rows := [x2.v].map intD) (rs := [(16, vi .i64 x2.v)]) tb_0 (.cons (i := 0) (OV.tmp 16 _) (.nil)) (by kernel_rfl) rfl (by simp [intD]) (by decide) (by decide)), (4, .gen _ _ _ fun _ _ _ _ => Op.appOD (d := 18) (t := 14) (u := 17) (n := 1) (n' := 3) (len := out.length) (len' := (out ++ [x2.v]).length) (rows := out.map intD) (rows2 := [x2.v].map intD) (rows' := (out ++ [x2.v]).map intD) tb_2 (by first | exact (List.length_map _).symm | simp) (by first | (rw [List.length_append, List.length_map]; done) | simp) (by simp) (by simp [intD]) (by first | omega | (simp at *; done) | (simp at *; omega)))] [(2, .t (.c (.d (.raw nilV)))), (3, .t (.c (.own 3 (out ++ [x2.v]).length))), (8, .t (.c (.d (.sl 3 ((plainT t).parts.map Part.d))))), (9, vi .i64 ((plainT t).parts.length : Int)), (10, vi .i64 (j : Int))] [(3, .row 3 1 ((out ++ [x2.v]).map intD))] (by kernel_rfl) h ?_; clear h; intro a w h
   refine block_n ?_
   refine then_n ?_
   refine rS fam0ok 4 [(0, .add .i64 (m := (j : Int)) (n := 1) (i64_id (by omega) (by omega)))] [(2, .t (.c (.d (.raw nilV)))), (3, .t (.c (.own 3 (out ++ [x2.v]).length))), (8, .t (.c (.d (.sl 3 ((plainT t).parts.map Part.d))))), (9, vi .i64 ((plainT t).parts.length : Int)), (10, vi .i64 ((j : Int) + 1))] [(3, .row 3 1 ((out ++ [x2.v]).map intD))] (by kernel_rfl) h ?_; clear h; intro a w h
   refine then_n ?_
   replace h := renS 3 1 [(2, .t (.c (.d (.raw nilV)))), (3, .t (.c (.own 1 (out ++ [x2.v]).length))), (8, .t (.c (.d (.sl 3 ((plainT t).parts.map Part.d))))), (9, vi .i64 ((plainT t).parts.length : Int)), (10, vi .i64 ((j : Int) + 1))] [(1, .row 3 1 ((out ++ [x2.v]).map intD))] h (by kernel_rfl) (by kernel_rfl) (by kernel_rfl)
   refine roundS (x := (j, out)) (y := ((j + 1), (out ++ [x2.v]))) h ?_ ?_ (by kernel_rfl) (by kernel_rfl)
   ·refine ⟨?_, by have := at_lt hx2; omega, by simp; omega⟩
    rw [take_map hx2, ← hI1]
   ·show (plainT t).parts.length - (j + 1) < (plainT t).parts.length - j
    have := at_lt hx2; omega
  ·have hc2 := hc; clear hc
   have hc2' := of_decide_eq_false hc2
   refine wp_exit ?_
   refine then_x ?_
   refine then_x ?_
   refine inBlock_exit ?_
   refine then_n ?_
   have hj : j = (plainT t).parts.length := by omega
   rw [hj, List.take_length, plain_vars] at hI1
   replace h := h.conv (f' := F.of [(2, .t (.c (.d (.raw nilV)))), (3, .t (.c (.own 1 out.length))), (8, .t (.c (.d (.sl 3 ((plainT t).parts.map Part.d))))), (9, vi .i64 ((plainT t).parts.length : Int)), (10, vi .i64 (j : Int)), (11, vb (decide ((j : Int) < ((plainT t).parts.length : Int))))] [(1, .row 3 1 ((varsZ t.parts).map intD))]) (congrArg (fun (z_ : List Int) => F.of [(2, .t (.c (.d (.raw nilV)))), (3, .t (.c (.own 1 out.length))), (8, .t (.c (.d (.sl 3 ((plainT t).parts.map Part.d))))), (9, vi .i64 ((plainT t).parts.length : Int)), (10, vi .i64 (j : Int)), (11, vb (decide ((j : Int) < ((plainT t).parts.length : Int))))] [(1, .row 3 1 (z_.map intD))]) (show (out : List Int) = (varsZ t.parts) from hI1))
   replace h := h.conv (f' := F.of [(2, .t (.c (.d (.raw nilV)))), (3, .t (.c (.own 1 (varsZ t.parts).length))), (8, .t (.c (.d (.sl 3 ((plainT t).parts.map Part.d))))), (9, vi .i64 ((plainT t).parts.length : Int)), (10, vi .i64 (j : Int)), (11, vb (decide ((j : Int) < ((plainT t).parts.length : Int))))] [(1, .row 3 1 ((varsZ t.parts).map intD))]) (by rw [hI1])
   replace h := pubS 1 1 3 ((varsZ t.parts).map intD) [(2, .t (.c (.d (.raw nilV)))), (3, .t (.c (.d (.sl 1 ((varsZ t.parts).map intD))))), (8, .t (.c (.d (.sl 3 ((plainT t).parts.map Part.d))))), (9, vi .i64 ((plainT t).parts.length : Int)), (10, vi .i64 (j : Int)), (11, vb (decide ((j : Int) < ((plainT t).parts.length : Int))))] [] h rfl (show AllEq _ [(varsZ t.parts).length] from ⟨by first | exact (List.length_map _).symm | simp, trivial⟩) trivial (by kernel_rfl) (by kernel_rfl)
   refine rSeq fam0ok 4 [] [(2, .t (.c (.d (.sl 1 ((varsZ t.parts).map intD)))))] [] (by kernel_rfl) h ?_; clear h; intro a w h
   refine wp_ret ?_
   refine retS [.c (.d (.sl 1 ((varsZ t.parts).map intD)))] h Exit.ret (.inl rfl)  rfl ⟨RV.tmp _ _ rfl, trivial⟩ ?_ (by kernel_rfl) (by kernel_rfl)
   rfl
end Go.Proofs.YtoklkfmffmonoaaGreat.S
end
section
namespace Go.Proofs.YtoklkfmffmonoaaGreat.S
def idxB {α : Type} (pr : α → Bool) : List α → Nat → Int
  | [], _ => -1
  | p :: ps, n => if pr p = true then n else idxB pr ps (n + 1)
theorem idxB_at {α : Type} {pr : α → Bool} {xs : List α} {j : Nat} {p : α} (h : xs[j]? = some p) : idxB pr (xs.drop j) j = if pr p = true then (j : Int) else idxB pr (xs.drop (j + 1)) (j + 1) := by
 obtain ⟨hj, rfl⟩ := List.getElem?_eq_some_iff.1 h
 rw [List.drop_eq_getElem_cons hj]; rfl
theorem idxB_cases {α : Type} (pr : α → Bool) : ∀ (xs : List α) (n : Nat), (idxB pr xs n = -1 ∧ ∀ x ∈ xs, pr x = false) ∨ ∃ k x, idxB pr xs n = ((n + k : Nat) : Int) ∧ xs[k]? = some x ∧ pr x = true ∧ ∀ y ∈ xs.take k, pr y = false
 | [], n => .inl ⟨rfl, fun x hx => (by cases hx)⟩
 | p :: ps, n => by
  cases hp : pr p with
  | true => exact .inr ⟨0, p, by simp [idxB, hp], rfl, hp, fun y hy => by simp at hy⟩
  | false =>
   rcases idxB_cases pr ps (n + 1) with ⟨h1, h2⟩ | ⟨k, x, h1, h2, h3, h4⟩
   ·exact .inl ⟨by simp [idxB, hp, h1], fun x hx => (List.mem_cons.1 hx).elim (fun e => e ▸ hp) (h2 x)⟩
   ·exact .inr ⟨k + 1, x, by simp only [idxB, hp, Bool.false_eq_true, if_false, h1]; omega, h2, h3, fun y hy => by rw [List.take_succ_cons] at hy; exact (List.mem_cons.1 hy).elim (fun e => e ▸ hp) (h4 y)⟩
theorem idxB_any {α : Type} (pr : α → Bool) (xs : List α) : decide (idxB pr xs 0 ≥ 0) = xs.any pr := by
 rcases idxB_cases pr xs 0 with ⟨h1, h2⟩ | ⟨k, x, h1, h2, h3, _⟩
 ·rw [h1]
  cases h : xs.any pr with
  | false => rfl
  | true => obtain ⟨x, hx, hp⟩ := List.any_eq_true.1 h; rw [h2 x hx] at hp; cases hp
 ·rw [h1, decide_eq_true (by omega)]
  exact (List.any_eq_true.2 ⟨x, List.mem_of_getElem? h2, h3⟩).symm
structure RelD where
  t : Term
  eq : Bool
def RelD.d (x : RelD) : List D := [.sl 3 (x.t.parts.map Part.d), .raw (.bool x.t.k.neg), nsl x.t.k.abs, .raw (.bool x.eq)]
end Go.Proofs.YtoklkfmffmonoaaGreat.S
end
section
namespace Go.Proofs.YtoklkfmffmonoaaGreat.S
open Go.RowKit

section
variable {P : Program}
theorem TyOk.fnc {t : TypeId} {z : C} {dd : TypeDesc} (hu : P.underlying t = some dd) (ha : (match dd with | .struct _ | .array _ _ => true | _ => false) = false) (hs : (P.info? t).map (·.size) = some 1) (hz : Zero P t [z]) : TyOk P t ⟨1, false, [], [z], 4⟩ :=
 ⟨Sz.mk' hs hu _ ha.symm, fun k off n ag h => (by simp at h), fun _ => hz, fun h => absurd rfl h, fun h => (by cases h), fun h => (by cases h), fun h => (by cases h), fun k h => (by cases h)⟩
theorem Op.makeFs {d : Nat} {fn : Go.Fn} (ts : List (Nat × Nat × Nat)) {ty : TypeId} {pos af gd} :
  OpOk P ⟨some d, .makeFunc fn #[] ⟨ts.map fun p => .tmp p.1⟩, ty, pos, af, gd⟩ { rs := ts.map fun p => (p.1, vp p.2.1 p.2.2), ws := [(d, some (.t (.c (.fn fn [] (ts.map fun p => A.ptr p.2.1 p.2.2)))))] } :=
 OpOk.value d _ rfl rfl rfl fun e f H B a w hok hr => by
  refine ⟨.func fn #[] ⟨ts.map fun p => a.eval (.tmp p.1)⟩, ?_, [], ts.map fun p => a.eval (.tmp p.1), rfl, trivial, ?_⟩
  ·simp [execOp, Instr.makeFunc, Function.comp_def]
  ·have h1 : ∀ p ∈ ts, AR H B (.ptr p.2.1 p.2.2) (a.eval (.tmp p.1)) := fun p hp => hok.slot p.1 _ (hr.1 (p.1, vp p.2.1 p.2.2) (List.mem_map.2 ⟨p, hp, rfl⟩))
   clear hr
   induction ts with
   | nil => trivial
   | cons p ts ih => exact ⟨h1 p (by simp), ih fun q hq => h1 q (by simp [hq])⟩
end
theorem all_take {α : Type} {q : α → Bool} {xs : List α} {j : Nat} {x : α} (h : xs[j]? = some x) : (xs.take (j + 1)).all q = ((xs.take j).all q && q x) := by
 have e : xs.take (j + 1) = xs.take j ++ [x] := by rw [List.take_add_one, h]; rfl
 rw [e, List.all_append]; simp
theorem all_step {α : Type} {q : α → Bool} {xs : List α} {j : Nat} {x : α} (h : xs[j]? = some x) (h1 : (xs.take j).all q = true) (h2 : q x = true) : (xs.take (j + 1)).all q = true := by rw [all_take h, h1, h2]; rfl
theorem all_stop {α : Type} {q : α → Bool} {xs : List α} {j : Nat} {x : α} (h : xs[j]? = some x) (h2 : q x = false) : xs.all q = false := by
 cases h3 : xs.all q with
 | false => rfl
 | true => rw [List.all_eq_true.1 h3 x (List.mem_of_getElem? h)] at h2; cases h2
theorem all_end {α : Type} {q : α → Bool} {xs : List α} {j : Nat} (hj : ¬ (j : Int) < (xs.length : Int)) (h1 : (xs.take j).all q = true) : xs.all q = true := by rwa [List.take_of_length_le (by omega)] at h1
def fewR (L : Int) (r : RelD) : Bool := decide ((r.t.parts.length : Int) ≤ 20) && decide ((r.t.k.abs.length : Int) ≤ L) && r.t.parts.all fun p => decide ((p.c.abs.length : Int) ≤ L)
def TokR (L : Nat) (r : RelD) : Prop := TOk 20 L r.t
theorem fewR_ok {L : Nat} {r : RelD} (h : fewR L r = true) (hl : TLb r.t) : TokR L r := by
 simp only [fewR, Bool.and_eq_true, decide_eq_true_eq, List.all_eq_true] at h
 exact ⟨by omega, fun p hp => ⟨hl.2 p hp, by have := h.2 p hp; omega⟩, hl.1, by omega⟩
end Go.Proofs.YtoklkfmffmonoaaGreat.S
end
section
namespace Go.Proofs.YtoklkfmffmonoaaGreat.S
open Go.RowKit

theorem kc_3 : SlT Tryz.prog 22 45 4 := SlT.mk' Tryz.underlying22 (by kernel_rfl)
theorem kc_5 : ElZ Tryz.prog 22 45 4 := ElZ.mk' Tryz.underlying22 _ _ rfl rfl (by kernel_rfl) (by kernel_rfl) (by kernel_rfl) (by decide)
theorem kc_6 : Bodied Tryz.prog 10 := Bodied.mk' (by kernel_rfl)
def fewRs (rs : List RelD) (most L : Int) : Bool := decide ((rs.length : Int) ≤ most) && rs.all (fewR L)
end Go.Proofs.YtoklkfmffmonoaaGreat.S
end
section
namespace Go.Proofs.YtoklkfmffmonoaaGreat.S
open Go.RowKit

end Go.Proofs.YtoklkfmffmonoaaGreat.S
end
section
namespace Go.Proofs.YtoklkfmffmonoaaGreat.S
open Go.RowKit

section
variable {P : Program}
theorem Op.appOO {d t u n n' sn len len2 len' es bs : Nat} {rows rows2 rows' : List (List D)} {xt el ty : TypeId} {pos af gd} (hT : ElT P xt el es bs) (hlen : len = rows.length) (hlen2 : len2 = rows2.length) (hlen' : len' = len + rows2.length) (hrow : rows ++ rows2 = rows')
  (hb : (len + rows2.length) * bs ≤ 140737488355328) :
  OpOk P ⟨some d, .call { callee := .builtin .append, args := #[.tmp t, .tmp u], argTypes := #[xt, xt] }, ty, pos, af, gd⟩
   { rs := [(t, .t (.c (.own n len))), (u, .t (.c (.own sn len2)))], rl := [(n, .row el es rows), (sn, .row el es rows2)], ws := [(d, some (.t (.c (.own n' len'))))], wl := [(n', some (.row el es rows')), (n, none)], nw := [n'] } := by
 rintro e f a w Q ⟨H, B, hok⟩ hr hnw hb0
 subst hlen hlen2 hlen' hrow
 have hnew := hnw n' (by simp)
 have hl := hr.2 (n, .row el es rows) (by simp)
 have h1 : CR H B (.own n rows.length) (a.eval (.tmp t)) := hok.slot t _ (hr.1 (t, .t (.c (.own n rows.length))) (by simp))
 have hl2 := hr.2 (sn, .row el es rows2) (by simp)
 have h2 : CR H B (.own sn rows2.length) (a.eval (.tmp u)) := hok.slot u _ (hr.1 (u, .t (.c (.own sn rows2.length))) (by simp))
 have hes2 : ∀ r ∈ rows2, r.length = es := by
  cases hB : B sn with
  | none => have := hok.loc sn _ hl2; simp only [LR, hB] at this; rw [this]; intro r hr; cases hr
  | some q => obtain ⟨_, _, _, _, _, g5, _⟩ := hok.row hl2 hB; exact g5
 have hsrc : (rows2 = [] ∧ ∃ ao c, a.eval (.tmp u) = .slice ao 0 c) ∨ (0 < rows2.length ∧ ∃ b c news, a.eval (.tmp u) = .slice (some ⟨b, 0, none⟩) rows2.length c ∧ news.length = rows2.length * es ∧ (∀ j u, news[j]? = some u → w.cell? ((⟨b, 0, none⟩ : Addr).add j) = some u) ∧ RowAt H news es rows2 ∧ (∀ u ∈ news, u.oneCell' = true)) := by
  simp only [CR] at h2
  cases hB : B sn with
  | none => rw [hB] at h2; obtain ⟨h3, ao, h4⟩ := h2; exact .inl ⟨List.length_eq_zero_iff.1 h3, ao, 0, h4⟩
  | some q =>
   obtain ⟨b, c⟩ := q
   rw [hB] at h2
   obtain ⟨arr, g1, g2, g3, g4, g5, g6⟩ := hok.row hl2 hB
   by_cases hz0 : rows2.length = 0
   ·exact .inl ⟨List.length_eq_zero_iff.1 hz0, _, c, by rw [h2, hz0]⟩
   ·have hle : rows2.length * es ≤ c * es := Nat.mul_le_mul_right _ g3
    refine .inr ⟨by omega, b, c, arr.take (rows2.length * es), h2, by rw [List.length_take]; omega, fun j u hu => ?_, fun i r hri f x hx2 => ?_, fun u hu => ?_⟩
    ·rw [List.getElem?_take] at hu
     split at hu
     ·rw [Addr.add_mid, Nat.zero_add]; simp [World.cell?, g1, hu]
     ·cases hu
    ·obtain ⟨u, k1, k2⟩ := g6 i r hri f x hx2
     refine ⟨u, ?_, k2⟩
     have hi2 := (List.getElem?_eq_some_iff.1 hri).1
     have hf2 := (List.getElem?_eq_some_iff.1 hx2).1
     rw [g5 r (List.mem_of_getElem? hri)] at hf2
     have : (i + 1) * es ≤ rows2.length * es := Nat.mul_le_mul_right _ hi2
     rw [Nat.add_mul] at this
     rw [List.getElem?_take, if_pos (by omega)]; exact k1
    ·obtain ⟨j, hj⟩ := List.mem_iff_getElem?.1 hu
     have hj1 := (List.getElem?_eq_some_iff.1 hj).1
     rw [List.length_take] at hj1
     have hes0 : 0 < es := Nat.pos_of_ne_zero fun e => by simp [e] at hj1
     have h5 : j / es < rows2.length := Nat.div_lt_of_lt_mul (by rw [Nat.mul_comm]; omega)
     have h6 : j % es < es := Nat.mod_lt _ hes0
     have h7 : (rows2[j / es]'h5).length = es := g5 _ (List.getElem_mem h5)
     obtain ⟨u2, k1, k2⟩ := g6 (j / es) _ (List.getElem?_eq_getElem h5) (j % es) _ (List.getElem?_eq_getElem (by rw [h7]; exact h6))
     have h8 : j / es * es + j % es = j := by rw [Nat.mul_comm]; exact Nat.div_add_mod j es
     rw [h8] at k1
     rw [List.getElem?_take, if_pos (by omega), k1] at hj
     injection hj with hj
     subst hj
     exact flat_one (DR.flat k2)
 obtain ⟨i, z, hi, hz, hsz, hby, hzs⟩ := hT.ex
 have hne : n ≠ n' := fun e => by have := hnew.2.1; rw [← e, hl] at this; cases this
 have hlr := hok.loc n _ hl
 have hml : rows.length + rows2.length ≤ maxLen := by
  have : (rows.length + rows2.length) * 1 ≤ (rows.length + rows2.length) * bs := Nat.mul_le_mul_left _ hT.bpos
  simp only [maxLen]; omega
 -- the run, the new block
 have main : ∃ v w' p, (Builtin.append_ #[xt, xt] ty #[a.eval (.tmp t), a.eval (.tmp u)]).run P w = .ok v w' ∧ CR H (fun x => if x = n' then p else B x) (.own n' (rows.length + rows2.length)) v ∧
   LR H (fun x => if x = n' then p else B x) w' n' (.row el es (rows ++ rows2)) ∧ w'.os = w.os ∧ w'.tape = w.tape ∧ w'.output = w.output ∧ w.heap.size ≤ w'.heap.size ∧ (∀ k, k < w.heap.size → (∀ c, B n ≠ some (k, c)) → w'.heap[k]? = w.heap[k]?) ∧
   (∀ b c, p = some (b, c) → b < w'.heap.size ∧ ((∃ c', B n = some (b, c')) ∨ w.heap.size ≤ b)) := by
  generalize a.eval (.tmp t) = vt at h1
  generalize a.eval (.tmp u) = vu at hsrc
  -- nothing is added
  have empty : ∀ ao c, rows2 = [] → ∃ v w' p, (Builtin.append_ #[xt, xt] ty #[vt, .slice ao 0 c]).run P w = .ok v w' ∧ CR H (fun x => if x = n' then p else B x) (.own n' (rows.length + rows2.length)) v ∧
    LR H (fun x => if x = n' then p else B x) w' n' (.row el es (rows ++ rows2)) ∧ w'.os = w.os ∧ w'.tape = w.tape ∧ w'.output = w.output ∧ w.heap.size ≤ w'.heap.size ∧ (∀ k, k < w.heap.size → (∀ c, B n ≠ some (k, c)) → w'.heap[k]? = w.heap[k]?) ∧
    (∀ b c, p = some (b, c) → b < w'.heap.size ∧ ((∃ c', B n = some (b, c')) ∨ w.heap.size ≤ b)) := by
   rintro ao c rfl
   have hrun : ∀ base m cap, m ≤ cap → (Builtin.append_ #[xt, xt] ty #[.slice base m cap, .slice ao 0 c]).run P w = .ok (.slice base m cap) w := by
    intro base m cap hmc
    cases ao <;> cases base <;> simp [Builtin.append_, run_underlying hT.hu, sizeOf, typeInfo, hi, Builtin.lenOf, hmc, Builtin.firstCells, loadCells, loadCellsFrom, storeCells]
   refine ⟨vt, w, B n, ?_, ?_, ?_, rfl, rfl, rfl, Nat.le_refl _, fun _ _ _ => rfl, fun b c hb => ⟨(hok.priv n _ b c hl hb).1, .inl ⟨c, hb⟩⟩⟩
   ·simp only [CR] at h1
    cases hB : B n with
    | none => rw [hB] at h1; obtain ⟨_, ao0, h1⟩ := h1; rw [h1]; exact hrun ao0 0 0 (Nat.le_refl _)
    | some q =>
     obtain ⟨b, cc⟩ := q
     rw [hB] at h1
     obtain ⟨arr, g1, g2, g3, g4, g5, g6⟩ := hok.row hl hB
     rw [h1]; exact hrun _ _ _ g3
   ·simp only [CR, if_true, List.length_nil, Nat.add_zero] at h1 ⊢; exact h1
   ·simp only [LR, if_true, List.append_nil] at hlr ⊢; exact hlr
  rcases hsrc with ⟨hz0, ao, c, rfl⟩ | ⟨hp, b, c, news, rfl, n1, n2, n3, n4⟩
  ·exact empty ao c hz0
  ·obtain ⟨vt0, hvt0, hblk, hown⟩ : ∃ vt0, (Builtin.append_ #[xt, xt] ty #[vt, .slice (some ⟨b, 0, none⟩) rows2.length c]).run P w = (Builtin.append_ #[xt, xt] ty #[vt0, .slice (some ⟨b, 0, none⟩) rows2.length c]).run P w ∧ vt0.ownBlock = (B n).map (·.1) ∧ ∃ xs, w.ownsRow 0 el es vt0 rows.length xs ∧ RowAt H xs es rows := by
    simp only [CR] at h1
    cases hB : B n with
    | none =>
     simp only [LR, hB] at hlr
     rw [hB] at h1
     subst hlr
     obtain ⟨_, ao0, rfl⟩ := h1
     refine ⟨.slice none 0 0, ?_, rfl, [], ⟨by simp, .inl ⟨rfl, rfl⟩⟩, fun i r hr => by simp at hr⟩
     cases ao0 with
     | none => rfl
     | some a0 => exact append_base0 hT.hu hi hz hsz a0 n1 n2 hp (by simpa using hml) (by rw [hby]; simpa using hb)
    | some q =>
     obtain ⟨b2, cc⟩ := q
     rw [hB] at h1
     obtain ⟨arr2, g1, g2, g3, g4, g5, g6⟩ := hok.row hl hB
     have hle : rows.length * es ≤ cc * es := Nat.mul_le_mul_right _ g3
     refine ⟨vt, rfl, by rw [h1]; rfl, arr2.take (rows.length * es), ⟨by rw [List.length_take]; omega, .inr ⟨b2, cc, ⟨arr2⟩, h1, Nat.zero_le _, g1, g3, g4, by simpa using g2, rfl⟩⟩, ?_⟩
     intro i r hri f x hx2
     obtain ⟨u, k1, k2⟩ := g6 i r hri f x hx2
     refine ⟨u, ?_, k2⟩
     have hi2 := (List.getElem?_eq_some_iff.1 hri).1
     have hf2 := (List.getElem?_eq_some_iff.1 hx2).1
     rw [g5 r (List.mem_of_getElem? hri)] at hf2
     have : (i + 1) * es ≤ rows.length * es := Nat.mul_le_mul_right _ hi2
     rw [Nat.add_mul] at this
     rw [List.getElem?_take, if_pos (by omega)]; exact k1
   obtain ⟨xs, hown, hxs⟩ := hown
   obtain ⟨v', w', r1, r2, r3, r4⟩ := run_append_own (P := P) w 0 xt ty el i z es bs hT.hu hi hz hsz hby hzs hT.pos vt0 rows.length xs hown ⟨b, 0, none⟩ rows2.length c news n1 n2 n4 hml hb (Nat.zero_le _)
   have hall : ∀ r ∈ rows ++ rows2, r.length = es := by
    intro r hr2
    rcases List.mem_append.1 hr2 with h' | h'
    ·cases hB : B n with
     | none => simp only [LR, hB] at hlr; rw [hlr] at h'; cases h'
     | some q => obtain ⟨_, _, _, _, _, g5, _⟩ := hok.row hl hB; exact g5 r h'
    ·exact hes2 r h'
   have hboth : RowAt H (xs ++ news) es (rows ++ rows2) := by
    intro i2 r hri f x hx2
    by_cases hlt : i2 < rows.length
    ·rw [List.getElem?_append_left hlt] at hri
     obtain ⟨u, k1, k2⟩ := hxs i2 r hri f x hx2
     exact ⟨u, by rw [List.getElem?_append_left (List.getElem?_eq_some_iff.1 k1).1]; exact k1, k2⟩
    ·rw [List.getElem?_append_right (by omega)] at hri
     obtain ⟨u, k1, k2⟩ := n3 _ r hri f x hx2
     refine ⟨u, ?_, k2⟩
     have hq : rows.length * es ≤ i2 * es := Nat.mul_le_mul_right _ (by omega)
     rw [List.getElem?_append_right (by rw [hown.1]; omega), hown.1, ← k1]
     congr 1
     rw [Nat.sub_mul]; omega
   obtain ⟨q1, q2⟩ := r2
   have hkk : ∀ k, k < w.heap.size → (∀ c, B n ≠ some (k, c)) → w'.heap[k]? = w.heap[k]? := by
    intro k hk hnk
    refine r3.block k hk ?_
    rw [hblk]
    intro e1
    cases hB : B n with
    | none => rw [hB] at e1; cases e1
    | some q => obtain ⟨b2, cc⟩ := q; rw [hB] at e1; simp at e1; exact hnk cc (by rw [hB, e1])
   rcases q2 with ⟨_, hn0⟩ | ⟨g, cap, cur, rfl, _, k2, k3, k4, k5, k6⟩
   ·omega
   ·refine ⟨_, w', some (g, cap), hvt0.trans r1, ?_, ?_, r3.os, r3.tape, r3.output, r3.size, hkk, ?_⟩
    ·simp [CR]
    ·simp only [LR, if_true]
     refine ⟨cur.toList, k2, by simpa using k5, by simpa using k3, k4, hall, ?_⟩
     refine (rowAt_iff (by simpa using k5) (by simpa using k3) hall).2 fun i2 r hri f x hx2 => ?_
     obtain ⟨u, j1, j2⟩ := hboth i2 r hri f x hx2
     refine ⟨u, ?_, j2⟩
     rw [← k6, List.getElem?_take] at j1
     split at j1
     ·exact j1
     ·cases j1
    ·rintro b3 c3 e3
     injection e3 with e3
     injection e3 with e3 e4
     subst e3 e4
     refine ⟨(Array.getElem?_eq_some_iff.1 k2).1, ?_⟩
     rcases append_fresh hT.hu hi hz hsz hown hp n1 n2 n4 hml (by rw [hby]; exact hb) r1 g rfl with hh | hh
     ·rw [hblk] at hh
      cases hB : B n with
      | none => rw [hB] at hh; cases hh
      | some q => obtain ⟨b2, cc⟩ := q; rw [hB] at hh; simp at hh; exact .inl ⟨cc, by rw [hh]⟩
     ·exact .inr (by omega)
 obtain ⟨v, w', p, r1, r2, r3, r4, r5, r6, r7, r8, r9⟩ := main
 have hok' : Ok e ⟨f.s, fun m => if m = n' then some (.row el es (rows ++ rows2)) else if m = n then none else f.l m⟩ H (fun x => if x = n' then p else B x) a w' :=
  hok.renew hl hnew p r4 r5 r6 r7 r8 r9 r3 (fun _ => rfl) (fun _ => rfl)
 refine wp_of_run (d := d) rfl ?_ ⟨H, _, hok'.put (x := some (.t (.c (.own n' (rows.length + rows2.length))))) (hb0.1 (d, some (.t (.c (.own n' (rows.length + rows2.length))))) (by simp)) (app1_s f d _ _ rfl) (fun m => ?_) (fun y hy => by injection hy with hy; subst hy; exact r2)⟩
 ·generalize a.eval = ρ at r1 ⊢
  have e1 : (Array.map ρ #[.tmp t, .tmp u]) = #[ρ (.tmp t), ρ (.tmp u)] := by simp
  simp only [execOp, resolve, e1, Sem.run_bind, Sem.run_pure, Result.andThen_ok, invoke, builtin, r1]
 ·simp only [F.app, List.lookup]
  by_cases e1 : m = n'
  ·simp [e1]
  ·have g1 : (m == n') = false := by simpa using e1
   by_cases e2 : m = n
   ·subst e2; simp [g1, e1]
   ·have g2 : (m == n) = false := by simpa using e2
    simp [g1, g2, e1, e2]
end
end Go.Proofs.YtoklkfmffmonoaaGreat.S
end
section
namespace Go.Proofs.YtoklkfmffmonoaaGreat.S
open Go.RowKit

end Go.Proofs.YtoklkfmffmonoaaGreat.S
end
section
namespace Go.Proofs.YtoklkfmffmonoaaGreat.S
open Go.RowKit

theorem tv_2 : Bodied Tryz.prog 114 := Bodied.mk' (by kernel_rfl)
def isVar (v : Int) (p : Part) : Bool := p.v == v
theorem coefZ_strike (v : Int) (ps : List Part) (u : Int) : coefZ (ps.filter fun p => !isVar v p) u = if u = v then 0 else coefZ ps u := by
 induction ps with
 | nil => simp [coefZ]
 | cons p ps ih =>
  by_cases h : p.v = v
  ·rw [List.filter_cons_of_neg (by simp [isVar, h]), ih]
   by_cases hu : u = v
   ·rw [if_pos hu, if_pos hu]
   ·rw [if_neg hu, if_neg hu]
    simp only [coefZ]
    rw [if_neg (fun e => hu (e.1.symm.trans h)), Int.zero_add]
  ·rw [List.filter_cons_of_pos (by simpa [isVar] using h)]
   simp only [coefZ]
   rw [ih]
   by_cases hu : u = v
   ·rw [if_pos hu, if_pos hu, if_neg (fun e => h (e.1.trans hu)), Int.zero_add]
   ·rw [if_neg hu, if_neg hu]
def woT (t : Term) (v : Int) : Term := plainT ⟨t.parts.filter fun p => !isVar v p, t.k⟩
theorem wo_law (t : Term) (v : Int) : (⟨(plainT t).parts.filter fun p => !isVar v p, (plainT t).k⟩ : Term) = woT t v := by
 obtain ⟨h1, h2, h3⟩ := plainT_parts t
 refine (plainT_eq ?_ (fun q hq => h2 q (List.mem_filter.1 hq).1) (fun u => ?_) rfl).symm
 ·exact List.Pairwise.filter _ h1
 ·show coefZ (t.parts.filter fun p => !isVar v p) u = coefZ ((plainT t).parts.filter fun p => !isVar v p) u
  rw [coefZ_strike, coefZ_strike, h3]
theorem SWo1 (p : Part) (v : Int)  : Fn Tryz.prog 114 [(1, .box [.d (.raw (.int .i64 v))])] [.t (.agg ([.d (.raw (.int .i64 p.v))] ++ zi p.c)), vp 1 0] (vb (isVar v p)) [(1, .box [.d (.raw (.int .i64 v))])] := by
 refine Fn.body Tryz.func114 rfl 8 rfl fun w H B a h => ?_
 refine rSeq fam0ok 2 [] [(1, vp 1 0), (2, vp 2 0), (3, vb false)] [(1, .box [.d (.raw (.int .i64 v))]), (2, .box ([.d (.raw (.int .i64 p.v))] ++ zi p.c))] (by kernel_rfl) h ?_; clear h; intro a w h
 refine rSeq fam0ok 3 [] [(3, vb (p.v == v))] [(1, .box [.d (.raw (.int .i64 v))])] (by kernel_rfl) h ?_; clear h; intro a w h
 refine wp_ret ?_
 refine retS [.c (.d (.raw (.bool (p.v == v))))] h Exit.ret (.inl rfl)  rfl ⟨RV.tmp _ _ rfl, trivial⟩ ?_ (by kernel_rfl) (by kernel_rfl)
 rfl
theorem SIndexFV (pr : Part → Bool) (xs : List Part) (v : Int) (hf : ∀ p ∈ xs, Fn Tryz.prog 114 [(1, .box [.d (.raw (.int .i64 v))])] [vd p.d, vp 1 0] (vb (pr p)) [(1, .box [.d (.raw (.int .i64 v))])]) (hl : xs.length ≤ 1000000) : Fn Tryz.prog 143 [(0, .row 57 3 (xs.map Part.d)), (1, .box [.d (.raw (.int .i64 v))])] [.t (.c (.own 0 xs.length)), .t (.c (.fn (.func 114) [] [.ptr 1 0]))] (vi .i64 (idxF pr xs 0)) [(0, .row 57 3 (xs.map Part.d)), (1, .box [.d (.raw (.int .i64 v))])] := by
 refine Fn.body Tryz.func143 rfl 19 rfl fun w H B a h => ?_
 refine rSeq fam0ok 2 [] [(0, .t (.c (.own 0 xs.length))), (1, .t (.c (.fn (.func 114) [] [.ptr 1 0]))), (4, vi .i64 0)] [(0, .row 57 3 (xs.map Part.d)), (1, .box [.d (.raw (.int .i64 v))])] (by kernel_rfl) h ?_; clear h; intro a w h
 refine wp_seq ?_
 refine rSeq fam0ok 2 [] [(0, .t (.c (.own 0 xs.length))), (1, .t (.c (.fn (.func 114) [] [.ptr 1 0]))), (4, vi .i64 0), (7, vi .i64 (xs.length : Int)), (8, vi .i64 0)] [(0, .row 57 3 (xs.map Part.d)), (1, .box [.d (.raw (.int .i64 v))])] (by kernel_rfl) h ?_; clear h; intro a w h
 refine wp_block ?_
 refine loopS (ι := (Nat)) (fun (z_ : (Nat)) => match z_ with | j => j ≤ xs.length ∧ idxF pr xs 0 = idxF pr (xs.drop j) j)
   (fun (z_ : (Nat)) => match z_ with | j => [(0, .t (.c (.own 0 xs.length))), (1, .t (.c (.fn (.func 114) [] [.ptr 1 0]))), (7, vi .i64 (xs.length : Int)), (8, vi .i64 (j : Int))])
   (fun (z_ : (Nat)) => match z_ with | j => [(0, .row 57 3 (xs.map Part.d)), (1, .box [.d (.raw (.int .i64 v))])])
   (fun (z_ : (Nat)) => match z_ with | j => xs.length - j) 0 ?_ h (by kernel_rfl) (by kernel_rfl) ?_
 ·exact ⟨Nat.zero_le _, rfl⟩
 ·clear h; rintro j a w hI h
  change St _ (F.of [(0, .t (.c (.own 0 xs.length))), (1, .t (.c (.fn (.func 114) [] [.ptr 1 0]))), (7, vi .i64 (xs.length : Int)), (8, vi .i64 (j : Int))] [(0, .row 57 3 (xs.map Part.d)), (1, .box [.d (.raw (.int .i64 v))])]) a w at h
  obtain ⟨hI1, hI2⟩ := hI
  refine rSeq fam0ok 2 [] [(0, .t (.c (.own 0 xs.length))), (1, .t (.c (.fn (.func 114) [] [.ptr 1 0]))), (7, vi .i64 (xs.length : Int)), (8, vi .i64 (j : Int)), (9, vb (decide ((j : Int) < (xs.length : Int))))] [(0, .row 57 3 (xs.map Part.d)), (1, .box [.d (.raw (.int .i64 v))])] (by kernel_rfl) h ?_; clear h; intro a w h
  refine wp_seq ?_
  refine condS (decide ((j : Int) < (xs.length : Int))) h rfl (fun hc => ?_) (fun hc => ?_)
  ·have hc1 := hc; clear hc
   have hc1' := of_decide_eq_true hc1
   refine wp_skip ?_
   refine then_n ?_
   refine wp_seq ?_
   refine wp_block ?_
   refine rSeq fam0ok 2 [] [(0, .t (.c (.own 0 xs.length))), (1, .t (.c (.fn (.func 114) [] [.ptr 1 0]))), (5, vi .i64 (j : Int)), (7, vi .i64 (xs.length : Int)), (8, vi .i64 (j : Int))] [(0, .row 57 3 (xs.map Part.d)), (1, .box [.d (.raw (.int .i64 v))])] (by kernel_rfl) h ?_; clear h; intro a w h
   obtain ⟨x1, hx1⟩ : ∃ z_ : Part, xs[j]? = some z_ := ⟨_, List.getElem?_eq_getElem (by first | omega | (simp at *; omega))⟩
   refine rSeq fam0ok 2 [(3, .gen _ _ _ fun _ _ _ _ => Op.idxO (d := 14) (t := 12) (k := .i64) (n := 0) (len := xs.length) (i := j) ta_0 (by first | omega | (simp at *; omega)) (OV.tmp 13 _)), (4, .gen _ _ _ fun _ _ _ _ => Op.loadR_agg (d := 15) (t := 14) (n := 0) (i := j) (fo := 0) (rty := 57) (es := 3) (xs := [.raw (.int .i64 x1.v), .raw (.bool x1.c.neg), nsl x1.c.abs]) te_1 rfl (map_at hx1 (f := Part.d)) rfl rfl), (5, .gen _ _ _ fun _ _ _ _ => Op.callV (d := 16) (t := 11) (cap := [.ptr 1 0]) (args := [.t (.agg ([.d (.raw (.int .i64 x1.v))] ++ zi x1.c))]) (rs := [(15, .t (.agg ([.d (.raw (.int .i64 x1.v))] ++ zi x1.c)))]) (tys := #[57]) (hf x1 (List.mem_of_getElem? hx1)) tv_2 (OVs.cons (OV.tmp 15 _) (OVs.nil)))] [(0, .t (.c (.own 0 xs.length))), (1, .t (.c (.fn (.func 114) [] [.ptr 1 0]))), (5, vi .i64 (j : Int)), (7, vi .i64 (xs.length : Int)), (8, vi .i64 (j : Int)), (16, vb (pr x1))] [(0, .row 57 3 (xs.map Part.d)), (1, .box [.d (.raw (.int .i64 v))])] (by kernel_rfl) h ?_; clear h; intro a w h
   refine condS (pr x1) h rfl (fun hc => ?_) (fun hc => ?_)
   ·have hc2 := hc; clear hc
    refine rSeq fam0ok 2 [] [(0, .t (.c (.own 0 xs.length))), (1, .t (.c (.fn (.func 114) [] [.ptr 1 0]))), (4, vi .i64 (j : Int)), (7, vi .i64 (xs.length : Int)), (8, vi .i64 (j : Int))] [(0, .row 57 3 (xs.map Part.d)), (1, .box [.d (.raw (.int .i64 v))])] (by kernel_rfl) h ?_; clear h; intro a w h
    refine wp_ret ?_
    refine block_r ?_
    refine then_r ?_
    refine then_r ?_
    refine block_r ?_
    refine then_r ?_
    refine retS [.c (.d (.raw (.int .i64 (j : Int))))] h Exit.ret (.inl rfl)  rfl ⟨RV.tmp _ _ rfl, trivial⟩ ?_ (by kernel_rfl) (by kernel_rfl)
    have hz : idxF pr xs 0 = (j : Int) := by rw [hI2, idxF_at hx1, if_pos hc2]
    rw [hz]; first | done | rfl
   ·have hc3 := hc; clear hc
    refine wp_skip ?_
    refine block_n ?_
    refine then_n ?_
    refine rS fam0ok 2 [(0, .add .i64 (m := (j : Int)) (n := 1) (i64_id (by omega) (by omega)))] [(0, .t (.c (.own 0 xs.length))), (1, .t (.c (.fn (.func 114) [] [.ptr 1 0]))), (7, vi .i64 (xs.length : Int)), (8, vi .i64 ((j : Int) + 1))] [(0, .row 57 3 (xs.map Part.d)), (1, .box [.d (.raw (.int .i64 v))])] (by kernel_rfl) h ?_; clear h; intro a w h
    refine then_n ?_
    refine roundS (x := j) (y := j + 1) h ?_ ?_ (by kernel_rfl) (by kernel_rfl)
    ·exact ⟨by have := at_lt hx1; omega, by rw [hI2, idxF_at hx1, if_neg (by rw [hc3]; exact Bool.noConfusion)]⟩
    ·simp; omega
  ·have hc4 := hc; clear hc
   have hc4' := of_decide_eq_false hc4
   refine wp_exit ?_
   refine then_x ?_
   refine then_x ?_
   refine inBlock_exit ?_
   refine then_n ?_
   refine rSeq fam0ok 2 [] [(4, vi .i64 (-1))] [(0, .row 57 3 (xs.map Part.d)), (1, .box [.d (.raw (.int .i64 v))])] (by kernel_rfl) h ?_; clear h; intro a w h
   refine wp_ret ?_
   refine retS [.c (.d (.raw (.int .i64 (-1))))] h Exit.ret (.inl rfl)  rfl ⟨RV.tmp _ _ rfl, trivial⟩ ?_ (by kernel_rfl) (by kernel_rfl)
   have hz : idxF pr xs 0 = -1 := by rw [hI2, List.drop_of_length_le (by omega)]; rfl
   rw [hz]; first | done | rfl
theorem SDeleteFV (pr : Part → Bool) (xs : List Part) (v : Int) (hf : ∀ p ∈ xs, Fn Tryz.prog 114 [(1, .box [.d (.raw (.int .i64 v))])] [vd p.d, vp 1 0] (vb (pr p)) [(1, .box [.d (.raw (.int .i64 v))])]) (hl : xs.length ≤ 1000000) : Fn Tryz.prog 109 [(0, .row 57 3 (xs.map Part.d)), (1, .box [.d (.raw (.int .i64 v))])] [.t (.c (.own 0 xs.length)), .t (.c (.fn (.func 114) [] [.ptr 1 0]))] (.t (.c (.own 0 (xs.filter (fun p => !pr p)).length))) [(0, .row 57 3 ((xs.filter (fun p => !pr p)).map Part.d)), (1, .box [.d (.raw (.int .i64 v))])] := by
 refine Fn.body Tryz.func109 rfl 42 rfl fun w H B a h => ?_
 refine rSeq fam0ok 2 [] [(0, .t (.c (.own 0 xs.length))), (1, .t (.c (.fn (.func 114) [] [.ptr 1 0]))), (4, .t (.c (.d (.raw nilV))))] [(0, .row 57 3 (xs.map Part.d)), (1, .box [.d (.raw (.int .i64 v))])] (by kernel_rfl) h ?_; clear h; intro a w h
 refine rSeq fam0ok 2 [(2, .call (SIndexFV pr xs v hf hl) tk_3)] [(0, .t (.c (.own 0 xs.length))), (1, .t (.c (.fn (.func 114) [] [.ptr 1 0]))), (4, .t (.c (.d (.raw nilV)))), (5, vi .i64 (idxF pr xs 0))] [(0, .row 57 3 (xs.map Part.d)), (1, .box [.d (.raw (.int .i64 v))])] (by kernel_rfl) h ?_; clear h; intro a w h
 refine wp_seq ?_
 rcases idxF_cases pr xs 0 with ⟨hz, hz2⟩ | ⟨k, x0, hz, hk, hk2, hk3⟩
 ·rw [hz] at h
  refine rSeq fam0ok 2 [(1, .cmp (op := .eql) (m := (-1)) (n := (-1)) (b := true) .i64 rfl)] [(0, .t (.c (.own 0 xs.length))), (1, .t (.c (.fn (.func 114) [] [.ptr 1 0]))), (4, .t (.c (.d (.raw nilV)))), (5, vi .i64 (-1)), (12, vb true)] [(0, .row 57 3 (xs.map Part.d)), (1, .box [.d (.raw (.int .i64 v))])] (by kernel_rfl) h ?_; clear h; intro a w h
  refine condS true h rfl (fun hc => ?_) (fun hc => ?_)
  ·clear hc
   refine rSeq fam0ok 2 [] [(0, .t (.c (.own 0 xs.length))), (1, .t (.c (.fn (.func 114) [] [.ptr 1 0]))), (4, .t (.c (.own 0 xs.length))), (5, vi .i64 (-1))] [(0, .row 57 3 (xs.map Part.d)), (1, .box [.d (.raw (.int .i64 v))])] (by kernel_rfl) h ?_; clear h; intro a w h
   refine wp_ret ?_
   refine then_r ?_
   replace h := h.conv (f' := F.of [(0, .t (.c (.own 0 xs.length))), (1, .t (.c (.fn (.func 114) [] [.ptr 1 0]))), (4, .t (.c (.own 0 (xs.filter (fun p => !pr p)).length))), (5, vi .i64 (-1))] [(0, .row 57 3 (xs.map Part.d)), (1, .box [.d (.raw (.int .i64 v))])]) (by rw [hz2])
   replace h := h.conv (f' := F.of [(0, .t (.c (.own 0 xs.length))), (1, .t (.c (.fn (.func 114) [] [.ptr 1 0]))), (4, .t (.c (.own 0 (xs.filter (fun p => !pr p)).length))), (5, vi .i64 (-1))] [(0, .row 57 3 ((xs.filter (fun p => !pr p)).map Part.d)), (1, .box [.d (.raw (.int .i64 v))])]) (congrArg (fun (z_ : List Part) => F.of [(0, .t (.c (.own 0 xs.length))), (1, .t (.c (.fn (.func 114) [] [.ptr 1 0]))), (4, .t (.c (.own 0 (xs.filter (fun p => !pr p)).length))), (5, vi .i64 (-1))] [(0, .row 57 3 (z_.map Part.d)), (1, .box [.d (.raw (.int .i64 v))])]) (show (xs : List Part) = (xs.filter (fun p => !pr p)) from hz2.symm))
   refine retS [.c (.own 0 (xs.filter (fun p => !pr p)).length)] h Exit.ret (.inl rfl)  rfl ⟨RV.tmp _ _ rfl, trivial⟩ ?_ (by kernel_rfl) (by kernel_rfl)
   rfl
  ·cases hc
 ·rw [Nat.zero_add] at hz
  have hkl := at_lt hk
  have hf2 : ((xs.take (k + 1)).filter (fun p => !pr p)) = xs.take k := by rw [List.take_add_one, hk]; simp [List.filter_append, hk2, hk3]
  have hf3 : ((xs.take (k + 1)).filter (fun p => !pr p)).length = k := by rw [hf2, List.length_take]; omega
  rw [hz] at h
  refine rSeq fam0ok 2 [(1, .cmp (op := .eql) (m := (k : Int)) (n := (-1)) (b := false) .i64 (beq_eq_false_iff_ne.2 (by omega)))] [(0, .t (.c (.own 0 xs.length))), (1, .t (.c (.fn (.func 114) [] [.ptr 1 0]))), (4, .t (.c (.d (.raw nilV)))), (5, vi .i64 (k : Int)), (12, vb false)] [(0, .row 57 3 (xs.map Part.d)), (1, .box [.d (.raw (.int .i64 v))])] (by kernel_rfl) h ?_; clear h; intro a w h
  refine condS false h rfl (fun hc => ?_) (fun hc => ?_)
  ·cases hc
  ·clear hc
   refine wp_skip ?_
   refine then_n ?_
   refine wp_seq ?_
   refine rSeq fam0ok 2 [(1, .gen _ _ _ fun _ _ _ _ => Op.arith (op := .add) (d := 15) (xt := 3) (yt := 3) (k := .i64) (m := (k : Int)) (n := 1) (r := ((k + 1 : Nat) : Int)) (OV.tmp 14 _) (OV.const (.int .i64 1) rfl) (.inl ⟨rfl, (by omega)⟩) (i64_id (by omega) (by omega)))] [(0, .t (.c (.own 0 xs.length))), (1, .t (.c (.fn (.func 114) [] [.ptr 1 0]))), (4, .t (.c (.d (.raw nilV)))), (5, vi .i64 (k : Int)), (6, vi .i64 ((k + 1 : Nat) : Int))] [(0, .row 57 3 (xs.map Part.d)), (1, .box [.d (.raw (.int .i64 v))])] (by kernel_rfl) h ?_; clear h; intro a w h
   refine wp_block ?_
   replace h := h.conv (f' := F.of [(0, .t (.c (.own 0 xs.length))), (1, .t (.c (.fn (.func 114) [] [.ptr 1 0]))), (4, .t (.c (.d (.raw nilV)))), (5, vi .i64 (((xs.take (k + 1)).filter (fun p => !pr p)).length : Int)), (6, vi .i64 ((k + 1 : Nat) : Int))] [(0, .row 57 3 (xs.map Part.d)), (1, .box [.d (.raw (.int .i64 v))])]) (by rw [hf3])
   replace h := h.conv (f' := F.of [(0, .t (.c (.own 0 xs.length))), (1, .t (.c (.fn (.func 114) [] [.ptr 1 0]))), (4, .t (.c (.d (.raw nilV)))), (5, vi .i64 (((xs.take (k + 1)).filter (fun p => !pr p)).length : Int)), (6, vi .i64 ((k + 1 : Nat) : Int))] [(0, .row 57 3 ((((xs.take (k + 1)).filter (fun p => !pr p)) ++ [x0] ++ xs.drop (k + 1)).map Part.d)), (1, .box [.d (.raw (.int .i64 v))])]) (congrArg (fun (z_ : List Part) => F.of [(0, .t (.c (.own 0 xs.length))), (1, .t (.c (.fn (.func 114) [] [.ptr 1 0]))), (4, .t (.c (.d (.raw nilV)))), (5, vi .i64 (((xs.take (k + 1)).filter (fun p => !pr p)).length : Int)), (6, vi .i64 ((k + 1 : Nat) : Int))] [(0, .row 57 3 (z_.map Part.d)), (1, .box [.d (.raw (.int .i64 v))])]) (show (xs : List Part) = (((xs.take (k + 1)).filter (fun p => !pr p)) ++ [x0] ++ xs.drop (k + 1)) from by rw [hf2]; obtain ⟨g1, g2⟩ := List.getElem?_eq_some_iff.1 hk; subst g2; simp))
   refine loopS (ι := (Nat) × (List Part)) (fun (z_ : (Nat) × (List Part)) => match z_ with | (j, G) => j ≤ xs.length ∧ ((xs.take j).filter (fun p => !pr p)).length + G.length = j ∧ 0 < G.length)
     (fun (z_ : (Nat) × (List Part)) => match z_ with | (j, G) => [(0, .t (.c (.own 0 xs.length))), (1, .t (.c (.fn (.func 114) [] [.ptr 1 0]))), (4, .t (.c (.d (.raw nilV)))), (5, vi .i64 (((xs.take j).filter (fun p => !pr p)).length : Int)), (6, vi .i64 (j : Int))])
     (fun (z_ : (Nat) × (List Part)) => match z_ with | (j, G) => [(0, .row 57 3 ((((xs.take j).filter (fun p => !pr p)) ++ G ++ xs.drop j).map Part.d)), (1, .box [.d (.raw (.int .i64 v))])])
     (fun (z_ : (Nat) × (List Part)) => match z_ with | (j, G) => xs.length - j) ((k + 1), [x0]) ?_ h (by kernel_rfl) (by kernel_rfl) ?_
   ·exact ⟨by omega, by rw [hf3]; rfl, Nat.one_pos⟩
   ·clear h; rintro ⟨j, G⟩ a w hI h
    change St _ (F.of [(0, .t (.c (.own 0 xs.length))), (1, .t (.c (.fn (.func 114) [] [.ptr 1 0]))), (4, .t (.c (.d (.raw nilV)))), (5, vi .i64 (((xs.take j).filter (fun p => !pr p)).length : Int)), (6, vi .i64 (j : Int))] [(0, .row 57 3 ((((xs.take j).filter (fun p => !pr p)) ++ G ++ xs.drop j).map Part.d)), (1, .box [.d (.raw (.int .i64 v))])]) a w at h
    obtain ⟨hI1, hI2, hI3⟩ := hI
    have hrl : (((xs.take j).filter (fun p => !pr p)) ++ G ++ xs.drop j).length = xs.length := by simp only [List.length_append, List.length_drop]; omega
    refine wp_seq ?_
    refine rSeq fam0ok 2 [] [(0, .t (.c (.own 0 xs.length))), (1, .t (.c (.fn (.func 114) [] [.ptr 1 0]))), (4, .t (.c (.d (.raw nilV)))), (5, vi .i64 (((xs.take j).filter (fun p => !pr p)).length : Int)), (6, vi .i64 (j : Int)), (19, vb (decide ((j : Int) < (xs.length : Int))))] [(0, .row 57 3 ((((xs.take j).filter (fun p => !pr p)) ++ G ++ xs.drop j).map Part.d)), (1, .box [.d (.raw (.int .i64 v))])] (by kernel_rfl) h ?_; clear h; intro a w h
    refine condS (decide ((j : Int) < (xs.length : Int))) h rfl (fun hc => ?_) (fun hc => ?_)
    ·have hc1 := hc; clear hc
     have hc1' := of_decide_eq_true hc1
     refine wp_skip ?_
     refine then_n ?_
     refine wp_seq ?_
     refine wp_block ?_
     obtain ⟨x, hx⟩ : ∃ z_ : Part, xs[j]? = some z_ := ⟨_, List.getElem?_eq_getElem (by omega)⟩
     refine rSeq fam0ok 2 [(2, .gen _ _ _ fun _ _ _ _ => Op.idxO (d := 24) (t := 22) (k := .i64) (n := 0) (len := xs.length) (i := j) ta_0 (by first | omega | (simp at *; omega)) (OV.tmp 23 _)), (3, .gen _ _ _ fun _ _ _ _ => Op.loadR_agg (d := 25) (t := 24) (n := 0) (i := j) (fo := 0) (rty := 57) (es := 3) (xs := [.raw (.int .i64 x.v), .raw (.bool x.c.neg), nsl x.c.abs]) te_1 rfl (map_at (show ((((xs.take j).filter (fun p => !pr p)) ++ G ++ xs.drop j) : List Part)[j]? = some x from del_at (pr := pr) hI2 hx) (f := Part.d)) rfl rfl)] [(0, .t (.c (.own 0 xs.length))), (1, .t (.c (.fn (.func 114) [] [.ptr 1 0]))), (4, .t (.c (.d (.raw nilV)))), (5, vi .i64 (((xs.take j).filter (fun p => !pr p)).length : Int)), (6, vi .i64 (j : Int)), (7, vp 2 0)] [(0, .row 57 3 ((((xs.take j).filter (fun p => !pr p)) ++ G ++ xs.drop j).map Part.d)), (1, .box [.d (.raw (.int .i64 v))]), (2, .box ([.d (.raw (.int .i64 x.v))] ++ zi x.c))] (by kernel_rfl) h ?_; clear h; intro a w h
     refine rSeq fam0ok 3 [(2, .gen _ _ _ fun _ _ _ _ => Op.callV (d := 28) (t := 26) (cap := [.ptr 1 0]) (args := [.t (.agg ([.d (.raw (.int .i64 x.v))] ++ zi x.c))]) (rs := [(27, .t (.agg ([.d (.raw (.int .i64 x.v))] ++ zi x.c)))]) (tys := #[57]) (hf x (List.mem_of_getElem? hx)) tv_2 (OVs.cons (OV.tmp 27 _) (OVs.nil)))] [(0, .t (.c (.own 0 xs.length))), (1, .t (.c (.fn (.func 114) [] [.ptr 1 0]))), (4, .t (.c (.d (.raw nilV)))), (5, vi .i64 (((xs.take j).filter (fun p => !pr p)).length : Int)), (6, vi .i64 (j : Int)), (7, vp 2 0), (29, vb (!(pr x)))] [(0, .row 57 3 ((((xs.take j).filter (fun p => !pr p)) ++ G ++ xs.drop j).map Part.d)), (1, .box [.d (.raw (.int .i64 v))]), (2, .box ([.d (.raw (.int .i64 x.v))] ++ zi x.c))] (by kernel_rfl) h ?_; clear h; intro a w h
     refine condS (!(pr x)) h rfl (fun hc => ?_) (fun hc => ?_)
     ·have hc2 := hc; clear hc
      have hc2' := hc2; (try simp at hc2')
      obtain ⟨x3, hx3⟩ : ∃ z_ : Part, (((xs.take j).filter (fun p => !pr p)) ++ G ++ xs.drop j)[((xs.take j).filter (fun p => !pr p)).length]? = some z_ := ⟨_, List.getElem?_eq_getElem (by first | omega | (simp at *; omega))⟩
      refine rSeq fam0ok 3 [(3, .gen _ _ _ fun _ _ _ _ => Op.idxO (d := 33) (t := 30) (k := .i64) (n := 0) (len := xs.length) (i := ((xs.take j).filter (fun p => !pr p)).length) ta_0 (by first | omega | (simp at *; omega)) (OV.tmp 31 _)), (4, .gen _ _ _ fun _ _ _ _ => Op.storeR (t := 33) (n := 0) (i := ((xs.take j).filter (fun p => !pr p)).length) (fo := 0) (rty := 57) (es := 3) (r := Part.d x3) (ds := [.raw (.int .i64 x.v), .raw (.bool x.c.neg), nsl x.c.abs]) (rs := [(32, .t (.agg ([.d (.raw (.int .i64 x.v))] ++ zi x.c)))]) (rows := (((xs.take j).filter (fun p => !pr p)) ++ G ++ xs.drop j).map Part.d) (rows' := ((((xs.take j).filter (fun p => !pr p)) ++ G ++ xs.drop j).set ((xs.take j).filter (fun p => !pr p)).length x).map Part.d) te_1 (OV.tmp 32 _) rfl rfl rfl (map_at hx3 (f := Part.d)) (by simp [Part.d]) (set_map (xs := (((xs.take j).filter (fun p => !pr p)) ++ G ++ xs.drop j)) (F := Part.d) ((xs.take j).filter (fun p => !pr p)).length _ _ rfl))] [(0, .t (.c (.own 0 xs.length))), (1, .t (.c (.fn (.func 114) [] [.ptr 1 0]))), (4, .t (.c (.d (.raw nilV)))), (5, vi .i64 (((xs.take j).filter (fun p => !pr p)).length : Int)), (6, vi .i64 (j : Int))] [(0, .row 57 3 (((((xs.take j).filter (fun p => !pr p)) ++ G ++ xs.drop j).set ((xs.take j).filter (fun p => !pr p)).length x).map Part.d)), (1, .box [.d (.raw (.int .i64 v))])] (by kernel_rfl) h ?_; clear h; intro a w h
      refine rS fam0ok 3 [(1, .gen _ _ _ fun _ _ _ _ => Op.arith (op := .add) (d := 35) (xt := 3) (yt := 3) (k := .i64) (m := (((xs.take j).filter (fun p => !pr p)).length : Int)) (n := 1) (r := ((((xs.take j).filter (fun p => !pr p)).length + 1 : Nat) : Int)) (OV.tmp 34 _) (OV.const (.int .i64 1) rfl) (.inl ⟨rfl, (by omega)⟩) (i64_id (by omega) (by omega)))] [(0, .t (.c (.own 0 xs.length))), (1, .t (.c (.fn (.func 114) [] [.ptr 1 0]))), (4, .t (.c (.d (.raw nilV)))), (5, vi .i64 ((((xs.take j).filter (fun p => !pr p)).length + 1 : Nat) : Int)), (6, vi .i64 (j : Int))] [(0, .row 57 3 (((((xs.take j).filter (fun p => !pr p)) ++ G ++ xs.drop j).set ((xs.take j).filter (fun p => !pr p)).length x).map Part.d)), (1, .box [.d (.raw (.int .i64 v))])] (by kernel_rfl) h ?_; clear h; intro a w h
      refine block_n ?_
      refine then_n ?_
      refine rS fam0ok 3 [(1, .add .i64 (m := (j : Int)) (n := 1) (i64_id (by omega) (by omega)))] [(0, .t (.c (.own 0 xs.length))), (1, .t (.c (.fn (.func 114) [] [.ptr 1 0]))), (4, .t (.c (.d (.raw nilV)))), (5, vi .i64 ((((xs.take j).filter (fun p => !pr p)).length + 1 : Nat) : Int)), (6, vi .i64 ((j : Int) + 1))] [(0, .row 57 3 (((((xs.take j).filter (fun p => !pr p)) ++ G ++ xs.drop j).set ((xs.take j).filter (fun p => !pr p)).length x).map Part.d)), (1, .box [.d (.raw (.int .i64 v))])] (by kernel_rfl) h ?_; clear h; intro a w h
      refine then_n ?_
      have hp : pr x = false := (by simpa using hc2)
      replace h := h.conv (f' := F.of [(0, .t (.c (.own 0 xs.length))), (1, .t (.c (.fn (.func 114) [] [.ptr 1 0]))), (4, .t (.c (.d (.raw nilV)))), (5, vi .i64 (((xs.take (j + 1)).filter (fun p => !pr p)).length : Int)), (6, vi .i64 ((j : Int) + 1))] [(0, .row 57 3 (((((xs.take j).filter (fun p => !pr p)) ++ G ++ xs.drop j).set ((xs.take j).filter (fun p => !pr p)).length x).map Part.d)), (1, .box [.d (.raw (.int .i64 v))])]) (by rw [← filt_len hx hp])
      replace h := h.conv (f' := F.of [(0, .t (.c (.own 0 xs.length))), (1, .t (.c (.fn (.func 114) [] [.ptr 1 0]))), (4, .t (.c (.d (.raw nilV)))), (5, vi .i64 (((xs.take (j + 1)).filter (fun p => !pr p)).length : Int)), (6, vi .i64 ((j : Int) + 1))] [(0, .row 57 3 ((((xs.take (j + 1)).filter (fun p => !pr p)) ++ (G.tail ++ [x]) ++ xs.drop (j + 1)).map Part.d)), (1, .box [.d (.raw (.int .i64 v))])]) (congrArg (fun (z_ : List Part) => F.of [(0, .t (.c (.own 0 xs.length))), (1, .t (.c (.fn (.func 114) [] [.ptr 1 0]))), (4, .t (.c (.d (.raw nilV)))), (5, vi .i64 (((xs.take (j + 1)).filter (fun p => !pr p)).length : Int)), (6, vi .i64 ((j : Int) + 1))] [(0, .row 57 3 (z_.map Part.d)), (1, .box [.d (.raw (.int .i64 v))])]) (show (((((xs.take j).filter (fun p => !pr p)) ++ G ++ xs.drop j).set ((xs.take j).filter (fun p => !pr p)).length x) : List Part) = (((xs.take (j + 1)).filter (fun p => !pr p)) ++ (G.tail ++ [x]) ++ xs.drop (j + 1)) from del_keep hx hp hI3))
      refine roundS (x := (j, G)) (y := ((j + 1), (G.tail ++ [x]))) h ?_ ?_ (by kernel_rfl) (by kernel_rfl)
      ·exact ⟨by have := at_lt hx; omega, by rw [← filt_len hx hp, List.length_append, List.length_tail]; simp only [List.length_cons, List.length_nil]; omega, by rw [List.length_append]; simp only [List.length_cons, List.length_nil]; omega⟩
      ·show xs.length - (j + 1) < xs.length - j
       have := at_lt hx; omega
     ·have hc3 := hc; clear hc
      have hc3' := hc3; (try simp at hc3')
      refine wp_skip ?_
      refine block_n ?_
      refine then_n ?_
      refine rS fam0ok 3 [(1, .add .i64 (m := (j : Int)) (n := 1) (i64_id (by omega) (by omega)))] [(0, .t (.c (.own 0 xs.length))), (1, .t (.c (.fn (.func 114) [] [.ptr 1 0]))), (4, .t (.c (.d (.raw nilV)))), (5, vi .i64 (((xs.take j).filter (fun p => !pr p)).length : Int)), (6, vi .i64 ((j : Int) + 1))] [(0, .row 57 3 ((((xs.take j).filter (fun p => !pr p)) ++ G ++ xs.drop j).map Part.d)), (1, .box [.d (.raw (.int .i64 v))])] (by kernel_rfl) h ?_; clear h; intro a w h
      refine then_n ?_
      have hp : pr x = true := (by simpa using hc3)
      replace h := h.conv (f' := F.of [(0, .t (.c (.own 0 xs.length))), (1, .t (.c (.fn (.func 114) [] [.ptr 1 0]))), (4, .t (.c (.d (.raw nilV)))), (5, vi .i64 (((xs.take (j + 1)).filter (fun p => !pr p)).length : Int)), (6, vi .i64 ((j : Int) + 1))] [(0, .row 57 3 ((((xs.take j).filter (fun p => !pr p)) ++ G ++ xs.drop j).map Part.d)), (1, .box [.d (.raw (.int .i64 v))])]) (by rw [← filt_len0 hx hp])
      replace h := h.conv (f' := F.of [(0, .t (.c (.own 0 xs.length))), (1, .t (.c (.fn (.func 114) [] [.ptr 1 0]))), (4, .t (.c (.d (.raw nilV)))), (5, vi .i64 (((xs.take (j + 1)).filter (fun p => !pr p)).length : Int)), (6, vi .i64 ((j : Int) + 1))] [(0, .row 57 3 ((((xs.take (j + 1)).filter (fun p => !pr p)) ++ (G ++ [x]) ++ xs.drop (j + 1)).map Part.d)), (1, .box [.d (.raw (.int .i64 v))])]) (congrArg (fun (z_ : List Part) => F.of [(0, .t (.c (.own 0 xs.length))), (1, .t (.c (.fn (.func 114) [] [.ptr 1 0]))), (4, .t (.c (.d (.raw nilV)))), (5, vi .i64 (((xs.take (j + 1)).filter (fun p => !pr p)).length : Int)), (6, vi .i64 ((j : Int) + 1))] [(0, .row 57 3 (z_.map Part.d)), (1, .box [.d (.raw (.int .i64 v))])]) (show ((((xs.take j).filter (fun p => !pr p)) ++ G ++ xs.drop j) : List Part) = (((xs.take (j + 1)).filter (fun p => !pr p)) ++ (G ++ [x]) ++ xs.drop (j + 1)) from del_skip hx hp))
      refine roundS (x := (j, G)) (y := ((j + 1), (G ++ [x]))) h ?_ ?_ (by kernel_rfl) (by kernel_rfl)
      ·exact ⟨by have := at_lt hx; omega, by rw [← filt_len0 hx hp, List.length_append]; simp only [List.length_cons, List.length_nil]; omega, by rw [List.length_append]; simp only [List.length_cons, List.length_nil]; omega⟩
      ·show xs.length - (j + 1) < xs.length - j
       have := at_lt hx; omega
    ·have hc4 := hc; clear hc
     have hc4' := of_decide_eq_false hc4
     refine wp_exit ?_
     refine then_x ?_
     refine then_x ?_
     refine inBlock_exit ?_
     refine then_n ?_
     have hj : j = xs.length := by omega
     have hF : ((xs.take j).filter (fun p => !pr p)) = (xs.filter (fun p => !pr p)) := by rw [hj, List.take_length]
     refine rSeq fam0ok 3 [(2, .gen _ _ _ fun _ _ _ _ => Op.sliceLo (d := 38) (t := 36) (k := .i64) (n := 0) (len := xs.length) (l := ((xs.take j).filter (fun p => !pr p)).length) (rows := (((xs.take j).filter (fun p => !pr p)) ++ G ++ xs.drop j).map Part.d) (rty := 57) ta_0 (by first | omega | (simp only [List.length_map, List.length_append, List.length_drop]; omega)) (OV.tmp 37 _) (by first | omega | (simp at *; omega)) rfl), (3, .gen _ _ _ fun _ _ _ _ => Op.clearCut' (rows' := ((xs.take j).filter (fun p => !pr p)).map Part.d) (o := none) (t := 38) (n := 0) (off := ((xs.take j).filter (fun p => !pr p)).length * 3) (len := (xs.length - ((xs.take j).filter (fun p => !pr p)).length)) (l := ((xs.take j).filter (fun p => !pr p)).length) (es := 3) (rows := (((xs.take j).filter (fun p => !pr p)) ++ G ++ xs.drop j).map Part.d) (rty := 57) (zs := [.d (.raw (.int .i64 0)), .d (.raw (.bool false)), .d (nsl [])]) ta_0.hu tk_4 rfl rfl (by first | omega | (simp only [List.length_map, List.length_append, List.length_drop]; omega)) _ rfl (by simp [List.map_append]))] [(0, .t (.c (.own 0 xs.length))), (4, .t (.c (.d (.raw nilV)))), (5, vi .i64 (((xs.take j).filter (fun p => !pr p)).length : Int))] [(0, .row 57 3 (((xs.take j).filter (fun p => !pr p)).map Part.d)), (1, .box [.d (.raw (.int .i64 v))])] (by kernel_rfl) h ?_; clear h; intro a w h
     refine rSeq fam0ok 3 [(2, .gen _ _ _ fun _ _ _ _ => Op.sliceHi (d := 41) (t := 39) (k := .i64) (n := 0) (len := xs.length) (h := ((xs.take j).filter (fun p => !pr p)).length) (rows := ((xs.take j).filter (fun p => !pr p)).map Part.d) (rty := 57) ta_0 (by first | omega | (simp only [List.length_map]; omega)) (OV.tmp 40 _))] [(4, .t (.c (.own 0 ((xs.take j).filter (fun p => !pr p)).length)))] [(0, .row 57 3 (((xs.take j).filter (fun p => !pr p)).map Part.d)), (1, .box [.d (.raw (.int .i64 v))])] (by kernel_rfl) h ?_; clear h; intro a w h
     refine wp_ret ?_
     replace h := h.conv (f' := F.of [(4, .t (.c (.own 0 (xs.filter (fun p => !pr p)).length)))] [(0, .row 57 3 (((xs.take j).filter (fun p => !pr p)).map Part.d)), (1, .box [.d (.raw (.int .i64 v))])]) (by rw [hF])
     replace h := h.conv (f' := F.of [(4, .t (.c (.own 0 (xs.filter (fun p => !pr p)).length)))] [(0, .row 57 3 ((xs.filter (fun p => !pr p)).map Part.d)), (1, .box [.d (.raw (.int .i64 v))])]) (congrArg (fun (z_ : List Part) => F.of [(4, .t (.c (.own 0 (xs.filter (fun p => !pr p)).length)))] [(0, .row 57 3 (z_.map Part.d)), (1, .box [.d (.raw (.int .i64 v))])]) (show (((xs.take j).filter (fun p => !pr p)) : List Part) = (xs.filter (fun p => !pr p)) from hF))
     refine retS [.c (.own 0 (xs.filter (fun p => !pr p)).length)] h Exit.ret (.inl rfl)  rfl ⟨RV.tmp _ _ rfl, trivial⟩ ?_ (by kernel_rfl) (by kernel_rfl)
     rfl
theorem SWithout (t : Term) (v : Int) {n L : Nat} (ht : TOk n L t) (hn : n ≤ 1000) (hL : L ≤ 20000) : Fn Tryz.prog 74 [] [.t (.agg ([.d (.sl 3 (t.parts.map Part.d))] ++ zi t.k)), vi .i64 v] (vd (woT t v).d) [] := by
 have lnp := (ht.plain hn).len
 have lnf : ((plainT t).parts.filter (fun p => !isVar v p)).length ≤ (plainT t).parts.length := List.length_filter_le _ _
 refine Fn.body Tryz.func74 rfl 14 rfl fun w H B a h => ?_
 refine rSeq fam0ok 5 [] [(2, vp 5 0), (3, vp 6 0), (4, vp 7 0)] [(5, .box ([.d (.sl 3 (t.parts.map Part.d))] ++ zi t.k)), (6, .box [.d (.raw (.int .i64 v))]), (7, .box [.d (.raw nilV), .d (.raw (.bool false)), .d (nsl [])])] (by kernel_rfl) h ?_; clear h; intro a w h
 refine rSeq fam0ok 8 [(1, .call (SPlainO t ht (by omega) (by omega)) tm_7)] [(3, vp 6 0), (4, vp 7 0), (5, vp 8 0)] [(6, .box [.d (.raw (.int .i64 v))]), (7, .box [.d (.raw nilV), .d (.raw (.bool false)), .d (nsl [])]), (0, .row 57 3 ((plainT t).parts.map Part.d)), (8, .box ([.own 0 (plainT t).parts.length] ++ zi (plainT t).k))] (by kernel_rfl) h ?_; clear h; intro a w h
 replace h := renS 6 1 [(3, vp 1 0), (4, vp 7 0), (5, vp 8 0)] [(7, .box [.d (.raw nilV), .d (.raw (.bool false)), .d (nsl [])]), (0, .row 57 3 ((plainT t).parts.map Part.d)), (8, .box ([.own 0 (plainT t).parts.length] ++ zi (plainT t).k)), (1, .box [.d (.raw (.int .i64 v))])] h (by kernel_rfl) (by kernel_rfl) (by kernel_rfl)
 refine rSeq fam0ok 9 [(2, .gen _ _ _ fun _ _ _ _ => Op.makeF1 (d := 10) (t := 3) (fn := .func 114) (x := .ptr 1 0)), (3, .call (SDeleteFV (isVar v) (plainT t).parts v (fun p _ => SWo1 p v) (by omega)) tl_10)] [(4, vp 7 0), (5, vp 8 0)] [(7, .box [.d (.raw nilV), .d (.raw (.bool false)), .d (nsl [])]), (0, .row 57 3 (((plainT t).parts.filter (fun p => !isVar v p)).map Part.d)), (8, .box ([.own 0 ((plainT t).parts.filter (fun p => !isVar v p)).length] ++ zi (plainT t).k))] (by kernel_rfl) h ?_; clear h; intro a w h
 replace h := pubS 0 3 57 (((plainT t).parts.filter (fun p => !isVar v p)).map Part.d) [(4, vp 7 0), (5, vp 8 0)] [(7, .box [.d (.raw nilV), .d (.raw (.bool false)), .d (nsl [])]), (8, .box ([.d (.sl 3 (((plainT t).parts.filter (fun p => !isVar v p)).map Part.d))] ++ zi (plainT t).k))] h rfl trivial (show AllEq _ [((plainT t).parts.filter (fun p => !isVar v p)).length] from ⟨by first | exact (List.length_map _).symm | simp, trivial⟩) (by kernel_rfl) (by kernel_rfl)
 refine rSeq fam0ok 9 [] [(4, vp 7 0)] [(7, .box ([.d (.sl 3 (((plainT t).parts.filter (fun p => !isVar v p)).map Part.d))] ++ zi (plainT t).k))] (by kernel_rfl) h ?_; clear h; intro a w h
 refine wp_ret ?_
 refine retS [.agg ([.d (.sl 3 (((plainT t).parts.filter (fun p => !isVar v p)).map Part.d))] ++ zi (plainT t).k)] h Exit.ret (.inl rfl)  rfl ⟨RV.agg _ 7 0 _ _ _ _ tb_11 rfl rfl rfl rfl, trivial⟩ ?_ (by kernel_rfl) (by kernel_rfl)
 rw [← wo_law]; first | done | rfl
end Go.Proofs.YtoklkfmffmonoaaGreat.S
end
section
namespace Go.Proofs.YtoklkfmffmonoaaGreat.S
open Go.RowKit

end Go.Proofs.YtoklkfmffmonoaaGreat.S
end
section
namespace Go.Proofs.YtoklkfmffmonoaaGreat.S
open Go.RowKit

theorem tx_2 : Bodied Tryz.prog 32 := Bodied.mk' (by kernel_rfl)
end Go.Proofs.YtoklkfmffmonoaaGreat.S
end
section
namespace Go.Proofs.YtoklkfmffmonoaaGreat.S
open Go.RowKit

end Go.Proofs.YtoklkfmffmonoaaGreat.S
end
section
namespace Go.Proofs.YtoklkfmffmonoaaGreat.S
open Go.RowKit

theorem ty_3 : Bodied Tryz.prog 85 := Bodied.mk' (by kernel_rfl)
theorem ty_12 : Bodied Tryz.prog 74 := Bodied.mk' (by kernel_rfl)
end Go.Proofs.YtoklkfmffmonoaaGreat.S
end
section
namespace Go.Proofs.YtoklkfmffmonoaaGreat.S
open Go.RowKit

end Go.Proofs.YtoklkfmffmonoaaGreat.S
end
section
namespace Go.Proofs.YtoklkfmffmonoaaGreat.S
open Go.RowKit

theorem ub_1 : Bodied Tryz.prog 40 := Bodied.mk' (by kernel_rfl)
end Go.Proofs.YtoklkfmffmonoaaGreat.S
end
section
namespace Go.Proofs.YtoklkfmffmonoaaGreat.S
open Go.RowKit

theorem ha_1 : Sz Tryz.prog 45 4 true := Sz.mk' (by kernel_rfl) Tryz.underlying45 _ rfl
theorem ha_4 : Bodied Tryz.prog 73 := Bodied.mk' (by kernel_rfl)
theorem ha_7 : ElZ Tryz.prog 58 63 5 := ElZ.mk' Tryz.underlying58 _ _ rfl rfl (by kernel_rfl) (by kernel_rfl) (by kernel_rfl) (by decide)
theorem ha_8 : ElT Tryz.prog 58 63 5 88 := ElT.mk' Tryz.underlying58 _ _ rfl rfl (by kernel_rfl) (by kernel_rfl) (by kernel_rfl) (by decide) (by decide)
theorem ha_9 : Bodied Tryz.prog 75 := Bodied.mk' (by kernel_rfl)
theorem ha_11 : ElT Tryz.prog 22 45 4 64 := ElT.mk' Tryz.underlying22 _ _ rfl rfl (by kernel_rfl) (by kernel_rfl) (by kernel_rfl) (by decide) (by decide)
theorem ha_12 : Sz Tryz.prog 60 3 true := Sz.mk' (by kernel_rfl) Tryz.underlying60 _ rfl
structure SideD where
  times : ZI
  rest : Term
def SideD.d (x : SideD) : List D := [.raw (.bool x.times.neg), nsl x.times.abs, .sl 3 (x.rest.parts.map Part.d), .raw (.bool x.rest.k.neg), nsl x.rest.k.abs]
structure SidesD where
  lows : List SideD
  highs : List SideD
  others : List RelD
def lstR (t : Term) : RelD := ⟨plainT t, false⟩
def sideOf (v : Int) (r : RelD) : SideD := ⟨ZI.of ((coefZ r.t.parts v).natAbs : Int), woT r.t v⟩
def lowF (v : Int) (r : RelD) : List SideD := if 0 < coefZ r.t.parts v then [sideOf v r] else []
def highF (v : Int) (r : RelD) : List SideD := if coefZ r.t.parts v < 0 then [sideOf v r] else []
def othF (v : Int) (r : RelD) : List RelD := if coefZ r.t.parts v = 0 then [lstR r.t] else []
def lowsOf (rs : List RelD) (v : Int) : List SideD := rs.flatMap (lowF v)
def highsOf (rs : List RelD) (v : Int) : List SideD := rs.flatMap (highF v)
def othersOf (rs : List RelD) (v : Int) : List RelD := rs.flatMap (othF v)
def splitS (rs : List RelD) (v : Int) : SidesD := ⟨lowsOf rs v, highsOf rs v, othersOf rs v⟩
def RsOk (rs : List RelD) : Prop := rs.length ≤ 20 ∧ ∀ r ∈ rs, TokR 8 r
theorem flat_snoc {α β : Type} {g : α → List β} {xs : List α} {j : Nat} {x : α} {ys : List β} (h : xs[j]? = some x) (e : g x = ys) : (xs.take j).flatMap g ++ ys = (xs.take (j + 1)).flatMap g := by
 rw [List.take_add_one, h, List.flatMap_append]; simp [e]
theorem flat_skip {α β : Type} {g : α → List β} {xs : List α} {j : Nat} {x : α} (h : xs[j]? = some x) (e : g x = []) : (xs.take j).flatMap g = (xs.take (j + 1)).flatMap g := by
 rw [← flat_snoc h e, List.append_nil]
theorem flat_le {α β : Type} {g : α → List β} (hg : ∀ x, (g x).length ≤ 1) : ∀ xs : List α, (xs.flatMap g).length ≤ xs.length
 | [] => Nat.le_refl _
 | x :: xs => by
  rw [List.flatMap_cons, List.length_append, List.length_cons]
  have := flat_le hg xs; have := hg x; omega
theorem low_le (v : Int) (r : RelD) : (lowF v r).length ≤ 1 := by unfold lowF; split <;> simp
theorem high_le (v : Int) (r : RelD) : (highF v r).length ≤ 1 := by unfold highF; split <;> simp
theorem oth_le (v : Int) (r : RelD) : (othF v r).length ≤ 1 := by unfold othF; split <;> simp
theorem sgn1_t {z : Int} (h : (sgn z == 1) = true) : 0 < z := sgn_gt_zero.1 (by have h1 : sgn z = 1 := (by simpa using h); omega)
theorem sgn1_f {z : Int} (h : (sgn z == 1) = false) : ¬ 0 < z := fun e => by rw [sgn_pos e] at h; cases h
theorem sgnm_t {z : Int} (h : (sgn z == (-1)) = true) : z < 0 := sgn_lt_zero.1 (by have h1 : sgn z = -1 := (by simpa using h); omega)
theorem sgnm_f {z : Int} (h : (sgn z == (-1)) = false) : ¬ z < 0 := fun e => by rw [sgn_neg e] at h; cases h
theorem wo_ok {n L : Nat} {t : Term} (h : TOk n L t) (hn : n ≤ 1000) (v : Int) : TOk n (L + 1) (woT t v) :=
 TOk.plain (t := ⟨t.parts.filter fun p => !isVar v p, t.k⟩) ⟨Nat.le_trans (List.length_filter_le _ _) h.len, fun p hp => h.ps p (List.mem_filter.1 hp).1, h.kb, h.kl⟩ hn
structure SideOk (s : SideD) : Prop where
  lb : Lb s.times.abs
  len : s.times.abs.length ≤ 9
  rest : TOk 20 9 s.rest
theorem side_ok {r : RelD} (h : TokR 8 r) (v : Int) : SideOk (sideOf v r) := ⟨ZI.lb_of _, by
 have h1 := coef_len (L := 8) (h.mono (show 20 ≤ 1000 by decide) (Nat.le_refl 8)).psok v
 have h2 := len_abs (ZI.lb_of (coefZ r.t.parts v))
 rw [ZI.val_of] at h2
 exact Nat.le_trans h2 h1, wo_ok h (by decide) v⟩
theorem lows_ok {rs : List RelD} (h : RsOk rs) (v : Int) : ∀ s ∈ lowsOf rs v, SideOk s := fun s hs => by
 obtain ⟨r, hr, hm⟩ := List.mem_flatMap.1 hs
 unfold lowF at hm
 split at hm
 ·rw [List.mem_singleton.1 hm]; exact side_ok (h.2 r hr) v
 ·cases hm
theorem highs_ok {rs : List RelD} (h : RsOk rs) (v : Int) : ∀ s ∈ highsOf rs v, SideOk s := fun s hs => by
 obtain ⟨r, hr, hm⟩ := List.mem_flatMap.1 hs
 unfold highF at hm
 split at hm
 ·rw [List.mem_singleton.1 hm]; exact side_ok (h.2 r hr) v
 ·cases hm
theorem lows_len {rs : List RelD} (h : RsOk rs) (v : Int) : (lowsOf rs v).length ≤ 20 := Nat.le_trans (flat_le (low_le v) rs) h.1
theorem highs_len {rs : List RelD} (h : RsOk rs) (v : Int) : (highsOf rs v).length ≤ 20 := Nat.le_trans (flat_le (high_le v) rs) h.1
theorem others_len {rs : List RelD} (h : RsOk rs) (v : Int) : (othersOf rs v).length ≤ 20 := Nat.le_trans (flat_le (oth_le v) rs) h.1
set_option maxHeartbeats 4000000 in
theorem SLeast (t : Term) (ht : TOk 400 10000 t) : Fn Tryz.prog 75 [] [.t (.agg ([.d (.sl 3 (t.parts.map Part.d))] ++ zi t.k))] (.t (.agg ([.d (.sl 3 ((lstR t).t.parts.map Part.d))] ++ zi (lstR t).t.k ++ [.d (.raw (.bool (lstR t).eq))]))) [] := by
 refine Fn.body Tryz.func75 rfl 6 rfl fun w H B a h => ?_
 refine rSeq fam0ok 0 [] [(1, vp 0 0), (2, vp 1 0)] [(0, .box ([.d (.sl 3 (t.parts.map Part.d))] ++ zi t.k)), (1, .box [.d (.raw nilV), .d (.raw (.bool false)), .d (nsl []), .d (.raw (.bool false))])] (by kernel_rfl) h ?_; clear h; intro a w h
 refine rSeq fam0ok 2 [(1, .call (SPlain t ht (by decide) (by decide)) tm_7)] [(2, vp 1 0)] [(1, .box ([.d (.sl 3 ((plainT t).parts.map Part.d))] ++ zi (plainT t).k ++ [.d (.raw (.bool false))]))] (by kernel_rfl) h ?_; clear h; intro a w h
 refine wp_ret ?_
 refine retS [.agg ([.d (.sl 3 ((plainT t).parts.map Part.d))] ++ zi (plainT t).k ++ [.d (.raw (.bool false))])] h Exit.ret (.inl rfl)  rfl ⟨RV.agg _ 1 0 _ _ _ _ ha_1 rfl rfl rfl rfl, trivial⟩ ?_ (by kernel_rfl) (by kernel_rfl)
 rfl
set_option maxHeartbeats 4000000 in
theorem Ssplit (rs : List RelD) (v : Int) (hrs : RsOk rs) : Fn Tryz.prog 30 [] [.t (.c (.d (.sl 4 (rs.map RelD.d)))), vi .i64 v] (.t (.agg [.d (.sl 5 ((lowsOf rs v).map SideD.d)), .d (.sl 5 ((highsOf rs v).map SideD.d)), .d (.sl 4 ((othersOf rs v).map RelD.d))])) [] := by
 have lrs := hrs.1
 refine Fn.body Tryz.func30 rfl 55 rfl fun w H B a h => ?_
 refine rSeq fam0ok 5 [] [(0, .t (.c (.d (.sl 4 (rs.map RelD.d))))), (1, vi .i64 v), (4, vp 5 0)] [(5, .box [.d (.raw nilV), .d (.raw nilV), .d (.raw nilV)])] (by kernel_rfl) h ?_; clear h; intro a w h
 refine rSeq fam0ok 6 [] [(0, .t (.c (.d (.sl 4 (rs.map RelD.d))))), (1, vi .i64 v), (4, vp 5 0), (5, vp 6 0)] [(5, .box [.d (.raw nilV), .d (.raw nilV), .d (.raw nilV)]), (6, .box [.d (.raw nilV), .d (.raw nilV), .d (.raw nilV)])] (by kernel_rfl) h ?_; clear h; intro a w h
 refine wp_seq ?_
 replace h := nilOLs 6 0 7 5 63 [.d (.raw nilV), .d (.raw nilV), .d (.raw nilV)] [(0, .t (.c (.d (.sl 4 (rs.map RelD.d))))), (1, vi .i64 v), (4, vp 5 0), (5, vp 6 0)] [(5, .box [.d (.raw nilV), .d (.raw nilV), .d (.raw nilV)]), (6, .box [.own 7 0, .d (.raw nilV), .d (.raw nilV)]), (7, .row 63 5 ([].map SideD.d))] h (by kernel_rfl) rfl rfl (by kernel_rfl) (by kernel_rfl)
 replace h := nilOLs 6 1 8 5 63 [.own 7 0, .d (.raw nilV), .d (.raw nilV)] [(0, .t (.c (.d (.sl 4 (rs.map RelD.d))))), (1, vi .i64 v), (4, vp 5 0), (5, vp 6 0)] [(5, .box [.d (.raw nilV), .d (.raw nilV), .d (.raw nilV)]), (6, .box [.own 7 0, .own 8 0, .d (.raw nilV)]), (7, .row 63 5 ([].map SideD.d)), (8, .row 63 5 ([].map SideD.d))] h (by kernel_rfl) rfl rfl (by kernel_rfl) (by kernel_rfl)
 replace h := nilOLs 6 2 9 4 45 [.own 7 0, .own 8 0, .d (.raw nilV)] [(0, .t (.c (.d (.sl 4 (rs.map RelD.d))))), (1, vi .i64 v), (4, vp 5 0), (5, vp 6 0)] [(5, .box [.d (.raw nilV), .d (.raw nilV), .d (.raw nilV)]), (6, .box [.own 7 0, .own 8 0, .own 9 0]), (7, .row 63 5 ([].map SideD.d)), (8, .row 63 5 ([].map SideD.d)), (9, .row 45 4 ([].map RelD.d))] h (by kernel_rfl) rfl rfl (by kernel_rfl) (by kernel_rfl)
 refine rSeq fam0ok 10 [(1, .len (c := (.d (.sl 4 (rs.map RelD.d)))) (n := rs.length) (lenC_map _ _ _))] [(1, vi .i64 v), (4, vp 5 0), (5, vp 6 0), (10, .t (.c (.d (.sl 4 (rs.map RelD.d))))), (11, vi .i64 (rs.length : Int)), (12, vi .i64 0)] [(5, .box [.d (.raw nilV), .d (.raw nilV), .d (.raw nilV)]), (6, .box [.own 7 0, .own 8 0, .own 9 0]), (7, .row 63 5 ([].map SideD.d)), (8, .row 63 5 ([].map SideD.d)), (9, .row 45 4 ([].map RelD.d))] (by kernel_rfl) h ?_; clear h; intro a w h
 refine wp_block ?_
 refine loopS (ι := (Nat)) (fun (z_ : (Nat)) => match z_ with | j => j ≤ rs.length)
   (fun (z_ : (Nat)) => match z_ with | j => [(1, vi .i64 v), (4, vp 5 0), (5, vp 6 0), (10, .t (.c (.d (.sl 4 (rs.map RelD.d))))), (11, vi .i64 (rs.length : Int)), (12, vi .i64 (j : Int))])
   (fun (z_ : (Nat)) => match z_ with | j => [(5, .box [.d (.raw nilV), .d (.raw nilV), .d (.raw nilV)]), (6, .box [.own 7 ((rs.take j).flatMap (lowF v)).length, .own 8 ((rs.take j).flatMap (highF v)).length, .own 9 ((rs.take j).flatMap (othF v)).length]), (7, .row 63 5 (((rs.take j).flatMap (lowF v)).map SideD.d)), (8, .row 63 5 (((rs.take j).flatMap (highF v)).map SideD.d)), (9, .row 45 4 (((rs.take j).flatMap (othF v)).map RelD.d))])
   (fun (z_ : (Nat)) => match z_ with | j => rs.length - j) 0 ?_ h (by kernel_rfl) (by kernel_rfl) ?_
 ·exact Nat.zero_le _
 ·clear h; rintro j a w hI h
  change St _ (F.of [(1, vi .i64 v), (4, vp 5 0), (5, vp 6 0), (10, .t (.c (.d (.sl 4 (rs.map RelD.d))))), (11, vi .i64 (rs.length : Int)), (12, vi .i64 (j : Int))] [(5, .box [.d (.raw nilV), .d (.raw nilV), .d (.raw nilV)]), (6, .box [.own 7 ((rs.take j).flatMap (lowF v)).length, .own 8 ((rs.take j).flatMap (highF v)).length, .own 9 ((rs.take j).flatMap (othF v)).length]), (7, .row 63 5 (((rs.take j).flatMap (lowF v)).map SideD.d)), (8, .row 63 5 (((rs.take j).flatMap (highF v)).map SideD.d)), (9, .row 45 4 (((rs.take j).flatMap (othF v)).map RelD.d))]) a w at h
  have fl1 := flat_le (low_le v) (rs.take j)
  have fl2 := flat_le (high_le v) (rs.take j)
  have fl3 := flat_le (oth_le v) (rs.take j)
  rw [List.length_take] at fl1 fl2 fl3
  refine rSeq fam0ok 10 [] [(1, vi .i64 v), (4, vp 5 0), (5, vp 6 0), (10, .t (.c (.d (.sl 4 (rs.map RelD.d))))), (11, vi .i64 (rs.length : Int)), (12, vi .i64 (j : Int)), (13, vb (decide ((j : Int) < (rs.length : Int))))] [(5, .box [.d (.raw nilV), .d (.raw nilV), .d (.raw nilV)]), (6, .box [.own 7 ((rs.take j).flatMap (lowF v)).length, .own 8 ((rs.take j).flatMap (highF v)).length, .own 9 ((rs.take j).flatMap (othF v)).length]), (7, .row 63 5 (((rs.take j).flatMap (lowF v)).map SideD.d)), (8, .row 63 5 (((rs.take j).flatMap (highF v)).map SideD.d)), (9, .row 45 4 (((rs.take j).flatMap (othF v)).map RelD.d))] (by kernel_rfl) h ?_; clear h; intro a w h
  refine wp_seq ?_
  refine condS (decide ((j : Int) < (rs.length : Int))) h rfl (fun hc => ?_) (fun hc => ?_)
  ·have hc1 := hc; clear hc
   have hc1' := of_decide_eq_true hc1
   refine wp_skip ?_
   refine then_n ?_
   refine wp_seq ?_
   refine wp_block ?_
   obtain ⟨x1, hx1⟩ : ∃ z_ : RelD, rs[j]? = some z_ := ⟨_, List.getElem?_eq_getElem (by first | omega | (simp at *; omega))⟩
   have gx1 : TOk 20 8 x1.t := hrs.2 x1 (List.mem_of_getElem? hx1)
   refine rSeq fam0ok 10 [(0, .gen _ _ _ fun _ _ _ _ => Op.idxD (d := 14) (t := 10) (k := .i64) kc_3 (map_at hx1 (f := RelD.d)) (OV.tmp 12 _))] [(1, vi .i64 v), (4, vp 5 0), (5, vp 6 0), (7, vp 10 0), (10, .t (.c (.d (.sl 4 (rs.map RelD.d))))), (11, vi .i64 (rs.length : Int)), (12, vi .i64 (j : Int))] [(5, .box [.d (.raw nilV), .d (.raw nilV), .d (.raw nilV)]), (6, .box [.own 7 ((rs.take j).flatMap (lowF v)).length, .own 8 ((rs.take j).flatMap (highF v)).length, .own 9 ((rs.take j).flatMap (othF v)).length]), (7, .row 63 5 (((rs.take j).flatMap (lowF v)).map SideD.d)), (8, .row 63 5 (((rs.take j).flatMap (highF v)).map SideD.d)), (9, .row 45 4 (((rs.take j).flatMap (othF v)).map RelD.d)), (10, .box ([.d (.sl 3 (x1.t.parts.map Part.d))] ++ zi x1.t.k ++ [.d (.raw (.bool x1.eq))]))] (by kernel_rfl) h ?_; clear h; intro a w h
   obtain ⟨r2, er2, vr2, or2, lr2⟩ := mkZ (v := coefZ x1.t.parts v) (m := 9) (coef_len (TOk.mono gx1 (show 20 ≤ 1000 by decide) (Nat.le_refl 8)).psok v)
   refine rSeq fam0ok 11 [(3, .call (Fn.cast (STCoef x1.t v (TOk.mono (n' := 1000) (L' := 40000) gx1 (by decide) (by decide)).psok) (congrArg vz er2.symm)) tt_3)] [(1, vi .i64 v), (4, vp 5 0), (5, vp 6 0), (7, vp 10 0), (8, vp 11 0), (10, .t (.c (.d (.sl 4 (rs.map RelD.d))))), (11, vi .i64 (rs.length : Int)), (12, vi .i64 (j : Int))] [(5, .box [.d (.raw nilV), .d (.raw nilV), .d (.raw nilV)]), (6, .box [.own 7 ((rs.take j).flatMap (lowF v)).length, .own 8 ((rs.take j).flatMap (highF v)).length, .own 9 ((rs.take j).flatMap (othF v)).length]), (7, .row 63 5 (((rs.take j).flatMap (lowF v)).map SideD.d)), (8, .row 63 5 (((rs.take j).flatMap (highF v)).map SideD.d)), (9, .row 45 4 (((rs.take j).flatMap (othF v)).map RelD.d)), (10, .box ([.d (.sl 3 (x1.t.parts.map Part.d))] ++ zi x1.t.k ++ [.d (.raw (.bool x1.eq))])), (11, .box (zi r2))] (by kernel_rfl) h ?_; clear h; intro a w h
   obtain ⟨r3, er3, vr3, or3, lr3⟩ := mkZ (v := (r2.val.natAbs : Int)) (m := r2.abs.length) (len_abs or2)
   refine rSeq fam0ok 12 [(1, .call (Fn.cast (SAbs r2 or2 (by omega)) (congrArg vz er3.symm)) ha_4), (5, .call (SWithout x1.t v gx1 (by decide) (by decide)) ty_12)] [(1, vi .i64 v), (4, vp 5 0), (5, vp 6 0), (7, vp 10 0), (8, vp 11 0), (9, vp 12 0), (10, .t (.c (.d (.sl 4 (rs.map RelD.d))))), (11, vi .i64 (rs.length : Int)), (12, vi .i64 (j : Int))] [(5, .box [.d (.raw nilV), .d (.raw nilV), .d (.raw nilV)]), (6, .box [.own 7 ((rs.take j).flatMap (lowF v)).length, .own 8 ((rs.take j).flatMap (highF v)).length, .own 9 ((rs.take j).flatMap (othF v)).length]), (7, .row 63 5 (((rs.take j).flatMap (lowF v)).map SideD.d)), (8, .row 63 5 (((rs.take j).flatMap (highF v)).map SideD.d)), (9, .row 45 4 (((rs.take j).flatMap (othF v)).map RelD.d)), (10, .box ([.d (.sl 3 (x1.t.parts.map Part.d))] ++ zi x1.t.k ++ [.d (.raw (.bool x1.eq))])), (11, .box (zi r2)), (12, .box (zi r3 ++ [.d (.sl 3 ((woT x1.t v).parts.map Part.d))] ++ zi (woT x1.t v).k))] (by kernel_rfl) h ?_; clear h; intro a w h
   refine rSeq fam0ok 13 [(1, .call (SSign r2 or2 (by omega)) td_6)] [(1, vi .i64 v), (4, vp 5 0), (5, vp 6 0), (7, vp 10 0), (9, vp 12 0), (10, .t (.c (.d (.sl 4 (rs.map RelD.d))))), (11, vi .i64 (rs.length : Int)), (12, vi .i64 (j : Int)), (28, vi .i64 (sgn r2.val))] [(5, .box [.d (.raw nilV), .d (.raw nilV), .d (.raw nilV)]), (6, .box [.own 7 ((rs.take j).flatMap (lowF v)).length, .own 8 ((rs.take j).flatMap (highF v)).length, .own 9 ((rs.take j).flatMap (othF v)).length]), (7, .row 63 5 (((rs.take j).flatMap (lowF v)).map SideD.d)), (8, .row 63 5 (((rs.take j).flatMap (highF v)).map SideD.d)), (9, .row 45 4 (((rs.take j).flatMap (othF v)).map RelD.d)), (10, .box ([.d (.sl 3 (x1.t.parts.map Part.d))] ++ zi x1.t.k ++ [.d (.raw (.bool x1.eq))])), (12, .box (zi r3 ++ [.d (.sl 3 ((woT x1.t v).parts.map Part.d))] ++ zi (woT x1.t v).k))] (by kernel_rfl) h ?_; clear h; intro a w h
   refine wp_block ?_
   refine rSeq fam0ok 13 [] [(1, vi .i64 v), (4, vp 5 0), (5, vp 6 0), (7, vp 10 0), (9, vp 12 0), (10, .t (.c (.d (.sl 4 (rs.map RelD.d))))), (11, vi .i64 (rs.length : Int)), (12, vi .i64 (j : Int)), (28, vi .i64 (sgn r2.val)), (37, vb (sgn r2.val == 1))] [(5, .box [.d (.raw nilV), .d (.raw nilV), .d (.raw nilV)]), (6, .box [.own 7 ((rs.take j).flatMap (lowF v)).length, .own 8 ((rs.take j).flatMap (highF v)).length, .own 9 ((rs.take j).flatMap (othF v)).length]), (7, .row 63 5 (((rs.take j).flatMap (lowF v)).map SideD.d)), (8, .row 63 5 (((rs.take j).flatMap (highF v)).map SideD.d)), (9, .row 45 4 (((rs.take j).flatMap (othF v)).map RelD.d)), (10, .box ([.d (.sl 3 (x1.t.parts.map Part.d))] ++ zi x1.t.k ++ [.d (.raw (.bool x1.eq))])), (12, .box (zi r3 ++ [.d (.sl 3 ((woT x1.t v).parts.map Part.d))] ++ zi (woT x1.t v).k))] (by kernel_rfl) h ?_; clear h; intro a w h
   refine condS (sgn r2.val == 1) h rfl (fun hc => ?_) (fun hc => ?_)
   ·have hc2 := hc; clear hc
    have hc2' := hc2; (try simp at hc2')
    refine rS fam0ok 13 [(3, .gen _ _ _ fun _ _ _ _ => Op.buildD (d := 42) (len := 1) (rows := [(SideD.mk r3 (woT x1.t v))].map SideD.d) (rs := [(41, .t (.agg (zi r3 ++ [.d (.sl 3 ((woT x1.t v).parts.map Part.d))] ++ zi (woT x1.t v).k)))]) ha_7 (.cons (i := 0) (OV.tmp 41 _) (.nil)) (by kernel_rfl) rfl (by simp [SideD.d]) (by decide) (by decide)), (4, .gen _ _ _ fun _ _ _ _ => Op.appOD (d := 43) (t := 40) (u := 42) (n := 7) (n' := 13) (len := ((rs.take j).flatMap (lowF v)).length) (len' := (((rs.take j).flatMap (lowF v)) ++ [(SideD.mk r3 (woT x1.t v))]).length) (rows := ((rs.take j).flatMap (lowF v)).map SideD.d) (rows2 := [(SideD.mk r3 (woT x1.t v))].map SideD.d) (rows' := (((rs.take j).flatMap (lowF v)) ++ [(SideD.mk r3 (woT x1.t v))]).map SideD.d) ha_8 (by first | exact (List.length_map _).symm | simp) (by first | (rw [List.length_append, List.length_map]; done) | simp) (by simp) (by simp [SideD.d]) (by first | omega | (simp at *; done) | (simp at *; omega)))] [(1, vi .i64 v), (4, vp 5 0), (5, vp 6 0), (10, .t (.c (.d (.sl 4 (rs.map RelD.d))))), (11, vi .i64 (rs.length : Int)), (12, vi .i64 (j : Int))] [(5, .box [.d (.raw nilV), .d (.raw nilV), .d (.raw nilV)]), (6, .box ([.own 13 (((rs.take j).flatMap (lowF v)) ++ [(SideD.mk r3 (woT x1.t v))]).length, .own 8 ((rs.take j).flatMap (highF v)).length, .own 9 ((rs.take j).flatMap (othF v)).length])), (8, .row 63 5 (((rs.take j).flatMap (highF v)).map SideD.d)), (9, .row 45 4 (((rs.take j).flatMap (othF v)).map RelD.d)), (13, .row 63 5 ((((rs.take j).flatMap (lowF v)) ++ [(SideD.mk r3 (woT x1.t v))]).map SideD.d))] (by kernel_rfl) h ?_; clear h; intro a w h
    refine block_n ?_
    refine block_n ?_
    refine then_n ?_
    refine rS fam0ok 14 [(0, .add .i64 (m := (j : Int)) (n := 1) (i64_id (by omega) (by omega)))] [(1, vi .i64 v), (4, vp 5 0), (5, vp 6 0), (10, .t (.c (.d (.sl 4 (rs.map RelD.d))))), (11, vi .i64 (rs.length : Int)), (12, vi .i64 ((j : Int) + 1))] [(5, .box [.d (.raw nilV), .d (.raw nilV), .d (.raw nilV)]), (6, .box ([.own 13 (((rs.take j).flatMap (lowF v)) ++ [(SideD.mk r3 (woT x1.t v))]).length, .own 8 ((rs.take j).flatMap (highF v)).length, .own 9 ((rs.take j).flatMap (othF v)).length])), (8, .row 63 5 (((rs.take j).flatMap (highF v)).map SideD.d)), (9, .row 45 4 (((rs.take j).flatMap (othF v)).map RelD.d)), (13, .row 63 5 ((((rs.take j).flatMap (lowF v)) ++ [(SideD.mk r3 (woT x1.t v))]).map SideD.d))] (by kernel_rfl) h ?_; clear h; intro a w h
    refine then_n ?_
    have hcz := sgn1_t hc2
    rw [vr2] at hcz
    replace h := h.conv (f' := F.of [(1, vi .i64 v), (4, vp 5 0), (5, vp 6 0), (10, .t (.c (.d (.sl 4 (rs.map RelD.d))))), (11, vi .i64 (rs.length : Int)), (12, vi .i64 ((j : Int) + 1))] [(5, .box [.d (.raw nilV), .d (.raw nilV), .d (.raw nilV)]), (6, .box [.own 13 ((rs.take (j + 1)).flatMap (lowF v)).length, .own 8 ((rs.take j).flatMap (highF v)).length, .own 9 ((rs.take j).flatMap (othF v)).length]), (8, .row 63 5 (((rs.take j).flatMap (highF v)).map SideD.d)), (9, .row 45 4 (((rs.take j).flatMap (othF v)).map RelD.d)), (13, .row 63 5 (((rs.take (j + 1)).flatMap (lowF v)).map SideD.d))]) (congrArg (fun (z_ : List SideD) => F.of [(1, vi .i64 v), (4, vp 5 0), (5, vp 6 0), (10, .t (.c (.d (.sl 4 (rs.map RelD.d))))), (11, vi .i64 (rs.length : Int)), (12, vi .i64 ((j : Int) + 1))] [(5, .box [.d (.raw nilV), .d (.raw nilV), .d (.raw nilV)]), (6, .box [.own 13 z_.length, .own 8 ((rs.take j).flatMap (highF v)).length, .own 9 ((rs.take j).flatMap (othF v)).length]), (8, .row 63 5 (((rs.take j).flatMap (highF v)).map SideD.d)), (9, .row 45 4 (((rs.take j).flatMap (othF v)).map RelD.d)), (13, .row 63 5 (z_.map SideD.d))]) (show ((((rs.take j).flatMap (lowF v)) ++ [(SideD.mk r3 (woT x1.t v))]) : List SideD) = ((rs.take (j + 1)).flatMap (lowF v)) from (flat_snoc hx1 (by unfold lowF; rw [if_pos (by omega)]; unfold sideOf; rw [er3, vr2]))))
    replace h := h.conv (f' := F.of [(1, vi .i64 v), (4, vp 5 0), (5, vp 6 0), (10, .t (.c (.d (.sl 4 (rs.map RelD.d))))), (11, vi .i64 (rs.length : Int)), (12, vi .i64 ((j : Int) + 1))] [(5, .box [.d (.raw nilV), .d (.raw nilV), .d (.raw nilV)]), (6, .box [.own 13 ((rs.take (j + 1)).flatMap (lowF v)).length, .own 8 ((rs.take (j + 1)).flatMap (highF v)).length, .own 9 ((rs.take j).flatMap (othF v)).length]), (8, .row 63 5 (((rs.take (j + 1)).flatMap (highF v)).map SideD.d)), (9, .row 45 4 (((rs.take j).flatMap (othF v)).map RelD.d)), (13, .row 63 5 (((rs.take (j + 1)).flatMap (lowF v)).map SideD.d))]) (congrArg (fun (z_ : List SideD) => F.of [(1, vi .i64 v), (4, vp 5 0), (5, vp 6 0), (10, .t (.c (.d (.sl 4 (rs.map RelD.d))))), (11, vi .i64 (rs.length : Int)), (12, vi .i64 ((j : Int) + 1))] [(5, .box [.d (.raw nilV), .d (.raw nilV), .d (.raw nilV)]), (6, .box [.own 13 ((rs.take (j + 1)).flatMap (lowF v)).length, .own 8 z_.length, .own 9 ((rs.take j).flatMap (othF v)).length]), (8, .row 63 5 (z_.map SideD.d)), (9, .row 45 4 (((rs.take j).flatMap (othF v)).map RelD.d)), (13, .row 63 5 (((rs.take (j + 1)).flatMap (lowF v)).map SideD.d))]) (show (((rs.take j).flatMap (highF v)) : List SideD) = ((rs.take (j + 1)).flatMap (highF v)) from (flat_skip hx1 (by unfold highF; rw [if_neg (by omega)]))))
    replace h := h.conv (f' := F.of [(1, vi .i64 v), (4, vp 5 0), (5, vp 6 0), (10, .t (.c (.d (.sl 4 (rs.map RelD.d))))), (11, vi .i64 (rs.length : Int)), (12, vi .i64 ((j : Int) + 1))] [(5, .box [.d (.raw nilV), .d (.raw nilV), .d (.raw nilV)]), (6, .box [.own 13 ((rs.take (j + 1)).flatMap (lowF v)).length, .own 8 ((rs.take (j + 1)).flatMap (highF v)).length, .own 9 ((rs.take (j + 1)).flatMap (othF v)).length]), (8, .row 63 5 (((rs.take (j + 1)).flatMap (highF v)).map SideD.d)), (9, .row 45 4 (((rs.take (j + 1)).flatMap (othF v)).map RelD.d)), (13, .row 63 5 (((rs.take (j + 1)).flatMap (lowF v)).map SideD.d))]) (congrArg (fun (z_ : List RelD) => F.of [(1, vi .i64 v), (4, vp 5 0), (5, vp 6 0), (10, .t (.c (.d (.sl 4 (rs.map RelD.d))))), (11, vi .i64 (rs.length : Int)), (12, vi .i64 ((j : Int) + 1))] [(5, .box [.d (.raw nilV), .d (.raw nilV), .d (.raw nilV)]), (6, .box [.own 13 ((rs.take (j + 1)).flatMap (lowF v)).length, .own 8 ((rs.take (j + 1)).flatMap (highF v)).length, .own 9 z_.length]), (8, .row 63 5 (((rs.take (j + 1)).flatMap (highF v)).map SideD.d)), (9, .row 45 4 (z_.map RelD.d)), (13, .row 63 5 (((rs.take (j + 1)).flatMap (lowF v)).map SideD.d))]) (show (((rs.take j).flatMap (othF v)) : List RelD) = ((rs.take (j + 1)).flatMap (othF v)) from (flat_skip hx1 (by unfold othF; rw [if_neg (by omega)]))))
    replace h := renS 13 7 [(1, vi .i64 v), (4, vp 5 0), (5, vp 6 0), (10, .t (.c (.d (.sl 4 (rs.map RelD.d))))), (11, vi .i64 (rs.length : Int)), (12, vi .i64 ((j : Int) + 1))] [(5, .box [.d (.raw nilV), .d (.raw nilV), .d (.raw nilV)]), (6, .box [.own 7 ((rs.take (j + 1)).flatMap (lowF v)).length, .own 8 ((rs.take (j + 1)).flatMap (highF v)).length, .own 9 ((rs.take (j + 1)).flatMap (othF v)).length]), (8, .row 63 5 (((rs.take (j + 1)).flatMap (highF v)).map SideD.d)), (9, .row 45 4 (((rs.take (j + 1)).flatMap (othF v)).map RelD.d)), (7, .row 63 5 (((rs.take (j + 1)).flatMap (lowF v)).map SideD.d))] h (by kernel_rfl) (by kernel_rfl) (by kernel_rfl)
    refine roundS (x := j) (y := j + 1) h ?_ ?_ (by kernel_rfl) (by kernel_rfl)
    ·have := at_lt hx1
     show j + 1 ≤ rs.length
     omega
    ·show rs.length - (j + 1) < rs.length - j
     have := at_lt hx1; omega
   ·have hc3 := hc; clear hc
    have hc3' := hc3; (try simp at hc3')
    refine rSeq fam0ok 14 [] [(1, vi .i64 v), (4, vp 5 0), (5, vp 6 0), (7, vp 10 0), (9, vp 12 0), (10, .t (.c (.d (.sl 4 (rs.map RelD.d))))), (11, vi .i64 (rs.length : Int)), (12, vi .i64 (j : Int)), (45, vb (sgn r2.val == (-1)))] [(5, .box [.d (.raw nilV), .d (.raw nilV), .d (.raw nilV)]), (6, .box [.own 7 ((rs.take j).flatMap (lowF v)).length, .own 8 ((rs.take j).flatMap (highF v)).length, .own 9 ((rs.take j).flatMap (othF v)).length]), (7, .row 63 5 (((rs.take j).flatMap (lowF v)).map SideD.d)), (8, .row 63 5 (((rs.take j).flatMap (highF v)).map SideD.d)), (9, .row 45 4 (((rs.take j).flatMap (othF v)).map RelD.d)), (10, .box ([.d (.sl 3 (x1.t.parts.map Part.d))] ++ zi x1.t.k ++ [.d (.raw (.bool x1.eq))])), (12, .box (zi r3 ++ [.d (.sl 3 ((woT x1.t v).parts.map Part.d))] ++ zi (woT x1.t v).k))] (by kernel_rfl) h ?_; clear h; intro a w h
    refine condS (sgn r2.val == (-1)) h rfl (fun hc => ?_) (fun hc => ?_)
    ·have hc4 := hc; clear hc
     have hc4' := hc4; (try simp at hc4')
     refine rS fam0ok 14 [(3, .gen _ _ _ fun _ _ _ _ => Op.buildD (d := 50) (len := 1) (rows := [(SideD.mk r3 (woT x1.t v))].map SideD.d) (rs := [(49, .t (.agg (zi r3 ++ [.d (.sl 3 ((woT x1.t v).parts.map Part.d))] ++ zi (woT x1.t v).k)))]) ha_7 (.cons (i := 0) (OV.tmp 49 _) (.nil)) (by kernel_rfl) rfl (by simp [SideD.d]) (by decide) (by decide)), (4, .gen _ _ _ fun _ _ _ _ => Op.appOD (d := 51) (t := 48) (u := 50) (n := 8) (n' := 14) (len := ((rs.take j).flatMap (highF v)).length) (len' := (((rs.take j).flatMap (highF v)) ++ [(SideD.mk r3 (woT x1.t v))]).length) (rows := ((rs.take j).flatMap (highF v)).map SideD.d) (rows2 := [(SideD.mk r3 (woT x1.t v))].map SideD.d) (rows' := (((rs.take j).flatMap (highF v)) ++ [(SideD.mk r3 (woT x1.t v))]).map SideD.d) ha_8 (by first | exact (List.length_map _).symm | simp) (by first | (rw [List.length_append, List.length_map]; done) | simp) (by simp) (by simp [SideD.d]) (by first | omega | (simp at *; done) | (simp at *; omega)))] [(1, vi .i64 v), (4, vp 5 0), (5, vp 6 0), (10, .t (.c (.d (.sl 4 (rs.map RelD.d))))), (11, vi .i64 (rs.length : Int)), (12, vi .i64 (j : Int))] [(5, .box [.d (.raw nilV), .d (.raw nilV), .d (.raw nilV)]), (6, .box ([.own 7 ((rs.take j).flatMap (lowF v)).length, .own 14 (((rs.take j).flatMap (highF v)) ++ [(SideD.mk r3 (woT x1.t v))]).length, .own 9 ((rs.take j).flatMap (othF v)).length])), (7, .row 63 5 (((rs.take j).flatMap (lowF v)).map SideD.d)), (9, .row 45 4 (((rs.take j).flatMap (othF v)).map RelD.d)), (14, .row 63 5 ((((rs.take j).flatMap (highF v)) ++ [(SideD.mk r3 (woT x1.t v))]).map SideD.d))] (by kernel_rfl) h ?_; clear h; intro a w h
     refine block_n ?_
     refine block_n ?_
     refine then_n ?_
     refine rS fam0ok 15 [(0, .add .i64 (m := (j : Int)) (n := 1) (i64_id (by omega) (by omega)))] [(1, vi .i64 v), (4, vp 5 0), (5, vp 6 0), (10, .t (.c (.d (.sl 4 (rs.map RelD.d))))), (11, vi .i64 (rs.length : Int)), (12, vi .i64 ((j : Int) + 1))] [(5, .box [.d (.raw nilV), .d (.raw nilV), .d (.raw nilV)]), (6, .box ([.own 7 ((rs.take j).flatMap (lowF v)).length, .own 14 (((rs.take j).flatMap (highF v)) ++ [(SideD.mk r3 (woT x1.t v))]).length, .own 9 ((rs.take j).flatMap (othF v)).length])), (7, .row 63 5 (((rs.take j).flatMap (lowF v)).map SideD.d)), (9, .row 45 4 (((rs.take j).flatMap (othF v)).map RelD.d)), (14, .row 63 5 ((((rs.take j).flatMap (highF v)) ++ [(SideD.mk r3 (woT x1.t v))]).map SideD.d))] (by kernel_rfl) h ?_; clear h; intro a w h
     refine then_n ?_
     have hcz := sgn1_f hc3
     rw [vr2] at hcz
     have hcy := sgnm_t hc4
     rw [vr2] at hcy
     replace h := h.conv (f' := F.of [(1, vi .i64 v), (4, vp 5 0), (5, vp 6 0), (10, .t (.c (.d (.sl 4 (rs.map RelD.d))))), (11, vi .i64 (rs.length : Int)), (12, vi .i64 ((j : Int) + 1))] [(5, .box [.d (.raw nilV), .d (.raw nilV), .d (.raw nilV)]), (6, .box ([.own 7 ((rs.take (j + 1)).flatMap (lowF v)).length, .own 14 (((rs.take j).flatMap (highF v)) ++ [(SideD.mk r3 (woT x1.t v))]).length, .own 9 ((rs.take j).flatMap (othF v)).length])), (7, .row 63 5 (((rs.take (j + 1)).flatMap (lowF v)).map SideD.d)), (9, .row 45 4 (((rs.take j).flatMap (othF v)).map RelD.d)), (14, .row 63 5 ((((rs.take j).flatMap (highF v)) ++ [(SideD.mk r3 (woT x1.t v))]).map SideD.d))]) (congrArg (fun (z_ : List SideD) => F.of [(1, vi .i64 v), (4, vp 5 0), (5, vp 6 0), (10, .t (.c (.d (.sl 4 (rs.map RelD.d))))), (11, vi .i64 (rs.length : Int)), (12, vi .i64 ((j : Int) + 1))] [(5, .box [.d (.raw nilV), .d (.raw nilV), .d (.raw nilV)]), (6, .box ([.own 7 z_.length, .own 14 (((rs.take j).flatMap (highF v)) ++ [(SideD.mk r3 (woT x1.t v))]).length, .own 9 ((rs.take j).flatMap (othF v)).length])), (7, .row 63 5 (z_.map SideD.d)), (9, .row 45 4 (((rs.take j).flatMap (othF v)).map RelD.d)), (14, .row 63 5 ((((rs.take j).flatMap (highF v)) ++ [(SideD.mk r3 (woT x1.t v))]).map SideD.d))]) (show (((rs.take j).flatMap (lowF v)) : List SideD) = ((rs.take (j + 1)).flatMap (lowF v)) from (flat_skip hx1 (by unfold lowF; rw [if_neg (by omega)]))))
     replace h := h.conv (f' := F.of [(1, vi .i64 v), (4, vp 5 0), (5, vp 6 0), (10, .t (.c (.d (.sl 4 (rs.map RelD.d))))), (11, vi .i64 (rs.length : Int)), (12, vi .i64 ((j : Int) + 1))] [(5, .box [.d (.raw nilV), .d (.raw nilV), .d (.raw nilV)]), (6, .box [.own 7 ((rs.take (j + 1)).flatMap (lowF v)).length, .own 14 ((rs.take (j + 1)).flatMap (highF v)).length, .own 9 ((rs.take j).flatMap (othF v)).length]), (7, .row 63 5 (((rs.take (j + 1)).flatMap (lowF v)).map SideD.d)), (9, .row 45 4 (((rs.take j).flatMap (othF v)).map RelD.d)), (14, .row 63 5 (((rs.take (j + 1)).flatMap (highF v)).map SideD.d))]) (congrArg (fun (z_ : List SideD) => F.of [(1, vi .i64 v), (4, vp 5 0), (5, vp 6 0), (10, .t (.c (.d (.sl 4 (rs.map RelD.d))))), (11, vi .i64 (rs.length : Int)), (12, vi .i64 ((j : Int) + 1))] [(5, .box [.d (.raw nilV), .d (.raw nilV), .d (.raw nilV)]), (6, .box [.own 7 ((rs.take (j + 1)).flatMap (lowF v)).length, .own 14 z_.length, .own 9 ((rs.take j).flatMap (othF v)).length]), (7, .row 63 5 (((rs.take (j + 1)).flatMap (lowF v)).map SideD.d)), (9, .row 45 4 (((rs.take j).flatMap (othF v)).map RelD.d)), (14, .row 63 5 (z_.map SideD.d))]) (show ((((rs.take j).flatMap (highF v)) ++ [(SideD.mk r3 (woT x1.t v))]) : List SideD) = ((rs.take (j + 1)).flatMap (highF v)) from (flat_snoc hx1 (by unfold highF; rw [if_pos (by omega)]; unfold sideOf; rw [er3, vr2]))))
     replace h := h.conv (f' := F.of [(1, vi .i64 v), (4, vp 5 0), (5, vp 6 0), (10, .t (.c (.d (.sl 4 (rs.map RelD.d))))), (11, vi .i64 (rs.length : Int)), (12, vi .i64 ((j : Int) + 1))] [(5, .box [.d (.raw nilV), .d (.raw nilV), .d (.raw nilV)]), (6, .box [.own 7 ((rs.take (j + 1)).flatMap (lowF v)).length, .own 14 ((rs.take (j + 1)).flatMap (highF v)).length, .own 9 ((rs.take (j + 1)).flatMap (othF v)).length]), (7, .row 63 5 (((rs.take (j + 1)).flatMap (lowF v)).map SideD.d)), (9, .row 45 4 (((rs.take (j + 1)).flatMap (othF v)).map RelD.d)), (14, .row 63 5 (((rs.take (j + 1)).flatMap (highF v)).map SideD.d))]) (congrArg (fun (z_ : List RelD) => F.of [(1, vi .i64 v), (4, vp 5 0), (5, vp 6 0), (10, .t (.c (.d (.sl 4 (rs.map RelD.d))))), (11, vi .i64 (rs.length : Int)), (12, vi .i64 ((j : Int) + 1))] [(5, .box [.d (.raw nilV), .d (.raw nilV), .d (.raw nilV)]), (6, .box [.own 7 ((rs.take (j + 1)).flatMap (lowF v)).length, .own 14 ((rs.take (j + 1)).flatMap (highF v)).length, .own 9 z_.length]), (7, .row 63 5 (((rs.take (j + 1)).flatMap (lowF v)).map SideD.d)), (9, .row 45 4 (z_.map RelD.d)), (14, .row 63 5 (((rs.take (j + 1)).flatMap (highF v)).map SideD.d))]) (show (((rs.take j).flatMap (othF v)) : List RelD) = ((rs.take (j + 1)).flatMap (othF v)) from (flat_skip hx1 (by unfold othF; rw [if_neg (by omega)]))))
     replace h := renS 14 8 [(1, vi .i64 v), (4, vp 5 0), (5, vp 6 0), (10, .t (.c (.d (.sl 4 (rs.map RelD.d))))), (11, vi .i64 (rs.length : Int)), (12, vi .i64 ((j : Int) + 1))] [(5, .box [.d (.raw nilV), .d (.raw nilV), .d (.raw nilV)]), (6, .box [.own 7 ((rs.take (j + 1)).flatMap (lowF v)).length, .own 8 ((rs.take (j + 1)).flatMap (highF v)).length, .own 9 ((rs.take (j + 1)).flatMap (othF v)).length]), (7, .row 63 5 (((rs.take (j + 1)).flatMap (lowF v)).map SideD.d)), (9, .row 45 4 (((rs.take (j + 1)).flatMap (othF v)).map RelD.d)), (8, .row 63 5 (((rs.take (j + 1)).flatMap (highF v)).map SideD.d))] h (by kernel_rfl) (by kernel_rfl) (by kernel_rfl)
     refine roundS (x := j) (y := j + 1) h ?_ ?_ (by kernel_rfl) (by kernel_rfl)
     ·have := at_lt hx1
      show j + 1 ≤ rs.length
      omega
     ·show rs.length - (j + 1) < rs.length - j
      have := at_lt hx1; omega
    ·have hc5 := hc; clear hc
     have hc5' := hc5; (try simp at hc5')
     refine rS fam0ok 15 [(4, .call (SLeast x1.t (gx1.mono (by decide) (by decide))) ha_9), (5, .gen _ _ _ fun _ _ _ _ => Op.buildD (d := 34) (len := 1) (rows := [(lstR x1.t)].map RelD.d) (rs := [(33, .t (.agg ([.d (.sl 3 ((lstR x1.t).t.parts.map Part.d))] ++ zi (lstR x1.t).t.k ++ [.d (.raw (.bool (lstR x1.t).eq))])))]) kc_5 (.cons (i := 0) (OV.tmp 33 _) (.nil)) (by kernel_rfl) rfl (by simp [RelD.d]) (by decide) (by decide)), (6, .gen _ _ _ fun _ _ _ _ => Op.appOD (d := 35) (t := 30) (u := 34) (n := 9) (n' := 15) (len := ((rs.take j).flatMap (othF v)).length) (len' := (((rs.take j).flatMap (othF v)) ++ [(lstR x1.t)]).length) (rows := ((rs.take j).flatMap (othF v)).map RelD.d) (rows2 := [(lstR x1.t)].map RelD.d) (rows' := (((rs.take j).flatMap (othF v)) ++ [(lstR x1.t)]).map RelD.d) ha_11 (by first | exact (List.length_map _).symm | simp) (by first | (rw [List.length_append, List.length_map]; done) | simp) (by simp) (by simp [RelD.d]) (by first | omega | (simp at *; done) | (simp at *; omega)))] [(1, vi .i64 v), (4, vp 5 0), (5, vp 6 0), (10, .t (.c (.d (.sl 4 (rs.map RelD.d))))), (11, vi .i64 (rs.length : Int)), (12, vi .i64 (j : Int))] [(5, .box [.d (.raw nilV), .d (.raw nilV), .d (.raw nilV)]), (6, .box ([.own 7 ((rs.take j).flatMap (lowF v)).length, .own 8 ((rs.take j).flatMap (highF v)).length, .own 15 (((rs.take j).flatMap (othF v)) ++ [(lstR x1.t)]).length])), (7, .row 63 5 (((rs.take j).flatMap (lowF v)).map SideD.d)), (8, .row 63 5 (((rs.take j).flatMap (highF v)).map SideD.d)), (15, .row 45 4 ((((rs.take j).flatMap (othF v)) ++ [(lstR x1.t)]).map RelD.d))] (by kernel_rfl) h ?_; clear h; intro a w h
     refine block_n ?_
     refine block_n ?_
     refine then_n ?_
     refine rS fam0ok 16 [(0, .add .i64 (m := (j : Int)) (n := 1) (i64_id (by omega) (by omega)))] [(1, vi .i64 v), (4, vp 5 0), (5, vp 6 0), (10, .t (.c (.d (.sl 4 (rs.map RelD.d))))), (11, vi .i64 (rs.length : Int)), (12, vi .i64 ((j : Int) + 1))] [(5, .box [.d (.raw nilV), .d (.raw nilV), .d (.raw nilV)]), (6, .box ([.own 7 ((rs.take j).flatMap (lowF v)).length, .own 8 ((rs.take j).flatMap (highF v)).length, .own 15 (((rs.take j).flatMap (othF v)) ++ [(lstR x1.t)]).length])), (7, .row 63 5 (((rs.take j).flatMap (lowF v)).map SideD.d)), (8, .row 63 5 (((rs.take j).flatMap (highF v)).map SideD.d)), (15, .row 45 4 ((((rs.take j).flatMap (othF v)) ++ [(lstR x1.t)]).map RelD.d))] (by kernel_rfl) h ?_; clear h; intro a w h
     refine then_n ?_
     have hcz := sgn1_f hc3
     rw [vr2] at hcz
     have hcy := sgnm_f hc5
     rw [vr2] at hcy
     replace h := h.conv (f' := F.of [(1, vi .i64 v), (4, vp 5 0), (5, vp 6 0), (10, .t (.c (.d (.sl 4 (rs.map RelD.d))))), (11, vi .i64 (rs.length : Int)), (12, vi .i64 ((j : Int) + 1))] [(5, .box [.d (.raw nilV), .d (.raw nilV), .d (.raw nilV)]), (6, .box ([.own 7 ((rs.take (j + 1)).flatMap (lowF v)).length, .own 8 ((rs.take j).flatMap (highF v)).length, .own 15 (((rs.take j).flatMap (othF v)) ++ [(lstR x1.t)]).length])), (7, .row 63 5 (((rs.take (j + 1)).flatMap (lowF v)).map SideD.d)), (8, .row 63 5 (((rs.take j).flatMap (highF v)).map SideD.d)), (15, .row 45 4 ((((rs.take j).flatMap (othF v)) ++ [(lstR x1.t)]).map RelD.d))]) (congrArg (fun (z_ : List SideD) => F.of [(1, vi .i64 v), (4, vp 5 0), (5, vp 6 0), (10, .t (.c (.d (.sl 4 (rs.map RelD.d))))), (11, vi .i64 (rs.length : Int)), (12, vi .i64 ((j : Int) + 1))] [(5, .box [.d (.raw nilV), .d (.raw nilV), .d (.raw nilV)]), (6, .box ([.own 7 z_.length, .own 8 ((rs.take j).flatMap (highF v)).length, .own 15 (((rs.take j).flatMap (othF v)) ++ [(lstR x1.t)]).length])), (7, .row 63 5 (z_.map SideD.d)), (8, .row 63 5 (((rs.take j).flatMap (highF v)).map SideD.d)), (15, .row 45 4 ((((rs.take j).flatMap (othF v)) ++ [(lstR x1.t)]).map RelD.d))]) (show (((rs.take j).flatMap (lowF v)) : List SideD) = ((rs.take (j + 1)).flatMap (lowF v)) from (flat_skip hx1 (by unfold lowF; rw [if_neg (by omega)]))))
     replace h := h.conv (f' := F.of [(1, vi .i64 v), (4, vp 5 0), (5, vp 6 0), (10, .t (.c (.d (.sl 4 (rs.map RelD.d))))), (11, vi .i64 (rs.length : Int)), (12, vi .i64 ((j : Int) + 1))] [(5, .box [.d (.raw nilV), .d (.raw nilV), .d (.raw nilV)]), (6, .box ([.own 7 ((rs.take (j + 1)).flatMap (lowF v)).length, .own 8 ((rs.take (j + 1)).flatMap (highF v)).length, .own 15 (((rs.take j).flatMap (othF v)) ++ [(lstR x1.t)]).length])), (7, .row 63 5 (((rs.take (j + 1)).flatMap (lowF v)).map SideD.d)), (8, .row 63 5 (((rs.take (j + 1)).flatMap (highF v)).map SideD.d)), (15, .row 45 4 ((((rs.take j).flatMap (othF v)) ++ [(lstR x1.t)]).map RelD.d))]) (congrArg (fun (z_ : List SideD) => F.of [(1, vi .i64 v), (4, vp 5 0), (5, vp 6 0), (10, .t (.c (.d (.sl 4 (rs.map RelD.d))))), (11, vi .i64 (rs.length : Int)), (12, vi .i64 ((j : Int) + 1))] [(5, .box [.d (.raw nilV), .d (.raw nilV), .d (.raw nilV)]), (6, .box ([.own 7 ((rs.take (j + 1)).flatMap (lowF v)).length, .own 8 z_.length, .own 15 (((rs.take j).flatMap (othF v)) ++ [(lstR x1.t)]).length])), (7, .row 63 5 (((rs.take (j + 1)).flatMap (lowF v)).map SideD.d)), (8, .row 63 5 (z_.map SideD.d)), (15, .row 45 4 ((((rs.take j).flatMap (othF v)) ++ [(lstR x1.t)]).map RelD.d))]) (show (((rs.take j).flatMap (highF v)) : List SideD) = ((rs.take (j + 1)).flatMap (highF v)) from (flat_skip hx1 (by unfold highF; rw [if_neg (by omega)]))))
     replace h := h.conv (f' := F.of [(1, vi .i64 v), (4, vp 5 0), (5, vp 6 0), (10, .t (.c (.d (.sl 4 (rs.map RelD.d))))), (11, vi .i64 (rs.length : Int)), (12, vi .i64 ((j : Int) + 1))] [(5, .box [.d (.raw nilV), .d (.raw nilV), .d (.raw nilV)]), (6, .box [.own 7 ((rs.take (j + 1)).flatMap (lowF v)).length, .own 8 ((rs.take (j + 1)).flatMap (highF v)).length, .own 15 ((rs.take (j + 1)).flatMap (othF v)).length]), (7, .row 63 5 (((rs.take (j + 1)).flatMap (lowF v)).map SideD.d)), (8, .row 63 5 (((rs.take (j + 1)).flatMap (highF v)).map SideD.d)), (15, .row 45 4 (((rs.take (j + 1)).flatMap (othF v)).map RelD.d))]) (congrArg (fun (z_ : List RelD) => F.of [(1, vi .i64 v), (4, vp 5 0), (5, vp 6 0), (10, .t (.c (.d (.sl 4 (rs.map RelD.d))))), (11, vi .i64 (rs.length : Int)), (12, vi .i64 ((j : Int) + 1))] [(5, .box [.d (.raw nilV), .d (.raw nilV), .d (.raw nilV)]), (6, .box [.own 7 ((rs.take (j + 1)).flatMap (lowF v)).length, .own 8 ((rs.take (j + 1)).flatMap (highF v)).length, .own 15 z_.length]), (7, .row 63 5 (((rs.take (j + 1)).flatMap (lowF v)).map SideD.d)), (8, .row 63 5 (((rs.take (j + 1)).flatMap (highF v)).map SideD.d)), (15, .row 45 4 (z_.map RelD.d))]) (show ((((rs.take j).flatMap (othF v)) ++ [(lstR x1.t)]) : List RelD) = ((rs.take (j + 1)).flatMap (othF v)) from (flat_snoc hx1 (by unfold othF; rw [if_pos (by omega)]))))
     replace h := renS 15 9 [(1, vi .i64 v), (4, vp 5 0), (5, vp 6 0), (10, .t (.c (.d (.sl 4 (rs.map RelD.d))))), (11, vi .i64 (rs.length : Int)), (12, vi .i64 ((j : Int) + 1))] [(5, .box [.d (.raw nilV), .d (.raw nilV), .d (.raw nilV)]), (6, .box [.own 7 ((rs.take (j + 1)).flatMap (lowF v)).length, .own 8 ((rs.take (j + 1)).flatMap (highF v)).length, .own 9 ((rs.take (j + 1)).flatMap (othF v)).length]), (7, .row 63 5 (((rs.take (j + 1)).flatMap (lowF v)).map SideD.d)), (8, .row 63 5 (((rs.take (j + 1)).flatMap (highF v)).map SideD.d)), (9, .row 45 4 (((rs.take (j + 1)).flatMap (othF v)).map RelD.d))] h (by kernel_rfl) (by kernel_rfl) (by kernel_rfl)
     refine roundS (x := j) (y := j + 1) h ?_ ?_ (by kernel_rfl) (by kernel_rfl)
     ·have := at_lt hx1
      show j + 1 ≤ rs.length
      omega
     ·show rs.length - (j + 1) < rs.length - j
      have := at_lt hx1; omega
  ·have hc6 := hc; clear hc
   have hc6' := of_decide_eq_false hc6
   refine wp_exit ?_
   refine then_x ?_
   refine then_x ?_
   refine inBlock_exit ?_
   refine then_n ?_
   refine rSeq fam0ok 16 [] [(4, vp 5 0)] [(5, .box [.own 7 ((rs.take j).flatMap (lowF v)).length, .own 8 ((rs.take j).flatMap (highF v)).length, .own 9 ((rs.take j).flatMap (othF v)).length]), (7, .row 63 5 (((rs.take j).flatMap (lowF v)).map SideD.d)), (8, .row 63 5 (((rs.take j).flatMap (highF v)).map SideD.d)), (9, .row 45 4 (((rs.take j).flatMap (othF v)).map RelD.d))] (by kernel_rfl) h ?_; clear h; intro a w h
   refine wp_ret ?_
   replace h := h.conv (f' := F.of [(4, vp 5 0)] [(5, .box [.own 7 (lowsOf rs v).length, .own 8 ((rs.take j).flatMap (highF v)).length, .own 9 ((rs.take j).flatMap (othF v)).length]), (7, .row 63 5 ((lowsOf rs v).map SideD.d)), (8, .row 63 5 (((rs.take j).flatMap (highF v)).map SideD.d)), (9, .row 45 4 (((rs.take j).flatMap (othF v)).map RelD.d))]) (congrArg (fun (z_ : List SideD) => F.of [(4, vp 5 0)] [(5, .box [.own 7 z_.length, .own 8 ((rs.take j).flatMap (highF v)).length, .own 9 ((rs.take j).flatMap (othF v)).length]), (7, .row 63 5 (z_.map SideD.d)), (8, .row 63 5 (((rs.take j).flatMap (highF v)).map SideD.d)), (9, .row 45 4 (((rs.take j).flatMap (othF v)).map RelD.d))]) (show (((rs.take j).flatMap (lowF v)) : List SideD) = (lowsOf rs v) from (by unfold lowsOf; rw [List.take_of_length_le (by omega)])))
   replace h := h.conv (f' := F.of [(4, vp 5 0)] [(5, .box [.own 7 (lowsOf rs v).length, .own 8 (highsOf rs v).length, .own 9 ((rs.take j).flatMap (othF v)).length]), (7, .row 63 5 ((lowsOf rs v).map SideD.d)), (8, .row 63 5 ((highsOf rs v).map SideD.d)), (9, .row 45 4 (((rs.take j).flatMap (othF v)).map RelD.d))]) (congrArg (fun (z_ : List SideD) => F.of [(4, vp 5 0)] [(5, .box [.own 7 (lowsOf rs v).length, .own 8 z_.length, .own 9 ((rs.take j).flatMap (othF v)).length]), (7, .row 63 5 ((lowsOf rs v).map SideD.d)), (8, .row 63 5 (z_.map SideD.d)), (9, .row 45 4 (((rs.take j).flatMap (othF v)).map RelD.d))]) (show (((rs.take j).flatMap (highF v)) : List SideD) = (highsOf rs v) from (by unfold highsOf; rw [List.take_of_length_le (by omega)])))
   replace h := h.conv (f' := F.of [(4, vp 5 0)] [(5, .box [.own 7 (lowsOf rs v).length, .own 8 (highsOf rs v).length, .own 9 (othersOf rs v).length]), (7, .row 63 5 ((lowsOf rs v).map SideD.d)), (8, .row 63 5 ((highsOf rs v).map SideD.d)), (9, .row 45 4 ((othersOf rs v).map RelD.d))]) (congrArg (fun (z_ : List RelD) => F.of [(4, vp 5 0)] [(5, .box [.own 7 (lowsOf rs v).length, .own 8 (highsOf rs v).length, .own 9 z_.length]), (7, .row 63 5 ((lowsOf rs v).map SideD.d)), (8, .row 63 5 ((highsOf rs v).map SideD.d)), (9, .row 45 4 (z_.map RelD.d))]) (show (((rs.take j).flatMap (othF v)) : List RelD) = (othersOf rs v) from (by unfold othersOf; rw [List.take_of_length_le (by omega)])))
   replace h := pubS 7 5 63 ((lowsOf rs v).map SideD.d) [(4, vp 5 0)] [(5, .box [.d (.sl 5 ((lowsOf rs v).map SideD.d)), .own 8 (highsOf rs v).length, .own 9 (othersOf rs v).length]), (8, .row 63 5 ((highsOf rs v).map SideD.d)), (9, .row 45 4 ((othersOf rs v).map RelD.d))] h rfl trivial (show AllEq _ [(lowsOf rs v).length] from ⟨by first | exact (List.length_map _).symm | (simp; done) | (simp; omega), trivial⟩) (by kernel_rfl) (by kernel_rfl)
   replace h := pubS 8 5 63 ((highsOf rs v).map SideD.d) [(4, vp 5 0)] [(5, .box [.d (.sl 5 ((lowsOf rs v).map SideD.d)), .d (.sl 5 ((highsOf rs v).map SideD.d)), .own 9 (othersOf rs v).length]), (9, .row 45 4 ((othersOf rs v).map RelD.d))] h rfl trivial (show AllEq _ [(highsOf rs v).length] from ⟨by first | exact (List.length_map _).symm | (simp; done) | (simp; omega), trivial⟩) (by kernel_rfl) (by kernel_rfl)
   replace h := pubS 9 4 45 ((othersOf rs v).map RelD.d) [(4, vp 5 0)] [(5, .box [.d (.sl 5 ((lowsOf rs v).map SideD.d)), .d (.sl 5 ((highsOf rs v).map SideD.d)), .d (.sl 4 ((othersOf rs v).map RelD.d))])] h rfl trivial (show AllEq _ [(othersOf rs v).length] from ⟨by first | exact (List.length_map _).symm | (simp; done) | (simp; omega), trivial⟩) (by kernel_rfl) (by kernel_rfl)
   refine retS [.agg [.d (.sl 5 ((lowsOf rs v).map SideD.d)), .d (.sl 5 ((highsOf rs v).map SideD.d)), .d (.sl 4 ((othersOf rs v).map RelD.d))]] h Exit.ret (.inl rfl)  rfl ⟨RV.agg _ 5 0 _ _ _ _ ha_12 rfl rfl rfl rfl, trivial⟩ ?_ (by kernel_rfl) (by kernel_rfl)
   rfl
set_option maxHeartbeats 4000000 in
theorem SsplitO (rs : List RelD) (v : Int) (hrs : RsOk rs) : Fn Tryz.prog 30 [] [.t (.c (.d (.sl 4 (rs.map RelD.d)))), vi .i64 v] (.t (.agg [.d (.sl 5 ((lowsOf rs v).map SideD.d)), .d (.sl 5 ((highsOf rs v).map SideD.d)), .own 0 (othersOf rs v).length])) [(0, .row 45 4 ((othersOf rs v).map RelD.d))] := by
 have lrs := hrs.1
 refine Fn.body Tryz.func30 rfl 55 rfl fun w H B a h => ?_
 refine rSeq fam0ok 5 [] [(0, .t (.c (.d (.sl 4 (rs.map RelD.d))))), (1, vi .i64 v), (4, vp 5 0)] [(5, .box [.d (.raw nilV), .d (.raw nilV), .d (.raw nilV)])] (by kernel_rfl) h ?_; clear h; intro a w h
 refine rSeq fam0ok 6 [] [(0, .t (.c (.d (.sl 4 (rs.map RelD.d))))), (1, vi .i64 v), (4, vp 5 0), (5, vp 6 0)] [(5, .box [.d (.raw nilV), .d (.raw nilV), .d (.raw nilV)]), (6, .box [.d (.raw nilV), .d (.raw nilV), .d (.raw nilV)])] (by kernel_rfl) h ?_; clear h; intro a w h
 refine wp_seq ?_
 replace h := nilOLs 6 0 7 5 63 [.d (.raw nilV), .d (.raw nilV), .d (.raw nilV)] [(0, .t (.c (.d (.sl 4 (rs.map RelD.d))))), (1, vi .i64 v), (4, vp 5 0), (5, vp 6 0)] [(5, .box [.d (.raw nilV), .d (.raw nilV), .d (.raw nilV)]), (6, .box [.own 7 0, .d (.raw nilV), .d (.raw nilV)]), (7, .row 63 5 ([].map SideD.d))] h (by kernel_rfl) rfl rfl (by kernel_rfl) (by kernel_rfl)
 replace h := nilOLs 6 1 8 5 63 [.own 7 0, .d (.raw nilV), .d (.raw nilV)] [(0, .t (.c (.d (.sl 4 (rs.map RelD.d))))), (1, vi .i64 v), (4, vp 5 0), (5, vp 6 0)] [(5, .box [.d (.raw nilV), .d (.raw nilV), .d (.raw nilV)]), (6, .box [.own 7 0, .own 8 0, .d (.raw nilV)]), (7, .row 63 5 ([].map SideD.d)), (8, .row 63 5 ([].map SideD.d))] h (by kernel_rfl) rfl rfl (by kernel_rfl) (by kernel_rfl)
 replace h := nilOLs 6 2 9 4 45 [.own 7 0, .own 8 0, .d (.raw nilV)] [(0, .t (.c (.d (.sl 4 (rs.map RelD.d))))), (1, vi .i64 v), (4, vp 5 0), (5, vp 6 0)] [(5, .box [.d (.raw nilV), .d (.raw nilV), .d (.raw nilV)]), (6, .box [.own 7 0, .own 8 0, .own 9 0]), (7, .row 63 5 ([].map SideD.d)), (8, .row 63 5 ([].map SideD.d)), (9, .row 45 4 ([].map RelD.d))] h (by kernel_rfl) rfl rfl (by kernel_rfl) (by kernel_rfl)
 refine rSeq fam0ok 10 [(1, .len (c := (.d (.sl 4 (rs.map RelD.d)))) (n := rs.length) (lenC_map _ _ _))] [(1, vi .i64 v), (4, vp 5 0), (5, vp 6 0), (10, .t (.c (.d (.sl 4 (rs.map RelD.d))))), (11, vi .i64 (rs.length : Int)), (12, vi .i64 0)] [(5, .box [.d (.raw nilV), .d (.raw nilV), .d (.raw nilV)]), (6, .box [.own 7 0, .own 8 0, .own 9 0]), (7, .row 63 5 ([].map SideD.d)), (8, .row 63 5 ([].map SideD.d)), (9, .row 45 4 ([].map RelD.d))] (by kernel_rfl) h ?_; clear h; intro a w h
 refine wp_block ?_
 refine loopS (ι := (Nat)) (fun (z_ : (Nat)) => match z_ with | j => j ≤ rs.length)
   (fun (z_ : (Nat)) => match z_ with | j => [(1, vi .i64 v), (4, vp 5 0), (5, vp 6 0), (10, .t (.c (.d (.sl 4 (rs.map RelD.d))))), (11, vi .i64 (rs.length : Int)), (12, vi .i64 (j : Int))])
   (fun (z_ : (Nat)) => match z_ with | j => [(5, .box [.d (.raw nilV), .d (.raw nilV), .d (.raw nilV)]), (6, .box [.own 7 ((rs.take j).flatMap (lowF v)).length, .own 8 ((rs.take j).flatMap (highF v)).length, .own 9 ((rs.take j).flatMap (othF v)).length]), (7, .row 63 5 (((rs.take j).flatMap (lowF v)).map SideD.d)), (8, .row 63 5 (((rs.take j).flatMap (highF v)).map SideD.d)), (9, .row 45 4 (((rs.take j).flatMap (othF v)).map RelD.d))])
   (fun (z_ : (Nat)) => match z_ with | j => rs.length - j) 0 ?_ h (by kernel_rfl) (by kernel_rfl) ?_
 ·exact Nat.zero_le _
 ·clear h; rintro j a w hI h
  change St _ (F.of [(1, vi .i64 v), (4, vp 5 0), (5, vp 6 0), (10, .t (.c (.d (.sl 4 (rs.map RelD.d))))), (11, vi .i64 (rs.length : Int)), (12, vi .i64 (j : Int))] [(5, .box [.d (.raw nilV), .d (.raw nilV), .d (.raw nilV)]), (6, .box [.own 7 ((rs.take j).flatMap (lowF v)).length, .own 8 ((rs.take j).flatMap (highF v)).length, .own 9 ((rs.take j).flatMap (othF v)).length]), (7, .row 63 5 (((rs.take j).flatMap (lowF v)).map SideD.d)), (8, .row 63 5 (((rs.take j).flatMap (highF v)).map SideD.d)), (9, .row 45 4 (((rs.take j).flatMap (othF v)).map RelD.d))]) a w at h
  have fl1 := flat_le (low_le v) (rs.take j)
  have fl2 := flat_le (high_le v) (rs.take j)
  have fl3 := flat_le (oth_le v) (rs.take j)
  rw [List.length_take] at fl1 fl2 fl3
  refine rSeq fam0ok 10 [] [(1, vi .i64 v), (4, vp 5 0), (5, vp 6 0), (10, .t (.c (.d (.sl 4 (rs.map RelD.d))))), (11, vi .i64 (rs.length : Int)), (12, vi .i64 (j : Int)), (13, vb (decide ((j : Int) < (rs.length : Int))))] [(5, .box [.d (.raw nilV), .d (.raw nilV), .d (.raw nilV)]), (6, .box [.own 7 ((rs.take j).flatMap (lowF v)).length, .own 8 ((rs.take j).flatMap (highF v)).length, .own 9 ((rs.take j).flatMap (othF v)).length]), (7, .row 63 5 (((rs.take j).flatMap (lowF v)).map SideD.d)), (8, .row 63 5 (((rs.take j).flatMap (highF v)).map SideD.d)), (9, .row 45 4 (((rs.take j).flatMap (othF v)).map RelD.d))] (by kernel_rfl) h ?_; clear h; intro a w h
  refine wp_seq ?_
  refine condS (decide ((j : Int) < (rs.length : Int))) h rfl (fun hc => ?_) (fun hc => ?_)
  ·have hc1 := hc; clear hc
   have hc1' := of_decide_eq_true hc1
   refine wp_skip ?_
   refine then_n ?_
   refine wp_seq ?_
   refine wp_block ?_
   obtain ⟨x1, hx1⟩ : ∃ z_ : RelD, rs[j]? = some z_ := ⟨_, List.getElem?_eq_getElem (by first | omega | (simp at *; omega))⟩
   have gx1 : TOk 20 8 x1.t := hrs.2 x1 (List.mem_of_getElem? hx1)
   refine rSeq fam0ok 10 [(0, .gen _ _ _ fun _ _ _ _ => Op.idxD (d := 14) (t := 10) (k := .i64) kc_3 (map_at hx1 (f := RelD.d)) (OV.tmp 12 _))] [(1, vi .i64 v), (4, vp 5 0), (5, vp 6 0), (7, vp 10 0), (10, .t (.c (.d (.sl 4 (rs.map RelD.d))))), (11, vi .i64 (rs.length : Int)), (12, vi .i64 (j : Int))] [(5, .box [.d (.raw nilV), .d (.raw nilV), .d (.raw nilV)]), (6, .box [.own 7 ((rs.take j).flatMap (lowF v)).length, .own 8 ((rs.take j).flatMap (highF v)).length, .own 9 ((rs.take j).flatMap (othF v)).length]), (7, .row 63 5 (((rs.take j).flatMap (lowF v)).map SideD.d)), (8, .row 63 5 (((rs.take j).flatMap (highF v)).map SideD.d)), (9, .row 45 4 (((rs.take j).flatMap (othF v)).map RelD.d)), (10, .box ([.d (.sl 3 (x1.t.parts.map Part.d))] ++ zi x1.t.k ++ [.d (.raw (.bool x1.eq))]))] (by kernel_rfl) h ?_; clear h; intro a w h
   obtain ⟨r2, er2, vr2, or2, lr2⟩ := mkZ (v := coefZ x1.t.parts v) (m := 9) (coef_len (TOk.mono gx1 (show 20 ≤ 1000 by decide) (Nat.le_refl 8)).psok v)
   refine rSeq fam0ok 11 [(3, .call (Fn.cast (STCoef x1.t v (TOk.mono (n' := 1000) (L' := 40000) gx1 (by decide) (by decide)).psok) (congrArg vz er2.symm)) tt_3)] [(1, vi .i64 v), (4, vp 5 0), (5, vp 6 0), (7, vp 10 0), (8, vp 11 0), (10, .t (.c (.d (.sl 4 (rs.map RelD.d))))), (11, vi .i64 (rs.length : Int)), (12, vi .i64 (j : Int))] [(5, .box [.d (.raw nilV), .d (.raw nilV), .d (.raw nilV)]), (6, .box [.own 7 ((rs.take j).flatMap (lowF v)).length, .own 8 ((rs.take j).flatMap (highF v)).length, .own 9 ((rs.take j).flatMap (othF v)).length]), (7, .row 63 5 (((rs.take j).flatMap (lowF v)).map SideD.d)), (8, .row 63 5 (((rs.take j).flatMap (highF v)).map SideD.d)), (9, .row 45 4 (((rs.take j).flatMap (othF v)).map RelD.d)), (10, .box ([.d (.sl 3 (x1.t.parts.map Part.d))] ++ zi x1.t.k ++ [.d (.raw (.bool x1.eq))])), (11, .box (zi r2))] (by kernel_rfl) h ?_; clear h; intro a w h
   obtain ⟨r3, er3, vr3, or3, lr3⟩ := mkZ (v := (r2.val.natAbs : Int)) (m := r2.abs.length) (len_abs or2)
   refine rSeq fam0ok 12 [(1, .call (Fn.cast (SAbs r2 or2 (by omega)) (congrArg vz er3.symm)) ha_4), (5, .call (SWithout x1.t v gx1 (by decide) (by decide)) ty_12)] [(1, vi .i64 v), (4, vp 5 0), (5, vp 6 0), (7, vp 10 0), (8, vp 11 0), (9, vp 12 0), (10, .t (.c (.d (.sl 4 (rs.map RelD.d))))), (11, vi .i64 (rs.length : Int)), (12, vi .i64 (j : Int))] [(5, .box [.d (.raw nilV), .d (.raw nilV), .d (.raw nilV)]), (6, .box [.own 7 ((rs.take j).flatMap (lowF v)).length, .own 8 ((rs.take j).flatMap (highF v)).length, .own 9 ((rs.take j).flatMap (othF v)).length]), (7, .row 63 5 (((rs.take j).flatMap (lowF v)).map SideD.d)), (8, .row 63 5 (((rs.take j).flatMap (highF v)).map SideD.d)), (9, .row 45 4 (((rs.take j).flatMap (othF v)).map RelD.d)), (10, .box ([.d (.sl 3 (x1.t.parts.map Part.d))] ++ zi x1.t.k ++ [.d (.raw (.bool x1.eq))])), (11, .box (zi r2)), (12, .box (zi r3 ++ [.d (.sl 3 ((woT x1.t v).parts.map Part.d))] ++ zi (woT x1.t v).k))] (by kernel_rfl) h ?_; clear h; intro a w h
   refine rSeq fam0ok 13 [(1, .call (SSign r2 or2 (by omega)) td_6)] [(1, vi .i64 v), (4, vp 5 0), (5, vp 6 0), (7, vp 10 0), (9, vp 12 0), (10, .t (.c (.d (.sl 4 (rs.map RelD.d))))), (11, vi .i64 (rs.length : Int)), (12, vi .i64 (j : Int)), (28, vi .i64 (sgn r2.val))] [(5, .box [.d (.raw nilV), .d (.raw nilV), .d (.raw nilV)]), (6, .box [.own 7 ((rs.take j).flatMap (lowF v)).length, .own 8 ((rs.take j).flatMap (highF v)).length, .own 9 ((rs.take j).flatMap (othF v)).length]), (7, .row 63 5 (((rs.take j).flatMap (lowF v)).map SideD.d)), (8, .row 63 5 (((rs.take j).flatMap (highF v)).map SideD.d)), (9, .row 45 4 (((rs.take j).flatMap (othF v)).map RelD.d)), (10, .box ([.d (.sl 3 (x1.t.parts.map Part.d))] ++ zi x1.t.k ++ [.d (.raw (.bool x1.eq))])), (12, .box (zi r3 ++ [.d (.sl 3 ((woT x1.t v).parts.map Part.d))] ++ zi (woT x1.t v).k))] (by kernel_rfl) h ?_; clear h; intro a w h
   refine wp_block ?_
   refine rSeq fam0ok 13 [] [(1, vi .i64 v), (4, vp 5 0), (5, vp 6 0), (7, vp 10 0), (9, vp 12 0), (10, .t (.c (.d (.sl 4 (rs.map RelD.d))))), (11, vi .i64 (rs.length : Int)), (12, vi .i64 (j : Int)), (28, vi .i64 (sgn r2.val)), (37, vb (sgn r2.val == 1))] [(5, .box [.d (.raw nilV), .d (.raw nilV), .d (.raw nilV)]), (6, .box [.own 7 ((rs.take j).flatMap (lowF v)).length, .own 8 ((rs.take j).flatMap (highF v)).length, .own 9 ((rs.take j).flatMap (othF v)).length]), (7, .row 63 5 (((rs.take j).flatMap (lowF v)).map SideD.d)), (8, .row 63 5 (((rs.take j).flatMap (highF v)).map SideD.d)), (9, .row 45 4 (((rs.take j).flatMap (othF v)).map RelD.d)), (10, .box ([.d (.sl 3 (x1.t.parts.map Part.d))] ++ zi x1.t.k ++ [.d (.raw (.bool x1.eq))])), (12, .box (zi r3 ++ [.d (.sl 3 ((woT x1.t v).parts.map Part.d))] ++ zi (woT x1.t v).k))] (by kernel_rfl) h ?_; clear h; intro a w h
   refine condS (sgn r2.val == 1) h rfl (fun hc => ?_) (fun hc => ?_)
   ·have hc2 := hc; clear hc
    have hc2' := hc2; (try simp at hc2')
    refine rS fam0ok 13 [(3, .gen _ _ _ fun _ _ _ _ => Op.buildD (d := 42) (len := 1) (rows := [(SideD.mk r3 (woT x1.t v))].map SideD.d) (rs := [(41, .t (.agg (zi r3 ++ [.d (.sl 3 ((woT x1.t v).parts.map Part.d))] ++ zi (woT x1.t v).k)))]) ha_7 (.cons (i := 0) (OV.tmp 41 _) (.nil)) (by kernel_rfl) rfl (by simp [SideD.d]) (by decide) (by decide)), (4, .gen _ _ _ fun _ _ _ _ => Op.appOD (d := 43) (t := 40) (u := 42) (n := 7) (n' := 13) (len := ((rs.take j).flatMap (lowF v)).length) (len' := (((rs.take j).flatMap (lowF v)) ++ [(SideD.mk r3 (woT x1.t v))]).length) (rows := ((rs.take j).flatMap (lowF v)).map SideD.d) (rows2 := [(SideD.mk r3 (woT x1.t v))].map SideD.d) (rows' := (((rs.take j).flatMap (lowF v)) ++ [(SideD.mk r3 (woT x1.t v))]).map SideD.d) ha_8 (by first | exact (List.length_map _).symm | simp) (by first | (rw [List.length_append, List.length_map]; done) | simp) (by simp) (by simp [SideD.d]) (by first | omega | (simp at *; done) | (simp at *; omega)))] [(1, vi .i64 v), (4, vp 5 0), (5, vp 6 0), (10, .t (.c (.d (.sl 4 (rs.map RelD.d))))), (11, vi .i64 (rs.length : Int)), (12, vi .i64 (j : Int))] [(5, .box [.d (.raw nilV), .d (.raw nilV), .d (.raw nilV)]), (6, .box ([.own 13 (((rs.take j).flatMap (lowF v)) ++ [(SideD.mk r3 (woT x1.t v))]).length, .own 8 ((rs.take j).flatMap (highF v)).length, .own 9 ((rs.take j).flatMap (othF v)).length])), (8, .row 63 5 (((rs.take j).flatMap (highF v)).map SideD.d)), (9, .row 45 4 (((rs.take j).flatMap (othF v)).map RelD.d)), (13, .row 63 5 ((((rs.take j).flatMap (lowF v)) ++ [(SideD.mk r3 (woT x1.t v))]).map SideD.d))] (by kernel_rfl) h ?_; clear h; intro a w h
    refine block_n ?_
    refine block_n ?_
    refine then_n ?_
    refine rS fam0ok 14 [(0, .add .i64 (m := (j : Int)) (n := 1) (i64_id (by omega) (by omega)))] [(1, vi .i64 v), (4, vp 5 0), (5, vp 6 0), (10, .t (.c (.d (.sl 4 (rs.map RelD.d))))), (11, vi .i64 (rs.length : Int)), (12, vi .i64 ((j : Int) + 1))] [(5, .box [.d (.raw nilV), .d (.raw nilV), .d (.raw nilV)]), (6, .box ([.own 13 (((rs.take j).flatMap (lowF v)) ++ [(SideD.mk r3 (woT x1.t v))]).length, .own 8 ((rs.take j).flatMap (highF v)).length, .own 9 ((rs.take j).flatMap (othF v)).length])), (8, .row 63 5 (((rs.take j).flatMap (highF v)).map SideD.d)), (9, .row 45 4 (((rs.take j).flatMap (othF v)).map RelD.d)), (13, .row 63 5 ((((rs.take j).flatMap (lowF v)) ++ [(SideD.mk r3 (woT x1.t v))]).map SideD.d))] (by kernel_rfl) h ?_; clear h; intro a w h
    refine then_n ?_
    have hcz := sgn1_t hc2
    rw [vr2] at hcz
    replace h := h.conv (f' := F.of [(1, vi .i64 v), (4, vp 5 0), (5, vp 6 0), (10, .t (.c (.d (.sl 4 (rs.map RelD.d))))), (11, vi .i64 (rs.length : Int)), (12, vi .i64 ((j : Int) + 1))] [(5, .box [.d (.raw nilV), .d (.raw nilV), .d (.raw nilV)]), (6, .box [.own 13 ((rs.take (j + 1)).flatMap (lowF v)).length, .own 8 ((rs.take j).flatMap (highF v)).length, .own 9 ((rs.take j).flatMap (othF v)).length]), (8, .row 63 5 (((rs.take j).flatMap (highF v)).map SideD.d)), (9, .row 45 4 (((rs.take j).flatMap (othF v)).map RelD.d)), (13, .row 63 5 (((rs.take (j + 1)).flatMap (lowF v)).map SideD.d))]) (congrArg (fun (z_ : List SideD) => F.of [(1, vi .i64 v), (4, vp 5 0), (5, vp 6 0), (10, .t (.c (.d (.sl 4 (rs.map RelD.d))))), (11, vi .i64 (rs.length : Int)), (12, vi .i64 ((j : Int) + 1))] [(5, .box [.d (.raw nilV), .d (.raw nilV), .d (.raw nilV)]), (6, .box [.own 13 z_.length, .own 8 ((rs.take j).flatMap (highF v)).length, .own 9 ((rs.take j).flatMap (othF v)).length]), (8, .row 63 5 (((rs.take j).flatMap (highF v)).map SideD.d)), (9, .row 45 4 (((rs.take j).flatMap (othF v)).map RelD.d)), (13, .row 63 5 (z_.map SideD.d))]) (show ((((rs.take j).flatMap (lowF v)) ++ [(SideD.mk r3 (woT x1.t v))]) : List SideD) = ((rs.take (j + 1)).flatMap (lowF v)) from (flat_snoc hx1 (by unfold lowF; rw [if_pos (by omega)]; unfold sideOf; rw [er3, vr2]))))
    replace h := h.conv (f' := F.of [(1, vi .i64 v), (4, vp 5 0), (5, vp 6 0), (10, .t (.c (.d (.sl 4 (rs.map RelD.d))))), (11, vi .i64 (rs.length : Int)), (12, vi .i64 ((j : Int) + 1))] [(5, .box [.d (.raw nilV), .d (.raw nilV), .d (.raw nilV)]), (6, .box [.own 13 ((rs.take (j + 1)).flatMap (lowF v)).length, .own 8 ((rs.take (j + 1)).flatMap (highF v)).length, .own 9 ((rs.take j).flatMap (othF v)).length]), (8, .row 63 5 (((rs.take (j + 1)).flatMap (highF v)).map SideD.d)), (9, .row 45 4 (((rs.take j).flatMap (othF v)).map RelD.d)), (13, .row 63 5 (((rs.take (j + 1)).flatMap (lowF v)).map SideD.d))]) (congrArg (fun (z_ : List SideD) => F.of [(1, vi .i64 v), (4, vp 5 0), (5, vp 6 0), (10, .t (.c (.d (.sl 4 (rs.map RelD.d))))), (11, vi .i64 (rs.length : Int)), (12, vi .i64 ((j : Int) + 1))] [(5, .box [.d (.raw nilV), .d (.raw nilV), .d (.raw nilV)]), (6, .box [.own 13 ((rs.take (j + 1)).flatMap (lowF v)).length, .own 8 z_.length, .own 9 ((rs.take j).flatMap (othF v)).length]), (8, .row 63 5 (z_.map SideD.d)), (9, .row 45 4 (((rs.take j).flatMap (othF v)).map RelD.d)), (13, .row 63 5 (((rs.take (j + 1)).flatMap (lowF v)).map SideD.d))]) (show (((rs.take j).flatMap (highF v)) : List SideD) = ((rs.take (j + 1)).flatMap (highF v)) from (flat_skip hx1 (by unfold highF; rw [if_neg (by omega)]))))
    replace h := h.conv (f' := F.of [(1, vi .i64 v), (4, vp 5 0), (5, vp 6 0), (10, .t (.c (.d (.sl 4 (rs.map RelD.d))))), (11, vi .i64 (rs.length : Int)), (12, vi .i64 ((j : Int) + 1))] [(5, .box [.d (.raw nilV), .d (.raw nilV), .d (.raw nilV)]), (6, .box [.own 13 ((rs.take (j + 1)).flatMap (lowF v)).length, .own 8 ((rs.take (j + 1)).flatMap (highF v)).length, .own 9 ((rs.take (j + 1)).flatMap (othF v)).length]), (8, .row 63 5 (((rs.take (j + 1)).flatMap (highF v)).map SideD.d)), (9, .row 45 4 (((rs.take (j + 1)).flatMap (othF v)).map RelD.d)), (13, .row 63 5 (((rs.take (j + 1)).flatMap (lowF v)).map SideD.d))]) (congrArg (fun (z_ : List RelD) => F.of [(1, vi .i64 v), (4, vp 5 0), (5, vp 6 0), (10, .t (.c (.d (.sl 4 (rs.map RelD.d))))), (11, vi .i64 (rs.length : Int)), (12, vi .i64 ((j : Int) + 1))] [(5, .box [.d (.raw nilV), .d (.raw nilV), .d (.raw nilV)]), (6, .box [.own 13 ((rs.take (j + 1)).flatMap (lowF v)).length, .own 8 ((rs.take (j + 1)).flatMap (highF v)).length, .own 9 z_.length]), (8, .row 63 5 (((rs.take (j + 1)).flatMap (highF v)).map SideD.d)), (9, .row 45 4 (z_.map RelD.d)), (13, .row 63 5 (((rs.take (j + 1)).flatMap (lowF v)).map SideD.d))]) (show (((rs.take j).flatMap (othF v)) : List RelD) = ((rs.take (j + 1)).flatMap (othF v)) from (flat_skip hx1 (by unfold othF; rw [if_neg (by omega)]))))
    replace h := renS 13 7 [(1, vi .i64 v), (4, vp 5 0), (5, vp 6 0), (10, .t (.c (.d (.sl 4 (rs.map RelD.d))))), (11, vi .i64 (rs.length : Int)), (12, vi .i64 ((j : Int) + 1))] [(5, .box [.d (.raw nilV), .d (.raw nilV), .d (.raw nilV)]), (6, .box [.own 7 ((rs.take (j + 1)).flatMap (lowF v)).length, .own 8 ((rs.take (j + 1)).flatMap (highF v)).length, .own 9 ((rs.take (j + 1)).flatMap (othF v)).length]), (8, .row 63 5 (((rs.take (j + 1)).flatMap (highF v)).map SideD.d)), (9, .row 45 4 (((rs.take (j + 1)).flatMap (othF v)).map RelD.d)), (7, .row 63 5 (((rs.take (j + 1)).flatMap (lowF v)).map SideD.d))] h (by kernel_rfl) (by kernel_rfl) (by kernel_rfl)
    refine roundS (x := j) (y := j + 1) h ?_ ?_ (by kernel_rfl) (by kernel_rfl)
    ·have := at_lt hx1
     show j + 1 ≤ rs.length
     omega
    ·show rs.length - (j + 1) < rs.length - j
     have := at_lt hx1; omega
   ·have hc3 := hc; clear hc
    have hc3' := hc3; (try simp at hc3')
    refine rSeq fam0ok 14 [] [(1, vi .i64 v), (4, vp 5 0), (5, vp 6 0), (7, vp 10 0), (9, vp 12 0), (10, .t (.c (.d (.sl 4 (rs.map RelD.d))))), (11, vi .i64 (rs.length : Int)), (12, vi .i64 (j : Int)), (45, vb (sgn r2.val == (-1)))] [(5, .box [.d (.raw nilV), .d (.raw nilV), .d (.raw nilV)]), (6, .box [.own 7 ((rs.take j).flatMap (lowF v)).length, .own 8 ((rs.take j).flatMap (highF v)).length, .own 9 ((rs.take j).flatMap (othF v)).length]), (7, .row 63 5 (((rs.take j).flatMap (lowF v)).map SideD.d)), (8, .row 63 5 (((rs.take j).flatMap (highF v)).map SideD.d)), (9, .row 45 4 (((rs.take j).flatMap (othF v)).map RelD.d)), (10, .box ([.d (.sl 3 (x1.t.parts.map Part.d))] ++ zi x1.t.k ++ [.d (.raw (.bool x1.eq))])), (12, .box (zi r3 ++ [.d (.sl 3 ((woT x1.t v).parts.map Part.d))] ++ zi (woT x1.t v).k))] (by kernel_rfl) h ?_; clear h; intro a w h
    refine condS (sgn r2.val == (-1)) h rfl (fun hc => ?_) (fun hc => ?_)
    ·have hc4 := hc; clear hc
     have hc4' := hc4; (try simp at hc4')
     refine rS fam0ok 14 [(3, .gen _ _ _ fun _ _ _ _ => Op.buildD (d := 50) (len := 1) (rows := [(SideD.mk r3 (woT x1.t v))].map SideD.d) (rs := [(49, .t (.agg (zi r3 ++ [.d (.sl 3 ((woT x1.t v).parts.map Part.d))] ++ zi (woT x1.t v).k)))]) ha_7 (.cons (i := 0) (OV.tmp 49 _) (.nil)) (by kernel_rfl) rfl (by simp [SideD.d]) (by decide) (by decide)), (4, .gen _ _ _ fun _ _ _ _ => Op.appOD (d := 51) (t := 48) (u := 50) (n := 8) (n' := 14) (len := ((rs.take j).flatMap (highF v)).length) (len' := (((rs.take j).flatMap (highF v)) ++ [(SideD.mk r3 (woT x1.t v))]).length) (rows := ((rs.take j).flatMap (highF v)).map SideD.d) (rows2 := [(SideD.mk r3 (woT x1.t v))].map SideD.d) (rows' := (((rs.take j).flatMap (highF v)) ++ [(SideD.mk r3 (woT x1.t v))]).map SideD.d) ha_8 (by first | exact (List.length_map _).symm | simp) (by first | (rw [List.length_append, List.length_map]; done) | simp) (by simp) (by simp [SideD.d]) (by first | omega | (simp at *; done) | (simp at *; omega)))] [(1, vi .i64 v), (4, vp 5 0), (5, vp 6 0), (10, .t (.c (.d (.sl 4 (rs.map RelD.d))))), (11, vi .i64 (rs.length : Int)), (12, vi .i64 (j : Int))] [(5, .box [.d (.raw nilV), .d (.raw nilV), .d (.raw nilV)]), (6, .box ([.own 7 ((rs.take j).flatMap (lowF v)).length, .own 14 (((rs.take j).flatMap (highF v)) ++ [(SideD.mk r3 (woT x1.t v))]).length, .own 9 ((rs.take j).flatMap (othF v)).length])), (7, .row 63 5 (((rs.take j).flatMap (lowF v)).map SideD.d)), (9, .row 45 4 (((rs.take j).flatMap (othF v)).map RelD.d)), (14, .row 63 5 ((((rs.take j).flatMap (highF v)) ++ [(SideD.mk r3 (woT x1.t v))]).map SideD.d))] (by kernel_rfl) h ?_; clear h; intro a w h
     refine block_n ?_
     refine block_n ?_
     refine then_n ?_
     refine rS fam0ok 15 [(0, .add .i64 (m := (j : Int)) (n := 1) (i64_id (by omega) (by omega)))] [(1, vi .i64 v), (4, vp 5 0), (5, vp 6 0), (10, .t (.c (.d (.sl 4 (rs.map RelD.d))))), (11, vi .i64 (rs.length : Int)), (12, vi .i64 ((j : Int) + 1))] [(5, .box [.d (.raw nilV), .d (.raw nilV), .d (.raw nilV)]), (6, .box ([.own 7 ((rs.take j).flatMap (lowF v)).length, .own 14 (((rs.take j).flatMap (highF v)) ++ [(SideD.mk r3 (woT x1.t v))]).length, .own 9 ((rs.take j).flatMap (othF v)).length])), (7, .row 63 5 (((rs.take j).flatMap (lowF v)).map SideD.d)), (9, .row 45 4 (((rs.take j).flatMap (othF v)).map RelD.d)), (14, .row 63 5 ((((rs.take j).flatMap (highF v)) ++ [(SideD.mk r3 (woT x1.t v))]).map SideD.d))] (by kernel_rfl) h ?_; clear h; intro a w h
     refine then_n ?_
     have hcz := sgn1_f hc3
     rw [vr2] at hcz
     have hcy := sgnm_t hc4
     rw [vr2] at hcy
     replace h := h.conv (f' := F.of [(1, vi .i64 v), (4, vp 5 0), (5, vp 6 0), (10, .t (.c (.d (.sl 4 (rs.map RelD.d))))), (11, vi .i64 (rs.length : Int)), (12, vi .i64 ((j : Int) + 1))] [(5, .box [.d (.raw nilV), .d (.raw nilV), .d (.raw nilV)]), (6, .box ([.own 7 ((rs.take (j + 1)).flatMap (lowF v)).length, .own 14 (((rs.take j).flatMap (highF v)) ++ [(SideD.mk r3 (woT x1.t v))]).length, .own 9 ((rs.take j).flatMap (othF v)).length])), (7, .row 63 5 (((rs.take (j + 1)).flatMap (lowF v)).map SideD.d)), (9, .row 45 4 (((rs.take j).flatMap (othF v)).map RelD.d)), (14, .row 63 5 ((((rs.take j).flatMap (highF v)) ++ [(SideD.mk r3 (woT x1.t v))]).map SideD.d))]) (congrArg (fun (z_ : List SideD) => F.of [(1, vi .i64 v), (4, vp 5 0), (5, vp 6 0), (10, .t (.c (.d (.sl 4 (rs.map RelD.d))))), (11, vi .i64 (rs.length : Int)), (12, vi .i64 ((j : Int) + 1))] [(5, .box [.d (.raw nilV), .d (.raw nilV), .d (.raw nilV)]), (6, .box ([.own 7 z_.length, .own 14 (((rs.take j).flatMap (highF v)) ++ [(SideD.mk r3 (woT x1.t v))]).length, .own 9 ((rs.take j).flatMap (othF v)).length])), (7, .row 63 5 (z_.map SideD.d)), (9, .row 45 4 (((rs.take j).flatMap (othF v)).map RelD.d)), (14, .row 63 5 ((((rs.take j).flatMap (highF v)) ++ [(SideD.mk r3 (woT x1.t v))]).map SideD.d))]) (show (((rs.take j).flatMap (lowF v)) : List SideD) = ((rs.take (j + 1)).flatMap (lowF v)) from (flat_skip hx1 (by unfold lowF; rw [if_neg (by omega)]))))
     replace h := h.conv (f' := F.of [(1, vi .i64 v), (4, vp 5 0), (5, vp 6 0), (10, .t (.c (.d (.sl 4 (rs.map RelD.d))))), (11, vi .i64 (rs.length : Int)), (12, vi .i64 ((j : Int) + 1))] [(5, .box [.d (.raw nilV), .d (.raw nilV), .d (.raw nilV)]), (6, .box [.own 7 ((rs.take (j + 1)).flatMap (lowF v)).length, .own 14 ((rs.take (j + 1)).flatMap (highF v)).length, .own 9 ((rs.take j).flatMap (othF v)).length]), (7, .row 63 5 (((rs.take (j + 1)).flatMap (lowF v)).map SideD.d)), (9, .row 45 4 (((rs.take j).flatMap (othF v)).map RelD.d)), (14, .row 63 5 (((rs.take (j + 1)).flatMap (highF v)).map SideD.d))]) (congrArg (fun (z_ : List SideD) => F.of [(1, vi .i64 v), (4, vp 5 0), (5, vp 6 0), (10, .t (.c (.d (.sl 4 (rs.map RelD.d))))), (11, vi .i64 (rs.length : Int)), (12, vi .i64 ((j : Int) + 1))] [(5, .box [.d (.raw nilV), .d (.raw nilV), .d (.raw nilV)]), (6, .box [.own 7 ((rs.take (j + 1)).flatMap (lowF v)).length, .own 14 z_.length, .own 9 ((rs.take j).flatMap (othF v)).length]), (7, .row 63 5 (((rs.take (j + 1)).flatMap (lowF v)).map SideD.d)), (9, .row 45 4 (((rs.take j).flatMap (othF v)).map RelD.d)), (14, .row 63 5 (z_.map SideD.d))]) (show ((((rs.take j).flatMap (highF v)) ++ [(SideD.mk r3 (woT x1.t v))]) : List SideD) = ((rs.take (j + 1)).flatMap (highF v)) from (flat_snoc hx1 (by unfold highF; rw [if_pos (by omega)]; unfold sideOf; rw [er3, vr2]))))
     replace h := h.conv (f' := F.of [(1, vi .i64 v), (4, vp 5 0), (5, vp 6 0), (10, .t (.c (.d (.sl 4 (rs.map RelD.d))))), (11, vi .i64 (rs.length : Int)), (12, vi .i64 ((j : Int) + 1))] [(5, .box [.d (.raw nilV), .d (.raw nilV), .d (.raw nilV)]), (6, .box [.own 7 ((rs.take (j + 1)).flatMap (lowF v)).length, .own 14 ((rs.take (j + 1)).flatMap (highF v)).length, .own 9 ((rs.take (j + 1)).flatMap (othF v)).length]), (7, .row 63 5 (((rs.take (j + 1)).flatMap (lowF v)).map SideD.d)), (9, .row 45 4 (((rs.take (j + 1)).flatMap (othF v)).map RelD.d)), (14, .row 63 5 (((rs.take (j + 1)).flatMap (highF v)).map SideD.d))]) (congrArg (fun (z_ : List RelD) => F.of [(1, vi .i64 v), (4, vp 5 0), (5, vp 6 0), (10, .t (.c (.d (.sl 4 (rs.map RelD.d))))), (11, vi .i64 (rs.length : Int)), (12, vi .i64 ((j : Int) + 1))] [(5, .box [.d (.raw nilV), .d (.raw nilV), .d (.raw nilV)]), (6, .box [.own 7 ((rs.take (j + 1)).flatMap (lowF v)).length, .own 14 ((rs.take (j + 1)).flatMap (highF v)).length, .own 9 z_.length]), (7, .row 63 5 (((rs.take (j + 1)).flatMap (lowF v)).map SideD.d)), (9, .row 45 4 (z_.map RelD.d)), (14, .row 63 5 (((rs.take (j + 1)).flatMap (highF v)).map SideD.d))]) (show (((rs.take j).flatMap (othF v)) : List RelD) = ((rs.take (j + 1)).flatMap (othF v)) from (flat_skip hx1 (by unfold othF; rw [if_neg (by omega)]))))
     replace h := renS 14 8 [(1, vi .i64 v), (4, vp 5 0), (5, vp 6 0), (10, .t (.c (.d (.sl 4 (rs.map RelD.d))))), (11, vi .i64 (rs.length : Int)), (12, vi .i64 ((j : Int) + 1))] [(5, .box [.d (.raw nilV), .d (.raw nilV), .d (.raw nilV)]), (6, .box [.own 7 ((rs.take (j + 1)).flatMap (lowF v)).length, .own 8 ((rs.take (j + 1)).flatMap (highF v)).length, .own 9 ((rs.take (j + 1)).flatMap (othF v)).length]), (7, .row 63 5 (((rs.take (j + 1)).flatMap (lowF v)).map SideD.d)), (9, .row 45 4 (((rs.take (j + 1)).flatMap (othF v)).map RelD.d)), (8, .row 63 5 (((rs.take (j + 1)).flatMap (highF v)).map SideD.d))] h (by kernel_rfl) (by kernel_rfl) (by kernel_rfl)
     refine roundS (x := j) (y := j + 1) h ?_ ?_ (by kernel_rfl) (by kernel_rfl)
     ·have := at_lt hx1
      show j + 1 ≤ rs.length
      omega
     ·show rs.length - (j + 1) < rs.length - j
      have := at_lt hx1; omega
    ·have hc5 := hc; clear hc
     have hc5' := hc5; (try simp at hc5')
     refine rS fam0ok 15 [(4, .call (SLeast x1.t (gx1.mono (by decide) (by decide))) ha_9), (5, .gen _ _ _ fun _ _ _ _ => Op.buildD (d := 34) (len := 1) (rows := [(lstR x1.t)].map RelD.d) (rs := [(33, .t (.agg ([.d (.sl 3 ((lstR x1.t).t.parts.map Part.d))] ++ zi (lstR x1.t).t.k ++ [.d (.raw (.bool (lstR x1.t).eq))])))]) kc_5 (.cons (i := 0) (OV.tmp 33 _) (.nil)) (by kernel_rfl) rfl (by simp [RelD.d]) (by decide) (by decide)), (6, .gen _ _ _ fun _ _ _ _ => Op.appOD (d := 35) (t := 30) (u := 34) (n := 9) (n' := 15) (len := ((rs.take j).flatMap (othF v)).length) (len' := (((rs.take j).flatMap (othF v)) ++ [(lstR x1.t)]).length) (rows := ((rs.take j).flatMap (othF v)).map RelD.d) (rows2 := [(lstR x1.t)].map RelD.d) (rows' := (((rs.take j).flatMap (othF v)) ++ [(lstR x1.t)]).map RelD.d) ha_11 (by first | exact (List.length_map _).symm | simp) (by first | (rw [List.length_append, List.length_map]; done) | simp) (by simp) (by simp [RelD.d]) (by first | omega | (simp at *; done) | (simp at *; omega)))] [(1, vi .i64 v), (4, vp 5 0), (5, vp 6 0), (10, .t (.c (.d (.sl 4 (rs.map RelD.d))))), (11, vi .i64 (rs.length : Int)), (12, vi .i64 (j : Int))] [(5, .box [.d (.raw nilV), .d (.raw nilV), .d (.raw nilV)]), (6, .box ([.own 7 ((rs.take j).flatMap (lowF v)).length, .own 8 ((rs.take j).flatMap (highF v)).length, .own 15 (((rs.take j).flatMap (othF v)) ++ [(lstR x1.t)]).length])), (7, .row 63 5 (((rs.take j).flatMap (lowF v)).map SideD.d)), (8, .row 63 5 (((rs.take j).flatMap (highF v)).map SideD.d)), (15, .row 45 4 ((((rs.take j).flatMap (othF v)) ++ [(lstR x1.t)]).map RelD.d))] (by kernel_rfl) h ?_; clear h; intro a w h
     refine block_n ?_
     refine block_n ?_
     refine then_n ?_
     refine rS fam0ok 16 [(0, .add .i64 (m := (j : Int)) (n := 1) (i64_id (by omega) (by omega)))] [(1, vi .i64 v), (4, vp 5 0), (5, vp 6 0), (10, .t (.c (.d (.sl 4 (rs.map RelD.d))))), (11, vi .i64 (rs.length : Int)), (12, vi .i64 ((j : Int) + 1))] [(5, .box [.d (.raw nilV), .d (.raw nilV), .d (.raw nilV)]), (6, .box ([.own 7 ((rs.take j).flatMap (lowF v)).length, .own 8 ((rs.take j).flatMap (highF v)).length, .own 15 (((rs.take j).flatMap (othF v)) ++ [(lstR x1.t)]).length])), (7, .row 63 5 (((rs.take j).flatMap (lowF v)).map SideD.d)), (8, .row 63 5 (((rs.take j).flatMap (highF v)).map SideD.d)), (15, .row 45 4 ((((rs.take j).flatMap (othF v)) ++ [(lstR x1.t)]).map RelD.d))] (by kernel_rfl) h ?_; clear h; intro a w h
     refine then_n ?_
     have hcz := sgn1_f hc3
     rw [vr2] at hcz
     have hcy := sgnm_f hc5
     rw [vr2] at hcy
     replace h := h.conv (f' := F.of [(1, vi .i64 v), (4, vp 5 0), (5, vp 6 0), (10, .t (.c (.d (.sl 4 (rs.map RelD.d))))), (11, vi .i64 (rs.length : Int)), (12, vi .i64 ((j : Int) + 1))] [(5, .box [.d (.raw nilV), .d (.raw nilV), .d (.raw nilV)]), (6, .box ([.own 7 ((rs.take (j + 1)).flatMap (lowF v)).length, .own 8 ((rs.take j).flatMap (highF v)).length, .own 15 (((rs.take j).flatMap (othF v)) ++ [(lstR x1.t)]).length])), (7, .row 63 5 (((rs.take (j + 1)).flatMap (lowF v)).map SideD.d)), (8, .row 63 5 (((rs.take j).flatMap (highF v)).map SideD.d)), (15, .row 45 4 ((((rs.take j).flatMap (othF v)) ++ [(lstR x1.t)]).map RelD.d))]) (congrArg (fun (z_ : List SideD) => F.of [(1, vi .i64 v), (4, vp 5 0), (5, vp 6 0), (10, .t (.c (.d (.sl 4 (rs.map RelD.d))))), (11, vi .i64 (rs.length : Int)), (12, vi .i64 ((j : Int) + 1))] [(5, .box [.d (.raw nilV), .d (.raw nilV), .d (.raw nilV)]), (6, .box ([.own 7 z_.length, .own 8 ((rs.take j).flatMap (highF v)).length, .own 15 (((rs.take j).flatMap (othF v)) ++ [(lstR x1.t)]).length])), (7, .row 63 5 (z_.map SideD.d)), (8, .row 63 5 (((rs.take j).flatMap (highF v)).map SideD.d)), (15, .row 45 4 ((((rs.take j).flatMap (othF v)) ++ [(lstR x1.t)]).map RelD.d))]) (show (((rs.take j).flatMap (lowF v)) : List SideD) = ((rs.take (j + 1)).flatMap (lowF v)) from (flat_skip hx1 (by unfold lowF; rw [if_neg (by omega)]))))
     replace h := h.conv (f' := F.of [(1, vi .i64 v), (4, vp 5 0), (5, vp 6 0), (10, .t (.c (.d (.sl 4 (rs.map RelD.d))))), (11, vi .i64 (rs.length : Int)), (12, vi .i64 ((j : Int) + 1))] [(5, .box [.d (.raw nilV), .d (.raw nilV), .d (.raw nilV)]), (6, .box ([.own 7 ((rs.take (j + 1)).flatMap (lowF v)).length, .own 8 ((rs.take (j + 1)).flatMap (highF v)).length, .own 15 (((rs.take j).flatMap (othF v)) ++ [(lstR x1.t)]).length])), (7, .row 63 5 (((rs.take (j + 1)).flatMap (lowF v)).map SideD.d)), (8, .row 63 5 (((rs.take (j + 1)).flatMap (highF v)).map SideD.d)), (15, .row 45 4 ((((rs.take j).flatMap (othF v)) ++ [(lstR x1.t)]).map RelD.d))]) (congrArg (fun (z_ : List SideD) => F.of [(1, vi .i64 v), (4, vp 5 0), (5, vp 6 0), (10, .t (.c (.d (.sl 4 (rs.map RelD.d))))), (11, vi .i64 (rs.length : Int)), (12, vi .i64 ((j : Int) + 1))] [(5, .box [.d (.raw nilV), .d (.raw nilV), .d (.raw nilV)]), (6, .box ([.own 7 ((rs.take (j + 1)).flatMap (lowF v)).length, .own 8 z_.length, .own 15 (((rs.take j).flatMap (othF v)) ++ [(lstR x1.t)]).length])), (7, .row 63 5 (((rs.take (j + 1)).flatMap (lowF v)).map SideD.d)), (8, .row 63 5 (z_.map SideD.d)), (15, .row 45 4 ((((rs.take j).flatMap (othF v)) ++ [(lstR x1.t)]).map RelD.d))]) (show (((rs.take j).flatMap (highF v)) : List SideD) = ((rs.take (j + 1)).flatMap (highF v)) from (flat_skip hx1 (by unfold highF; rw [if_neg (by omega)]))))
     replace h := h.conv (f' := F.of [(1, vi .i64 v), (4, vp 5 0), (5, vp 6 0), (10, .t (.c (.d (.sl 4 (rs.map RelD.d))))), (11, vi .i64 (rs.length : Int)), (12, vi .i64 ((j : Int) + 1))] [(5, .box [.d (.raw nilV), .d (.raw nilV), .d (.raw nilV)]), (6, .box [.own 7 ((rs.take (j + 1)).flatMap (lowF v)).length, .own 8 ((rs.take (j + 1)).flatMap (highF v)).length, .own 15 ((rs.take (j + 1)).flatMap (othF v)).length]), (7, .row 63 5 (((rs.take (j + 1)).flatMap (lowF v)).map SideD.d)), (8, .row 63 5 (((rs.take (j + 1)).flatMap (highF v)).map SideD.d)), (15, .row 45 4 (((rs.take (j + 1)).flatMap (othF v)).map RelD.d))]) (congrArg (fun (z_ : List RelD) => F.of [(1, vi .i64 v), (4, vp 5 0), (5, vp 6 0), (10, .t (.c (.d (.sl 4 (rs.map RelD.d))))), (11, vi .i64 (rs.length : Int)), (12, vi .i64 ((j : Int) + 1))] [(5, .box [.d (.raw nilV), .d (.raw nilV), .d (.raw nilV)]), (6, .box [.own 7 ((rs.take (j + 1)).flatMap (lowF v)).length, .own 8 ((rs.take (j + 1)).flatMap (highF v)).length, .own 15 z_.length]), (7, .row 63 5 (((rs.take (j + 1)).flatMap (lowF v)).map SideD.d)), (8, .row 63 5 (((rs.take (j + 1)).flatMap (highF v)).map SideD.d)), (15, .row 45 4 (z_.map RelD.d))]) (show ((((rs.take j).flatMap (othF v)) ++ [(lstR x1.t)]) : List RelD) = ((rs.take (j + 1)).flatMap (othF v)) from (flat_snoc hx1 (by unfold othF; rw [if_pos (by omega)]))))
     replace h := renS 15 9 [(1, vi .i64 v), (4, vp 5 0), (5, vp 6 0), (10, .t (.c (.d (.sl 4 (rs.map RelD.d))))), (11, vi .i64 (rs.length : Int)), (12, vi .i64 ((j : Int) + 1))] [(5, .box [.d (.raw nilV), .d (.raw nilV), .d (.raw nilV)]), (6, .box [.own 7 ((rs.take (j + 1)).flatMap (lowF v)).length, .own 8 ((rs.take (j + 1)).flatMap (highF v)).length, .own 9 ((rs.take (j + 1)).flatMap (othF v)).length]), (7, .row 63 5 (((rs.take (j + 1)).flatMap (lowF v)).map SideD.d)), (8, .row 63 5 (((rs.take (j + 1)).flatMap (highF v)).map SideD.d)), (9, .row 45 4 (((rs.take (j + 1)).flatMap (othF v)).map RelD.d))] h (by kernel_rfl) (by kernel_rfl) (by kernel_rfl)
     refine roundS (x := j) (y := j + 1) h ?_ ?_ (by kernel_rfl) (by kernel_rfl)
     ·have := at_lt hx1
      show j + 1 ≤ rs.length
      omega
     ·show rs.length - (j + 1) < rs.length - j
      have := at_lt hx1; omega
  ·have hc6 := hc; clear hc
   have hc6' := of_decide_eq_false hc6
   refine wp_exit ?_
   refine then_x ?_
   refine then_x ?_
   refine inBlock_exit ?_
   refine then_n ?_
   refine rSeq fam0ok 16 [] [(4, vp 5 0)] [(5, .box [.own 7 ((rs.take j).flatMap (lowF v)).length, .own 8 ((rs.take j).flatMap (highF v)).length, .own 9 ((rs.take j).flatMap (othF v)).length]), (7, .row 63 5 (((rs.take j).flatMap (lowF v)).map SideD.d)), (8, .row 63 5 (((rs.take j).flatMap (highF v)).map SideD.d)), (9, .row 45 4 (((rs.take j).flatMap (othF v)).map RelD.d))] (by kernel_rfl) h ?_; clear h; intro a w h
   refine wp_ret ?_
   replace h := h.conv (f' := F.of [(4, vp 5 0)] [(5, .box [.own 7 (lowsOf rs v).length, .own 8 ((rs.take j).flatMap (highF v)).length, .own 9 ((rs.take j).flatMap (othF v)).length]), (7, .row 63 5 ((lowsOf rs v).map SideD.d)), (8, .row 63 5 (((rs.take j).flatMap (highF v)).map SideD.d)), (9, .row 45 4 (((rs.take j).flatMap (othF v)).map RelD.d))]) (congrArg (fun (z_ : List SideD) => F.of [(4, vp 5 0)] [(5, .box [.own 7 z_.length, .own 8 ((rs.take j).flatMap (highF v)).length, .own 9 ((rs.take j).flatMap (othF v)).length]), (7, .row 63 5 (z_.map SideD.d)), (8, .row 63 5 (((rs.take j).flatMap (highF v)).map SideD.d)), (9, .row 45 4 (((rs.take j).flatMap (othF v)).map RelD.d))]) (show (((rs.take j).flatMap (lowF v)) : List SideD) = (lowsOf rs v) from (by unfold lowsOf; rw [List.take_of_length_le (by omega)])))
   replace h := h.conv (f' := F.of [(4, vp 5 0)] [(5, .box [.own 7 (lowsOf rs v).length, .own 8 (highsOf rs v).length, .own 9 ((rs.take j).flatMap (othF v)).length]), (7, .row 63 5 ((lowsOf rs v).map SideD.d)), (8, .row 63 5 ((highsOf rs v).map SideD.d)), (9, .row 45 4 (((rs.take j).flatMap (othF v)).map RelD.d))]) (congrArg (fun (z_ : List SideD) => F.of [(4, vp 5 0)] [(5, .box [.own 7 (lowsOf rs v).length, .own 8 z_.length, .own 9 ((rs.take j).flatMap (othF v)).length]), (7, .row 63 5 ((lowsOf rs v).map SideD.d)), (8, .row 63 5 (z_.map SideD.d)), (9, .row 45 4 (((rs.take j).flatMap (othF v)).map RelD.d))]) (show (((rs.take j).flatMap (highF v)) : List SideD) = (highsOf rs v) from (by unfold highsOf; rw [List.take_of_length_le (by omega)])))
   replace h := h.conv (f' := F.of [(4, vp 5 0)] [(5, .box [.own 7 (lowsOf rs v).length, .own 8 (highsOf rs v).length, .own 9 (othersOf rs v).length]), (7, .row 63 5 ((lowsOf rs v).map SideD.d)), (8, .row 63 5 ((highsOf rs v).map SideD.d)), (9, .row 45 4 ((othersOf rs v).map RelD.d))]) (congrArg (fun (z_ : List RelD) => F.of [(4, vp 5 0)] [(5, .box [.own 7 (lowsOf rs v).length, .own 8 (highsOf rs v).length, .own 9 z_.length]), (7, .row 63 5 ((lowsOf rs v).map SideD.d)), (8, .row 63 5 ((highsOf rs v).map SideD.d)), (9, .row 45 4 (z_.map RelD.d))]) (show (((rs.take j).flatMap (othF v)) : List RelD) = (othersOf rs v) from (by unfold othersOf; rw [List.take_of_length_le (by omega)])))
   replace h := renS 9 0 [(4, vp 5 0)] [(5, .box [.own 7 (lowsOf rs v).length, .own 8 (highsOf rs v).length, .own 0 (othersOf rs v).length]), (7, .row 63 5 ((lowsOf rs v).map SideD.d)), (8, .row 63 5 ((highsOf rs v).map SideD.d)), (0, .row 45 4 ((othersOf rs v).map RelD.d))] h (by kernel_rfl) (by kernel_rfl) (by kernel_rfl)
   replace h := pubS 7 5 63 ((lowsOf rs v).map SideD.d) [(4, vp 5 0)] [(5, .box [.d (.sl 5 ((lowsOf rs v).map SideD.d)), .own 8 (highsOf rs v).length, .own 0 (othersOf rs v).length]), (8, .row 63 5 ((highsOf rs v).map SideD.d)), (0, .row 45 4 ((othersOf rs v).map RelD.d))] h rfl trivial (show AllEq _ [(lowsOf rs v).length] from ⟨by first | exact (List.length_map _).symm | (simp; done) | (simp; omega), trivial⟩) (by kernel_rfl) (by kernel_rfl)
   replace h := pubS 8 5 63 ((highsOf rs v).map SideD.d) [(4, vp 5 0)] [(5, .box [.d (.sl 5 ((lowsOf rs v).map SideD.d)), .d (.sl 5 ((highsOf rs v).map SideD.d)), .own 0 (othersOf rs v).length]), (0, .row 45 4 ((othersOf rs v).map RelD.d))] h rfl trivial (show AllEq _ [(highsOf rs v).length] from ⟨by first | exact (List.length_map _).symm | (simp; done) | (simp; omega), trivial⟩) (by kernel_rfl) (by kernel_rfl)
   refine retS [.agg [.d (.sl 5 ((lowsOf rs v).map SideD.d)), .d (.sl 5 ((highsOf rs v).map SideD.d)), .own 0 (othersOf rs v).length]] h Exit.ret (.inl rfl)  rfl ⟨RV.agg _ 5 0 _ _ _ _ ha_12 rfl rfl rfl rfl, trivial⟩ ?_ (by kernel_rfl) (by kernel_rfl)
   rfl
end Go.Proofs.YtoklkfmffmonoaaGreat.S
end
section
namespace Go.Proofs.YtoklkfmffmonoaaGreat.S
open Go.RowKit

section
variable {w0 : World} {H0 : Im} {B0 : Bl} {K : List Nat} {N : Nat} {a : Act} {w : World} {sl : List (Nat × V)} {lc : List (Nat × L)}
theorem St.anyL {e : E} {f : F} (h : St e f a w) (m j : Nat) {cs : List C} {c : C} (hv : f.l m = some (.box cs)) (hg : cs[j]? = some c) : St e (f.setL m (.box (cs.set j .any))) a w := by
 obtain ⟨H, B, hok⟩ := h
 exact ⟨H, B, hok.setL m (.box cs) _ hv fun hu => LR.setC hg (fun _ hx => CR.flat hx) hu⟩
theorem anyLs (m j : Nat) (cs : List C) (c : C) (sl' : List (Nat × V)) (lc' : List (Nat × L)) (h : St ⟨w0, H0, B0, K, N⟩ (F.of sl lc) a w) (hv : lc.lookup m = some (.box cs)) (hg : cs[j]? = some c)
  (h3 : leS ((F.of sl lc).setL m (.box (cs.set j .any))) sl' = sl'.map fun p => some p.2) (h4 : leN ((F.of sl lc).setL m (.box (cs.set j .any))) lc' = lc'.map fun p => some p.2) : St ⟨w0, H0, B0, K, N⟩ (F.of sl' lc') a w :=
 (h.anyL m j hv hg).weaken (le_of h3 h4)
end
end Go.Proofs.YtoklkfmffmonoaaGreat.S
end
