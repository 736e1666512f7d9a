/-
  Sums and multiples of terms.
-/
import Derived.Test.YtekhnajfdaknnaaTl
import Derived.Test.YtekhnajfdaknnaaSigK
namespace Go.Proofs.Ytekhnajfdaknnaa.S
open Go.RowKit

theorem tm_0 : SlT Try.prog 22 47 3 := SlT.mk' Try.underlying22 (by kernel_rfl)
theorem tm_1 : ElT Try.prog 22 47 3 40 := ElT.mk' Try.underlying22 _ _ rfl rfl (by kernel_rfl) (by kernel_rfl) (by kernel_rfl) (by decide) (by decide)
theorem tm_2 : SlT Try.prog 73 22 1 := SlT.mk' Try.underlying73 (by kernel_rfl)
theorem tm_3 : Bodied Try.prog 62 := Bodied.mk' (by kernel_rfl)
theorem tm_4 : ElZ Try.prog 73 22 1 := ElZ.mk' Try.underlying73 _ _ rfl rfl (by kernel_rfl) (by kernel_rfl) (by kernel_rfl) (by decide)
theorem tm_5 : Bodied Try.prog 41 := Bodied.mk' (by kernel_rfl)
theorem tm_6 : Bodied Try.prog 34 := Bodied.mk' (by kernel_rfl)
theorem tm_7 : Bodied Try.prog 8 := Bodied.mk' (by kernel_rfl)
theorem tm_8 : Sz Try.prog 28 3 true := Sz.mk' (by kernel_rfl) Try.underlying28 _ rfl
theorem tm_9 : Bodied Try.prog 33 := Bodied.mk' (by kernel_rfl)
theorem tm_10 : Bodied Try.prog 46 := Bodied.mk' (by kernel_rfl)
theorem tm_11 : ElZ Try.prog 22 47 3 := ElZ.mk' Try.underlying22 _ _ rfl rfl (by kernel_rfl) (by kernel_rfl) (by kernel_rfl) (by decide)
theorem tm_12 : Bodied Try.prog 44 := Bodied.mk' (by kernel_rfl)
theorem tm_13 : Bodied Try.prog 14 := Bodied.mk' (by kernel_rfl)
theorem tm_14 : Bodied Try.prog 16 := Bodied.mk' (by kernel_rfl)
theorem tm_15 : Bodied Try.prog 10 := Bodied.mk' (by kernel_rfl)
def tm_tb : Tb := [(22, ⟨1, false, [], [.d (.raw nilV)], 1⟩), (3, ⟨1, false, [], [.d (.raw (.int .i64 0))], 13⟩), (73, ⟨1, false, [], [.d (.raw nilV)], 1⟩), (4, ⟨1, false, [], [.d (.raw (.bool false))], 3⟩), (24, ⟨1, false, [], [.d (nsl [])], 1⟩), (26, ⟨2, true, [(0, 1, false), (1, 1, false)], [.d (.raw (.bool false)), .d (nsl [])], 0⟩), (28, ⟨3, true, [(0, 1, false), (1, 2, true)], [.d (.raw nilV), .d (.raw (.bool false)), .d (nsl [])], 0⟩), (47, ⟨3, true, [(0, 1, false), (1, 2, true)], [.d (.raw (.int .i64 0)), .d (.raw (.bool false)), .d (nsl [])], 0⟩)]
theorem tm_ok : TbOk Try.prog tm_tb := ⟨TyOk.slc Try.underlying22 (by kernel_rfl) ⟨(.slice none 0 0 : Value), [.slice none 0 0], by kernel_rfl, rfl, (fun _ _ => ⟨DR.raw _ rfl, trivial⟩)⟩,
  TyOk.int Try.underlying3 rfl (by kernel_rfl) ⟨(.int .i64 0 : Value), [.int .i64 0], by kernel_rfl, rfl, (fun _ _ => ⟨DR.raw _ rfl, trivial⟩)⟩,
  TyOk.slc Try.underlying73 (by kernel_rfl) ⟨(.slice none 0 0 : Value), [.slice none 0 0], by kernel_rfl, rfl, (fun _ _ => ⟨DR.raw _ rfl, trivial⟩)⟩,
  TyOk.bl Try.underlying4 (by kernel_rfl) ⟨(.bool false : Value), [.bool false], by kernel_rfl, rfl, (fun _ _ => ⟨DR.raw _ rfl, trivial⟩)⟩,
  TyOk.slc Try.underlying24 (by kernel_rfl) ⟨(.slice none 0 0 : Value), [.slice none 0 0], by kernel_rfl, rfl, (fun _ _ => ⟨DR.nil _ _ _ (fun _ => rfl) (Nat.zero_le _), trivial⟩)⟩,
  TyOk.st Try.underlying26 (by kernel_rfl) ⟨⟨by decide, Fd.mk' _ _ Try.underlying26 rfl rfl (Sz.mk' (by kernel_rfl) Try.underlying4 _ rfl)⟩, ⟨by decide, Fd.mk' _ _ Try.underlying26 rfl rfl (Sz.mk' (by kernel_rfl) Try.underlying24 _ rfl)⟩, trivial⟩ ⟨(Value.agg #[.bool false, .slice none 0 0]), [.bool false, .slice none 0 0], by kernel_rfl, rfl, (fun _ _ => ⟨DR.raw _ rfl, DR.nil _ _ _ (fun _ => rfl) (Nat.zero_le _), trivial⟩)⟩ ⟨_, Try.underlying26, ⟨⟨rfl, by kernel_rfl⟩, ⟨rfl, by kernel_rfl⟩, trivial⟩⟩,
  TyOk.st Try.underlying28 (by kernel_rfl) ⟨⟨by decide, Fd.mk' _ _ Try.underlying28 rfl rfl (Sz.mk' (by kernel_rfl) Try.underlying22 _ rfl)⟩, ⟨by decide, Fd.mk' _ _ Try.underlying28 rfl rfl (Sz.mk' (by kernel_rfl) Try.underlying26 _ rfl)⟩, trivial⟩ ⟨(Value.agg #[.slice none 0 0, .bool false, .slice none 0 0]), [.slice none 0 0, .bool false, .slice none 0 0], by kernel_rfl, rfl, (fun _ _ => ⟨DR.raw _ rfl, DR.raw _ rfl, DR.nil _ _ _ (fun _ => rfl) (Nat.zero_le _), trivial⟩)⟩ ⟨_, Try.underlying28, ⟨⟨rfl, by kernel_rfl⟩, ⟨rfl, by kernel_rfl⟩, trivial⟩⟩,
  TyOk.st Try.underlying47 (by kernel_rfl) ⟨⟨by decide, Fd.mk' _ _ Try.underlying47 rfl rfl (Sz.mk' (by kernel_rfl) Try.underlying3 _ rfl)⟩, ⟨by decide, Fd.mk' _ _ Try.underlying47 rfl rfl (Sz.mk' (by kernel_rfl) Try.underlying26 _ rfl)⟩, trivial⟩ ⟨(Value.agg #[.int .i64 0, .bool false, .slice none 0 0]), [.int .i64 0, .bool false, .slice none 0 0], by kernel_rfl, rfl, (fun _ _ => ⟨DR.raw _ rfl, DR.raw _ rfl, DR.nil _ _ _ (fun _ => rfl) (Nat.zero_le _), trivial⟩)⟩ ⟨_, Try.underlying47, ⟨⟨rfl, by kernel_rfl⟩, ⟨rfl, by kernel_rfl⟩, trivial⟩⟩,
  trivial⟩
set_option maxRecDepth 100000 in
theorem SGrow (n : Nat) (hn : n ≤ 1000000) : Fn Try.prog 62 [] [.t (.c (.d (.raw nilV))), vi .i64 (n : Int)] (.t (.c (.own 0 0))) [(0, .row 47 3 ([].map Part.d))] := by
  refine Fn.body Try.func62 rfl 27 rfl fun w H B a h => ?_
  refine rSeq tm_ok 1 [] [(0, .t (.c (.d (.raw nilV)))), (1, vi .i64 (n : Int)), (4, .t (.c (.d (.raw nilV))))] [] (by kernel_rfl) h ?_; clear h; intro a w h
  refine wp_seq ?_
  refine rSeq tm_ok 1 [(1, .cmp (op := .lss) (m := (n : Int)) (n := 0) (b := false) .i64 (show decide ((n : Int) < 0) = false from decide_eq_false (by omega)))] [(0, .t (.c (.d (.raw nilV)))), (1, vi .i64 (n : Int)), (4, .t (.c (.d (.raw nilV)))), (6, vb false)] [] (by kernel_rfl) h ?_; clear h; intro a w h
  refine condS false h rfl (fun hc => ?_) (fun hc => ?_)
  · cases hc
  · clear hc
    refine wp_skip ?_
    refine then_n ?_
    refine wp_seq ?_
    refine rSeq tm_ok 1 [(2, .gen _ _ _ fun _ _ _ _ => Op.capR (d := 10) (ao := none) (n := 0) (c := 0) tm_0.hu (OV.tmp 9 _)), (5, .gen _ _ _ fun _ _ _ _ => Op.arith (op := .sub) (d := 13) (xt := 3) (yt := 3) (k := .i64) (m := 0) (n := 0) (r := 0) (OV.tmp 10 _) (OV.tmp 12 _) (.inr (.inl ⟨rfl, rfl⟩)) (i64_id (by omega) (by omega))), (6, .gen _ _ _ fun _ _ _ _ => Op.arith (op := .sub) (d := 14) (xt := 3) (yt := 3) (k := .i64) (m := (n : Int)) (n := 0) (r := (n : Int)) (OV.tmp 8 _) (OV.tmp 13 _) (.inr (.inl ⟨rfl, (Int.sub_zero _).symm⟩)) (i64_id (by omega) (by omega)))] [(0, .t (.c (.d (.raw nilV)))), (1, vi .i64 (n : Int)), (4, .t (.c (.d (.raw nilV))))] [] (by kernel_rfl) h ?_; clear h; intro a w h
    refine rSeq tm_ok 1 [] [(0, .t (.c (.d (.raw nilV)))), (1, vi .i64 (n : Int)), (4, .t (.c (.d (.raw nilV)))), (16, vb (decide ((n : Int) > 0)))] [] (by kernel_rfl) h ?_; clear h; intro a w h
    refine condS (decide ((n : Int) > 0)) h rfl (fun hc => ?_) (fun hc => ?_)
    · have hc1 := hc; clear hc
      have hc1' := of_decide_eq_true hc1
      refine rS tm_ok 1 [(2, .gen _ _ _ fun _ _ _ _ => Op.capR (d := 19) (ao := none) (n := 0) (c := 0) tm_0.hu (OV.tmp 18 _)), (3, .gen _ _ _ fun _ _ _ _ => Op.sliceR0 (d := 20) (k := .i64) tm_0 (OV.tmp 17 _) (OV.tmp 19 _)), (5, .gen _ _ _ fun _ _ _ _ => Op.appNM (d := 22) (t := 20) (u := 21) (n := 1) (L := n) tm_1 Try.underlying3 (by omega) (by omega) (by omega)), (8, .gen _ _ _ fun _ _ _ _ => Op.sliceHi (d := 25) (t := 22) (k := .i64) (n := 1) (len := n) (h := 0) (rows := [].map Part.d) (rty := 47) tm_0 (by first | omega | (simp at *; omega)) (OV.tmp 24 _))] [(0, .t (.c (.own 1 0))), (4, .t (.c (.d (.raw nilV))))] [(1, .row 47 3 ([].map Part.d))] (by kernel_rfl) h ?_; clear h; intro a w h
      refine then_n ?_
      refine rSeq tm_ok 2 [] [(4, .t (.c (.own 1 0)))] [(1, .row 47 3 ([].map Part.d))] (by kernel_rfl) h ?_; clear h; intro a w h
      refine wp_ret ?_
      replace h := renS 1 0 [(4, .t (.c (.own 0 0)))] [(0, .row 47 3 ([].map Part.d))] h (by kernel_rfl) (by kernel_rfl) (by kernel_rfl)
      refine retS [.c (.own 0 0)] h Exit.ret (.inl rfl)  rfl ⟨RV.tmp _ _ rfl, trivial⟩ ?_ (by kernel_rfl) (by kernel_rfl)
      rfl
    · have hc2 := hc; clear hc
      have hc2' := of_decide_eq_false hc2
      refine wp_skip ?_
      refine then_n ?_
      refine rSeq tm_ok 2 [] [(4, .t (.c (.d (.raw nilV))))] [] (by kernel_rfl) h ?_; clear h; intro a w h
      refine wp_ret ?_
      replace h := nilOSs 4 0 2 3 47 (.t (.c (.d (.raw nilV)))) [(4, .t (.c (.own 2 0)))] [(2, .row 47 3 ([].map Part.d))] h (by kernel_rfl) rfl rfl (by kernel_rfl) (by kernel_rfl)
      replace h := renS 2 0 [(4, .t (.c (.own 0 0)))] [(0, .row 47 3 ([].map Part.d))] h (by kernel_rfl) (by kernel_rfl) (by kernel_rfl)
      refine retS [.c (.own 0 0)] h Exit.ret (.inl rfl)  rfl ⟨RV.tmp _ _ rfl, trivial⟩ ?_ (by kernel_rfl) (by kernel_rfl)
      rfl
theorem sum_take_le (l : List Nat) : ∀ j, (l.take j).sum ≤ l.sum := by
  induction l with
  | nil => intro j; simp
  | cons x l ih =>
    intro j
    cases j with
    | zero => simp
    | succ j => simp only [List.take_succ_cons, List.sum_cons]; have := ih j; omega
theorem flat_sum {α : Type} (l : List (List α)) : l.flatten.length = (l.map List.length).sum := List.length_flatten
theorem sum_mem {l : List Nat} {x : Nat} (h : x ∈ l) : x ≤ l.sum := by
  induction l with
  | nil => cases h
  | cons y l ih =>
    rw [List.sum_cons]
    rcases List.mem_cons.1 h with rfl | h
    · omega
    · have := ih h; omega
set_option maxRecDepth 100000 in
theorem SConcat (xss : List (List Part)) (hl : (xss.map List.length).sum ≤ 1000000) (hn : xss.length ≤ 1000) : Fn Try.prog 41 [] [.t (.c (.d (.sl 1 (xss.map (slD 3 Part.d)))))] (.t (.c (.d (.sl 3 (xss.flatten.map Part.d))))) [] := by
  refine Fn.body Try.func41 rfl 36 rfl fun w H B a h => ?_
  refine rSeq tm_ok 5 [] [(0, .t (.c (.d (.sl 1 (xss.map (slD 3 Part.d)))))), (2, .t (.c (.d (.raw nilV))))] [] (by kernel_rfl) h ?_; clear h; intro a w h
  refine rSeq tm_ok 5 [] [(0, .t (.c (.d (.sl 1 (xss.map (slD 3 Part.d)))))), (2, .t (.c (.d (.raw nilV)))), (3, vi .i64 0)] [] (by kernel_rfl) h ?_; clear h; intro a w h
  refine wp_seq ?_
  refine rSeq tm_ok 5 [(1, .len (c := (.d (.sl 1 (xss.map (slD 3 Part.d))))) (n := xss.length) (lenC_map _ _ _))] [(0, .t (.c (.d (.sl 1 (xss.map (slD 3 Part.d)))))), (2, .t (.c (.d (.raw nilV)))), (3, vi .i64 0), (9, .t (.c (.d (.sl 1 (xss.map (slD 3 Part.d)))))), (10, vi .i64 (xss.length : Int)), (11, vi .i64 0)] [] (by kernel_rfl) h ?_; clear h; intro a w h
  refine wp_block ?_
  refine loopS (ι := (Nat)) (fun (z_ : (Nat)) => match z_ with | j => j ≤ xss.length)
      (fun (z_ : (Nat)) => match z_ with | j => [(0, .t (.c (.d (.sl 1 (xss.map (slD 3 Part.d)))))), (2, .t (.c (.d (.raw nilV)))), (3, vi .i64 ((((xss.map List.length).take j).sum : Nat) : Int)), (9, .t (.c (.d (.sl 1 (xss.map (slD 3 Part.d)))))), (10, vi .i64 (xss.length : Int)), (11, vi .i64 (j : Int))])
      (fun (z_ : (Nat)) => match z_ with | j => [])
      (fun (z_ : (Nat)) => match z_ with | j => xss.length - j) 0 ?_ h (by kernel_rfl) (by kernel_rfl) ?_
  · exact Nat.zero_le _
  · clear h; rintro j a w hI h
    change St _ (F.of [(0, .t (.c (.d (.sl 1 (xss.map (slD 3 Part.d)))))), (2, .t (.c (.d (.raw nilV)))), (3, vi .i64 ((((xss.map List.length).take j).sum : Nat) : Int)), (9, .t (.c (.d (.sl 1 (xss.map (slD 3 Part.d)))))), (10, vi .i64 (xss.length : Int)), (11, vi .i64 (j : Int))] []) a w at h
    have hs1 := sum_take_le (xss.map List.length) j
    have hs2 := sum_take_le (xss.map List.length) (j + 1)
    refine rSeq tm_ok 5 [] [(0, .t (.c (.d (.sl 1 (xss.map (slD 3 Part.d)))))), (2, .t (.c (.d (.raw nilV)))), (3, vi .i64 ((((xss.map List.length).take j).sum : Nat) : Int)), (9, .t (.c (.d (.sl 1 (xss.map (slD 3 Part.d)))))), (10, vi .i64 (xss.length : Int)), (11, vi .i64 (j : Int)), (12, vb (decide ((j : Int) < (xss.length : Int))))] [] (by kernel_rfl) h ?_; clear h; intro a w h
    refine wp_seq ?_
    refine condS (decide ((j : Int) < (xss.length : Int))) h rfl (fun hc => ?_) (fun hc => ?_)
    · have hc1 := hc; clear hc
      have hc1' := of_decide_eq_true hc1
      refine wp_skip ?_
      refine then_n ?_
      refine wp_seq ?_
      refine wp_block ?_
      obtain ⟨x1, hx1⟩ : ∃ z_ : List Part, xss[j]? = some z_ := ⟨_, List.getElem?_eq_getElem (by first | omega | (simp at *; omega))⟩
      have hsx : x1.length ≤ (xss.map List.length).sum := by
        have := sum_mem (List.mem_map_of_mem (f := List.length) (List.mem_of_getElem? hx1))
        omega
      refine rSeq tm_ok 5 [(0, .gen _ _ _ fun _ _ _ _ => Op.idxD (d := 13) (t := 9) (k := .i64) tm_2 (map_at hx1 (f := (slD 3 Part.d))) (OV.tmp 11 _))] [(0, .t (.c (.d (.sl 1 (xss.map (slD 3 Part.d)))))), (2, .t (.c (.d (.raw nilV)))), (3, vi .i64 ((((xss.map List.length).take j).sum : Nat) : Int)), (5, .t (.c (.d (.sl 3 (x1.map Part.d))))), (9, .t (.c (.d (.sl 1 (xss.map (slD 3 Part.d)))))), (10, vi .i64 (xss.length : Int)), (11, vi .i64 (j : Int))] [] (by kernel_rfl) h ?_; clear h; intro a w h
      refine rSeq tm_ok 5 [(2, .len (c := (.d (.sl 3 (x1.map Part.d)))) (n := x1.length) (lenC_map _ _ _)), (3, .gen _ _ _ fun _ _ _ _ => Op.arith (op := .add) (d := 18) (xt := 3) (yt := 3) (k := .i64) (m := ((((xss.map List.length).take j).sum : Nat) : Int)) (n := (x1.length : Int)) (r := ((((xss.map List.length).take (j + 1)).sum : Nat) : Int)) (OV.tmp 15 _) (OV.tmp 17 _) (.inl ⟨rfl, (by rw [List.take_add_one, List.getElem?_map, hx1]; simp)⟩) (i64_id (by omega) (by omega)))] [(0, .t (.c (.d (.sl 1 (xss.map (slD 3 Part.d)))))), (2, .t (.c (.d (.raw nilV)))), (3, vi .i64 ((((xss.map List.length).take (j + 1)).sum : Nat) : Int)), (9, .t (.c (.d (.sl 1 (xss.map (slD 3 Part.d)))))), (10, vi .i64 (xss.length : Int)), (11, vi .i64 (j : Int))] [] (by kernel_rfl) h ?_; clear h; intro a w h
      refine rSeq tm_ok 5 [(1, .cmp (op := .lss) (m := ((((xss.map List.length).take (j + 1)).sum : Nat) : Int)) (n := 0) (b := false) .i64 (show decide (((((xss.map List.length).take (j + 1)).sum : Nat) : Int) < 0) = false from decide_eq_false (by omega)))] [(0, .t (.c (.d (.sl 1 (xss.map (slD 3 Part.d)))))), (2, .t (.c (.d (.raw nilV)))), (3, vi .i64 ((((xss.map List.length).take (j + 1)).sum : Nat) : Int)), (9, .t (.c (.d (.sl 1 (xss.map (slD 3 Part.d)))))), (10, vi .i64 (xss.length : Int)), (11, vi .i64 (j : Int)), (20, vb false)] [] (by kernel_rfl) h ?_; clear h; intro a w h
      refine condS false h rfl (fun hc => ?_) (fun hc => ?_)
      · cases hc
      · clear hc
        refine wp_skip ?_
        refine block_n ?_
        refine then_n ?_
        refine rS tm_ok 5 [(0, .add .i64 (m := (j : Int)) (n := 1) (i64_id (by omega) (by omega)))] [(0, .t (.c (.d (.sl 1 (xss.map (slD 3 Part.d)))))), (2, .t (.c (.d (.raw nilV)))), (3, vi .i64 ((((xss.map List.length).take (j + 1)).sum : Nat) : Int)), (9, .t (.c (.d (.sl 1 (xss.map (slD 3 Part.d)))))), (10, vi .i64 (xss.length : Int)), (11, vi .i64 ((j : Int) + 1))] [] (by kernel_rfl) h ?_; clear h; intro a w h
        refine then_n ?_
        refine roundS (x := j) (y := (j + 1)) h ?_ ?_ (by kernel_rfl) (by kernel_rfl)
        · have := at_lt hx1; omega
        · show xss.length - (j + 1) < xss.length - j
          have := at_lt hx1; omega
    · have hc2 := hc; clear hc
      have hc2' := of_decide_eq_false hc2
      refine wp_exit ?_
      refine then_x ?_
      refine then_x ?_
      refine inBlock_exit ?_
      refine then_n ?_
      have hj : j = xss.length := by omega
      refine rSeq tm_ok 5 [(1, .call (SGrow ((xss.map List.length).take j).sum (by omega)) tm_3)] [(0, .t (.c (.d (.sl 1 (xss.map (slD 3 Part.d)))))), (2, .t (.c (.d (.raw nilV)))), (6, .t (.c (.own 0 0)))] [(0, .row 47 3 ([].map Part.d))] (by kernel_rfl) h ?_; clear h; intro a w h
      refine wp_seq ?_
      refine rSeq tm_ok 5 [(1, .len (c := (.d (.sl 1 (xss.map (slD 3 Part.d))))) (n := xss.length) (lenC_map _ _ _))] [(2, .t (.c (.d (.raw nilV)))), (6, .t (.c (.own 0 0))), (25, .t (.c (.d (.sl 1 (xss.map (slD 3 Part.d)))))), (26, vi .i64 (xss.length : Int)), (27, vi .i64 0)] [(0, .row 47 3 ([].map Part.d))] (by kernel_rfl) h ?_; clear h; intro a w h
      refine wp_block ?_
      refine loopS (ι := (Nat)) (fun (z_ : (Nat)) => match z_ with | i => i ≤ xss.length)
          (fun (z_ : (Nat)) => match z_ with | i => [(2, .t (.c (.d (.raw nilV)))), (6, .t (.c (.own 0 ((xss.take i).flatten).length))), (25, .t (.c (.d (.sl 1 (xss.map (slD 3 Part.d)))))), (26, vi .i64 (xss.length : Int)), (27, vi .i64 (i : Int))])
          (fun (z_ : (Nat)) => match z_ with | i => [(0, .row 47 3 (((xss.take i).flatten).map Part.d))])
          (fun (z_ : (Nat)) => match z_ with | i => xss.length - i) 0 ?_ h (by kernel_rfl) (by kernel_rfl) ?_
      · exact Nat.zero_le _
      · clear h; rintro i a w hI h
        change St _ (F.of [(2, .t (.c (.d (.raw nilV)))), (6, .t (.c (.own 0 ((xss.take i).flatten).length))), (25, .t (.c (.d (.sl 1 (xss.map (slD 3 Part.d)))))), (26, vi .i64 (xss.length : Int)), (27, vi .i64 (i : Int))] [(0, .row 47 3 (((xss.take i).flatten).map Part.d))]) a w at h
        have hs1 := sum_take_le (xss.map List.length) i
        have hs2 := sum_take_le (xss.map List.length) (i + 1)
        have hf1 : ((xss.take i).flatten).length = ((xss.map List.length).take i).sum := by rw [flat_sum, List.map_take]
        have hf2 : ((xss.take (i + 1)).flatten).length = ((xss.map List.length).take (i + 1)).sum := by rw [flat_sum, List.map_take]
        refine rSeq tm_ok 5 [] [(2, .t (.c (.d (.raw nilV)))), (6, .t (.c (.own 0 ((xss.take i).flatten).length))), (25, .t (.c (.d (.sl 1 (xss.map (slD 3 Part.d)))))), (26, vi .i64 (xss.length : Int)), (27, vi .i64 (i : Int)), (28, vb (decide ((i : Int) < (xss.length : Int))))] [(0, .row 47 3 (((xss.take i).flatten).map Part.d))] (by kernel_rfl) h ?_; clear h; intro a w h
        refine wp_seq ?_
        refine condS (decide ((i : Int) < (xss.length : Int))) h rfl (fun hc => ?_) (fun hc => ?_)
        · have hc3 := hc; clear hc
          have hc3' := of_decide_eq_true hc3
          refine wp_skip ?_
          refine then_n ?_
          refine wp_seq ?_
          refine wp_block ?_
          obtain ⟨x3, hx3⟩ : ∃ z_ : List Part, xss[i]? = some z_ := ⟨_, List.getElem?_eq_getElem (by first | omega | (simp at *; omega))⟩
          have hsx : x3.length ≤ (xss.map List.length).sum := by
            have := sum_mem (List.mem_map_of_mem (f := List.length) (List.mem_of_getElem? hx3))
            omega
          refine rSeq tm_ok 5 [(0, .gen _ _ _ fun _ _ _ _ => Op.idxD (d := 29) (t := 25) (k := .i64) tm_2 (map_at hx3 (f := (slD 3 Part.d))) (OV.tmp 27 _))] [(2, .t (.c (.d (.raw nilV)))), (6, .t (.c (.own 0 ((xss.take i).flatten).length))), (8, .t (.c (.d (.sl 3 (x3.map Part.d))))), (25, .t (.c (.d (.sl 1 (xss.map (slD 3 Part.d)))))), (26, vi .i64 (xss.length : Int)), (27, vi .i64 (i : Int))] [(0, .row 47 3 (((xss.take i).flatten).map Part.d))] (by kernel_rfl) h ?_; clear h; intro a w h
          refine rS tm_ok 5 [(2, .gen _ _ _ fun _ _ _ _ => Op.appOD (d := 33) (t := 31) (u := 32) (n := 0) (n' := 5) (len := ((xss.take i).flatten).length) (len' := (((xss.take i).flatten) ++ x3).length) (rows := ((xss.take i).flatten).map Part.d) (rows2 := x3.map Part.d) (rows' := (((xss.take i).flatten) ++ x3).map Part.d) tm_1 (by first | exact (List.length_map _).symm | simp) (by first | (rw [List.length_append, List.length_map]; done) | simp) (by simp) (by simp [Part.d]) (by first | omega | (simp at *; done) | (simp at *; omega)))] [(2, .t (.c (.d (.raw nilV)))), (6, .t (.c (.own 5 (((xss.take i).flatten) ++ x3).length))), (25, .t (.c (.d (.sl 1 (xss.map (slD 3 Part.d)))))), (26, vi .i64 (xss.length : Int)), (27, vi .i64 (i : Int))] [(5, .row 47 3 ((((xss.take i).flatten) ++ x3).map Part.d))] (by kernel_rfl) h ?_; clear h; intro a w h
          refine block_n ?_
          refine then_n ?_
          refine rS tm_ok 6 [(0, .add .i64 (m := (i : Int)) (n := 1) (i64_id (by omega) (by omega)))] [(2, .t (.c (.d (.raw nilV)))), (6, .t (.c (.own 5 (((xss.take i).flatten) ++ x3).length))), (25, .t (.c (.d (.sl 1 (xss.map (slD 3 Part.d)))))), (26, vi .i64 (xss.length : Int)), (27, vi .i64 ((i : Int) + 1))] [(5, .row 47 3 ((((xss.take i).flatten) ++ x3).map Part.d))] (by kernel_rfl) h ?_; clear h; intro a w h
          refine then_n ?_
          have hnw : (((xss.take i).flatten) ++ x3) = ((xss.take (i + 1)).flatten) := by rw [List.take_add_one, hx3]; simp
          replace h := h.conv (f' := F.of [(2, .t (.c (.d (.raw nilV)))), (6, .t (.c (.own 5 ((xss.take (i + 1)).flatten).length))), (25, .t (.c (.d (.sl 1 (xss.map (slD 3 Part.d)))))), (26, vi .i64 (xss.length : Int)), (27, vi .i64 ((i : Int) + 1))] [(5, .row 47 3 (((xss.take (i + 1)).flatten).map Part.d))]) (by rw [hnw])
          replace h := renS 5 0 [(2, .t (.c (.d (.raw nilV)))), (6, .t (.c (.own 0 ((xss.take (i + 1)).flatten).length))), (25, .t (.c (.d (.sl 1 (xss.map (slD 3 Part.d)))))), (26, vi .i64 (xss.length : Int)), (27, vi .i64 ((i : Int) + 1))] [(0, .row 47 3 (((xss.take (i + 1)).flatten).map Part.d))] h (by kernel_rfl) (by kernel_rfl) (by kernel_rfl)
          refine roundS (x := i) (y := (i + 1)) h ?_ ?_ (by kernel_rfl) (by kernel_rfl)
          · have := at_lt hx3; omega
          · show xss.length - (i + 1) < xss.length - i
            have := at_lt hx3; omega
        · have hc4 := hc; clear hc
          have hc4' := of_decide_eq_false hc4
          refine wp_exit ?_
          refine then_x ?_
          refine then_x ?_
          refine inBlock_exit ?_
          refine then_n ?_
          refine rSeq tm_ok 6 [] [(2, .t (.c (.own 0 ((xss.take i).flatten).length)))] [(0, .row 47 3 (((xss.take i).flatten).map Part.d))] (by kernel_rfl) h ?_; clear h; intro a w h
          refine wp_ret ?_
          replace h := pubS 0 3 47 (((xss.take i).flatten).map Part.d) [(2, .t (.c (.d (.sl 3 (((xss.take i).flatten).map Part.d)))))] [] h rfl (show AllEq _ [((xss.take i).flatten).length] from ⟨by first | exact (List.length_map _).symm | simp, trivial⟩) trivial (by kernel_rfl) (by kernel_rfl)
          refine retS [.c (.d (.sl 3 (((xss.take i).flatten).map Part.d)))] h Exit.ret (.inl rfl)  rfl ⟨RV.tmp _ _ rfl, trivial⟩ ?_ (by kernel_rfl) (by kernel_rfl)
          have hi : i = xss.length := by omega
          subst hi
          rw [List.take_length]; first | done | rfl
set_option maxRecDepth 100000 in
theorem STAdd (s t : Term) (hs : TOk 400 15000 s) (ht : TOk 400 15000 t) : Fn Try.prog 10 [] [.t (.agg ([.d (.sl 3 (s.parts.map Part.d))] ++ zi s.k)), .t (.agg ([.d (.sl 3 (t.parts.map Part.d))] ++ zi t.k))] (vd (addT s t).d) [] := by
  have ks := hs.kl
  have kt := ht.kl
  have ls := hs.len
  have lt := ht.len
  refine Fn.body Try.func10 rfl 18 rfl fun w H B a h => ?_
  refine rSeq tm_ok 0 [] [(2, vp 0 0), (3, vp 1 0), (4, vp 2 0)] [(0, .box ([.d (.sl 3 (s.parts.map Part.d))] ++ zi s.k)), (1, .box ([.d (.sl 3 (t.parts.map Part.d))] ++ zi t.k)), (2, .box [.d (.raw nilV), .d (.raw (.bool false)), .d (nsl [])])] (by kernel_rfl) h ?_; clear h; intro a w h
  obtain ⟨r2, er2, vr2, or2, lr2⟩ := mkZ (v := s.k.val + t.k.val) (m := s.k.abs.length + t.k.abs.length + 1) (len_add hs.kb ht.kb)
  refine rSeq tm_ok 3 [(4, .gen _ _ _ fun _ _ _ _ => Op.buildD (d := 9) (len := 2) (rows := [s.parts, t.parts].map (slD 3 Part.d)) (rs := [(6, .t (.c (.d (.sl 3 (s.parts.map Part.d))))), (8, .t (.c (.d (.sl 3 (t.parts.map Part.d)))))]) tm_4 (.cons (i := 0) (OV.tmp 6 _) (.cons (i := 1) (OV.tmp 8 _) (.nil))) (by kernel_rfl) rfl (by simp [slD]) (by decide) (by decide)), (5, .call (Fn.cast (SConcat [s.parts, t.parts] (by simp only [List.map_cons, List.map_nil, List.sum_cons, List.sum_nil]; omega) (by simp)) (show _ = (.t (.c (.d (.sl 3 ((s.parts ++ t.parts).map Part.d)))) : V) by simp)) tm_5), (10, .call (Fn.cast (SAdd s.k t.k hs.kb ht.kb (by omega) (by omega)) (congrArg vz er2.symm)) tm_6), (12, .call (SPlain (Term.mk (s.parts ++ t.parts) r2) (TOk.add hs ht r2 or2 (by have := hs.kl; have := ht.kl; omega)) (by decide) (by decide)) tm_7)] [(4, vp 2 0)] [(2, .box ([.d (.sl 3 ((plainT (Term.mk (s.parts ++ t.parts) r2)).parts.map Part.d))] ++ zi (plainT (Term.mk (s.parts ++ t.parts) r2)).k))] (by kernel_rfl) h ?_; clear h; intro a w h
  refine wp_ret ?_
  refine retS [.agg ([.d (.sl 3 ((plainT (Term.mk (s.parts ++ t.parts) r2)).parts.map Part.d))] ++ zi (plainT (Term.mk (s.parts ++ t.parts) r2)).k)] h Exit.ret (.inl rfl)  rfl ⟨RV.agg _ 2 0 _ _ _ _ tm_8 rfl rfl rfl rfl, trivial⟩ ?_ (by kernel_rfl) (by kernel_rfl)
  rw [er2]; first | done | rfl
set_option maxRecDepth 100000 in
theorem SNumber (k : ZI) (hk : Lb k.abs) (lk : k.abs.length ≤ 40000) : Fn Try.prog 18 [] [vz k] (vd (numT k).d) [] := by
  refine Fn.body Try.func18 rfl 6 rfl fun w H B a h => ?_
  refine rSeq tm_ok 0 [] [(1, vp 0 0), (2, vp 1 0)] [(0, .box (zi k)), (1, .box [.d (.raw nilV), .d (.raw (.bool false)), .d (nsl [])])] (by kernel_rfl) h ?_; clear h; intro a w h
  obtain ⟨r1, er1, vr1, or1, lr1⟩ := mkZ (v := k.val) (m := k.abs.length) (len_id hk)
  refine rSeq tm_ok 2 [(1, .call (Fn.cast (Scopied k hk (by omega)) (congrArg vz er1.symm)) tm_9)] [(2, vp 1 0)] [(1, .box ([.d (.raw nilV)] ++ zi r1))] (by kernel_rfl) h ?_; clear h; intro a w h
  refine wp_ret ?_
  replace h := nilDLs 1 0 3 ([.d (.raw nilV)] ++ zi r1) [(2, vp 1 0)] [(1, .box ([.d (.sl 3 ([].map Part.d))] ++ zi r1))] h rfl rfl (by kernel_rfl) (by kernel_rfl)
  refine retS [.agg ([.d (.sl 3 ([].map Part.d))] ++ zi r1)] h Exit.ret (.inl rfl)  rfl ⟨RV.agg _ 1 0 _ _ _ _ tm_8 rfl rfl rfl rfl, trivial⟩ ?_ (by kernel_rfl) (by kernel_rfl)
  rw [er1]; first | done | rfl
set_option maxRecDepth 100000 in
theorem SVar (v : Int)  : Fn Try.prog 26 [] [vi .i64 v] (vd (varT v).d) [] := by
  refine Fn.body Try.func26 rfl 9 rfl fun w H B a h => ?_
  refine rSeq tm_ok 0 [] [(0, vi .i64 v), (2, vp 0 0)] [(0, .box [.d (.raw nilV), .d (.raw (.bool false)), .d (nsl [])])] (by kernel_rfl) h ?_; clear h; intro a w h
  obtain ⟨r1, er1, vr1, or1, lr1⟩ := mkZ (v := 1) (m := 2) (ZI.len_of (by have := pw2; omega))
  refine rSeq tm_ok 1 [(1, .call (Fn.cast (SOf 1 ⟨by omega, by omega⟩) (congrArg vz er1.symm)) tm_10), (3, .gen _ _ _ fun _ _ _ _ => Op.buildD (d := 6) (len := 1) (rows := [(Part.mk v r1)].map Part.d) (rs := [(5, .t (.agg ([.d (.raw (.int .i64 v))] ++ zi r1)))]) tm_11 (.cons (i := 0) (OV.tmp 5 _) (.nil)) (by kernel_rfl) rfl (by simp [Part.d]) (by decide) (by decide)), (5, .call ((show Fn _ _ _ [vd (Term.mk [Part.mk v r1] ⟨false, []⟩).d] _ _ from by rw [er1]; exact SPlain (oneT v) TOk.one (by decide) (by decide))) tm_7)] [(2, vp 0 0)] [(0, .box ([.d (.sl 3 ((varT v).parts.map Part.d))] ++ zi (varT v).k))] (by kernel_rfl) h ?_; clear h; intro a w h
  refine wp_ret ?_
  refine retS [.agg ([.d (.sl 3 ((varT v).parts.map Part.d))] ++ zi (varT v).k)] h Exit.ret (.inl rfl)  rfl ⟨RV.agg _ 0 0 _ _ _ _ tm_8 rfl rfl rfl rfl, trivial⟩ ?_ (by kernel_rfl) (by kernel_rfl)
  rfl
set_option maxRecDepth 100000 in
theorem SScale (t : Term) (q : ZI) {n L M : Nat} (ht : TOk n L t) (hn : n ≤ 1000) (hq : Lb q.abs) (lq : q.abs.length ≤ M) (hL : L + M ≤ 40000) : Fn Try.prog 14 [] [.t (.agg ([.d (.sl 3 (t.parts.map Part.d))] ++ zi t.k)), vz q] (vd (scaleT t q).d) [] := by
  have kt := ht.kl
  have nt := ht.len
  refine Fn.body Try.func14 rfl 35 rfl fun w H B a h => ?_
  refine rSeq tm_ok 0 [] [(2, vp 0 0), (3, vp 1 0), (4, vp 2 0)] [(0, .box ([.d (.sl 3 (t.parts.map Part.d))] ++ zi t.k)), (1, .box (zi q)), (2, .box [.d (.raw nilV), .d (.raw (.bool false)), .d (nsl [])])] (by kernel_rfl) h ?_; clear h; intro a w h
  obtain ⟨r1, er1, vr1, or1, lr1⟩ := mkZ (v := t.k.val * q.val) (m := t.k.abs.length + q.abs.length) (len_mul ht.kb hq)
  refine rSeq tm_ok 3 [(3, .call (Fn.cast (SMul t.k q ht.kb hq (by omega) (by omega)) (congrArg vz er1.symm)) tm_12)] [(2, vp 0 0), (3, vp 1 0), (4, vp 2 0), (5, vp 3 0)] [(0, .box ([.d (.sl 3 (t.parts.map Part.d))] ++ zi t.k)), (1, .box (zi q)), (2, .box [.d (.raw nilV), .d (.raw (.bool false)), .d (nsl [])]), (3, .box ([.d (.raw nilV)] ++ zi r1))] (by kernel_rfl) h ?_; clear h; intro a w h
  refine wp_seq ?_
  replace h := nilOLs 3 0 4 3 47 ([.d (.raw nilV)] ++ zi r1) [(2, vp 0 0), (3, vp 1 0), (4, vp 2 0), (5, vp 3 0)] [(0, .box ([.d (.sl 3 (t.parts.map Part.d))] ++ zi t.k)), (1, .box (zi q)), (2, .box [.d (.raw nilV), .d (.raw (.bool false)), .d (nsl [])]), (3, .box ([.own 4 0] ++ zi r1)), (4, .row 47 3 ([].map Part.d))] h (by kernel_rfl) rfl rfl (by kernel_rfl) (by kernel_rfl)
  refine rSeq tm_ok 5 [(2, .len (c := (.d (.sl 3 (t.parts.map Part.d)))) (n := t.parts.length) (lenC_map _ _ _))] [(3, vp 1 0), (4, vp 2 0), (5, vp 3 0), (14, .t (.c (.d (.sl 3 (t.parts.map Part.d))))), (15, vi .i64 (t.parts.length : Int)), (16, vi .i64 0)] [(1, .box (zi q)), (2, .box [.d (.raw nilV), .d (.raw (.bool false)), .d (nsl [])]), (3, .box ([.own 4 0] ++ zi r1)), (4, .row 47 3 ([].map Part.d))] (by kernel_rfl) h ?_; clear h; intro a w h
  refine wp_block ?_
  refine loopS (ι := (Nat) × (List Part)) (fun (z_ : (Nat) × (List Part)) => match z_ with | (j, out) => out = (t.parts.take j).map (fun p => Part.mk p.v (ZI.of (p.c.val * q.val))) ∧ j ≤ t.parts.length ∧ out.length ≤ j)
      (fun (z_ : (Nat) × (List Part)) => match z_ with | (j, out) => [(3, vp 1 0), (4, vp 2 0), (5, vp 3 0), (14, .t (.c (.d (.sl 3 (t.parts.map Part.d))))), (15, vi .i64 (t.parts.length : Int)), (16, vi .i64 (j : Int))])
      (fun (z_ : (Nat) × (List Part)) => match z_ with | (j, out) => [(1, .box (zi q)), (2, .box [.d (.raw nilV), .d (.raw (.bool false)), .d (nsl [])]), (3, .box ([.own 4 out.length] ++ zi r1)), (4, .row 47 3 (out.map Part.d))])
      (fun (z_ : (Nat) × (List Part)) => match z_ with | (j, out) => t.parts.length - j) (0, []) ?_ h (by kernel_rfl) (by kernel_rfl) ?_
  · exact ⟨by simp, Nat.zero_le _, Nat.zero_le _⟩
  · clear h; rintro ⟨j, out⟩ a w hI h
    change St _ (F.of [(3, vp 1 0), (4, vp 2 0), (5, vp 3 0), (14, .t (.c (.d (.sl 3 (t.parts.map Part.d))))), (15, vi .i64 (t.parts.length : Int)), (16, vi .i64 (j : Int))] [(1, .box (zi q)), (2, .box [.d (.raw nilV), .d (.raw (.bool false)), .d (nsl [])]), (3, .box ([.own 4 out.length] ++ zi r1)), (4, .row 47 3 (out.map Part.d))]) a w at h
    obtain ⟨hI1, hI2, hI3⟩ := hI
    refine rSeq tm_ok 5 [] [(3, vp 1 0), (4, vp 2 0), (5, vp 3 0), (14, .t (.c (.d (.sl 3 (t.parts.map Part.d))))), (15, vi .i64 (t.parts.length : Int)), (16, vi .i64 (j : Int)), (17, vb (decide ((j : Int) < (t.parts.length : Int))))] [(1, .box (zi q)), (2, .box [.d (.raw nilV), .d (.raw (.bool false)), .d (nsl [])]), (3, .box ([.own 4 out.length] ++ zi r1)), (4, .row 47 3 (out.map Part.d))] (by kernel_rfl) h ?_; clear h; intro a w h
    refine wp_seq ?_
    refine condS (decide ((j : Int) < (t.parts.length : Int))) h rfl (fun hc => ?_) (fun hc => ?_)
    · have hc1 := hc; clear hc
      have hc1' := of_decide_eq_true hc1
      refine wp_skip ?_
      refine then_n ?_
      refine wp_seq ?_
      refine wp_block ?_
      obtain ⟨x2, hx2⟩ : ∃ z_ : Part, t.parts[j]? = some z_ := ⟨_, List.getElem?_eq_getElem (by first | omega | (simp at *; omega))⟩
      obtain ⟨ox2, lx2⟩ := ht.get hx2
      refine rSeq tm_ok 5 [(0, .gen _ _ _ fun _ _ _ _ => Op.idxD (d := 18) (t := 14) (k := .i64) tm_0 (map_at hx2 (f := Part.d)) (OV.tmp 16 _))] [(3, vp 1 0), (4, vp 2 0), (5, vp 3 0), (7, vp 5 0), (14, .t (.c (.d (.sl 3 (t.parts.map Part.d))))), (15, vi .i64 (t.parts.length : Int)), (16, vi .i64 (j : Int))] [(1, .box (zi q)), (2, .box [.d (.raw nilV), .d (.raw (.bool false)), .d (nsl [])]), (3, .box ([.own 4 out.length] ++ zi r1)), (4, .row 47 3 (out.map Part.d)), (5, .box ([.d (.raw (.int .i64 x2.v))] ++ zi x2.c))] (by kernel_rfl) h ?_; clear h; intro a w h
      obtain ⟨r3, er3, vr3, or3, lr3⟩ := mkZ (v := x2.c.val * q.val) (m := x2.c.abs.length + q.abs.length) (len_mul ox2 hq)
      refine rS tm_ok 6 [(7, .call (Fn.cast (SMul x2.c q ox2 hq (by omega) (by omega)) (congrArg vz er3.symm)) tm_12), (9, .gen _ _ _ fun _ _ _ _ => Op.buildD (d := 29) (len := 1) (rows := [(Part.mk x2.v r3)].map Part.d) (rs := [(28, .t (.agg ([.d (.raw (.int .i64 x2.v))] ++ zi r3)))]) tm_11 (.cons (i := 0) (OV.tmp 28 _) (.nil)) (by kernel_rfl) rfl (by simp [Part.d]) (by decide) (by decide)), (10, .gen _ _ _ fun _ _ _ _ => Op.appOD (d := 30) (t := 21) (u := 29) (n := 4) (n' := 6) (len := out.length) (len' := (out ++ [(Part.mk x2.v r3)]).length) (rows := out.map Part.d) (rows2 := [(Part.mk x2.v r3)].map Part.d) (rows' := (out ++ [(Part.mk x2.v r3)]).map Part.d) tm_1 (by first | exact (List.length_map _).symm | simp) (by first | (rw [List.length_append, List.length_map]; done) | simp) (by simp) (by simp [Part.d]) (by first | omega | (simp at *; done) | (simp at *; omega)))] [(3, vp 1 0), (4, vp 2 0), (5, vp 3 0), (14, .t (.c (.d (.sl 3 (t.parts.map Part.d))))), (15, vi .i64 (t.parts.length : Int)), (16, vi .i64 (j : Int))] [(1, .box (zi q)), (2, .box [.d (.raw nilV), .d (.raw (.bool false)), .d (nsl [])]), (3, .box ([.own 6 (out ++ [(Part.mk x2.v r3)]).length] ++ zi r1)), (6, .row 47 3 ((out ++ [(Part.mk x2.v r3)]).map Part.d))] (by kernel_rfl) h ?_; clear h; intro a w h
      refine block_n ?_
      refine then_n ?_
      refine rS tm_ok 7 [(0, .add .i64 (m := (j : Int)) (n := 1) (i64_id (by omega) (by omega)))] [(3, vp 1 0), (4, vp 2 0), (5, vp 3 0), (14, .t (.c (.d (.sl 3 (t.parts.map Part.d))))), (15, vi .i64 (t.parts.length : Int)), (16, vi .i64 ((j : Int) + 1))] [(1, .box (zi q)), (2, .box [.d (.raw nilV), .d (.raw (.bool false)), .d (nsl [])]), (3, .box ([.own 6 (out ++ [(Part.mk x2.v r3)]).length] ++ zi r1)), (6, .row 47 3 ((out ++ [(Part.mk x2.v r3)]).map Part.d))] (by kernel_rfl) h ?_; clear h; intro a w h
      refine then_n ?_
      replace h := renS 6 4 [(3, vp 1 0), (4, vp 2 0), (5, vp 3 0), (14, .t (.c (.d (.sl 3 (t.parts.map Part.d))))), (15, vi .i64 (t.parts.length : Int)), (16, vi .i64 ((j : Int) + 1))] [(1, .box (zi q)), (2, .box [.d (.raw nilV), .d (.raw (.bool false)), .d (nsl [])]), (3, .box ([.own 4 (out ++ [(Part.mk x2.v r3)]).length] ++ zi r1)), (4, .row 47 3 ((out ++ [(Part.mk x2.v r3)]).map Part.d))] h (by kernel_rfl) (by kernel_rfl) (by kernel_rfl)
      refine roundS (x := (j, out)) (y := (j + 1, (out ++ [(Part.mk x2.v r3)]))) h ?_ ?_ (by kernel_rfl) (by kernel_rfl)
      · refine ⟨?_, by have := at_lt hx2; omega, by simp; omega⟩
        rw [take_map hx2, ← hI1, er3]
      · simp; omega
    · have hc2 := hc; clear hc
      have hc2' := of_decide_eq_false hc2
      refine wp_exit ?_
      refine then_x ?_
      refine then_x ?_
      refine inBlock_exit ?_
      refine then_n ?_
      have hj : j = t.parts.length := by have := hc2'; omega
      rw [hj, List.take_length] at hI1
      have hq2 : Term.mk out r1 = mulT t q := by rw [hI1, er1]; first | done | rfl
      replace h := pubS 4 3 47 (out.map Part.d) [(3, vp 1 0), (4, vp 2 0), (5, vp 3 0), (14, .t (.c (.d (.sl 3 (t.parts.map Part.d))))), (15, vi .i64 (t.parts.length : Int)), (16, vi .i64 (j : Int)), (17, vb (decide ((j : Int) < (t.parts.length : Int))))] [(1, .box (zi q)), (2, .box [.d (.raw nilV), .d (.raw (.bool false)), .d (nsl [])]), (3, .box ([.d (.sl 3 (out.map Part.d))] ++ zi r1))] h rfl trivial (show AllEq _ [out.length] from ⟨by first | exact (List.length_map _).symm | simp, trivial⟩) (by kernel_rfl) (by kernel_rfl)
      refine rSeq tm_ok 7 [(1, .call ((show Fn _ _ _ [vd (Term.mk out r1).d] _ _ from by rw [hq2]; exact SPlain (mulT t q) (TOk.mul ht hq lq) (by omega) (by omega))) tm_7)] [(4, vp 2 0)] [(2, .box ([.d (.sl 3 ((scaleT t q).parts.map Part.d))] ++ zi (scaleT t q).k))] (by kernel_rfl) h ?_; clear h; intro a w h
      refine wp_ret ?_
      refine retS [.agg ([.d (.sl 3 ((scaleT t q).parts.map Part.d))] ++ zi (scaleT t q).k)] h Exit.ret (.inl rfl)  rfl ⟨RV.agg _ 2 0 _ _ _ _ tm_8 rfl rfl rfl rfl, trivial⟩ ?_ (by kernel_rfl) (by kernel_rfl)
      rfl
set_option maxRecDepth 100000 in
theorem SNeg3 (t : Term) (ht : TOk 400 10000 t) : Fn Try.prog 16 [] [.t (.agg ([.d (.sl 3 (t.parts.map Part.d))] ++ zi t.k))] (vd (negT t).d) [] := by
  refine Fn.body Try.func16 rfl 6 rfl fun w H B a h => ?_
  refine rSeq tm_ok 0 [] [(1, vp 0 0), (2, vp 1 0)] [(0, .box ([.d (.sl 3 (t.parts.map Part.d))] ++ zi t.k)), (1, .box [.d (.raw nilV), .d (.raw (.bool false)), .d (nsl [])])] (by kernel_rfl) h ?_; clear h; intro a w h
  obtain ⟨r1, er1, vr1, or1, lr1⟩ := mkZ (v := (-1)) (m := 2) (ZI.len_of (by have := pw2; omega))
  refine rSeq tm_ok 2 [(1, .call (Fn.cast (SOf (-1) ⟨by omega, by omega⟩) (congrArg vz er1.symm)) tm_10), (2, .call (SScale t r1 ht (by decide) or1 lr1 (by decide)) tm_13)] [(2, vp 1 0)] [(1, .box ([.d (.sl 3 ((scaleT t r1).parts.map Part.d))] ++ zi (scaleT t r1).k))] (by kernel_rfl) h ?_; clear h; intro a w h
  refine wp_ret ?_
  refine retS [.agg ([.d (.sl 3 ((scaleT t r1).parts.map Part.d))] ++ zi (scaleT t r1).k)] h Exit.ret (.inl rfl)  rfl ⟨RV.agg _ 1 0 _ _ _ _ tm_8 rfl rfl rfl rfl, trivial⟩ ?_ (by kernel_rfl) (by kernel_rfl)
  rw [er1]; first | done | rfl
set_option maxRecDepth 100000 in
theorem STSub (s t : Term) (hs : TOk 400 10000 s) (ht : TOk 400 10000 t) : Fn Try.prog 12 [] [.t (.agg ([.d (.sl 3 (s.parts.map Part.d))] ++ zi s.k)), .t (.agg ([.d (.sl 3 (t.parts.map Part.d))] ++ zi t.k))] (vd (subT s t).d) [] := by
  refine Fn.body Try.func12 rfl 9 rfl fun w H B a h => ?_
  refine rSeq tm_ok 0 [] [(2, vp 0 0), (3, vp 1 0), (4, vp 2 0)] [(0, .box ([.d (.sl 3 (s.parts.map Part.d))] ++ zi s.k)), (1, .box ([.d (.sl 3 (t.parts.map Part.d))] ++ zi t.k)), (2, .box [.d (.raw nilV), .d (.raw (.bool false)), .d (nsl [])])] (by kernel_rfl) h ?_; clear h; intro a w h
  refine rSeq tm_ok 3 [(2, .call (SNeg3 t (ht.mono (by decide) (by decide))) tm_14), (3, .call (STAdd s (negT t) (hs.mono (by decide) (by decide)) (((TOk.mul ht (ZI.lb_of _) (show (ZI.of (-1)).abs.length ≤ 2 from by decide)).plain (by decide)).mono (by decide) (by decide))) tm_15)] [(4, vp 2 0)] [(2, .box ([.d (.sl 3 ((addT s (negT t)).parts.map Part.d))] ++ zi (addT s (negT t)).k))] (by kernel_rfl) h ?_; clear h; intro a w h
  refine wp_ret ?_
  refine retS [.agg ([.d (.sl 3 ((addT s (negT t)).parts.map Part.d))] ++ zi (addT s (negT t)).k)] h Exit.ret (.inl rfl)  rfl ⟨RV.agg _ 2 0 _ _ _ _ tm_8 rfl rfl rfl rfl, trivial⟩ ?_ (by kernel_rfl) (by kernel_rfl)
  rfl
end Go.Proofs.Ytekhnajfdaknnaa.S
