/-
  The reference of terms: variables.
-/
import Derived.Test.YtekhnajfdaknnaaTa
namespace Go.Proofs.Ytekhnajfdaknnaa.S
open Go.RowKit

theorem tb_0 : ElZ Try.prog 38 3 1 := ElZ.mk' Try.underlying38 _ _ rfl rfl (by kernel_rfl) (by kernel_rfl) (by kernel_rfl) (by decide)
theorem tb_1 : SlT Try.prog 38 3 1 := SlT.mk' Try.underlying38 (by kernel_rfl)
theorem tb_2 : ElT Try.prog 38 3 1 8 := ElT.mk' Try.underlying38 _ _ rfl rfl (by kernel_rfl) (by kernel_rfl) (by kernel_rfl) (by decide) (by decide)
theorem tb_3 : SlT Try.prog 22 47 3 := SlT.mk' Try.underlying22 (by kernel_rfl)
theorem tb_4 : Bodied Try.prog 40 := Bodied.mk' (by kernel_rfl)
theorem tb_5 : Bodied Try.prog 60 := Bodied.mk' (by kernel_rfl)
theorem tb_6 : Bodied Try.prog 61 := Bodied.mk' (by kernel_rfl)
theorem tb_7 : Bodied Try.prog 38 := Bodied.mk' (by kernel_rfl)
theorem tb_8 : Bodied Try.prog 39 := Bodied.mk' (by kernel_rfl)
theorem tb_9 : ElZ Try.prog 22 47 3 := ElZ.mk' Try.underlying22 _ _ rfl rfl (by kernel_rfl) (by kernel_rfl) (by kernel_rfl) (by decide)
theorem tb_10 : ElT Try.prog 22 47 3 40 := ElT.mk' Try.underlying22 _ _ rfl rfl (by kernel_rfl) (by kernel_rfl) (by kernel_rfl) (by decide) (by decide)
theorem tb_11 : Sz Try.prog 28 3 true := Sz.mk' (by kernel_rfl) Try.underlying28 _ rfl
def tb_tb : Tb := [(38, ⟨1, false, [], [.d (.raw nilV)], 1⟩), (3, ⟨1, false, [], [.d (.raw (.int .i64 0))], 13⟩), (22, ⟨1, false, [], [.d (.raw nilV)], 1⟩), (4, ⟨1, false, [], [.d (.raw (.bool false))], 3⟩), (24, ⟨1, false, [], [.d (nsl [])], 1⟩), (26, ⟨2, true, [(0, 1, false), (1, 1, false)], [.d (.raw (.bool false)), .d (nsl [])], 0⟩), (28, ⟨3, true, [(0, 1, false), (1, 2, true)], [.d (.raw nilV), .d (.raw (.bool false)), .d (nsl [])], 0⟩), (47, ⟨3, true, [(0, 1, false), (1, 2, true)], [.d (.raw (.int .i64 0)), .d (.raw (.bool false)), .d (nsl [])], 0⟩)]
theorem tb_ok : TbOk Try.prog tb_tb := ⟨TyOk.slc Try.underlying38 (by kernel_rfl) ⟨(.slice none 0 0 : Value), [.slice none 0 0], by kernel_rfl, rfl, (fun _ _ => ⟨DR.raw _ rfl, trivial⟩)⟩,
  TyOk.int Try.underlying3 rfl (by kernel_rfl) ⟨(.int .i64 0 : Value), [.int .i64 0], by kernel_rfl, rfl, (fun _ _ => ⟨DR.raw _ rfl, trivial⟩)⟩,
  TyOk.slc Try.underlying22 (by kernel_rfl) ⟨(.slice none 0 0 : Value), [.slice none 0 0], by kernel_rfl, rfl, (fun _ _ => ⟨DR.raw _ rfl, trivial⟩)⟩,
  TyOk.bl Try.underlying4 (by kernel_rfl) ⟨(.bool false : Value), [.bool false], by kernel_rfl, rfl, (fun _ _ => ⟨DR.raw _ rfl, trivial⟩)⟩,
  TyOk.slc Try.underlying24 (by kernel_rfl) ⟨(.slice none 0 0 : Value), [.slice none 0 0], by kernel_rfl, rfl, (fun _ _ => ⟨DR.nil _ _ _ (fun _ => rfl) (Nat.zero_le _), trivial⟩)⟩,
  TyOk.st Try.underlying26 (by kernel_rfl) ⟨⟨by decide, Fd.mk' _ _ Try.underlying26 rfl rfl (Sz.mk' (by kernel_rfl) Try.underlying4 _ rfl)⟩, ⟨by decide, Fd.mk' _ _ Try.underlying26 rfl rfl (Sz.mk' (by kernel_rfl) Try.underlying24 _ rfl)⟩, trivial⟩ ⟨(Value.agg #[.bool false, .slice none 0 0]), [.bool false, .slice none 0 0], by kernel_rfl, rfl, (fun _ _ => ⟨DR.raw _ rfl, DR.nil _ _ _ (fun _ => rfl) (Nat.zero_le _), trivial⟩)⟩ ⟨_, Try.underlying26, ⟨⟨rfl, by kernel_rfl⟩, ⟨rfl, by kernel_rfl⟩, trivial⟩⟩,
  TyOk.st Try.underlying28 (by kernel_rfl) ⟨⟨by decide, Fd.mk' _ _ Try.underlying28 rfl rfl (Sz.mk' (by kernel_rfl) Try.underlying22 _ rfl)⟩, ⟨by decide, Fd.mk' _ _ Try.underlying28 rfl rfl (Sz.mk' (by kernel_rfl) Try.underlying26 _ rfl)⟩, trivial⟩ ⟨(Value.agg #[.slice none 0 0, .bool false, .slice none 0 0]), [.slice none 0 0, .bool false, .slice none 0 0], by kernel_rfl, rfl, (fun _ _ => ⟨DR.raw _ rfl, DR.raw _ rfl, DR.nil _ _ _ (fun _ => rfl) (Nat.zero_le _), trivial⟩)⟩ ⟨_, Try.underlying28, ⟨⟨rfl, by kernel_rfl⟩, ⟨rfl, by kernel_rfl⟩, trivial⟩⟩,
  TyOk.st Try.underlying47 (by kernel_rfl) ⟨⟨by decide, Fd.mk' _ _ Try.underlying47 rfl rfl (Sz.mk' (by kernel_rfl) Try.underlying3 _ rfl)⟩, ⟨by decide, Fd.mk' _ _ Try.underlying47 rfl rfl (Sz.mk' (by kernel_rfl) Try.underlying26 _ rfl)⟩, trivial⟩ ⟨(Value.agg #[.int .i64 0, .bool false, .slice none 0 0]), [.int .i64 0, .bool false, .slice none 0 0], by kernel_rfl, rfl, (fun _ _ => ⟨DR.raw _ rfl, DR.raw _ rfl, DR.nil _ _ _ (fun _ => rfl) (Nat.zero_le _), trivial⟩)⟩ ⟨_, Try.underlying47, ⟨⟨rfl, by kernel_rfl⟩, ⟨rfl, by kernel_rfl⟩, trivial⟩⟩,
  trivial⟩
theorem foldl_take {α β : Type} {xs : List α} {j : Nat} {x : α} (h : xs[j]? = some x) (f : β → α → β) (b : β) : (xs.take (j + 1)).foldl f b = f ((xs.take j).foldl f b) x := by
  have : xs.take (j + 1) = xs.take j ++ [x] := by rw [List.take_add_one, h]; rfl
  rw [this, List.foldl_append]; rfl
theorem at_lt {α : Type} {xs : List α} {j : Nat} {x : α} (h : xs[j]? = some x) : j < xs.length := (List.getElem?_eq_some_iff.1 h).1
/-- a rising list with a number, once -/
def insStep (v : Int) (s : List Int × Bool) (x : Int) : List Int × Bool :=
  let s1 := if s.2 = false ∧ v ≤ x then (s.1 ++ [v], true) else s
  if x ≠ v then (s1.1 ++ [x], s1.2) else s1
def insZ (list : List Int) (v : Int) : List Int :=
  let r := list.foldl (insStep v) ([], false)
  if r.2 then r.1 else r.1 ++ [v]
set_option maxRecDepth 100000 in
theorem SInsert (list : List Int) (v : Int) (hl : list.length ≤ 1000000) : Fn Try.prog 61 [] [.t (.c (.d (.sl 1 (list.map intD)))), vi .i64 v] (.t (.c (.d (.sl 1 ((insZ list v).map intD))))) [] := by
  refine Fn.body Try.func61 rfl 49 rfl fun w H B a h => ?_
  refine rSeq tb_ok 0 [] [(0, .t (.c (.d (.sl 1 (list.map intD))))), (1, vi .i64 v), (4, .t (.c (.d (.raw nilV))))] [] (by kernel_rfl) h ?_; clear h; intro a w h
  refine rSeq tb_ok 0 [(0, .gen _ _ _ fun _ _ _ _ => Op.buildE (d := 8) (n := 0) tb_0)] [(0, .t (.c (.d (.sl 1 (list.map intD))))), (1, vi .i64 v), (4, .t (.c (.d (.raw nilV)))), (5, .t (.c (.own 0 0)))] [(0, .row 3 1 ([].map intD))] (by kernel_rfl) h ?_; clear h; intro a w h
  refine rSeq tb_ok 1 [] [(0, .t (.c (.d (.sl 1 (list.map intD))))), (1, vi .i64 v), (4, .t (.c (.d (.raw nilV)))), (5, .t (.c (.own 0 0))), (6, vb false)] [(0, .row 3 1 ([].map intD))] (by kernel_rfl) h ?_; clear h; intro a w h
  refine wp_seq ?_
  refine rSeq tb_ok 1 [] [(0, .t (.c (.d (.sl 1 (list.map intD))))), (1, vi .i64 v), (4, .t (.c (.d (.raw nilV)))), (5, .t (.c (.own 0 0))), (6, vb false), (7, vi .i64 0)] [(0, .row 3 1 ([].map intD))] (by kernel_rfl) h ?_; clear h; intro a w h
  refine wp_block ?_
  refine loopS (ι := (Nat) × (List Int) × (Bool)) (fun (z_ : (Nat) × (List Int) × (Bool)) => match z_ with | (j, out, done) => (out, done) = (list.take j).foldl (insStep v) ([], false) ∧ j ≤ list.length ∧ out.length ≤ 2 * j)
      (fun (z_ : (Nat) × (List Int) × (Bool)) => match z_ with | (j, out, done) => [(0, .t (.c (.d (.sl 1 (list.map intD))))), (1, vi .i64 v), (4, .t (.c (.d (.raw nilV)))), (5, .t (.c (.own 0 out.length))), (6, vb done), (7, vi .i64 (j : Int))])
      (fun (z_ : (Nat) × (List Int) × (Bool)) => match z_ with | (j, out, done) => [(0, .row 3 1 (out.map intD))])
      (fun (z_ : (Nat) × (List Int) × (Bool)) => match z_ with | (j, out, done) => list.length - j) (0, [], false) ?_ h (by kernel_rfl) (by kernel_rfl) ?_
  · exact ⟨by simp, Nat.zero_le _, Nat.zero_le _⟩
  · clear h; rintro ⟨j, out, done⟩ a w hI h
    change St _ (F.of [(0, .t (.c (.d (.sl 1 (list.map intD))))), (1, vi .i64 v), (4, .t (.c (.d (.raw nilV)))), (5, .t (.c (.own 0 out.length))), (6, vb done), (7, vi .i64 (j : Int))] [(0, .row 3 1 (out.map intD))]) a w at h
    obtain ⟨hI1, hI2, hI3⟩ := hI
    refine wp_seq ?_
    refine rSeq tb_ok 1 [(2, .len (c := (.d (.sl 1 (list.map intD)))) (n := list.length) (lenC_map _ _ _))] [(0, .t (.c (.d (.sl 1 (list.map intD))))), (1, vi .i64 v), (4, .t (.c (.d (.raw nilV)))), (5, .t (.c (.own 0 out.length))), (6, vb done), (7, vi .i64 (j : Int)), (12, vb (decide ((j : Int) < (list.length : Int))))] [(0, .row 3 1 (out.map intD))] (by kernel_rfl) h ?_; clear h; intro a w h
    refine condS (decide ((j : Int) < (list.length : Int))) h rfl (fun hc => ?_) (fun hc => ?_)
    · have hc1 := hc; clear hc
      have hc1' := of_decide_eq_true hc1
      refine wp_skip ?_
      refine then_n ?_
      refine wp_seq ?_
      refine wp_block ?_
      refine wp_seq ?_
      rcases Bool.eq_false_or_eq_true done with hc | hc
      · have hc2 := hc; clear hc
        rw [hc2] at h
        refine rSeq tb_ok 1 [] [(0, .t (.c (.d (.sl 1 (list.map intD))))), (1, vi .i64 v), (4, .t (.c (.d (.raw nilV)))), (5, .t (.c (.own 0 out.length))), (6, vb true), (7, vi .i64 (j : Int)), (24, vb false)] [(0, .row 3 1 (out.map intD))] (by kernel_rfl) h ?_; clear h; intro a w h
        refine condS false h rfl (fun hc => ?_) (fun hc => ?_)
        · cases hc
        · clear hc
          refine wp_skip ?_
          refine then_n ?_
          obtain ⟨x1, hx1⟩ : ∃ z_ : Int, list[j]? = some z_ := ⟨_, List.getElem?_eq_getElem (by first | omega | (simp at *; omega))⟩
          refine rSeq tb_ok 1 [(2, .gen _ _ _ fun _ _ _ _ => Op.idxD (d := 31) (t := 29) (k := .i64) tb_1 (map_at hx1 (f := intD)) (OV.tmp 30 _))] [(0, .t (.c (.d (.sl 1 (list.map intD))))), (1, vi .i64 v), (4, .t (.c (.d (.raw nilV)))), (5, .t (.c (.own 0 out.length))), (6, vb true), (7, vi .i64 (j : Int)), (34, vb (x1 != v))] [(0, .row 3 1 (out.map intD))] (by kernel_rfl) h ?_; clear h; intro a w h
          refine condS (x1 != v) h rfl (fun hc => ?_) (fun hc => ?_)
          · have hc3 := hc; clear hc
            have hc3' := hc3; (try simp at hc3')
            refine rS tb_ok 1 [(3, .gen _ _ _ fun _ _ _ _ => Op.idxD (d := 38) (t := 36) (k := .i64) tb_1 (map_at hx1 (f := intD)) (OV.tmp 37 _)), (5, .gen _ _ _ fun _ _ _ _ => Op.buildD (d := 40) (len := 1) (rows := [x1].map intD) (rs := [(39, vi .i64 x1)]) tb_0 (.cons (i := 0) (OV.tmp 39 _) (.nil)) (by kernel_rfl) rfl (by simp [intD]) (by decide) (by decide)), (6, .gen _ _ _ fun _ _ _ _ => Op.appOD (d := 41) (t := 35) (u := 40) (n := 0) (n' := 1) (len := out.length) (len' := (out ++ [x1]).length) (rows := out.map intD) (rows2 := [x1].map intD) (rows' := (out ++ [x1]).map intD) tb_2 (by simp) (by simp) (by simp) (by simp [intD]) (by first | omega | (simp at *; omega)))] [(0, .t (.c (.d (.sl 1 (list.map intD))))), (1, vi .i64 v), (4, .t (.c (.d (.raw nilV)))), (5, .t (.c (.own 1 ((out ++ [x1]).length)))), (6, vb true), (7, vi .i64 (j : Int))] [(1, .row 3 1 ((out ++ [x1]).map intD))] (by kernel_rfl) h ?_; clear h; intro a w h
            refine block_n ?_
            refine then_n ?_
            refine rS tb_ok 2 [(1, .add .i64 (m := (j : Int)) (n := 1) (i64_id (by omega) (by omega)))] [(0, .t (.c (.d (.sl 1 (list.map intD))))), (1, vi .i64 v), (4, .t (.c (.d (.raw nilV)))), (5, .t (.c (.own 1 ((out ++ [x1]).length)))), (6, vb true), (7, vi .i64 ((j : Int) + 1))] [(1, .row 3 1 ((out ++ [x1]).map intD))] (by kernel_rfl) h ?_; clear h; intro a w h
            refine then_n ?_
            replace h := renS 1 0 [(0, .t (.c (.d (.sl 1 (list.map intD))))), (1, vi .i64 v), (4, .t (.c (.d (.raw nilV)))), (5, .t (.c (.own 0 ((out ++ [x1]).length)))), (6, vb true), (7, vi .i64 ((j : Int) + 1))] [(0, .row 3 1 ((out ++ [x1]).map intD))] h (by kernel_rfl) (by kernel_rfl) (by kernel_rfl)
            refine roundS (x := (j, out, done)) (y := (j + 1, (out ++ [x1]), true)) h ?_ ?_ (by kernel_rfl) (by kernel_rfl)
            · refine ⟨?_, by have := at_lt hx1; omega, by first | omega | (simp; omega)⟩
              rw [foldl_take hx1, ← hI1]
              clear h hI1
              simp [insStep, *]
              try omega
            · simp; omega
          · have hc4 := hc; clear hc
            have hc4' := hc4; (try simp at hc4')
            refine wp_skip ?_
            refine block_n ?_
            refine then_n ?_
            refine rS tb_ok 2 [(1, .add .i64 (m := (j : Int)) (n := 1) (i64_id (by omega) (by omega)))] [(0, .t (.c (.d (.sl 1 (list.map intD))))), (1, vi .i64 v), (4, .t (.c (.d (.raw nilV)))), (5, .t (.c (.own 0 out.length))), (6, vb true), (7, vi .i64 ((j : Int) + 1))] [(0, .row 3 1 (out.map intD))] (by kernel_rfl) h ?_; clear h; intro a w h
            refine then_n ?_
            refine roundS (x := (j, out, done)) (y := (j + 1, out, true)) h ?_ ?_ (by kernel_rfl) (by kernel_rfl)
            · refine ⟨?_, by have := at_lt hx1; omega, by first | omega | (simp; omega)⟩
              rw [foldl_take hx1, ← hI1]
              clear h hI1
              simp [insStep, *]
              try omega
            · simp; omega
      · have hc5 := hc; clear hc
        rw [hc5] at h
        obtain ⟨x2, hx2⟩ : ∃ z_ : Int, list[j]? = some z_ := ⟨_, List.getElem?_eq_getElem (by first | omega | (simp at *; omega))⟩
        refine rSeq tb_ok 2 [(5, .gen _ _ _ fun _ _ _ _ => Op.idxD (d := 20) (t := 18) (k := .i64) tb_1 (map_at hx2 (f := intD)) (OV.tmp 19 _))] [(0, .t (.c (.d (.sl 1 (list.map intD))))), (1, vi .i64 v), (4, .t (.c (.d (.raw nilV)))), (5, .t (.c (.own 0 out.length))), (6, vb false), (7, vi .i64 (j : Int)), (24, vb (decide (x2 ≥ v)))] [(0, .row 3 1 (out.map intD))] (by kernel_rfl) h ?_; clear h; intro a w h
        refine condS (decide (x2 ≥ v)) h rfl (fun hc => ?_) (fun hc => ?_)
        · have hc6 := hc; clear hc
          have hc6' := of_decide_eq_true hc6
          refine rSeq tb_ok 2 [(2, .gen _ _ _ fun _ _ _ _ => Op.buildD (d := 27) (len := 1) (rows := [v].map intD) (rs := [(26, vi .i64 v)]) tb_0 (.cons (i := 0) (OV.tmp 26 _) (.nil)) (by kernel_rfl) rfl (by simp [intD]) (by decide) (by decide)), (3, .gen _ _ _ fun _ _ _ _ => Op.appOD (d := 28) (t := 25) (u := 27) (n := 0) (n' := 2) (len := out.length) (len' := (out ++ [v]).length) (rows := out.map intD) (rows2 := [v].map intD) (rows' := (out ++ [v]).map intD) tb_2 (by simp) (by simp) (by simp) (by simp [intD]) (by first | omega | (simp at *; omega)))] [(0, .t (.c (.d (.sl 1 (list.map intD))))), (1, vi .i64 v), (4, .t (.c (.d (.raw nilV)))), (5, .t (.c (.own 2 ((out ++ [v]).length)))), (6, vb false), (7, vi .i64 (j : Int))] [(2, .row 3 1 ((out ++ [v]).map intD))] (by kernel_rfl) h ?_; clear h; intro a w h
          refine rS tb_ok 3 [] [(0, .t (.c (.d (.sl 1 (list.map intD))))), (1, vi .i64 v), (4, .t (.c (.d (.raw nilV)))), (5, .t (.c (.own 2 ((out ++ [v]).length)))), (6, vb true), (7, vi .i64 (j : Int))] [(2, .row 3 1 ((out ++ [v]).map intD))] (by kernel_rfl) h ?_; clear h; intro a w h
          refine then_n ?_
          refine rSeq tb_ok 3 [(2, .gen _ _ _ fun _ _ _ _ => Op.idxD (d := 31) (t := 29) (k := .i64) tb_1 (map_at hx2 (f := intD)) (OV.tmp 30 _))] [(0, .t (.c (.d (.sl 1 (list.map intD))))), (1, vi .i64 v), (4, .t (.c (.d (.raw nilV)))), (5, .t (.c (.own 2 ((out ++ [v]).length)))), (6, vb true), (7, vi .i64 (j : Int)), (34, vb (x2 != v))] [(2, .row 3 1 ((out ++ [v]).map intD))] (by kernel_rfl) h ?_; clear h; intro a w h
          refine condS (x2 != v) h rfl (fun hc => ?_) (fun hc => ?_)
          · have hc7 := hc; clear hc
            have hc7' := hc7; (try simp at hc7')
            refine rS tb_ok 3 [(3, .gen _ _ _ fun _ _ _ _ => Op.idxD (d := 38) (t := 36) (k := .i64) tb_1 (map_at hx2 (f := intD)) (OV.tmp 37 _)), (5, .gen _ _ _ fun _ _ _ _ => Op.buildD (d := 40) (len := 1) (rows := [x2].map intD) (rs := [(39, vi .i64 x2)]) tb_0 (.cons (i := 0) (OV.tmp 39 _) (.nil)) (by kernel_rfl) rfl (by simp [intD]) (by decide) (by decide)), (6, .gen _ _ _ fun _ _ _ _ => Op.appOD (d := 41) (t := 35) (u := 40) (n := 2) (n' := 3) (len := (out ++ [v]).length) (len' := ((out ++ [v]) ++ [x2]).length) (rows := (out ++ [v]).map intD) (rows2 := [x2].map intD) (rows' := ((out ++ [v]) ++ [x2]).map intD) tb_2 (by simp) (by simp) (by simp) (by simp [intD]) (by first | omega | (simp at *; omega)))] [(0, .t (.c (.d (.sl 1 (list.map intD))))), (1, vi .i64 v), (4, .t (.c (.d (.raw nilV)))), (5, .t (.c (.own 3 (((out ++ [v]) ++ [x2]).length)))), (6, vb true), (7, vi .i64 (j : Int))] [(3, .row 3 1 (((out ++ [v]) ++ [x2]).map intD))] (by kernel_rfl) h ?_; clear h; intro a w h
            refine block_n ?_
            refine then_n ?_
            refine rS tb_ok 4 [(1, .add .i64 (m := (j : Int)) (n := 1) (i64_id (by omega) (by omega)))] [(0, .t (.c (.d (.sl 1 (list.map intD))))), (1, vi .i64 v), (4, .t (.c (.d (.raw nilV)))), (5, .t (.c (.own 3 (((out ++ [v]) ++ [x2]).length)))), (6, vb true), (7, vi .i64 ((j : Int) + 1))] [(3, .row 3 1 (((out ++ [v]) ++ [x2]).map intD))] (by kernel_rfl) h ?_; clear h; intro a w h
            refine then_n ?_
            replace h := renS 3 0 [(0, .t (.c (.d (.sl 1 (list.map intD))))), (1, vi .i64 v), (4, .t (.c (.d (.raw nilV)))), (5, .t (.c (.own 0 (((out ++ [v]) ++ [x2]).length)))), (6, vb true), (7, vi .i64 ((j : Int) + 1))] [(0, .row 3 1 (((out ++ [v]) ++ [x2]).map intD))] h (by kernel_rfl) (by kernel_rfl) (by kernel_rfl)
            refine roundS (x := (j, out, done)) (y := (j + 1, ((out ++ [v]) ++ [x2]), true)) h ?_ ?_ (by kernel_rfl) (by kernel_rfl)
            · refine ⟨?_, by have := at_lt hx2; omega, by first | omega | (simp; omega)⟩
              rw [foldl_take hx2, ← hI1]
              clear h hI1
              simp [insStep, *]
              try omega
            · simp; omega
          · have hc8 := hc; clear hc
            have hc8' := hc8; (try simp at hc8')
            refine wp_skip ?_
            refine block_n ?_
            refine then_n ?_
            refine rS tb_ok 4 [(1, .add .i64 (m := (j : Int)) (n := 1) (i64_id (by omega) (by omega)))] [(0, .t (.c (.d (.sl 1 (list.map intD))))), (1, vi .i64 v), (4, .t (.c (.d (.raw nilV)))), (5, .t (.c (.own 2 ((out ++ [v]).length)))), (6, vb true), (7, vi .i64 ((j : Int) + 1))] [(2, .row 3 1 ((out ++ [v]).map intD))] (by kernel_rfl) h ?_; clear h; intro a w h
            refine then_n ?_
            replace h := renS 2 0 [(0, .t (.c (.d (.sl 1 (list.map intD))))), (1, vi .i64 v), (4, .t (.c (.d (.raw nilV)))), (5, .t (.c (.own 0 ((out ++ [v]).length)))), (6, vb true), (7, vi .i64 ((j : Int) + 1))] [(0, .row 3 1 ((out ++ [v]).map intD))] h (by kernel_rfl) (by kernel_rfl) (by kernel_rfl)
            refine roundS (x := (j, out, done)) (y := (j + 1, (out ++ [v]), true)) h ?_ ?_ (by kernel_rfl) (by kernel_rfl)
            · refine ⟨?_, by have := at_lt hx2; omega, by first | omega | (simp; omega)⟩
              rw [foldl_take hx2, ← hI1]
              clear h hI1
              simp [insStep, *]
              try omega
            · simp; omega
        · have hc9 := hc; clear hc
          have hc9' := of_decide_eq_false hc9
          refine wp_skip ?_
          refine then_n ?_
          refine rSeq tb_ok 4 [(2, .gen _ _ _ fun _ _ _ _ => Op.idxD (d := 31) (t := 29) (k := .i64) tb_1 (map_at hx2 (f := intD)) (OV.tmp 30 _))] [(0, .t (.c (.d (.sl 1 (list.map intD))))), (1, vi .i64 v), (4, .t (.c (.d (.raw nilV)))), (5, .t (.c (.own 0 out.length))), (6, vb false), (7, vi .i64 (j : Int)), (34, vb (x2 != v))] [(0, .row 3 1 (out.map intD))] (by kernel_rfl) h ?_; clear h; intro a w h
          refine condS (x2 != v) h rfl (fun hc => ?_) (fun hc => ?_)
          · have hc10 := hc; clear hc
            have hc10' := hc10; (try simp at hc10')
            refine rS tb_ok 4 [(3, .gen _ _ _ fun _ _ _ _ => Op.idxD (d := 38) (t := 36) (k := .i64) tb_1 (map_at hx2 (f := intD)) (OV.tmp 37 _)), (5, .gen _ _ _ fun _ _ _ _ => Op.buildD (d := 40) (len := 1) (rows := [x2].map intD) (rs := [(39, vi .i64 x2)]) tb_0 (.cons (i := 0) (OV.tmp 39 _) (.nil)) (by kernel_rfl) rfl (by simp [intD]) (by decide) (by decide)), (6, .gen _ _ _ fun _ _ _ _ => Op.appOD (d := 41) (t := 35) (u := 40) (n := 0) (n' := 4) (len := out.length) (len' := (out ++ [x2]).length) (rows := out.map intD) (rows2 := [x2].map intD) (rows' := (out ++ [x2]).map intD) tb_2 (by simp) (by simp) (by simp) (by simp [intD]) (by first | omega | (simp at *; omega)))] [(0, .t (.c (.d (.sl 1 (list.map intD))))), (1, vi .i64 v), (4, .t (.c (.d (.raw nilV)))), (5, .t (.c (.own 4 ((out ++ [x2]).length)))), (6, vb false), (7, vi .i64 (j : Int))] [(4, .row 3 1 ((out ++ [x2]).map intD))] (by kernel_rfl) h ?_; clear h; intro a w h
            refine block_n ?_
            refine then_n ?_
            refine rS tb_ok 5 [(1, .add .i64 (m := (j : Int)) (n := 1) (i64_id (by omega) (by omega)))] [(0, .t (.c (.d (.sl 1 (list.map intD))))), (1, vi .i64 v), (4, .t (.c (.d (.raw nilV)))), (5, .t (.c (.own 4 ((out ++ [x2]).length)))), (6, vb false), (7, vi .i64 ((j : Int) + 1))] [(4, .row 3 1 ((out ++ [x2]).map intD))] (by kernel_rfl) h ?_; clear h; intro a w h
            refine then_n ?_
            replace h := renS 4 0 [(0, .t (.c (.d (.sl 1 (list.map intD))))), (1, vi .i64 v), (4, .t (.c (.d (.raw nilV)))), (5, .t (.c (.own 0 ((out ++ [x2]).length)))), (6, vb false), (7, vi .i64 ((j : Int) + 1))] [(0, .row 3 1 ((out ++ [x2]).map intD))] h (by kernel_rfl) (by kernel_rfl) (by kernel_rfl)
            refine roundS (x := (j, out, done)) (y := (j + 1, (out ++ [x2]), false)) h ?_ ?_ (by kernel_rfl) (by kernel_rfl)
            · refine ⟨?_, by have := at_lt hx2; omega, by first | omega | (simp; omega)⟩
              rw [foldl_take hx2, ← hI1]
              clear h hI1
              simp [insStep, *]
              try omega
            · simp; omega
          · have hc11 := hc; clear hc
            have hc11' := hc11; (try simp at hc11')
            refine wp_skip ?_
            refine block_n ?_
            refine then_n ?_
            refine rS tb_ok 5 [(1, .add .i64 (m := (j : Int)) (n := 1) (i64_id (by omega) (by omega)))] [(0, .t (.c (.d (.sl 1 (list.map intD))))), (1, vi .i64 v), (4, .t (.c (.d (.raw nilV)))), (5, .t (.c (.own 0 out.length))), (6, vb false), (7, vi .i64 ((j : Int) + 1))] [(0, .row 3 1 (out.map intD))] (by kernel_rfl) h ?_; clear h; intro a w h
            refine then_n ?_
            refine roundS (x := (j, out, done)) (y := (j + 1, out, false)) h ?_ ?_ (by kernel_rfl) (by kernel_rfl)
            · refine ⟨?_, by have := at_lt hx2; omega, by first | omega | (simp; omega)⟩
              rw [foldl_take hx2, ← hI1]
              clear h hI1
              simp [insStep, *]
              try omega
            · simp; omega
    · have hc12 := hc; clear hc
      have hc12' := of_decide_eq_false hc12
      refine wp_exit ?_
      refine then_x ?_
      refine then_x ?_
      refine inBlock_exit ?_
      refine then_n ?_
      refine wp_seq ?_
      refine rSeq tb_ok 5 [] [(1, vi .i64 v), (4, .t (.c (.d (.raw nilV)))), (5, .t (.c (.own 0 out.length))), (43, vb (!done))] [(0, .row 3 1 (out.map intD))] (by kernel_rfl) h ?_; clear h; intro a w h
      refine condS (!done) h rfl (fun hc => ?_) (fun hc => ?_)
      · have hc13 := hc; clear hc
        have hc13' := hc13; (try simp at hc13')
        refine rS tb_ok 5 [(2, .gen _ _ _ fun _ _ _ _ => Op.buildD (d := 46) (len := 1) (rows := [v].map intD) (rs := [(45, vi .i64 v)]) tb_0 (.cons (i := 0) (OV.tmp 45 _) (.nil)) (by kernel_rfl) rfl (by simp [intD]) (by decide) (by decide)), (3, .gen _ _ _ fun _ _ _ _ => Op.appOD (d := 47) (t := 44) (u := 46) (n := 0) (n' := 5) (len := out.length) (len' := (out ++ [v]).length) (rows := out.map intD) (rows2 := [v].map intD) (rows' := (out ++ [v]).map intD) tb_2 (by simp) (by simp) (by simp) (by simp [intD]) (by first | omega | (simp at *; omega)))] [(4, .t (.c (.d (.raw nilV)))), (5, .t (.c (.own 5 ((out ++ [v]).length))))] [(5, .row 3 1 ((out ++ [v]).map intD))] (by kernel_rfl) h ?_; clear h; intro a w h
        refine then_n ?_
        refine rSeq tb_ok 6 [] [(4, .t (.c (.own 5 ((out ++ [v]).length))))] [(5, .row 3 1 ((out ++ [v]).map intD))] (by kernel_rfl) h ?_; clear h; intro a w h
        refine wp_ret ?_
        replace h := pubS 5 1 3 ((out ++ [v]).map intD) [(4, .t (.c (.d (.sl 1 ((out ++ [v]).map intD)))))] [] h rfl (show AllEq _ [(out ++ [v]).length] from ⟨by simp, trivial⟩) trivial (by kernel_rfl) (by kernel_rfl)
        refine retS [.c (.d (.sl 1 ((out ++ [v]).map intD)))] h Exit.ret (.inl rfl)  rfl ⟨RV.tmp _ _ rfl, trivial⟩ ?_ (by kernel_rfl) (by kernel_rfl)
        have hj : j = list.length := by have := hc12'; omega
        subst hj
        rw [List.take_length] at hI1
        have hz : insZ list v = (out ++ [v]) := by unfold insZ; rw [← hI1]; clear h hI1; simp [*]
        rw [hz]; first | done | rfl
      · have hc14 := hc; clear hc
        have hc14' := hc14; (try simp at hc14')
        refine wp_skip ?_
        refine then_n ?_
        refine rSeq tb_ok 6 [] [(4, .t (.c (.own 0 out.length)))] [(0, .row 3 1 (out.map intD))] (by kernel_rfl) h ?_; clear h; intro a w h
        refine wp_ret ?_
        replace h := pubS 0 1 3 (out.map intD) [(4, .t (.c (.d (.sl 1 (out.map intD)))))] [] h rfl (show AllEq _ [out.length] from ⟨by simp, trivial⟩) trivial (by kernel_rfl) (by kernel_rfl)
        refine retS [.c (.d (.sl 1 (out.map intD)))] h Exit.ret (.inl rfl)  rfl ⟨RV.tmp _ _ rfl, trivial⟩ ?_ (by kernel_rfl) (by kernel_rfl)
        have hj : j = list.length := by have := hc12'; omega
        subst hj
        rw [List.take_length] at hI1
        have hz : insZ list v = out := by unfold insZ; rw [← hI1]; clear h hI1; simp [*]
        rw [hz]; first | done | rfl
theorem insStep_len (v : Int) (s : List Int × Bool) (x : Int) : (insStep v s x).1.length + s.2.toNat ≤ s.1.length + 1 + (insStep v s x).2.toNat := by
  obtain ⟨l, b⟩ := s
  unfold insStep
  cases b <;> by_cases h1 : v ≤ x <;> by_cases h2 : x = v <;> simp [h1, h2]
theorem insFold_len (v : Int) : ∀ (list : List Int) (s : List Int × Bool), (list.foldl (insStep v) s).1.length + s.2.toNat ≤ s.1.length + list.length + (list.foldl (insStep v) s).2.toNat
  | [], s => by simp
  | x :: xs, s => by
    have ih := insFold_len v xs (insStep v s x)
    have h1 := insStep_len v s x
    simp only [List.foldl_cons, List.length_cons]
    omega
theorem insZ_len (list : List Int) (v : Int) : (insZ list v).length ≤ list.length + 1 := by
  have h := insFold_len v list ([], false)
  unfold insZ
  cases hr : (list.foldl (insStep v) ([], false)).2 <;> simp [hr] at h ⊢ <;> omega
/-- the variables that count -/
def varStep (ps : List Part) (out : List Int) (p : Part) : List Int := if coefZ ps p.v ≠ 0 then insZ out p.v else out
def varsZ (ps : List Part) : List Int := ps.foldl (varStep ps) []
def plainT (t : Term) : Term := ⟨(varsZ t.parts).map fun v => ⟨v, ZI.of (coefZ t.parts v)⟩, ZI.of t.k.val⟩
theorem sgn_ne {z : Int} (h : (sgn z != 0) = true) : z ≠ 0 := fun e => by rw [sgn_zero e] at h; cases h
theorem sgn_eq {z : Int} (h : (sgn z != 0) = false) : z = 0 := sgn_eq_zero.1 (by simpa using h)
set_option maxRecDepth 100000 in
theorem SVars (t : Term) (ht : PsOk 40000 t.parts) : Fn Try.prog 39 [] [.t (.agg ([.d (.sl 3 (t.parts.map Part.d))] ++ zi t.k))] (.t (.c (.d (.sl 1 ((varsZ t.parts).map intD))))) [] := by
  refine Fn.body Try.func39 rfl 29 rfl fun w H B a h => ?_
  refine rSeq tb_ok 0 [] [(1, vp 0 0), (2, .t (.c (.d (.raw nilV))))] [(0, .box ([.d (.sl 3 (t.parts.map Part.d))] ++ zi t.k))] (by kernel_rfl) h ?_; clear h; intro a w h
  refine rSeq tb_ok 1 [(0, .gen _ _ _ fun _ _ _ _ => Op.buildED (d := 6) tb_0)] [(1, vp 0 0), (2, .t (.c (.d (.raw nilV)))), (3, .t (.c (.d (.sl 1 ([].map intD)))))] [(0, .box ([.d (.sl 3 (t.parts.map Part.d))] ++ zi t.k))] (by kernel_rfl) h ?_; clear h; intro a w h
  refine wp_seq ?_
  refine rSeq tb_ok 1 [] [(1, vp 0 0), (2, .t (.c (.d (.raw nilV)))), (3, .t (.c (.d (.sl 1 ([].map intD))))), (4, vi .i64 0)] [(0, .box ([.d (.sl 3 (t.parts.map Part.d))] ++ zi t.k))] (by kernel_rfl) h ?_; clear h; intro a w h
  refine wp_block ?_
  refine loopS (ι := (Nat) × (List Int)) (fun (z_ : (Nat) × (List Int)) => match z_ with | (j, out) => out = (t.parts.take j).foldl (varStep t.parts) [] ∧ j ≤ t.parts.length ∧ out.length ≤ j)
      (fun (z_ : (Nat) × (List Int)) => match z_ with | (j, out) => [(1, vp 0 0), (2, .t (.c (.d (.raw nilV)))), (3, .t (.c (.d (.sl 1 (out.map intD))))), (4, vi .i64 (j : Int))])
      (fun (z_ : (Nat) × (List Int)) => match z_ with | (j, out) => [(0, .box ([.d (.sl 3 (t.parts.map Part.d))] ++ zi t.k))])
      (fun (z_ : (Nat) × (List Int)) => match z_ with | (j, out) => t.parts.length - j) (0, []) ?_ h (by kernel_rfl) (by kernel_rfl) ?_
  · exact ⟨by simp, Nat.zero_le _, Nat.zero_le _⟩
  · clear h; rintro ⟨j, out⟩ a w hI h
    change St _ (F.of [(1, vp 0 0), (2, .t (.c (.d (.raw nilV)))), (3, .t (.c (.d (.sl 1 (out.map intD))))), (4, vi .i64 (j : Int))] [(0, .box ([.d (.sl 3 (t.parts.map Part.d))] ++ zi t.k))]) a w at h
    obtain ⟨hI1, hI2, hI3⟩ := hI
    have ln := ht.1
    refine wp_seq ?_
    refine rSeq tb_ok 1 [(3, .len (c := (.d (.sl 3 (t.parts.map Part.d)))) (n := t.parts.length) (lenC_map _ _ _))] [(1, vp 0 0), (2, .t (.c (.d (.raw nilV)))), (3, .t (.c (.d (.sl 1 (out.map intD))))), (4, vi .i64 (j : Int)), (11, vb (decide ((j : Int) < (t.parts.length : Int))))] [(0, .box ([.d (.sl 3 (t.parts.map Part.d))] ++ zi t.k))] (by kernel_rfl) h ?_; clear h; intro a w h
    refine condS (decide ((j : Int) < (t.parts.length : Int))) h rfl (fun hc => ?_) (fun hc => ?_)
    · have hc1 := hc; clear hc
      have hc1' := of_decide_eq_true hc1
      refine wp_skip ?_
      refine then_n ?_
      refine wp_seq ?_
      refine wp_block ?_
      obtain ⟨x1, hx1⟩ : ∃ z_ : Part, t.parts[j]? = some z_ := ⟨_, List.getElem?_eq_getElem (by first | omega | (simp at *; omega))⟩
      refine rSeq tb_ok 1 [(3, .gen _ _ _ fun _ _ _ _ => Op.idxD (d := 17) (t := 15) (k := .i64) tb_3 (map_at hx1 (f := Part.d)) (OV.tmp 16 _))] [(1, vp 0 0), (2, .t (.c (.d (.raw nilV)))), (3, .t (.c (.d (.sl 1 (out.map intD))))), (4, vi .i64 (j : Int)), (5, vi .i64 x1.v)] [(0, .box ([.d (.sl 3 (t.parts.map Part.d))] ++ zi t.k))] (by kernel_rfl) h ?_; clear h; intro a w h
      obtain ⟨r2, er2, vr2, or2, lr2⟩ := mkZ (v := coefZ t.parts x1.v) (m := 40001) (coef_len ht x1.v)
      refine rSeq tb_ok 1 [(2, .call (Fn.cast (SCoef t x1.v ht) (congrArg vz er2.symm)) tb_4), (3, .call (SRSign r2 or2 (by omega)) tb_5)] [(1, vp 0 0), (2, .t (.c (.d (.raw nilV)))), (3, .t (.c (.d (.sl 1 (out.map intD))))), (4, vi .i64 (j : Int)), (5, vi .i64 x1.v), (24, vb (sgn r2.val != 0))] [(0, .box ([.d (.sl 3 (t.parts.map Part.d))] ++ zi t.k))] (by kernel_rfl) h ?_; clear h; intro a w h
      refine condS (sgn r2.val != 0) h rfl (fun hc => ?_) (fun hc => ?_)
      · have hc2 := hc; clear hc
        have hc2' := hc2; (try simp at hc2')
        refine rS tb_ok 1 [(2, .call (SInsert out x1.v (by omega)) tb_6)] [(1, vp 0 0), (2, .t (.c (.d (.raw nilV)))), (3, .t (.c (.d (.sl 1 ((insZ out x1.v).map intD))))), (4, vi .i64 (j : Int))] [(0, .box ([.d (.sl 3 (t.parts.map Part.d))] ++ zi t.k))] (by kernel_rfl) h ?_; clear h; intro a w h
        refine block_n ?_
        refine then_n ?_
        refine rS tb_ok 1 [(1, .add .i64 (m := (j : Int)) (n := 1) (i64_id (by omega) (by omega)))] [(1, vp 0 0), (2, .t (.c (.d (.raw nilV)))), (3, .t (.c (.d (.sl 1 ((insZ out x1.v).map intD))))), (4, vi .i64 ((j : Int) + 1))] [(0, .box ([.d (.sl 3 (t.parts.map Part.d))] ++ zi t.k))] (by kernel_rfl) h ?_; clear h; intro a w h
        refine then_n ?_
        refine roundS (x := (j, out)) (y := (j + 1, (insZ out x1.v))) h ?_ ?_ (by kernel_rfl) (by kernel_rfl)
        · refine ⟨?_, by have := at_lt hx1; omega, by first | omega | (have := insZ_len out x1.v; omega)⟩
          rw [foldl_take hx1, ← hI1]
          unfold varStep
          have hz := sgn_ne hc2
          rw [vr2] at hz
          rw [if_pos hz]
        · simp; omega
      · have hc3 := hc; clear hc
        have hc3' := hc3; (try simp at hc3')
        refine wp_skip ?_
        refine block_n ?_
        refine then_n ?_
        refine rS tb_ok 1 [(1, .add .i64 (m := (j : Int)) (n := 1) (i64_id (by omega) (by omega)))] [(1, vp 0 0), (2, .t (.c (.d (.raw nilV)))), (3, .t (.c (.d (.sl 1 (out.map intD))))), (4, vi .i64 ((j : Int) + 1))] [(0, .box ([.d (.sl 3 (t.parts.map Part.d))] ++ zi t.k))] (by kernel_rfl) h ?_; clear h; intro a w h
        refine then_n ?_
        refine roundS (x := (j, out)) (y := (j + 1, out)) h ?_ ?_ (by kernel_rfl) (by kernel_rfl)
        · refine ⟨?_, by have := at_lt hx1; omega, by first | omega | (have := insZ_len out x1.v; omega)⟩
          rw [foldl_take hx1, ← hI1]
          unfold varStep
          have hz := sgn_eq hc3
          rw [vr2] at hz
          rw [if_neg (fun h => h hz)]
        · simp; omega
    · have hc4 := hc; clear hc
      have hc4' := of_decide_eq_false hc4
      refine wp_exit ?_
      refine then_x ?_
      refine then_x ?_
      refine inBlock_exit ?_
      refine then_n ?_
      refine rSeq tb_ok 1 [] [(2, .t (.c (.d (.sl 1 (out.map intD)))))] [] (by kernel_rfl) h ?_; clear h; intro a w h
      refine wp_ret ?_
      refine retS [.c (.d (.sl 1 (out.map intD)))] h Exit.ret (.inl rfl)  rfl ⟨RV.tmp _ _ rfl, trivial⟩ ?_ (by kernel_rfl) (by kernel_rfl)
      have hj : j = t.parts.length := by have := hc4'; omega
      subst hj
      rw [hI1, List.take_length]; first | done | rfl
theorem varsFold_len (qs : List Part) : ∀ (ps : List Part) (out : List Int), (ps.foldl (varStep qs) out).length ≤ out.length + ps.length
  | [], out => by simp
  | p :: ps, out => by
    have ih := varsFold_len qs ps (varStep qs out p)
    have h1 : (varStep qs out p).length ≤ out.length + 1 := by
      unfold varStep
      split
      · exact insZ_len out p.v
      · omega
    simp only [List.foldl_cons, List.length_cons]
    omega
theorem varsZ_len (ps : List Part) : (varsZ ps).length ≤ ps.length := by have h := varsFold_len ps ps []; simp at h; exact h
theorem take_map {α β : Type} {xs : List α} {j : Nat} {x : α} (h : xs[j]? = some x) (f : α → β) : (xs.take (j + 1)).map f = (xs.take j).map f ++ [f x] := by
  rw [List.take_add_one, h, List.map_append]; rfl
set_option maxRecDepth 100000 in
theorem SRPlain (t : Term) (ht : PsOk 40000 t.parts) (hk : Lb t.k.abs) (lk : t.k.abs.length ≤ 40000) : Fn Try.prog 9 [] [.t (.agg ([.d (.sl 3 (t.parts.map Part.d))] ++ zi t.k))] (vd (plainT t).d) [] := by
  refine Fn.body Try.func9 rfl 35 rfl fun w H B a h => ?_
  refine rSeq tb_ok 0 [] [(1, vp 0 0), (2, vp 1 0)] [(0, .box ([.d (.sl 3 (t.parts.map Part.d))] ++ zi t.k)), (1, .box [.d (.raw nilV), .d (.raw (.bool false)), .d (nsl [])])] (by kernel_rfl) h ?_; clear h; intro a w h
  obtain ⟨r1, er1, vr1, or1, lr1⟩ := mkZ (v := t.k.val) (m := t.k.abs.length) (len_id hk)
  refine rSeq tb_ok 2 [(2, .call (Fn.cast (SRClean t.k hk (by omega)) (congrArg vz er1.symm)) tb_7)] [(1, vp 0 0), (2, vp 1 0), (3, vp 2 0)] [(0, .box ([.d (.sl 3 (t.parts.map Part.d))] ++ zi t.k)), (1, .box [.d (.raw nilV), .d (.raw (.bool false)), .d (nsl [])]), (2, .box ([.d (.raw nilV)] ++ zi r1))] (by kernel_rfl) h ?_; clear h; intro a w h
  refine rSeq tb_ok 3 [(1, .call (SVars t ht) tb_8)] [(1, vp 0 0), (2, vp 1 0), (3, vp 2 0), (4, .t (.c (.d (.sl 1 ((varsZ t.parts).map intD)))))] [(0, .box ([.d (.sl 3 (t.parts.map Part.d))] ++ zi t.k)), (1, .box [.d (.raw nilV), .d (.raw (.bool false)), .d (nsl [])]), (2, .box ([.d (.raw nilV)] ++ zi r1))] (by kernel_rfl) h ?_; clear h; intro a w h
  refine wp_seq ?_
  replace h := nilOLs 2 0 3 3 47 ([.d (.raw nilV)] ++ zi r1) [(1, vp 0 0), (2, vp 1 0), (3, vp 2 0), (4, .t (.c (.d (.sl 1 ((varsZ t.parts).map intD)))))] [(0, .box ([.d (.sl 3 (t.parts.map Part.d))] ++ zi t.k)), (1, .box [.d (.raw nilV), .d (.raw (.bool false)), .d (nsl [])]), (2, .box ([.own 3 0] ++ zi r1)), (3, .row 47 3 ([].map Part.d))] h (by kernel_rfl) rfl rfl (by kernel_rfl) (by kernel_rfl)
  refine rSeq tb_ok 4 [] [(1, vp 0 0), (2, vp 1 0), (3, vp 2 0), (4, .t (.c (.d (.sl 1 ((varsZ t.parts).map intD))))), (5, vi .i64 0)] [(0, .box ([.d (.sl 3 (t.parts.map Part.d))] ++ zi t.k)), (1, .box [.d (.raw nilV), .d (.raw (.bool false)), .d (nsl [])]), (2, .box ([.own 3 0] ++ zi r1)), (3, .row 47 3 ([].map Part.d))] (by kernel_rfl) h ?_; clear h; intro a w h
  refine wp_block ?_
  refine loopS (ι := (Nat) × (List Part)) (fun (z_ : (Nat) × (List Part)) => match z_ with | (j, out) => out = ((varsZ t.parts).take j).map (fun v => Part.mk v (ZI.of (coefZ t.parts v))) ∧ j ≤ (varsZ t.parts).length ∧ out.length ≤ j)
      (fun (z_ : (Nat) × (List Part)) => match z_ with | (j, out) => [(1, vp 0 0), (2, vp 1 0), (3, vp 2 0), (4, .t (.c (.d (.sl 1 ((varsZ t.parts).map intD))))), (5, vi .i64 (j : Int))])
      (fun (z_ : (Nat) × (List Part)) => match z_ with | (j, out) => [(0, .box ([.d (.sl 3 (t.parts.map Part.d))] ++ zi t.k)), (1, .box [.d (.raw nilV), .d (.raw (.bool false)), .d (nsl [])]), (2, .box ([.own 3 out.length] ++ zi r1)), (3, .row 47 3 (out.map Part.d))])
      (fun (z_ : (Nat) × (List Part)) => match z_ with | (j, out) => (varsZ t.parts).length - j) (0, []) ?_ h (by kernel_rfl) (by kernel_rfl) ?_
  · exact ⟨by simp, Nat.zero_le _, Nat.zero_le _⟩
  · clear h; rintro ⟨j, out⟩ a w hI h
    change St _ (F.of [(1, vp 0 0), (2, vp 1 0), (3, vp 2 0), (4, .t (.c (.d (.sl 1 ((varsZ t.parts).map intD))))), (5, vi .i64 (j : Int))] [(0, .box ([.d (.sl 3 (t.parts.map Part.d))] ++ zi t.k)), (1, .box [.d (.raw nilV), .d (.raw (.bool false)), .d (nsl [])]), (2, .box ([.own 3 out.length] ++ zi r1)), (3, .row 47 3 (out.map Part.d))]) a w at h
    obtain ⟨hI1, hI2, hI3⟩ := hI
    have ln := ht.1
    have lv := varsZ_len t.parts
    refine wp_seq ?_
    refine rSeq tb_ok 4 [(2, .len (c := (.d (.sl 1 ((varsZ t.parts).map intD)))) (n := (varsZ t.parts).length) (lenC_map _ _ _))] [(1, vp 0 0), (2, vp 1 0), (3, vp 2 0), (4, .t (.c (.d (.sl 1 ((varsZ t.parts).map intD))))), (5, vi .i64 (j : Int)), (15, vb (decide ((j : Int) < ((varsZ t.parts).length : Int))))] [(0, .box ([.d (.sl 3 (t.parts.map Part.d))] ++ zi t.k)), (1, .box [.d (.raw nilV), .d (.raw (.bool false)), .d (nsl [])]), (2, .box ([.own 3 out.length] ++ zi r1)), (3, .row 47 3 (out.map Part.d))] (by kernel_rfl) h ?_; clear h; intro a w h
    refine condS (decide ((j : Int) < ((varsZ t.parts).length : Int))) h rfl (fun hc => ?_) (fun hc => ?_)
    · have hc1 := hc; clear hc
      have hc1' := of_decide_eq_true hc1
      refine wp_skip ?_
      refine then_n ?_
      refine wp_seq ?_
      refine wp_block ?_
      obtain ⟨x3, hx3⟩ : ∃ z_ : Int, (varsZ t.parts)[j]? = some z_ := ⟨_, List.getElem?_eq_getElem (by first | omega | (simp at *; omega))⟩
      obtain ⟨r4, er4, vr4, or4, lr4⟩ := mkZ (v := coefZ t.parts x3) (m := 40001) (coef_len ht x3)
      refine rS tb_ok 4 [(4, .gen _ _ _ fun _ _ _ _ => Op.idxD (d := 22) (t := 20) (k := .i64) tb_1 (map_at hx3 (f := intD)) (OV.tmp 21 _)), (9, .gen _ _ _ fun _ _ _ _ => Op.idxD (d := 27) (t := 25) (k := .i64) tb_1 (map_at hx3 (f := intD)) (OV.tmp 26 _)), (11, .call (Fn.cast (SCoef t x3 ht) (congrArg vz er4.symm)) tb_4), (13, .gen _ _ _ fun _ _ _ _ => Op.buildD (d := 31) (len := 1) (rows := [(Part.mk x3 r4)].map Part.d) (rs := [(30, .t (.agg ([.d (.raw (.int .i64 x3))] ++ zi r4)))]) tb_9 (.cons (i := 0) (OV.tmp 30 _) (.nil)) (by kernel_rfl) rfl (by simp [Part.d]) (by decide) (by decide)), (14, .gen _ _ _ fun _ _ _ _ => Op.appOD (d := 32) (t := 19) (u := 31) (n := 3) (n' := 4) (len := out.length) (len' := (out ++ [(Part.mk x3 r4)]).length) (rows := out.map Part.d) (rows2 := [(Part.mk x3 r4)].map Part.d) (rows' := (out ++ [(Part.mk x3 r4)]).map Part.d) tb_10 (by simp) (by simp) (by simp) (by simp [Part.d]) (by first | omega | (simp at *; omega)))] [(1, vp 0 0), (2, vp 1 0), (3, vp 2 0), (4, .t (.c (.d (.sl 1 ((varsZ t.parts).map intD))))), (5, vi .i64 (j : Int))] [(0, .box ([.d (.sl 3 (t.parts.map Part.d))] ++ zi t.k)), (1, .box [.d (.raw nilV), .d (.raw (.bool false)), .d (nsl [])]), (2, .box ([.own 4 ((out ++ [(Part.mk x3 r4)]).length)] ++ zi r1)), (4, .row 47 3 ((out ++ [(Part.mk x3 r4)]).map Part.d))] (by kernel_rfl) h ?_; clear h; intro a w h
      refine block_n ?_
      refine then_n ?_
      refine rS tb_ok 5 [(1, .add .i64 (m := (j : Int)) (n := 1) (i64_id (by omega) (by omega)))] [(1, vp 0 0), (2, vp 1 0), (3, vp 2 0), (4, .t (.c (.d (.sl 1 ((varsZ t.parts).map intD))))), (5, vi .i64 ((j : Int) + 1))] [(0, .box ([.d (.sl 3 (t.parts.map Part.d))] ++ zi t.k)), (1, .box [.d (.raw nilV), .d (.raw (.bool false)), .d (nsl [])]), (2, .box ([.own 4 ((out ++ [(Part.mk x3 r4)]).length)] ++ zi r1)), (4, .row 47 3 ((out ++ [(Part.mk x3 r4)]).map Part.d))] (by kernel_rfl) h ?_; clear h; intro a w h
      refine then_n ?_
      replace h := renS 4 3 [(1, vp 0 0), (2, vp 1 0), (3, vp 2 0), (4, .t (.c (.d (.sl 1 ((varsZ t.parts).map intD))))), (5, vi .i64 ((j : Int) + 1))] [(0, .box ([.d (.sl 3 (t.parts.map Part.d))] ++ zi t.k)), (1, .box [.d (.raw nilV), .d (.raw (.bool false)), .d (nsl [])]), (2, .box ([.own 3 ((out ++ [(Part.mk x3 r4)]).length)] ++ zi r1)), (3, .row 47 3 ((out ++ [(Part.mk x3 r4)]).map Part.d))] h (by kernel_rfl) (by kernel_rfl) (by kernel_rfl)
      refine roundS (x := (j, out)) (y := (j + 1, (out ++ [(Part.mk x3 r4)]))) h ?_ ?_ (by kernel_rfl) (by kernel_rfl)
      · refine ⟨?_, by have := at_lt hx3; omega, by simp; omega⟩
        rw [take_map hx3, ← hI1, er4]
      · simp; omega
    · have hc2 := hc; clear hc
      have hc2' := of_decide_eq_false hc2
      refine wp_exit ?_
      refine then_x ?_
      refine then_x ?_
      refine inBlock_exit ?_
      refine then_n ?_
      refine rSeq tb_ok 5 [] [(2, vp 1 0)] [(1, .box ([.own 3 out.length] ++ zi r1)), (3, .row 47 3 (out.map Part.d))] (by kernel_rfl) h ?_; clear h; intro a w h
      refine wp_ret ?_
      replace h := pubS 3 3 47 (out.map Part.d) [(2, vp 1 0)] [(1, .box ([.d (.sl 3 (out.map Part.d))] ++ zi r1))] h rfl trivial (show AllEq _ [out.length] from ⟨by simp, trivial⟩) (by kernel_rfl) (by kernel_rfl)
      refine retS [.agg ([.d (.sl 3 (out.map Part.d))] ++ zi r1)] h Exit.ret (.inl rfl)  rfl ⟨RV.agg _ 1 0 _ _ _ _ tb_11 rfl rfl rfl rfl, trivial⟩ ?_ (by kernel_rfl) (by kernel_rfl)
      have hj : j = (varsZ t.parts).length := by have := hc2'; omega
      subst hj
      rw [hI1, List.take_length, er1]; first | done | rfl
end Go.Proofs.Ytekhnajfdaknnaa.S
