/-
  Sorting by insertion.
-/
import Derived.Test.YtekhnajfdaknnaaTd
import Derived.Test.YtekhnajfdaknnaaStb
namespace Go.Proofs.Ytekhnajfdaknnaa.S
open Go.RowKit

theorem te_0 : SlT Try.prog 22 47 3 := SlT.mk' Try.underlying22 (by kernel_rfl)
theorem te_1 : Sz Try.prog 47 3 true := Sz.mk' (by kernel_rfl) Try.underlying47 _ rfl
theorem te_2 : Bodied Try.prog 31 := Bodied.mk' (by kernel_rfl)
def te_tb : Tb := [(3, ⟨1, false, [], [.d (.raw (.int .i64 0))], 13⟩), (4, ⟨1, false, [], [.d (.raw (.bool false))], 3⟩), (24, ⟨1, false, [], [.d (nsl [])], 1⟩), (26, ⟨2, true, [(0, 1, false), (1, 1, false)], [.d (.raw (.bool false)), .d (nsl [])], 0⟩), (47, ⟨3, true, [(0, 1, false), (1, 2, true)], [.d (.raw (.int .i64 0)), .d (.raw (.bool false)), .d (nsl [])], 0⟩)]
theorem te_ok : TbOk Try.prog te_tb := ⟨TyOk.int Try.underlying3 rfl (by kernel_rfl) ⟨(.int .i64 0 : Value), [.int .i64 0], by kernel_rfl, rfl, (fun _ _ => ⟨DR.raw _ rfl, trivial⟩)⟩,
  TyOk.bl Try.underlying4 (by kernel_rfl) ⟨(.bool false : Value), [.bool false], by kernel_rfl, rfl, (fun _ _ => ⟨DR.raw _ rfl, trivial⟩)⟩,
  TyOk.slc Try.underlying24 (by kernel_rfl) ⟨(.slice none 0 0 : Value), [.slice none 0 0], by kernel_rfl, rfl, (fun _ _ => ⟨DR.nil _ _ _ (fun _ => rfl) (Nat.zero_le _), trivial⟩)⟩,
  TyOk.st Try.underlying26 (by kernel_rfl) ⟨⟨by decide, Fd.mk' _ _ Try.underlying26 rfl rfl (Sz.mk' (by kernel_rfl) Try.underlying4 _ rfl)⟩, ⟨by decide, Fd.mk' _ _ Try.underlying26 rfl rfl (Sz.mk' (by kernel_rfl) Try.underlying24 _ rfl)⟩, trivial⟩ ⟨(Value.agg #[.bool false, .slice none 0 0]), [.bool false, .slice none 0 0], by kernel_rfl, rfl, (fun _ _ => ⟨DR.raw _ rfl, DR.nil _ _ _ (fun _ => rfl) (Nat.zero_le _), trivial⟩)⟩ ⟨_, Try.underlying26, ⟨⟨rfl, by kernel_rfl⟩, ⟨rfl, by kernel_rfl⟩, trivial⟩⟩,
  TyOk.st Try.underlying47 (by kernel_rfl) ⟨⟨by decide, Fd.mk' _ _ Try.underlying47 rfl rfl (Sz.mk' (by kernel_rfl) Try.underlying3 _ rfl)⟩, ⟨by decide, Fd.mk' _ _ Try.underlying47 rfl rfl (Sz.mk' (by kernel_rfl) Try.underlying26 _ rfl)⟩, trivial⟩ ⟨(Value.agg #[.int .i64 0, .bool false, .slice none 0 0]), [.int .i64 0, .bool false, .slice none 0 0], by kernel_rfl, rfl, (fun _ _ => ⟨DR.raw _ rfl, DR.raw _ rfl, DR.nil _ _ _ (fun _ => rfl) (Nat.zero_le _), trivial⟩)⟩ ⟨_, Try.underlying47, ⟨⟨rfl, by kernel_rfl⟩, ⟨rfl, by kernel_rfl⟩, trivial⟩⟩,
  trivial⟩
theorem set_map {α : Type} {xs : List α} {F : α → List D} (i : Nat) (x0 : List D) (x1 : α) {fo : Nat} {ds : List D} (h : putL x0 fo ds = F x1) : (xs.map F).set i (putL x0 fo ds) = (xs.set i x1).map F := by rw [h, List.map_set]
/-- the middle of a row -/
theorem mid_at {α : Type} {xs ys : List α} {x : α} (n : Nat) (hn : n = xs.length) : (xs ++ x :: ys)[n]? = some x := by subst hn; simp
theorem swap_mid {α : Type} {xs ys : List α} {x y : α} (n : Nat) (hn : n = xs.length) : ((xs ++ y :: x :: ys).set (n + 1) y).set n x = xs ++ x :: y :: ys := by
  subst hn
  rw [List.set_append_right _ _ (by omega), Nat.add_sub_cancel_left]
  simp
theorem cmpZ_lt0 {x y : Int} : cmpZ x y < 0 ↔ x < y := by unfold cmpZ; split; omega; split <;> omega
theorem snoc_or {α : Type} (l : List α) : l = [] ∨ ∃ l' y, l = l' ++ [y] := by
  by_cases h : l = []
  · exact .inl h
  · exact .inr ⟨l.dropLast, l.getLast h, (List.dropLast_concat_getLast h).symm⟩
/-- an element on its way down -/
def InsI (pre mid post : List Part) (k j : Nat) (ys : List Part) : Prop :=
  ∃ s1 s2 x, j = pre.length + s1.length ∧ ys = pre ++ s1 ++ x :: (s2 ++ (mid.drop (k + 1) ++ post)) ∧ mid[k]? = some x ∧ ssV Part.v (mid.take k) = s1 ++ s2 ∧ ∀ y ∈ s2, x.v < y.v
theorem ins_start {pre mid post : List Part} {k : Nat} (hk : k < mid.length) : InsI pre mid post k (pre.length + k) (pre ++ (ssV Part.v (mid.take k) ++ mid.drop k) ++ post) := by
  refine ⟨ssV Part.v (mid.take k), [], mid[k], ?_, ?_, List.getElem?_eq_getElem hk, by simp, by simp⟩
  · rw [ssV_len, List.length_take]; omega
  · have := List.drop_eq_getElem_cons hk; simp only [List.append_assoc, List.nil_append, this, List.cons_append]
theorem ins_len {pre mid post : List Part} {k j : Nat} {ys : List Part} (h : InsI pre mid post k j ys) : ys.length = (pre ++ mid ++ post).length ∧ j ≤ pre.length + k ∧ k < mid.length := by
  obtain ⟨s1, s2, x, rfl, rfl, hx, hs, _⟩ := h
  have hk := (List.getElem?_eq_some_iff.1 hx).1
  have hl : s1.length + s2.length = k := by
    have := congrArg List.length hs
    rw [ssV_len, List.length_take, List.length_append] at this; omega
  refine ⟨?_, by omega, hk⟩
  simp only [List.length_append, List.length_cons, List.length_drop]; omega
theorem ins_step {pre mid post : List Part} {k j : Nat} {ys : List Part} {x1 x2 : Part} (h : InsI pre mid post k j ys) (h1 : ys[j]? = some x1) (h2 : ys[j - 1]? = some x2) (hj : pre.length < j) (hc : x1.v < x2.v) : InsI pre mid post k (j - 1) ((ys.set j x2).set (j - 1) x1) := by
  obtain ⟨s1, s2, x, rfl, rfl, hx, hs, hlt⟩ := h
  obtain ⟨s1', y, rfl⟩ : ∃ s1' y, s1 = s1' ++ [y] := by
    rcases snoc_or s1 with rfl | ⟨s1', y, rfl⟩
    · simp at hj
    · exact ⟨s1', y, rfl⟩
  have e1 : x1 = x := by
    rw [mid_at _ (by simp)] at h1
    injection h1 with h1
    exact h1.symm
  have hj2 : pre.length + (s1' ++ [y]).length - 1 = (pre ++ s1').length := by simp only [List.length_append, List.length_cons, List.length_nil]; omega
  have hys : pre ++ (s1' ++ [y]) ++ x :: (s2 ++ (mid.drop (k + 1) ++ post)) = (pre ++ s1') ++ y :: x :: (s2 ++ (mid.drop (k + 1) ++ post)) := by simp
  have e2 : x2 = y := by
    rw [hys, mid_at _ hj2] at h2
    injection h2 with h2
    exact h2.symm
  subst e1 e2
  refine ⟨s1', x2 :: s2, x1, by simp only [List.length_append, List.length_cons, List.length_nil]; omega, ?_, hx, by rw [hs]; simp, ?_⟩
  · rw [hys, show pre.length + (s1' ++ [x2]).length = (pre ++ s1').length + 1 by simp only [List.length_append, List.length_cons, List.length_nil]; omega, Nat.add_sub_cancel, swap_mid _ rfl]
    simp
  · intro y hy
    rcases List.mem_cons.1 hy with rfl | hy
    · exact hc
    · exact hlt y hy
theorem ins_done {pre mid post : List Part} {k j : Nat} {ys : List Part} (h : InsI pre mid post k j ys) (hd : j ≤ pre.length ∨ ∃ x1 x2, ys[j]? = some x1 ∧ ys[j - 1]? = some x2 ∧ ¬ x1.v < x2.v) : ys = pre ++ (ssV Part.v (mid.take (k + 1)) ++ mid.drop (k + 1)) ++ post := by
  obtain ⟨s1, s2, x, rfl, rfl, hx, hs, hlt⟩ := h
  have hss := ssV_ok (v := Part.v) (mid.take k)
  rw [hs] at hss
  obtain ⟨r1, r2, r3⟩ := Ris.app.1 hss.1
  have hx1 : ∀ y ∈ s1, y.v ≤ x.v := by
    rcases hd with hd | ⟨x1, x2, h1, h2, h3⟩
    · have : s1 = [] := List.length_eq_zero_iff.1 (by omega)
      subst this; simp
    · rcases snoc_or s1 with rfl | ⟨s1', y, rfl⟩
      · simp
      · rw [mid_at _ (by simp)] at h1
        injection h1 with h1
        have hj2 : pre.length + (s1' ++ [y]).length - 1 = (pre ++ s1').length := by simp only [List.length_append, List.length_cons, List.length_nil]; omega
        have hys : pre ++ (s1' ++ [y]) ++ x :: (s2 ++ (mid.drop (k + 1) ++ post)) = (pre ++ s1') ++ y :: x :: (s2 ++ (mid.drop (k + 1) ++ post)) := by simp
        rw [hys, mid_at _ hj2] at h2
        injection h2 with h2
        subst h1 h2
        obtain ⟨q1, q2, q3⟩ := Ris.app.1 r1
        intro z hz
        rcases List.mem_append.1 hz with hz | hz
        · have := q3 z hz y (by simp); omega
        · rw [List.mem_singleton.1 hz]; omega
  have hmid : mid.take (k + 1) = mid.take k ++ [x] := by rw [List.take_add_one, hx]; rfl
  have hR : Ris Part.v (s1 ++ x :: s2) := by
    refine Ris.app.2 ⟨r1, ⟨fun y hy => by have := hlt y hy; omega, r2⟩, fun y hy z hz => ?_⟩
    rcases List.mem_cons.1 hz with rfl | hz
    · exact hx1 y hy
    · exact r3 y hy z hz
  have hS : Stb Part.v (s1 ++ x :: s2) (mid.take (k + 1)) := by
    rw [hmid]
    refine Stb.trans (ys := (s1 ++ s2) ++ [x]) ?_ (hss.2.app (Stb.refl _))
    rw [List.append_assoc]
    refine (Stb.refl s1).app (Stb.swap (xs := [x]) (ys := s2) fun c hc b hb => ?_)
    rw [List.mem_singleton.1 hc]
    have := hlt b hb; omega
  rw [← ssV_unique hR hS]
  simp
set_option maxRecDepth 100000 in
theorem Sinsort (pre mid post : List Part) (hl : (pre ++ mid ++ post).length ≤ 1000000) : Fn Try.prog 71 [(0, .row 47 3 ((pre ++ mid ++ post).map Part.d))] [.t (.c (.own 0 (pre ++ mid ++ post).length)), vi .i64 (pre.length : Int), vi .i64 ((pre.length + mid.length : Nat) : Int), .t (.c (.fn (.func 31) [] []))] (.tup []) [(0, .row 47 3 ((pre ++ ssV Part.v mid ++ post).map Part.d))] := by
  have hlen : (pre ++ mid ++ post).length = pre.length + mid.length + post.length := by simp; omega
  refine Fn.body Try.func71 rfl 53 rfl fun w H B a h => ?_
  refine rSeq te_ok 1 [(1, .add .i64 (m := (pre.length : Int)) (n := 1) (i64_id (by omega) (by omega)))] [(0, .t (.c (.own 0 (pre ++ mid ++ post).length))), (1, vi .i64 (pre.length : Int)), (2, vi .i64 ((pre.length + mid.length : Nat) : Int)), (3, .t (.c (.fn (.func 31) [] []))), (8, vi .i64 ((pre.length : Int) + 1))] [(0, .row 47 3 ((pre ++ mid ++ post).map Part.d))] (by kernel_rfl) h ?_; clear h; intro a w h
  refine wp_block ?_
  refine loopS (ι := (Nat) × (List Part)) (fun (z_ : (Nat) × (List Part)) => match z_ with | (k, xs) => 1 ≤ k ∧ (k ≤ mid.length ∨ k = 1) ∧ xs = pre ++ (ssV Part.v (mid.take k) ++ mid.drop k) ++ post)
      (fun (z_ : (Nat) × (List Part)) => match z_ with | (k, xs) => [(0, .t (.c (.own 0 (pre ++ mid ++ post).length))), (1, vi .i64 (pre.length : Int)), (2, vi .i64 ((pre.length + mid.length : Nat) : Int)), (3, .t (.c (.fn (.func 31) [] []))), (8, vi .i64 ((pre.length + k : Nat) : Int))])
      (fun (z_ : (Nat) × (List Part)) => match z_ with | (k, xs) => [(0, .row 47 3 (xs.map Part.d))])
      (fun (z_ : (Nat) × (List Part)) => match z_ with | (k, xs) => mid.length + 1 - k) (1, (pre ++ mid ++ post)) ?_ h (by kernel_rfl) (by kernel_rfl) ?_
  · refine ⟨Nat.le_refl _, .inr rfl, ?_⟩
    cases mid with
    | nil => simp [ssV]
    | cons x mid => simp [ssV, insV]
  · clear h; rintro ⟨k, xs⟩ a w hI h
    change St _ (F.of [(0, .t (.c (.own 0 (pre ++ mid ++ post).length))), (1, vi .i64 (pre.length : Int)), (2, vi .i64 ((pre.length + mid.length : Nat) : Int)), (3, .t (.c (.fn (.func 31) [] []))), (8, vi .i64 ((pre.length + k : Nat) : Int))] [(0, .row 47 3 (xs.map Part.d))]) a w at h
    obtain ⟨hI1, hI2, hI3⟩ := hI
    refine wp_seq ?_
    refine rSeq te_ok 1 [] [(0, .t (.c (.own 0 (pre ++ mid ++ post).length))), (1, vi .i64 (pre.length : Int)), (2, vi .i64 ((pre.length + mid.length : Nat) : Int)), (3, .t (.c (.fn (.func 31) [] []))), (8, vi .i64 ((pre.length + k : Nat) : Int)), (14, vb (decide (((pre.length + k : Nat) : Int) < ((pre.length + mid.length : Nat) : Int))))] [(0, .row 47 3 (xs.map Part.d))] (by kernel_rfl) h ?_; clear h; intro a w h
    refine condS (decide (((pre.length + k : Nat) : Int) < ((pre.length + mid.length : Nat) : Int))) h rfl (fun hc => ?_) (fun hc => ?_)
    · have hc1 := hc; clear hc
      have hc1' := of_decide_eq_true hc1
      refine wp_skip ?_
      refine then_n ?_
      refine wp_seq ?_
      refine wp_block ?_
      refine rSeq te_ok 1 [] [(0, .t (.c (.own 0 (pre ++ mid ++ post).length))), (1, vi .i64 (pre.length : Int)), (2, vi .i64 ((pre.length + mid.length : Nat) : Int)), (3, .t (.c (.fn (.func 31) [] []))), (8, vi .i64 ((pre.length + k : Nat) : Int)), (9, vi .i64 ((pre.length + k : Nat) : Int))] [(0, .row 47 3 (xs.map Part.d))] (by kernel_rfl) h ?_; clear h; intro a w h
      refine wp_block ?_
      refine loopS (ι := (Nat) × (List Part)) (fun (z_ : (Nat) × (List Part)) => match z_ with | (j, ys) => InsI pre mid post k j ys)
          (fun (z_ : (Nat) × (List Part)) => match z_ with | (j, ys) => [(0, .t (.c (.own 0 (pre ++ mid ++ post).length))), (1, vi .i64 (pre.length : Int)), (2, vi .i64 ((pre.length + mid.length : Nat) : Int)), (3, .t (.c (.fn (.func 31) [] []))), (8, vi .i64 ((pre.length + k : Nat) : Int)), (9, vi .i64 (j : Int))])
          (fun (z_ : (Nat) × (List Part)) => match z_ with | (j, ys) => [(0, .row 47 3 (ys.map Part.d))])
          (fun (z_ : (Nat) × (List Part)) => match z_ with | (j, ys) => j) ((pre.length + k), xs) ?_ h (by kernel_rfl) (by kernel_rfl) ?_
      · rw [hI3]; exact ins_start (by omega)
      · clear h; rintro ⟨j, ys⟩ a w hI h
        change St _ (F.of [(0, .t (.c (.own 0 (pre ++ mid ++ post).length))), (1, vi .i64 (pre.length : Int)), (2, vi .i64 ((pre.length + mid.length : Nat) : Int)), (3, .t (.c (.fn (.func 31) [] []))), (8, vi .i64 ((pre.length + k : Nat) : Int)), (9, vi .i64 (j : Int))] [(0, .row 47 3 (ys.map Part.d))]) a w at h
        obtain ⟨hly, hj1, hk1⟩ := ins_len hI
        refine wp_seq ?_
        rcases Bool.eq_false_or_eq_true (decide ((j : Int) > (pre.length : Int))) with hc | hc
        · have hc2 := hc; clear hc
          have hc2' := of_decide_eq_true hc2
          obtain ⟨x1, hx1⟩ : ∃ z_ : Part, ys[j]? = some z_ := ⟨_, List.getElem?_eq_getElem (by first | omega | (simp at *; omega))⟩
          obtain ⟨x2, hx2⟩ : ∃ z_ : Part, ys[j - 1]? = some z_ := ⟨_, List.getElem?_eq_getElem (by first | omega | (simp at *; omega))⟩
          refine rSeq te_ok 1 [(2, .cmp (op := .gtr) (m := (j : Int)) (n := (pre.length : Int)) (b := true) .i64 hc2), (7, .gen _ _ _ fun _ _ _ _ => Op.idxO (d := 25) (t := 23) (k := .i64) (n := 0) (len := (pre ++ mid ++ post).length) (i := j) te_0 (by first | omega | (simp at *; omega)) (OV.tmp 24 _)), (8, .gen _ _ _ fun _ _ _ _ => Op.loadR_agg (d := 26) (t := 25) (n := 0) (i := j) (fo := 0) (rty := 47) (es := 3) (xs := [.raw (.int .i64 x1.v), .raw (.bool x1.c.neg), nsl x1.c.abs]) te_1 rfl (map_at hx1 (f := Part.d)) rfl rfl), (11, .gen _ _ _ fun _ _ _ _ => Op.arith (op := .sub) (d := 29) (xt := 3) (yt := 3) (k := .i64) (m := (j : Int)) (n := 1) (r := ((j - 1 : Nat) : Int)) (OV.tmp 28 _) (OV.const (.int .i64 1) rfl) (.inr (.inl ⟨rfl, (by omega)⟩)) (i64_id (by omega) (by omega))), (12, .gen _ _ _ fun _ _ _ _ => Op.idxO (d := 30) (t := 27) (k := .i64) (n := 0) (len := (pre ++ mid ++ post).length) (i := (j - 1)) te_0 (by first | omega | (simp at *; omega)) (OV.tmp 29 _)), (13, .gen _ _ _ fun _ _ _ _ => Op.loadR_agg (d := 31) (t := 30) (n := 0) (i := (j - 1)) (fo := 0) (rty := 47) (es := 3) (xs := [.raw (.int .i64 x2.v), .raw (.bool x2.c.neg), nsl x2.c.abs]) te_1 rfl (map_at hx2 (f := Part.d)) rfl rfl), (14, .gen _ _ _ fun _ _ _ _ => Op.callV (d := 32) (t := 22) (cap := []) (args := [.t (.agg ([.d (.raw (.int .i64 x1.v))] ++ zi x1.c)), .t (.agg ([.d (.raw (.int .i64 x2.v))] ++ zi x2.c))]) (rs := [(26, .t (.agg ([.d (.raw (.int .i64 x1.v))] ++ zi x1.c))), (31, .t (.agg ([.d (.raw (.int .i64 x2.v))] ++ zi x2.c)))]) (tys := #[47, 47]) (SPlain1 x1 x2) te_2 (OVs.cons (OV.tmp 26 _) (OVs.cons (OV.tmp 31 _) (OVs.nil))))] [(0, .t (.c (.own 0 (pre ++ mid ++ post).length))), (1, vi .i64 (pre.length : Int)), (2, vi .i64 ((pre.length + mid.length : Nat) : Int)), (3, .t (.c (.fn (.func 31) [] []))), (8, vi .i64 ((pre.length + k : Nat) : Int)), (9, vi .i64 (j : Int)), (34, vb (decide (cmpZ x1.v x2.v < 0)))] [(0, .row 47 3 (ys.map Part.d))] (by kernel_rfl) h ?_; clear h; intro a w h
          refine condS (decide (cmpZ x1.v x2.v < 0)) h rfl (fun hc => ?_) (fun hc => ?_)
          · have hc3 := hc; clear hc
            have hc3' := of_decide_eq_true hc3
            refine wp_skip ?_
            refine then_n ?_
            refine wp_seq ?_
            refine wp_block ?_
            refine rS te_ok 1 [(4, .gen _ _ _ fun _ _ _ _ => Op.arith (op := .sub) (d := 41) (xt := 3) (yt := 3) (k := .i64) (m := (j : Int)) (n := 1) (r := ((j - 1 : Nat) : Int)) (OV.tmp 40 _) (OV.const (.int .i64 1) rfl) (.inr (.inl ⟨rfl, (by omega)⟩)) (i64_id (by omega) (by omega))), (7, .gen _ _ _ fun _ _ _ _ => Op.arith (op := .sub) (d := 44) (xt := 3) (yt := 3) (k := .i64) (m := (j : Int)) (n := 1) (r := ((j - 1 : Nat) : Int)) (OV.tmp 43 _) (OV.const (.int .i64 1) rfl) (.inr (.inl ⟨rfl, (by omega)⟩)) (i64_id (by omega) (by omega))), (8, .gen _ _ _ fun _ _ _ _ => Op.idxO (d := 45) (t := 42) (k := .i64) (n := 0) (len := (pre ++ mid ++ post).length) (i := (j - 1)) te_0 (by first | omega | (simp at *; omega)) (OV.tmp 44 _)), (9, .gen _ _ _ fun _ _ _ _ => Op.loadR_agg (d := 46) (t := 45) (n := 0) (i := (j - 1)) (fo := 0) (rty := 47) (es := 3) (xs := [.raw (.int .i64 x2.v), .raw (.bool x2.c.neg), nsl x2.c.abs]) te_1 rfl (map_at hx2 (f := Part.d)) rfl rfl), (12, .gen _ _ _ fun _ _ _ _ => Op.idxO (d := 49) (t := 47) (k := .i64) (n := 0) (len := (pre ++ mid ++ post).length) (i := j) te_0 (by first | omega | (simp at *; omega)) (OV.tmp 48 _)), (13, .gen _ _ _ fun _ _ _ _ => Op.loadR_agg (d := 50) (t := 49) (n := 0) (i := j) (fo := 0) (rty := 47) (es := 3) (xs := [.raw (.int .i64 x1.v), .raw (.bool x1.c.neg), nsl x1.c.abs]) te_1 rfl (map_at hx1 (f := Part.d)) rfl rfl), (14, .gen _ _ _ fun _ _ _ _ => Op.idxO (d := 51) (t := 37) (k := .i64) (n := 0) (len := (pre ++ mid ++ post).length) (i := j) te_0 (by first | omega | (simp at *; omega)) (OV.tmp 38 _)), (15, .gen _ _ _ fun _ _ _ _ => Op.storeR (t := 51) (n := 0) (i := j) (fo := 0) (rty := 47) (es := 3) (r := Part.d x1) (ds := [.raw (.int .i64 x2.v), .raw (.bool x2.c.neg), nsl x2.c.abs]) (rs := [(46, .t (.agg ([.d (.raw (.int .i64 x2.v))] ++ zi x2.c)))]) (rows := ys.map Part.d) (rows' := (ys.set j x2).map Part.d) te_1 (OV.tmp 46 _) rfl rfl rfl (map_at hx1 (f := Part.d)) (by simp [Part.d]) (set_map (xs := ys) (F := Part.d) j _ _ rfl)), (16, .gen _ _ _ fun _ _ _ _ => Op.idxO (d := 52) (t := 39) (k := .i64) (n := 0) (len := (pre ++ mid ++ post).length) (i := (j - 1)) te_0 (by first | omega | (simp at *; omega)) (OV.tmp 41 _)), (17, .gen _ _ _ fun _ _ _ _ => Op.storeR (t := 52) (n := 0) (i := (j - 1)) (fo := 0) (rty := 47) (es := 3) (r := Part.d x2) (ds := [.raw (.int .i64 x1.v), .raw (.bool x1.c.neg), nsl x1.c.abs]) (rs := [(50, .t (.agg ([.d (.raw (.int .i64 x1.v))] ++ zi x1.c)))]) (rows := (ys.set j x2).map Part.d) (rows' := ((ys.set j x2).set (j - 1) x1).map Part.d) te_1 (OV.tmp 50 _) rfl rfl rfl (map_at ((List.getElem?_set_ne (by omega)).trans hx2) (f := Part.d)) (by simp [Part.d]) (set_map (xs := (ys.set j x2)) (F := Part.d) (j - 1) _ _ rfl))] [(0, .t (.c (.own 0 (pre ++ mid ++ post).length))), (1, vi .i64 (pre.length : Int)), (2, vi .i64 ((pre.length + mid.length : Nat) : Int)), (3, .t (.c (.fn (.func 31) [] []))), (8, vi .i64 ((pre.length + k : Nat) : Int)), (9, vi .i64 (j : Int))] [(0, .row 47 3 (((ys.set j x2).set (j - 1) x1).map Part.d))] (by kernel_rfl) h ?_; clear h; intro a w h
            refine block_n ?_
            refine then_n ?_
            refine rS te_ok 1 [(1, .gen _ _ _ fun _ _ _ _ => Op.arith (op := .sub) (d := 36) (xt := 3) (yt := 3) (k := .i64) (m := (j : Int)) (n := 1) (r := ((j - 1 : Nat) : Int)) (OV.tmp 35 _) (OV.const (.int .i64 1) rfl) (.inr (.inl ⟨rfl, (by omega)⟩)) (i64_id (by omega) (by omega)))] [(0, .t (.c (.own 0 (pre ++ mid ++ post).length))), (1, vi .i64 (pre.length : Int)), (2, vi .i64 ((pre.length + mid.length : Nat) : Int)), (3, .t (.c (.fn (.func 31) [] []))), (8, vi .i64 ((pre.length + k : Nat) : Int)), (9, vi .i64 ((j - 1 : Nat) : Int))] [(0, .row 47 3 (((ys.set j x2).set (j - 1) x1).map Part.d))] (by kernel_rfl) h ?_; clear h; intro a w h
            refine then_n ?_
            refine roundS (x := (j, ys)) (y := (j - 1, ((ys.set j x2).set (j - 1) x1))) h ?_ ?_ (by kernel_rfl) (by kernel_rfl)
            · exact ins_step hI hx1 hx2 (by omega) (cmpZ_lt0.1 hc3')
            · show j - 1 < j; omega
          · have hc4 := hc; clear hc
            have hc4' := of_decide_eq_false hc4
            refine wp_exit ?_
            refine then_x ?_
            refine then_x ?_
            refine inBlock_exit ?_
            refine block_n ?_
            refine then_n ?_
            refine rS te_ok 1 [(1, .add .i64 (m := ((pre.length + k : Nat) : Int)) (n := 1) (i64_id (by omega) (by omega)))] [(0, .t (.c (.own 0 (pre ++ mid ++ post).length))), (1, vi .i64 (pre.length : Int)), (2, vi .i64 ((pre.length + mid.length : Nat) : Int)), (3, .t (.c (.fn (.func 31) [] []))), (8, vi .i64 (((pre.length + k : Nat) : Int) + 1))] [(0, .row 47 3 (ys.map Part.d))] (by kernel_rfl) h ?_; clear h; intro a w h
            refine then_n ?_
            refine roundS (x := (k, xs)) (y := (k + 1, ys)) h ?_ ?_ (by kernel_rfl) (by kernel_rfl)
            · exact ⟨by omega, by omega, ins_done hI (.inr ⟨_, _, hx1, hx2, mt cmpZ_lt0.2 hc4'⟩)⟩
            · show mid.length + 1 - (k + 1) < mid.length + 1 - k; omega
        · have hc5 := hc; clear hc
          have hc5' := of_decide_eq_false hc5
          refine rSeq te_ok 1 [(2, .cmp (op := .gtr) (m := (j : Int)) (n := (pre.length : Int)) (b := false) .i64 hc5)] [(0, .t (.c (.own 0 (pre ++ mid ++ post).length))), (1, vi .i64 (pre.length : Int)), (2, vi .i64 ((pre.length + mid.length : Nat) : Int)), (3, .t (.c (.fn (.func 31) [] []))), (8, vi .i64 ((pre.length + k : Nat) : Int)), (9, vi .i64 (j : Int)), (34, vb false)] [(0, .row 47 3 (ys.map Part.d))] (by kernel_rfl) h ?_; clear h; intro a w h
          refine condS false h rfl (fun hc => ?_) (fun hc => ?_)
          · cases hc
          · clear hc
            refine wp_exit ?_
            refine then_x ?_
            refine then_x ?_
            refine inBlock_exit ?_
            refine block_n ?_
            refine then_n ?_
            refine rS te_ok 1 [(1, .add .i64 (m := ((pre.length + k : Nat) : Int)) (n := 1) (i64_id (by omega) (by omega)))] [(0, .t (.c (.own 0 (pre ++ mid ++ post).length))), (1, vi .i64 (pre.length : Int)), (2, vi .i64 ((pre.length + mid.length : Nat) : Int)), (3, .t (.c (.fn (.func 31) [] []))), (8, vi .i64 (((pre.length + k : Nat) : Int) + 1))] [(0, .row 47 3 (ys.map Part.d))] (by kernel_rfl) h ?_; clear h; intro a w h
            refine then_n ?_
            refine roundS (x := (k, xs)) (y := (k + 1, ys)) h ?_ ?_ (by kernel_rfl) (by kernel_rfl)
            · exact ⟨by omega, by omega, ins_done hI (.inl (by omega))⟩
            · show mid.length + 1 - (k + 1) < mid.length + 1 - k; omega
    · have hc6 := hc; clear hc
      have hc6' := of_decide_eq_false hc6
      refine wp_exit ?_
      refine then_x ?_
      refine then_x ?_
      refine inBlock_exit ?_
      have hxs : xs = pre ++ ssV Part.v mid ++ post := by
        have hk : mid.length ≤ k := by omega
        rw [hI3, List.take_of_length_le hk, List.drop_of_length_le hk, List.append_nil]
      rw [hxs] at h
      refine retS [] h Exit.normal (.inr rfl)  rfl trivial ?_ (by kernel_rfl) (by kernel_rfl)
      rfl
end Go.Proofs.Ytekhnajfdaknnaa.S
