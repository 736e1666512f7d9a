/-
  Parts struck out of a row.
-/
import Derived.Test.YtekhnajfdaknnaaTj
namespace Go.Proofs.Ytekhnajfdaknnaa.S
open Go.RowKit

theorem tk_0 : SlT Try.prog 22 47 3 := SlT.mk' Try.underlying22 (by kernel_rfl)
theorem tk_1 : Sz Try.prog 47 3 true := Sz.mk' (by kernel_rfl) Try.underlying47 _ rfl
theorem tk_2 : Bodied Try.prog 36 := Bodied.mk' (by kernel_rfl)
theorem tk_3 : Bodied Try.prog 58 := Bodied.mk' (by kernel_rfl)
theorem tk_4 : Zero Try.prog 47 [.d (.raw (.int .i64 0)), .d (.raw (.bool false)), .d (nsl [])] := ⟨(Value.agg #[.int .i64 0, .bool false, .slice none 0 0]), [.int .i64 0, .bool false, .slice none 0 0], by kernel_rfl, rfl, (fun _ _ => ⟨DR.raw _ rfl, DR.raw _ rfl, DR.nil _ _ _ (fun _ => rfl) (Nat.zero_le _), trivial⟩)⟩
def tk_tb : Tb := [(22, ⟨1, false, [], [.d (.raw nilV)], 1⟩), (3, ⟨1, false, [], [.d (.raw (.int .i64 0))], 13⟩), (4, ⟨1, false, [], [.d (.raw (.bool false))], 3⟩), (24, ⟨1, false, [], [.d (nsl [])], 1⟩), (26, ⟨2, true, [(0, 1, false), (1, 1, false)], [.d (.raw (.bool false)), .d (nsl [])], 0⟩), (47, ⟨3, true, [(0, 1, false), (1, 2, true)], [.d (.raw (.int .i64 0)), .d (.raw (.bool false)), .d (nsl [])], 0⟩)]
theorem tk_ok : TbOk Try.prog tk_tb := ⟨TyOk.slc Try.underlying22 (by kernel_rfl) ⟨(.slice none 0 0 : Value), [.slice none 0 0], by kernel_rfl, rfl, (fun _ _ => ⟨DR.raw _ rfl, trivial⟩)⟩,
  TyOk.int Try.underlying3 rfl (by kernel_rfl) ⟨(.int .i64 0 : Value), [.int .i64 0], by kernel_rfl, rfl, (fun _ _ => ⟨DR.raw _ rfl, trivial⟩)⟩,
  TyOk.bl Try.underlying4 (by kernel_rfl) ⟨(.bool false : Value), [.bool false], by kernel_rfl, rfl, (fun _ _ => ⟨DR.raw _ rfl, trivial⟩)⟩,
  TyOk.slc Try.underlying24 (by kernel_rfl) ⟨(.slice none 0 0 : Value), [.slice none 0 0], by kernel_rfl, rfl, (fun _ _ => ⟨DR.nil _ _ _ (fun _ => rfl) (Nat.zero_le _), trivial⟩)⟩,
  TyOk.st Try.underlying26 (by kernel_rfl) ⟨⟨by decide, Fd.mk' _ _ Try.underlying26 rfl rfl (Sz.mk' (by kernel_rfl) Try.underlying4 _ rfl)⟩, ⟨by decide, Fd.mk' _ _ Try.underlying26 rfl rfl (Sz.mk' (by kernel_rfl) Try.underlying24 _ rfl)⟩, trivial⟩ ⟨(Value.agg #[.bool false, .slice none 0 0]), [.bool false, .slice none 0 0], by kernel_rfl, rfl, (fun _ _ => ⟨DR.raw _ rfl, DR.nil _ _ _ (fun _ => rfl) (Nat.zero_le _), trivial⟩)⟩ ⟨_, Try.underlying26, ⟨⟨rfl, by kernel_rfl⟩, ⟨rfl, by kernel_rfl⟩, trivial⟩⟩,
  TyOk.st Try.underlying47 (by kernel_rfl) ⟨⟨by decide, Fd.mk' _ _ Try.underlying47 rfl rfl (Sz.mk' (by kernel_rfl) Try.underlying3 _ rfl)⟩, ⟨by decide, Fd.mk' _ _ Try.underlying47 rfl rfl (Sz.mk' (by kernel_rfl) Try.underlying26 _ rfl)⟩, trivial⟩ ⟨(Value.agg #[.int .i64 0, .bool false, .slice none 0 0]), [.int .i64 0, .bool false, .slice none 0 0], by kernel_rfl, rfl, (fun _ _ => ⟨DR.raw _ rfl, DR.raw _ rfl, DR.nil _ _ _ (fun _ => rfl) (Nat.zero_le _), trivial⟩)⟩ ⟨_, Try.underlying47, ⟨⟨rfl, by kernel_rfl⟩, ⟨rfl, by kernel_rfl⟩, trivial⟩⟩,
  trivial⟩
/-- the first part for which it holds: its place, or -1 -/
def idxF (pr : Part → Bool) : List Part → Nat → Int
  | [], _ => -1
  | p :: ps, n => if pr p = true then n else idxF pr ps (n + 1)
theorem idxF_at {pr : Part → Bool} {xs : List Part} {j : Nat} {p : Part} (h : xs[j]? = some p) : idxF pr (xs.drop j) j = if pr p = true then (j : Int) else idxF pr (xs.drop (j + 1)) (j + 1) := by
  obtain ⟨hj, rfl⟩ := List.getElem?_eq_some_iff.1 h
  rw [List.drop_eq_getElem_cons hj]; rfl
theorem idxF_cases (pr : Part → Bool) : ∀ (xs : List Part) (n : Nat), (idxF pr xs n = -1 ∧ xs.filter (fun p => !pr p) = xs) ∨ ∃ k x, idxF pr xs n = ((n + k : Nat) : Int) ∧ xs[k]? = some x ∧ pr x = true ∧ (xs.take k).filter (fun p => !pr p) = xs.take k
  | [], n => .inl ⟨rfl, rfl⟩
  | p :: ps, n => by
    cases hp : pr p with
    | true => exact .inr ⟨0, p, by simp [idxF, hp], rfl, hp, rfl⟩
    | false =>
      rcases idxF_cases pr ps (n + 1) with ⟨h1, h2⟩ | ⟨k, x, h1, h2, h3, h4⟩
      · exact .inl ⟨by simp [idxF, hp, h1], by simp [hp, h2]⟩
      · exact .inr ⟨k + 1, x, by simp only [idxF, hp, Bool.false_eq_true, if_false, h1]; omega, h2, h3, by simp [hp, h4]⟩
/-- the parts that count nothing; those of a variable; those beyond the greatest -/
def isZ (p : Part) : Bool := sgn p.c.val == 0
def isV (v : Int) (p : Part) : Bool := p.v == v
def isFar (n : Int) (p : Part) : Bool := decide (p.v > 2147483647 - n)
theorem del_at {pr : Part → Bool} {xs F G : List Part} {j : Nat} {x : Part} (hl : F.length + G.length = j) (h : xs[j]? = some x) : (F ++ G ++ xs.drop j)[j]? = some x := by
  obtain ⟨hj, rfl⟩ := List.getElem?_eq_some_iff.1 h
  rw [List.getElem?_append_right (by rw [List.length_append]; omega), List.length_append, hl, Nat.sub_self, List.drop_eq_getElem_cons hj]; rfl
theorem filt_snoc {pr : Part → Bool} {xs : List Part} {j : Nat} {x : Part} (h : xs[j]? = some x) (hp : pr x = false) : ((xs.take (j + 1)).filter (fun p => !pr p)) = ((xs.take j).filter (fun p => !pr p)) ++ [x] := by
  have e : xs.take (j + 1) = xs.take j ++ [x] := by rw [List.take_add_one, h]; rfl
  rw [e, List.filter_append]
  simp only [List.filter_cons, hp, Bool.not_false, if_true, List.filter_nil]
theorem filt_skip {pr : Part → Bool} {xs : List Part} {j : Nat} {x : Part} (h : xs[j]? = some x) (hp : pr x = true) : ((xs.take (j + 1)).filter (fun p => !pr p)) = ((xs.take j).filter (fun p => !pr p)) := by
  have e : xs.take (j + 1) = xs.take j ++ [x] := by rw [List.take_add_one, h]; rfl
  rw [e, List.filter_append]
  simp only [List.filter_cons, hp, Bool.not_true, Bool.false_eq_true, if_false, List.filter_nil, List.append_nil]
theorem del_skip {pr : Part → Bool} {xs G : List Part} {j : Nat} {x : Part} (h : xs[j]? = some x) (hp : pr x = true) : (((xs.take j).filter (fun p => !pr p)) ++ G ++ xs.drop j) = (((xs.take (j + 1)).filter (fun p => !pr p)) ++ (G ++ [x]) ++ xs.drop (j + 1)) := by
  rw [filt_skip h hp]
  obtain ⟨hj, rfl⟩ := List.getElem?_eq_some_iff.1 h
  rw [List.drop_eq_getElem_cons hj]
  simp only [List.append_assoc, List.cons_append, List.nil_append]
theorem del_keep {pr : Part → Bool} {xs G : List Part} {j : Nat} {x : Part} (h : xs[j]? = some x) (hp : pr x = false) (hG : 0 < G.length) : (((xs.take j).filter (fun p => !pr p)) ++ G ++ xs.drop j).set ((xs.take j).filter (fun p => !pr p)).length x = (((xs.take (j + 1)).filter (fun p => !pr p)) ++ (G.tail ++ [x]) ++ xs.drop (j + 1)) := by
  rw [filt_snoc h hp]
  obtain ⟨hj, rfl⟩ := List.getElem?_eq_some_iff.1 h
  obtain ⟨g, G', rfl⟩ : ∃ g G', G = g :: G' := by
    cases G with
    | nil => cases hG
    | cons g G' => exact ⟨g, G', rfl⟩
  rw [List.drop_eq_getElem_cons hj, List.append_assoc, List.set_append_right _ _ (Nat.le_refl _), Nat.sub_self]
  simp only [List.cons_append, List.set_cons_zero, List.append_assoc, List.nil_append, List.tail_cons]
theorem filt_len {pr : Part → Bool} {xs : List Part} {j : Nat} {x : Part} (h : xs[j]? = some x) (hp : pr x = false) : ((xs.take j).filter (fun p => !pr p)).length + 1 = ((xs.take (j + 1)).filter (fun p => !pr p)).length := by
  rw [filt_snoc h hp, List.length_append]; rfl
theorem filt_len0 {pr : Part → Bool} {xs : List Part} {j : Nat} {x : Part} (h : xs[j]? = some x) (hp : pr x = true) : ((xs.take j).filter (fun p => !pr p)).length = ((xs.take (j + 1)).filter (fun p => !pr p)).length := by
  rw [filt_skip h hp]
set_option maxRecDepth 100000 in
theorem SIndexFZ (pr : Part → Bool) (xs : List Part) (hf : ∀ p ∈ xs, Fn Try.prog 36 [] [vd p.d] (vb (pr p)) []) (hl : xs.length ≤ 1000000) : Fn Try.prog 58 [(0, .row 47 3 (xs.map Part.d))] [.t (.c (.own 0 xs.length)), .t (.c (.fn (.func 36) [] []))] (vi .i64 (idxF pr xs 0)) [(0, .row 47 3 (xs.map Part.d))] := by
  refine Fn.body Try.func58 rfl 19 rfl fun w H B a h => ?_
  refine rSeq tk_ok 1 [] [(0, .t (.c (.own 0 xs.length))), (1, .t (.c (.fn (.func 36) [] []))), (4, vi .i64 0)] [(0, .row 47 3 (xs.map Part.d))] (by kernel_rfl) h ?_; clear h; intro a w h
  refine wp_seq ?_
  refine rSeq tk_ok 1 [] [(0, .t (.c (.own 0 xs.length))), (1, .t (.c (.fn (.func 36) [] []))), (4, vi .i64 0), (7, vi .i64 (xs.length : Int)), (8, vi .i64 0)] [(0, .row 47 3 (xs.map Part.d))] (by kernel_rfl) h ?_; clear h; intro a w h
  refine wp_block ?_
  refine loopS (ι := (Nat)) (fun (z_ : (Nat)) => match z_ with | j => j ≤ xs.length ∧ idxF pr xs 0 = idxF pr (xs.drop j) j)
      (fun (z_ : (Nat)) => match z_ with | j => [(0, .t (.c (.own 0 xs.length))), (1, .t (.c (.fn (.func 36) [] []))), (7, vi .i64 (xs.length : Int)), (8, vi .i64 (j : Int))])
      (fun (z_ : (Nat)) => match z_ with | j => [(0, .row 47 3 (xs.map Part.d))])
      (fun (z_ : (Nat)) => match z_ with | j => xs.length - j) 0 ?_ h (by kernel_rfl) (by kernel_rfl) ?_
  · exact ⟨Nat.zero_le _, rfl⟩
  · clear h; rintro j a w hI h
    change St _ (F.of [(0, .t (.c (.own 0 xs.length))), (1, .t (.c (.fn (.func 36) [] []))), (7, vi .i64 (xs.length : Int)), (8, vi .i64 (j : Int))] [(0, .row 47 3 (xs.map Part.d))]) a w at h
    obtain ⟨hI1, hI2⟩ := hI
    refine rSeq tk_ok 1 [] [(0, .t (.c (.own 0 xs.length))), (1, .t (.c (.fn (.func 36) [] []))), (7, vi .i64 (xs.length : Int)), (8, vi .i64 (j : Int)), (9, vb (decide ((j : Int) < (xs.length : Int))))] [(0, .row 47 3 (xs.map Part.d))] (by kernel_rfl) h ?_; clear h; intro a w h
    refine wp_seq ?_
    refine condS (decide ((j : Int) < (xs.length : Int))) h rfl (fun hc => ?_) (fun hc => ?_)
    · have hc1 := hc; clear hc
      have hc1' := of_decide_eq_true hc1
      refine wp_skip ?_
      refine then_n ?_
      refine wp_seq ?_
      refine wp_block ?_
      refine rSeq tk_ok 1 [] [(0, .t (.c (.own 0 xs.length))), (1, .t (.c (.fn (.func 36) [] []))), (5, vi .i64 (j : Int)), (7, vi .i64 (xs.length : Int)), (8, vi .i64 (j : Int))] [(0, .row 47 3 (xs.map Part.d))] (by kernel_rfl) h ?_; clear h; intro a w h
      obtain ⟨x1, hx1⟩ : ∃ z_ : Part, xs[j]? = some z_ := ⟨_, List.getElem?_eq_getElem (by first | omega | (simp at *; omega))⟩
      refine rSeq tk_ok 1 [(3, .gen _ _ _ fun _ _ _ _ => Op.idxO (d := 14) (t := 12) (k := .i64) (n := 0) (len := xs.length) (i := j) tk_0 (by first | omega | (simp at *; omega)) (OV.tmp 13 _)), (4, .gen _ _ _ fun _ _ _ _ => Op.loadR_agg (d := 15) (t := 14) (n := 0) (i := j) (fo := 0) (rty := 47) (es := 3) (xs := [.raw (.int .i64 x1.v), .raw (.bool x1.c.neg), nsl x1.c.abs]) tk_1 rfl (map_at hx1 (f := Part.d)) rfl rfl), (5, .gen _ _ _ fun _ _ _ _ => Op.callV (d := 16) (t := 11) (cap := []) (args := [.t (.agg ([.d (.raw (.int .i64 x1.v))] ++ zi x1.c))]) (rs := [(15, .t (.agg ([.d (.raw (.int .i64 x1.v))] ++ zi x1.c)))]) (tys := #[47]) (hf x1 (List.mem_of_getElem? hx1)) tk_2 (OVs.cons (OV.tmp 15 _) (OVs.nil)))] [(0, .t (.c (.own 0 xs.length))), (1, .t (.c (.fn (.func 36) [] []))), (5, vi .i64 (j : Int)), (7, vi .i64 (xs.length : Int)), (8, vi .i64 (j : Int)), (16, vb (pr x1))] [(0, .row 47 3 (xs.map Part.d))] (by kernel_rfl) h ?_; clear h; intro a w h
      refine condS (pr x1) h rfl (fun hc => ?_) (fun hc => ?_)
      · have hc2 := hc; clear hc
        refine rSeq tk_ok 1 [] [(0, .t (.c (.own 0 xs.length))), (1, .t (.c (.fn (.func 36) [] []))), (4, vi .i64 (j : Int)), (7, vi .i64 (xs.length : Int)), (8, vi .i64 (j : Int))] [(0, .row 47 3 (xs.map Part.d))] (by kernel_rfl) h ?_; clear h; intro a w h
        refine wp_ret ?_
        refine block_r ?_
        refine then_r ?_
        refine then_r ?_
        refine block_r ?_
        refine then_r ?_
        refine retS [.c (.d (.raw (.int .i64 (j : Int))))] h Exit.ret (.inl rfl)  rfl ⟨RV.tmp _ _ rfl, trivial⟩ ?_ (by kernel_rfl) (by kernel_rfl)
        have hz : idxF pr xs 0 = (j : Int) := by rw [hI2, idxF_at hx1, if_pos hc2]
        rw [hz]; first | done | rfl
      · have hc3 := hc; clear hc
        refine wp_skip ?_
        refine block_n ?_
        refine then_n ?_
        refine rS tk_ok 1 [(0, .add .i64 (m := (j : Int)) (n := 1) (i64_id (by omega) (by omega)))] [(0, .t (.c (.own 0 xs.length))), (1, .t (.c (.fn (.func 36) [] []))), (7, vi .i64 (xs.length : Int)), (8, vi .i64 ((j : Int) + 1))] [(0, .row 47 3 (xs.map Part.d))] (by kernel_rfl) h ?_; clear h; intro a w h
        refine then_n ?_
        refine roundS (x := j) (y := j + 1) h ?_ ?_ (by kernel_rfl) (by kernel_rfl)
        · exact ⟨by have := at_lt hx1; omega, by rw [hI2, idxF_at hx1, if_neg (by rw [hc3]; exact Bool.noConfusion)]⟩
        · simp; omega
    · have hc4 := hc; clear hc
      have hc4' := of_decide_eq_false hc4
      refine wp_exit ?_
      refine then_x ?_
      refine then_x ?_
      refine inBlock_exit ?_
      refine then_n ?_
      refine rSeq tk_ok 1 [] [(4, vi .i64 (-1))] [(0, .row 47 3 (xs.map Part.d))] (by kernel_rfl) h ?_; clear h; intro a w h
      refine wp_ret ?_
      refine retS [.c (.d (.raw (.int .i64 (-1))))] h Exit.ret (.inl rfl)  rfl ⟨RV.tmp _ _ rfl, trivial⟩ ?_ (by kernel_rfl) (by kernel_rfl)
      have hz : idxF pr xs 0 = -1 := by rw [hI2, List.drop_of_length_le (by omega)]; rfl
      rw [hz]; first | done | rfl
set_option maxRecDepth 100000 in
theorem SDeleteFZ (pr : Part → Bool) (xs : List Part) (hf : ∀ p ∈ xs, Fn Try.prog 36 [] [vd p.d] (vb (pr p)) []) (hl : xs.length ≤ 1000000) : Fn Try.prog 35 [(0, .row 47 3 (xs.map Part.d))] [.t (.c (.own 0 xs.length)), .t (.c (.fn (.func 36) [] []))] (.t (.c (.own 0 (xs.filter (fun p => !pr p)).length))) [(0, .row 47 3 ((xs.filter (fun p => !pr p)).map Part.d))] := by
  refine Fn.body Try.func35 rfl 42 rfl fun w H B a h => ?_
  refine rSeq tk_ok 1 [] [(0, .t (.c (.own 0 xs.length))), (1, .t (.c (.fn (.func 36) [] []))), (4, .t (.c (.d (.raw nilV))))] [(0, .row 47 3 (xs.map Part.d))] (by kernel_rfl) h ?_; clear h; intro a w h
  refine rSeq tk_ok 1 [(2, .call (SIndexFZ pr xs  hf hl) tk_3)] [(0, .t (.c (.own 0 xs.length))), (1, .t (.c (.fn (.func 36) [] []))), (4, .t (.c (.d (.raw nilV)))), (5, vi .i64 (idxF pr xs 0))] [(0, .row 47 3 (xs.map Part.d))] (by kernel_rfl) h ?_; clear h; intro a w h
  refine wp_seq ?_
  rcases idxF_cases pr xs 0 with ⟨hz, hz2⟩ | ⟨k, x0, hz, hk, hk2, hk3⟩
  · rw [hz] at h
    refine rSeq tk_ok 1 [(1, .cmp (op := .eql) (m := (-1)) (n := (-1)) (b := true) .i64 rfl)] [(0, .t (.c (.own 0 xs.length))), (1, .t (.c (.fn (.func 36) [] []))), (4, .t (.c (.d (.raw nilV)))), (5, vi .i64 (-1)), (12, vb true)] [(0, .row 47 3 (xs.map Part.d))] (by kernel_rfl) h ?_; clear h; intro a w h
    refine condS true h rfl (fun hc => ?_) (fun hc => ?_)
    · clear hc
      refine rSeq tk_ok 1 [] [(0, .t (.c (.own 0 xs.length))), (1, .t (.c (.fn (.func 36) [] []))), (4, .t (.c (.own 0 xs.length))), (5, vi .i64 (-1))] [(0, .row 47 3 (xs.map Part.d))] (by kernel_rfl) h ?_; clear h; intro a w h
      refine wp_ret ?_
      refine then_r ?_
      replace h := h.conv (f' := F.of [(0, .t (.c (.own 0 xs.length))), (1, .t (.c (.fn (.func 36) [] []))), (4, .t (.c (.own 0 (xs.filter (fun p => !pr p)).length))), (5, vi .i64 (-1))] [(0, .row 47 3 (xs.map Part.d))]) (by rw [hz2])
      replace h := h.conv (f' := F.of [(0, .t (.c (.own 0 xs.length))), (1, .t (.c (.fn (.func 36) [] []))), (4, .t (.c (.own 0 (xs.filter (fun p => !pr p)).length))), (5, vi .i64 (-1))] [(0, .row 47 3 ((xs.filter (fun p => !pr p)).map Part.d))]) (congrArg (fun (z_ : List Part) => F.of [(0, .t (.c (.own 0 xs.length))), (1, .t (.c (.fn (.func 36) [] []))), (4, .t (.c (.own 0 (xs.filter (fun p => !pr p)).length))), (5, vi .i64 (-1))] [(0, .row 47 3 (z_.map Part.d))]) (show (xs : List Part) = (xs.filter (fun p => !pr p)) from hz2.symm))
      refine retS [.c (.own 0 (xs.filter (fun p => !pr p)).length)] h Exit.ret (.inl rfl)  rfl ⟨RV.tmp _ _ rfl, trivial⟩ ?_ (by kernel_rfl) (by kernel_rfl)
      rfl
    · cases hc
  · rw [Nat.zero_add] at hz
    have hkl := at_lt hk
    have hf2 : ((xs.take (k + 1)).filter (fun p => !pr p)) = xs.take k := by rw [List.take_add_one, hk]; simp [List.filter_append, hk2, hk3]
    have hf3 : ((xs.take (k + 1)).filter (fun p => !pr p)).length = k := by rw [hf2, List.length_take]; omega
    rw [hz] at h
    refine rSeq tk_ok 1 [(1, .cmp (op := .eql) (m := (k : Int)) (n := (-1)) (b := false) .i64 (beq_eq_false_iff_ne.2 (by omega)))] [(0, .t (.c (.own 0 xs.length))), (1, .t (.c (.fn (.func 36) [] []))), (4, .t (.c (.d (.raw nilV)))), (5, vi .i64 (k : Int)), (12, vb false)] [(0, .row 47 3 (xs.map Part.d))] (by kernel_rfl) h ?_; clear h; intro a w h
    refine condS false h rfl (fun hc => ?_) (fun hc => ?_)
    · cases hc
    · clear hc
      refine wp_skip ?_
      refine then_n ?_
      refine wp_seq ?_
      refine rSeq tk_ok 1 [(1, .gen _ _ _ fun _ _ _ _ => Op.arith (op := .add) (d := 15) (xt := 3) (yt := 3) (k := .i64) (m := (k : Int)) (n := 1) (r := ((k + 1 : Nat) : Int)) (OV.tmp 14 _) (OV.const (.int .i64 1) rfl) (.inl ⟨rfl, (by omega)⟩) (i64_id (by omega) (by omega)))] [(0, .t (.c (.own 0 xs.length))), (1, .t (.c (.fn (.func 36) [] []))), (4, .t (.c (.d (.raw nilV)))), (5, vi .i64 (k : Int)), (6, vi .i64 ((k + 1 : Nat) : Int))] [(0, .row 47 3 (xs.map Part.d))] (by kernel_rfl) h ?_; clear h; intro a w h
      refine wp_block ?_
      replace h := h.conv (f' := F.of [(0, .t (.c (.own 0 xs.length))), (1, .t (.c (.fn (.func 36) [] []))), (4, .t (.c (.d (.raw nilV)))), (5, vi .i64 (((xs.take (k + 1)).filter (fun p => !pr p)).length : Int)), (6, vi .i64 ((k + 1 : Nat) : Int))] [(0, .row 47 3 (xs.map Part.d))]) (by rw [hf3])
      replace h := h.conv (f' := F.of [(0, .t (.c (.own 0 xs.length))), (1, .t (.c (.fn (.func 36) [] []))), (4, .t (.c (.d (.raw nilV)))), (5, vi .i64 (((xs.take (k + 1)).filter (fun p => !pr p)).length : Int)), (6, vi .i64 ((k + 1 : Nat) : Int))] [(0, .row 47 3 ((((xs.take (k + 1)).filter (fun p => !pr p)) ++ [x0] ++ xs.drop (k + 1)).map Part.d))]) (congrArg (fun (z_ : List Part) => F.of [(0, .t (.c (.own 0 xs.length))), (1, .t (.c (.fn (.func 36) [] []))), (4, .t (.c (.d (.raw nilV)))), (5, vi .i64 (((xs.take (k + 1)).filter (fun p => !pr p)).length : Int)), (6, vi .i64 ((k + 1 : Nat) : Int))] [(0, .row 47 3 (z_.map Part.d))]) (show (xs : List Part) = (((xs.take (k + 1)).filter (fun p => !pr p)) ++ [x0] ++ xs.drop (k + 1)) from by rw [hf2]; obtain ⟨g1, g2⟩ := List.getElem?_eq_some_iff.1 hk; subst g2; simp))
      refine loopS (ι := (Nat) × (List Part)) (fun (z_ : (Nat) × (List Part)) => match z_ with | (j, G) => j ≤ xs.length ∧ ((xs.take j).filter (fun p => !pr p)).length + G.length = j ∧ 0 < G.length)
          (fun (z_ : (Nat) × (List Part)) => match z_ with | (j, G) => [(0, .t (.c (.own 0 xs.length))), (1, .t (.c (.fn (.func 36) [] []))), (4, .t (.c (.d (.raw nilV)))), (5, vi .i64 (((xs.take j).filter (fun p => !pr p)).length : Int)), (6, vi .i64 (j : Int))])
          (fun (z_ : (Nat) × (List Part)) => match z_ with | (j, G) => [(0, .row 47 3 ((((xs.take j).filter (fun p => !pr p)) ++ G ++ xs.drop j).map Part.d))])
          (fun (z_ : (Nat) × (List Part)) => match z_ with | (j, G) => xs.length - j) ((k + 1), [x0]) ?_ h (by kernel_rfl) (by kernel_rfl) ?_
      · exact ⟨by omega, by rw [hf3]; rfl, Nat.one_pos⟩
      · clear h; rintro ⟨j, G⟩ a w hI h
        change St _ (F.of [(0, .t (.c (.own 0 xs.length))), (1, .t (.c (.fn (.func 36) [] []))), (4, .t (.c (.d (.raw nilV)))), (5, vi .i64 (((xs.take j).filter (fun p => !pr p)).length : Int)), (6, vi .i64 (j : Int))] [(0, .row 47 3 ((((xs.take j).filter (fun p => !pr p)) ++ G ++ xs.drop j).map Part.d))]) a w at h
        obtain ⟨hI1, hI2, hI3⟩ := hI
        have hrl : (((xs.take j).filter (fun p => !pr p)) ++ G ++ xs.drop j).length = xs.length := by simp only [List.length_append, List.length_drop]; omega
        refine wp_seq ?_
        refine rSeq tk_ok 1 [] [(0, .t (.c (.own 0 xs.length))), (1, .t (.c (.fn (.func 36) [] []))), (4, .t (.c (.d (.raw nilV)))), (5, vi .i64 (((xs.take j).filter (fun p => !pr p)).length : Int)), (6, vi .i64 (j : Int)), (19, vb (decide ((j : Int) < (xs.length : Int))))] [(0, .row 47 3 ((((xs.take j).filter (fun p => !pr p)) ++ G ++ xs.drop j).map Part.d))] (by kernel_rfl) h ?_; clear h; intro a w h
        refine condS (decide ((j : Int) < (xs.length : Int))) h rfl (fun hc => ?_) (fun hc => ?_)
        · have hc1 := hc; clear hc
          have hc1' := of_decide_eq_true hc1
          refine wp_skip ?_
          refine then_n ?_
          refine wp_seq ?_
          refine wp_block ?_
          obtain ⟨x, hx⟩ : ∃ z_ : Part, xs[j]? = some z_ := ⟨_, List.getElem?_eq_getElem (by omega)⟩
          refine rSeq tk_ok 1 [(2, .gen _ _ _ fun _ _ _ _ => Op.idxO (d := 24) (t := 22) (k := .i64) (n := 0) (len := xs.length) (i := j) tk_0 (by first | omega | (simp at *; omega)) (OV.tmp 23 _)), (3, .gen _ _ _ fun _ _ _ _ => Op.loadR_agg (d := 25) (t := 24) (n := 0) (i := j) (fo := 0) (rty := 47) (es := 3) (xs := [.raw (.int .i64 x.v), .raw (.bool x.c.neg), nsl x.c.abs]) tk_1 rfl (map_at (show ((((xs.take j).filter (fun p => !pr p)) ++ G ++ xs.drop j) : List Part)[j]? = some x from del_at (pr := pr) hI2 hx) (f := Part.d)) rfl rfl)] [(0, .t (.c (.own 0 xs.length))), (1, .t (.c (.fn (.func 36) [] []))), (4, .t (.c (.d (.raw nilV)))), (5, vi .i64 (((xs.take j).filter (fun p => !pr p)).length : Int)), (6, vi .i64 (j : Int)), (7, vp 1 0)] [(0, .row 47 3 ((((xs.take j).filter (fun p => !pr p)) ++ G ++ xs.drop j).map Part.d)), (1, .box ([.d (.raw (.int .i64 x.v))] ++ zi x.c))] (by kernel_rfl) h ?_; clear h; intro a w h
          refine rSeq tk_ok 2 [(2, .gen _ _ _ fun _ _ _ _ => Op.callV (d := 28) (t := 26) (cap := []) (args := [.t (.agg ([.d (.raw (.int .i64 x.v))] ++ zi x.c))]) (rs := [(27, .t (.agg ([.d (.raw (.int .i64 x.v))] ++ zi x.c)))]) (tys := #[47]) (hf x (List.mem_of_getElem? hx)) tk_2 (OVs.cons (OV.tmp 27 _) (OVs.nil)))] [(0, .t (.c (.own 0 xs.length))), (1, .t (.c (.fn (.func 36) [] []))), (4, .t (.c (.d (.raw nilV)))), (5, vi .i64 (((xs.take j).filter (fun p => !pr p)).length : Int)), (6, vi .i64 (j : Int)), (7, vp 1 0), (29, vb (!(pr x)))] [(0, .row 47 3 ((((xs.take j).filter (fun p => !pr p)) ++ G ++ xs.drop j).map Part.d)), (1, .box ([.d (.raw (.int .i64 x.v))] ++ zi x.c))] (by kernel_rfl) h ?_; clear h; intro a w h
          refine condS (!(pr x)) h rfl (fun hc => ?_) (fun hc => ?_)
          · have hc2 := hc; clear hc
            have hc2' := hc2; (try simp at hc2')
            obtain ⟨x3, hx3⟩ : ∃ z_ : Part, (((xs.take j).filter (fun p => !pr p)) ++ G ++ xs.drop j)[((xs.take j).filter (fun p => !pr p)).length]? = some z_ := ⟨_, List.getElem?_eq_getElem (by first | omega | (simp at *; omega))⟩
            refine rSeq tk_ok 2 [(3, .gen _ _ _ fun _ _ _ _ => Op.idxO (d := 33) (t := 30) (k := .i64) (n := 0) (len := xs.length) (i := ((xs.take j).filter (fun p => !pr p)).length) tk_0 (by first | omega | (simp at *; omega)) (OV.tmp 31 _)), (4, .gen _ _ _ fun _ _ _ _ => Op.storeR (t := 33) (n := 0) (i := ((xs.take j).filter (fun p => !pr p)).length) (fo := 0) (rty := 47) (es := 3) (r := Part.d x3) (ds := [.raw (.int .i64 x.v), .raw (.bool x.c.neg), nsl x.c.abs]) (rs := [(32, .t (.agg ([.d (.raw (.int .i64 x.v))] ++ zi x.c)))]) (rows := (((xs.take j).filter (fun p => !pr p)) ++ G ++ xs.drop j).map Part.d) (rows' := ((((xs.take j).filter (fun p => !pr p)) ++ G ++ xs.drop j).set ((xs.take j).filter (fun p => !pr p)).length x).map Part.d) tk_1 (OV.tmp 32 _) rfl rfl rfl (map_at hx3 (f := Part.d)) (by simp [Part.d]) (set_map (xs := (((xs.take j).filter (fun p => !pr p)) ++ G ++ xs.drop j)) (F := Part.d) ((xs.take j).filter (fun p => !pr p)).length _ _ rfl))] [(0, .t (.c (.own 0 xs.length))), (1, .t (.c (.fn (.func 36) [] []))), (4, .t (.c (.d (.raw nilV)))), (5, vi .i64 (((xs.take j).filter (fun p => !pr p)).length : Int)), (6, vi .i64 (j : Int))] [(0, .row 47 3 (((((xs.take j).filter (fun p => !pr p)) ++ G ++ xs.drop j).set ((xs.take j).filter (fun p => !pr p)).length x).map Part.d))] (by kernel_rfl) h ?_; clear h; intro a w h
            refine rS tk_ok 2 [(1, .gen _ _ _ fun _ _ _ _ => Op.arith (op := .add) (d := 35) (xt := 3) (yt := 3) (k := .i64) (m := (((xs.take j).filter (fun p => !pr p)).length : Int)) (n := 1) (r := ((((xs.take j).filter (fun p => !pr p)).length + 1 : Nat) : Int)) (OV.tmp 34 _) (OV.const (.int .i64 1) rfl) (.inl ⟨rfl, (by omega)⟩) (i64_id (by omega) (by omega)))] [(0, .t (.c (.own 0 xs.length))), (1, .t (.c (.fn (.func 36) [] []))), (4, .t (.c (.d (.raw nilV)))), (5, vi .i64 ((((xs.take j).filter (fun p => !pr p)).length + 1 : Nat) : Int)), (6, vi .i64 (j : Int))] [(0, .row 47 3 (((((xs.take j).filter (fun p => !pr p)) ++ G ++ xs.drop j).set ((xs.take j).filter (fun p => !pr p)).length x).map Part.d))] (by kernel_rfl) h ?_; clear h; intro a w h
            refine block_n ?_
            refine then_n ?_
            refine rS tk_ok 2 [(1, .add .i64 (m := (j : Int)) (n := 1) (i64_id (by omega) (by omega)))] [(0, .t (.c (.own 0 xs.length))), (1, .t (.c (.fn (.func 36) [] []))), (4, .t (.c (.d (.raw nilV)))), (5, vi .i64 ((((xs.take j).filter (fun p => !pr p)).length + 1 : Nat) : Int)), (6, vi .i64 ((j : Int) + 1))] [(0, .row 47 3 (((((xs.take j).filter (fun p => !pr p)) ++ G ++ xs.drop j).set ((xs.take j).filter (fun p => !pr p)).length x).map Part.d))] (by kernel_rfl) h ?_; clear h; intro a w h
            refine then_n ?_
            have hp : pr x = false := (by simpa using hc2)
            replace h := h.conv (f' := F.of [(0, .t (.c (.own 0 xs.length))), (1, .t (.c (.fn (.func 36) [] []))), (4, .t (.c (.d (.raw nilV)))), (5, vi .i64 (((xs.take (j + 1)).filter (fun p => !pr p)).length : Int)), (6, vi .i64 ((j : Int) + 1))] [(0, .row 47 3 (((((xs.take j).filter (fun p => !pr p)) ++ G ++ xs.drop j).set ((xs.take j).filter (fun p => !pr p)).length x).map Part.d))]) (by rw [← filt_len hx hp])
            replace h := h.conv (f' := F.of [(0, .t (.c (.own 0 xs.length))), (1, .t (.c (.fn (.func 36) [] []))), (4, .t (.c (.d (.raw nilV)))), (5, vi .i64 (((xs.take (j + 1)).filter (fun p => !pr p)).length : Int)), (6, vi .i64 ((j : Int) + 1))] [(0, .row 47 3 ((((xs.take (j + 1)).filter (fun p => !pr p)) ++ (G.tail ++ [x]) ++ xs.drop (j + 1)).map Part.d))]) (congrArg (fun (z_ : List Part) => F.of [(0, .t (.c (.own 0 xs.length))), (1, .t (.c (.fn (.func 36) [] []))), (4, .t (.c (.d (.raw nilV)))), (5, vi .i64 (((xs.take (j + 1)).filter (fun p => !pr p)).length : Int)), (6, vi .i64 ((j : Int) + 1))] [(0, .row 47 3 (z_.map Part.d))]) (show (((((xs.take j).filter (fun p => !pr p)) ++ G ++ xs.drop j).set ((xs.take j).filter (fun p => !pr p)).length x) : List Part) = (((xs.take (j + 1)).filter (fun p => !pr p)) ++ (G.tail ++ [x]) ++ xs.drop (j + 1)) from del_keep hx hp hI3))
            refine roundS (x := (j, G)) (y := ((j + 1), (G.tail ++ [x]))) h ?_ ?_ (by kernel_rfl) (by kernel_rfl)
            · exact ⟨by have := at_lt hx; omega, by rw [← filt_len hx hp, List.length_append, List.length_tail]; simp only [List.length_cons, List.length_nil]; omega, by rw [List.length_append]; simp only [List.length_cons, List.length_nil]; omega⟩
            · show xs.length - (j + 1) < xs.length - j
              have := at_lt hx; omega
          · have hc3 := hc; clear hc
            have hc3' := hc3; (try simp at hc3')
            refine wp_skip ?_
            refine block_n ?_
            refine then_n ?_
            refine rS tk_ok 2 [(1, .add .i64 (m := (j : Int)) (n := 1) (i64_id (by omega) (by omega)))] [(0, .t (.c (.own 0 xs.length))), (1, .t (.c (.fn (.func 36) [] []))), (4, .t (.c (.d (.raw nilV)))), (5, vi .i64 (((xs.take j).filter (fun p => !pr p)).length : Int)), (6, vi .i64 ((j : Int) + 1))] [(0, .row 47 3 ((((xs.take j).filter (fun p => !pr p)) ++ G ++ xs.drop j).map Part.d))] (by kernel_rfl) h ?_; clear h; intro a w h
            refine then_n ?_
            have hp : pr x = true := (by simpa using hc3)
            replace h := h.conv (f' := F.of [(0, .t (.c (.own 0 xs.length))), (1, .t (.c (.fn (.func 36) [] []))), (4, .t (.c (.d (.raw nilV)))), (5, vi .i64 (((xs.take (j + 1)).filter (fun p => !pr p)).length : Int)), (6, vi .i64 ((j : Int) + 1))] [(0, .row 47 3 ((((xs.take j).filter (fun p => !pr p)) ++ G ++ xs.drop j).map Part.d))]) (by rw [← filt_len0 hx hp])
            replace h := h.conv (f' := F.of [(0, .t (.c (.own 0 xs.length))), (1, .t (.c (.fn (.func 36) [] []))), (4, .t (.c (.d (.raw nilV)))), (5, vi .i64 (((xs.take (j + 1)).filter (fun p => !pr p)).length : Int)), (6, vi .i64 ((j : Int) + 1))] [(0, .row 47 3 ((((xs.take (j + 1)).filter (fun p => !pr p)) ++ (G ++ [x]) ++ xs.drop (j + 1)).map Part.d))]) (congrArg (fun (z_ : List Part) => F.of [(0, .t (.c (.own 0 xs.length))), (1, .t (.c (.fn (.func 36) [] []))), (4, .t (.c (.d (.raw nilV)))), (5, vi .i64 (((xs.take (j + 1)).filter (fun p => !pr p)).length : Int)), (6, vi .i64 ((j : Int) + 1))] [(0, .row 47 3 (z_.map Part.d))]) (show ((((xs.take j).filter (fun p => !pr p)) ++ G ++ xs.drop j) : List Part) = (((xs.take (j + 1)).filter (fun p => !pr p)) ++ (G ++ [x]) ++ xs.drop (j + 1)) from del_skip hx hp))
            refine roundS (x := (j, G)) (y := ((j + 1), (G ++ [x]))) h ?_ ?_ (by kernel_rfl) (by kernel_rfl)
            · exact ⟨by have := at_lt hx; omega, by rw [← filt_len0 hx hp, List.length_append]; simp only [List.length_cons, List.length_nil]; omega, by rw [List.length_append]; simp only [List.length_cons, List.length_nil]; omega⟩
            · show xs.length - (j + 1) < xs.length - j
              have := at_lt hx; omega
        · have hc4 := hc; clear hc
          have hc4' := of_decide_eq_false hc4
          refine wp_exit ?_
          refine then_x ?_
          refine then_x ?_
          refine inBlock_exit ?_
          refine then_n ?_
          have hj : j = xs.length := by omega
          have hF : ((xs.take j).filter (fun p => !pr p)) = (xs.filter (fun p => !pr p)) := by rw [hj, List.take_length]
          refine rSeq tk_ok 2 [(2, .gen _ _ _ fun _ _ _ _ => Op.sliceLo (d := 38) (t := 36) (k := .i64) (n := 0) (len := xs.length) (l := ((xs.take j).filter (fun p => !pr p)).length) (rows := (((xs.take j).filter (fun p => !pr p)) ++ G ++ xs.drop j).map Part.d) (rty := 47) tk_0 (by first | omega | (simp only [List.length_map, List.length_append, List.length_drop]; omega)) (OV.tmp 37 _) (by first | omega | (simp at *; omega)) rfl), (3, .gen _ _ _ fun _ _ _ _ => Op.clearCut' (rows' := ((xs.take j).filter (fun p => !pr p)).map Part.d) (o := none) (t := 38) (n := 0) (off := ((xs.take j).filter (fun p => !pr p)).length * 3) (len := (xs.length - ((xs.take j).filter (fun p => !pr p)).length)) (l := ((xs.take j).filter (fun p => !pr p)).length) (es := 3) (rows := (((xs.take j).filter (fun p => !pr p)) ++ G ++ xs.drop j).map Part.d) (rty := 47) (zs := [.d (.raw (.int .i64 0)), .d (.raw (.bool false)), .d (nsl [])]) tk_0.hu tk_4 rfl rfl (by first | omega | (simp only [List.length_map, List.length_append, List.length_drop]; omega)) _ rfl (by simp [List.map_append, List.take_append]))] [(0, .t (.c (.own 0 xs.length))), (4, .t (.c (.d (.raw nilV)))), (5, vi .i64 (((xs.take j).filter (fun p => !pr p)).length : Int))] [(0, .row 47 3 (((xs.take j).filter (fun p => !pr p)).map Part.d))] (by kernel_rfl) h ?_; clear h; intro a w h
          refine rSeq tk_ok 2 [(2, .gen _ _ _ fun _ _ _ _ => Op.sliceHi (d := 41) (t := 39) (k := .i64) (n := 0) (len := xs.length) (h := ((xs.take j).filter (fun p => !pr p)).length) (rows := ((xs.take j).filter (fun p => !pr p)).map Part.d) (rty := 47) tk_0 (by first | omega | (simp only [List.length_map, List.length_append, List.length_drop]; omega)) (OV.tmp 40 _))] [(4, .t (.c (.own 0 ((xs.take j).filter (fun p => !pr p)).length)))] [(0, .row 47 3 (((xs.take j).filter (fun p => !pr p)).map Part.d))] (by kernel_rfl) h ?_; clear h; intro a w h
          refine wp_ret ?_
          replace h := h.conv (f' := F.of [(4, .t (.c (.own 0 (xs.filter (fun p => !pr p)).length)))] [(0, .row 47 3 (((xs.take j).filter (fun p => !pr p)).map Part.d))]) (by rw [hF])
          replace h := h.conv (f' := F.of [(4, .t (.c (.own 0 (xs.filter (fun p => !pr p)).length)))] [(0, .row 47 3 ((xs.filter (fun p => !pr p)).map Part.d))]) (congrArg (fun (z_ : List Part) => F.of [(4, .t (.c (.own 0 (xs.filter (fun p => !pr p)).length)))] [(0, .row 47 3 (z_.map Part.d))]) (show (((xs.take j).filter (fun p => !pr p)) : List Part) = (xs.filter (fun p => !pr p)) from hF))
          refine retS [.c (.own 0 (xs.filter (fun p => !pr p)).length)] h Exit.ret (.inl rfl)  rfl ⟨RV.tmp _ _ rfl, trivial⟩ ?_ (by kernel_rfl) (by kernel_rfl)
          rfl
end Go.Proofs.Ytekhnajfdaknnaa.S
