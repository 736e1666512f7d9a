/-
  Parts of a row change places.
-/
import Derived.Test.YtekhnajfdaknnaaTe
namespace Go.Proofs.Ytekhnajfdaknnaa.S
open Go.RowKit

theorem tf_0 : SlT Try.prog 22 47 3 := SlT.mk' Try.underlying22 (by kernel_rfl)
theorem tf_1 : Sz Try.prog 47 3 true := Sz.mk' (by kernel_rfl) Try.underlying47 _ rfl
def tf_tb : Tb := [(3, ⟨1, false, [], [.d (.raw (.int .i64 0))], 13⟩), (4, ⟨1, false, [], [.d (.raw (.bool false))], 3⟩), (24, ⟨1, false, [], [.d (nsl [])], 1⟩), (26, ⟨2, true, [(0, 1, false), (1, 1, false)], [.d (.raw (.bool false)), .d (nsl [])], 0⟩), (47, ⟨3, true, [(0, 1, false), (1, 2, true)], [.d (.raw (.int .i64 0)), .d (.raw (.bool false)), .d (nsl [])], 0⟩)]
theorem tf_ok : TbOk Try.prog tf_tb := ⟨TyOk.int Try.underlying3 rfl (by kernel_rfl) ⟨(.int .i64 0 : Value), [.int .i64 0], by kernel_rfl, rfl, (fun _ _ => ⟨DR.raw _ rfl, trivial⟩)⟩,
  TyOk.bl Try.underlying4 (by kernel_rfl) ⟨(.bool false : Value), [.bool false], by kernel_rfl, rfl, (fun _ _ => ⟨DR.raw _ rfl, trivial⟩)⟩,
  TyOk.slc Try.underlying24 (by kernel_rfl) ⟨(.slice none 0 0 : Value), [.slice none 0 0], by kernel_rfl, rfl, (fun _ _ => ⟨DR.nil _ _ _ (fun _ => rfl) (Nat.zero_le _), trivial⟩)⟩,
  TyOk.st Try.underlying26 (by kernel_rfl) ⟨⟨by decide, Fd.mk' _ _ Try.underlying26 rfl rfl (Sz.mk' (by kernel_rfl) Try.underlying4 _ rfl)⟩, ⟨by decide, Fd.mk' _ _ Try.underlying26 rfl rfl (Sz.mk' (by kernel_rfl) Try.underlying24 _ rfl)⟩, trivial⟩ ⟨(Value.agg #[.bool false, .slice none 0 0]), [.bool false, .slice none 0 0], by kernel_rfl, rfl, (fun _ _ => ⟨DR.raw _ rfl, DR.nil _ _ _ (fun _ => rfl) (Nat.zero_le _), trivial⟩)⟩ ⟨_, Try.underlying26, ⟨⟨rfl, by kernel_rfl⟩, ⟨rfl, by kernel_rfl⟩, trivial⟩⟩,
  TyOk.st Try.underlying47 (by kernel_rfl) ⟨⟨by decide, Fd.mk' _ _ Try.underlying47 rfl rfl (Sz.mk' (by kernel_rfl) Try.underlying3 _ rfl)⟩, ⟨by decide, Fd.mk' _ _ Try.underlying47 rfl rfl (Sz.mk' (by kernel_rfl) Try.underlying26 _ rfl)⟩, trivial⟩ ⟨(Value.agg #[.int .i64 0, .bool false, .slice none 0 0]), [.int .i64 0, .bool false, .slice none 0 0], by kernel_rfl, rfl, (fun _ _ => ⟨DR.raw _ rfl, DR.raw _ rfl, DR.nil _ _ _ (fun _ => rfl) (Nat.zero_le _), trivial⟩)⟩ ⟨_, Try.underlying47, ⟨⟨rfl, by kernel_rfl⟩, ⟨rfl, by kernel_rfl⟩, trivial⟩⟩,
  trivial⟩
/-- two parts of a row that change places, element by element -/
def SwI (pre X mid Y post : List Part) (i : Nat) (ys : List Part) : Prop := i ≤ X.length ∧ ys = pre ++ (Y.take i ++ X.drop i) ++ mid ++ (X.take i ++ Y.drop i) ++ post
theorem sw_len {pre X mid Y post : List Part} {i : Nat} {ys : List Part} (h : SwI pre X mid Y post i ys) (hn : X.length = Y.length) : ys.length = pre.length + X.length + mid.length + Y.length + post.length := by
  obtain ⟨h1, rfl⟩ := h
  simp only [List.length_append, List.length_take, List.length_drop]; omega
theorem sw_step {pre X mid Y post : List Part} {i : Nat} {ys : List Part} {x1 x2 : Part} (h : SwI pre X mid Y post i ys) (hn : X.length = Y.length) (hi : i < X.length) (h1 : ys[pre.length + i]? = some x1) (h2 : ys[pre.length + X.length + mid.length + i]? = some x2) :
    SwI pre X mid Y post (i + 1) ((ys.set (pre.length + i) x2).set (pre.length + X.length + mid.length + i) x1) := by
  obtain ⟨_, rfl⟩ := h
  have hy : i < Y.length := by omega
  have ex := List.drop_eq_getElem_cons hi
  have ey := List.drop_eq_getElem_cons hy
  have tx : X.take (i + 1) = X.take i ++ [X[i]] := by rw [List.take_add_one, List.getElem?_eq_getElem hi]; rfl
  have ty : Y.take (i + 1) = Y.take i ++ [Y[i]] := by rw [List.take_add_one, List.getElem?_eq_getElem hy]; rfl
  have hys : pre ++ (Y.take i ++ X.drop i) ++ mid ++ (X.take i ++ Y.drop i) ++ post = (pre ++ Y.take i) ++ X[i] :: ((X.drop (i + 1) ++ mid ++ X.take i) ++ Y[i] :: (Y.drop (i + 1) ++ post)) := by
    simp only [ex, ey, List.append_assoc, List.cons_append]
  have l1 : pre.length + i = (pre ++ Y.take i).length := by simp only [List.length_append, List.length_take]; omega
  have l2 : pre.length + X.length + mid.length + i = (pre ++ Y.take i).length + ((X.drop (i + 1) ++ mid ++ X.take i).length + 1) := by simp only [List.length_append, List.length_take, List.length_drop]; omega
  rw [hys] at h1 h2 ⊢
  have e1 : x1 = X[i] := by rw [mid_at _ l1] at h1; injection h1 with h1; exact h1.symm
  have e2 : x2 = Y[i] := by
    rw [l2, List.getElem?_append_right (by omega), Nat.add_sub_cancel_left, List.getElem?_cons_succ, mid_at _ rfl] at h2
    injection h2 with h2; exact h2.symm
  subst e1 e2
  refine ⟨by omega, ?_⟩
  rw [l1, List.set_append_right _ _ (Nat.le_refl _), Nat.sub_self, List.set_cons_zero, l2, List.set_append_right _ _ (by omega), Nat.add_sub_cancel_left, List.set_cons_succ, List.set_append_right _ _ (Nat.le_refl _), Nat.sub_self, List.set_cons_zero, tx, ty]
  simp only [List.append_assoc, List.cons_append, List.nil_append]
set_option maxRecDepth 100000 in
theorem Sswaprange (pre X mid Y post : List Part) (hn : X.length = Y.length) (hl : (pre ++ X ++ mid ++ Y ++ post).length ≤ 1000000) : Fn Try.prog 84 [(0, .row 47 3 ((pre ++ X ++ mid ++ Y ++ post).map Part.d))] [.t (.c (.own 0 (pre ++ X ++ mid ++ Y ++ post).length)), vi .i64 (pre.length : Int), vi .i64 ((pre.length + X.length + mid.length : Nat) : Int), vi .i64 (X.length : Int), .t (.c (.fn (.func 31) [] []))] (.tup []) [(0, .row 47 3 ((pre ++ Y ++ mid ++ X ++ post).map Part.d))] := by
  have hlen : (pre ++ X ++ mid ++ Y ++ post).length = pre.length + X.length + mid.length + Y.length + post.length := by simp; omega
  refine Fn.body Try.func84 rfl 38 rfl fun w H B a h => ?_
  refine rSeq tf_ok 1 [] [(0, .t (.c (.own 0 (pre ++ X ++ mid ++ Y ++ post).length))), (1, vi .i64 (pre.length : Int)), (2, vi .i64 ((pre.length + X.length + mid.length : Nat) : Int)), (3, vi .i64 (X.length : Int)), (10, vi .i64 0)] [(0, .row 47 3 ((pre ++ X ++ mid ++ Y ++ post).map Part.d))] (by kernel_rfl) h ?_; clear h; intro a w h
  refine wp_block ?_
  refine loopS (ι := (Nat) × (List Part)) (fun (z_ : (Nat) × (List Part)) => match z_ with | (i, ys) => SwI pre X mid Y post i ys)
      (fun (z_ : (Nat) × (List Part)) => match z_ with | (i, ys) => [(0, .t (.c (.own 0 (pre ++ X ++ mid ++ Y ++ post).length))), (1, vi .i64 (pre.length : Int)), (2, vi .i64 ((pre.length + X.length + mid.length : Nat) : Int)), (3, vi .i64 (X.length : Int)), (10, vi .i64 (i : Int))])
      (fun (z_ : (Nat) × (List Part)) => match z_ with | (i, ys) => [(0, .row 47 3 (ys.map Part.d))])
      (fun (z_ : (Nat) × (List Part)) => match z_ with | (i, ys) => X.length - i) (0, (pre ++ X ++ mid ++ Y ++ post)) ?_ h (by kernel_rfl) (by kernel_rfl) ?_
  · exact ⟨Nat.zero_le _, by simp⟩
  · clear h; rintro ⟨i, ys⟩ a w hI h
    change St _ (F.of [(0, .t (.c (.own 0 (pre ++ X ++ mid ++ Y ++ post).length))), (1, vi .i64 (pre.length : Int)), (2, vi .i64 ((pre.length + X.length + mid.length : Nat) : Int)), (3, vi .i64 (X.length : Int)), (10, vi .i64 (i : Int))] [(0, .row 47 3 (ys.map Part.d))]) a w at h
    have hly := sw_len hI hn
    refine wp_seq ?_
    refine rSeq tf_ok 1 [] [(0, .t (.c (.own 0 (pre ++ X ++ mid ++ Y ++ post).length))), (1, vi .i64 (pre.length : Int)), (2, vi .i64 ((pre.length + X.length + mid.length : Nat) : Int)), (3, vi .i64 (X.length : Int)), (10, vi .i64 (i : Int)), (13, vb (decide ((i : Int) < (X.length : Int))))] [(0, .row 47 3 (ys.map Part.d))] (by kernel_rfl) h ?_; clear h; intro a w h
    refine condS (decide ((i : Int) < (X.length : Int))) h rfl (fun hc => ?_) (fun hc => ?_)
    · have hc1 := hc; clear hc
      have hc1' := of_decide_eq_true hc1
      refine wp_skip ?_
      refine then_n ?_
      refine wp_seq ?_
      refine wp_block ?_
      obtain ⟨x1, hx1⟩ : ∃ z_ : Part, ys[pre.length + X.length + mid.length + i]? = some z_ := ⟨_, List.getElem?_eq_getElem (by first | omega | (simp at *; omega))⟩
      obtain ⟨x2, hx2⟩ : ∃ z_ : Part, ys[pre.length + i]? = some z_ := ⟨_, List.getElem?_eq_getElem (by first | omega | (simp at *; omega))⟩
      refine rS tf_ok 1 [(3, .gen _ _ _ fun _ _ _ _ => Op.arith (op := .add) (d := 19) (xt := 3) (yt := 3) (k := .i64) (m := (pre.length : Int)) (n := (i : Int)) (r := ((pre.length + i : Nat) : Int)) (OV.tmp 17 _) (OV.tmp 18 _) (.inl ⟨rfl, (by omega)⟩) (i64_id (by omega) (by omega))), (7, .gen _ _ _ fun _ _ _ _ => Op.arith (op := .add) (d := 23) (xt := 3) (yt := 3) (k := .i64) (m := ((pre.length + X.length + mid.length : Nat) : Int)) (n := (i : Int)) (r := ((pre.length + X.length + mid.length + i : Nat) : Int)) (OV.tmp 21 _) (OV.tmp 22 _) (.inl ⟨rfl, (by omega)⟩) (i64_id (by omega) (by omega))), (11, .gen _ _ _ fun _ _ _ _ => Op.arith (op := .add) (d := 27) (xt := 3) (yt := 3) (k := .i64) (m := ((pre.length + X.length + mid.length : Nat) : Int)) (n := (i : Int)) (r := ((pre.length + X.length + mid.length + i : Nat) : Int)) (OV.tmp 25 _) (OV.tmp 26 _) (.inl ⟨rfl, (by omega)⟩) (i64_id (by omega) (by omega))), (12, .gen _ _ _ fun _ _ _ _ => Op.idxO (d := 28) (t := 24) (k := .i64) (n := 0) (len := (pre ++ X ++ mid ++ Y ++ post).length) (i := (pre.length + X.length + mid.length + i)) tf_0 (by first | omega | (simp at *; omega)) (OV.tmp 27 _)), (13, .gen _ _ _ fun _ _ _ _ => Op.loadR_agg (d := 29) (t := 28) (n := 0) (i := (pre.length + X.length + mid.length + i)) (fo := 0) (rty := 47) (es := 3) (xs := [.raw (.int .i64 x1.v), .raw (.bool x1.c.neg), nsl x1.c.abs]) tf_1 rfl (map_at hx1 (f := Part.d)) rfl rfl), (17, .gen _ _ _ fun _ _ _ _ => Op.arith (op := .add) (d := 33) (xt := 3) (yt := 3) (k := .i64) (m := (pre.length : Int)) (n := (i : Int)) (r := ((pre.length + i : Nat) : Int)) (OV.tmp 31 _) (OV.tmp 32 _) (.inl ⟨rfl, (by omega)⟩) (i64_id (by omega) (by omega))), (18, .gen _ _ _ fun _ _ _ _ => Op.idxO (d := 34) (t := 30) (k := .i64) (n := 0) (len := (pre ++ X ++ mid ++ Y ++ post).length) (i := (pre.length + i)) tf_0 (by first | omega | (simp at *; omega)) (OV.tmp 33 _)), (19, .gen _ _ _ fun _ _ _ _ => Op.loadR_agg (d := 35) (t := 34) (n := 0) (i := (pre.length + i)) (fo := 0) (rty := 47) (es := 3) (xs := [.raw (.int .i64 x2.v), .raw (.bool x2.c.neg), nsl x2.c.abs]) tf_1 rfl (map_at hx2 (f := Part.d)) rfl rfl), (20, .gen _ _ _ fun _ _ _ _ => Op.idxO (d := 36) (t := 16) (k := .i64) (n := 0) (len := (pre ++ X ++ mid ++ Y ++ post).length) (i := (pre.length + i)) tf_0 (by first | omega | (simp at *; omega)) (OV.tmp 19 _)), (21, .gen _ _ _ fun _ _ _ _ => Op.storeR (t := 36) (n := 0) (i := (pre.length + i)) (fo := 0) (rty := 47) (es := 3) (r := Part.d x2) (ds := [.raw (.int .i64 x1.v), .raw (.bool x1.c.neg), nsl x1.c.abs]) (rs := [(29, .t (.agg ([.d (.raw (.int .i64 x1.v))] ++ zi x1.c)))]) (rows := ys.map Part.d) (rows' := (ys.set (pre.length + i) x1).map Part.d) tf_1 (OV.tmp 29 _) rfl rfl rfl (map_at hx2 (f := Part.d)) (by simp [Part.d]) (set_map (xs := ys) (F := Part.d) (pre.length + i) _ _ rfl)), (22, .gen _ _ _ fun _ _ _ _ => Op.idxO (d := 37) (t := 20) (k := .i64) (n := 0) (len := (pre ++ X ++ mid ++ Y ++ post).length) (i := (pre.length + X.length + mid.length + i)) tf_0 (by first | omega | (simp at *; omega)) (OV.tmp 23 _)), (23, .gen _ _ _ fun _ _ _ _ => Op.storeR (t := 37) (n := 0) (i := (pre.length + X.length + mid.length + i)) (fo := 0) (rty := 47) (es := 3) (r := Part.d x1) (ds := [.raw (.int .i64 x2.v), .raw (.bool x2.c.neg), nsl x2.c.abs]) (rs := [(35, .t (.agg ([.d (.raw (.int .i64 x2.v))] ++ zi x2.c)))]) (rows := (ys.set (pre.length + i) x1).map Part.d) (rows' := ((ys.set (pre.length + i) x1).set (pre.length + X.length + mid.length + i) x2).map Part.d) tf_1 (OV.tmp 35 _) rfl rfl rfl (map_at ((List.getElem?_set_ne (by omega)).trans hx1) (f := Part.d)) (by simp [Part.d]) (set_map (xs := (ys.set (pre.length + i) x1)) (F := Part.d) (pre.length + X.length + mid.length + i) _ _ rfl))] [(0, .t (.c (.own 0 (pre ++ X ++ mid ++ Y ++ post).length))), (1, vi .i64 (pre.length : Int)), (2, vi .i64 ((pre.length + X.length + mid.length : Nat) : Int)), (3, vi .i64 (X.length : Int)), (10, vi .i64 (i : Int))] [(0, .row 47 3 (((ys.set (pre.length + i) x1).set (pre.length + X.length + mid.length + i) x2).map Part.d))] (by kernel_rfl) h ?_; clear h; intro a w h
      refine block_n ?_
      refine then_n ?_
      refine rS tf_ok 1 [(1, .add .i64 (m := (i : Int)) (n := 1) (i64_id (by omega) (by omega)))] [(0, .t (.c (.own 0 (pre ++ X ++ mid ++ Y ++ post).length))), (1, vi .i64 (pre.length : Int)), (2, vi .i64 ((pre.length + X.length + mid.length : Nat) : Int)), (3, vi .i64 (X.length : Int)), (10, vi .i64 ((i : Int) + 1))] [(0, .row 47 3 (((ys.set (pre.length + i) x1).set (pre.length + X.length + mid.length + i) x2).map Part.d))] (by kernel_rfl) h ?_; clear h; intro a w h
      refine then_n ?_
      refine roundS (x := (i, ys)) (y := (i + 1, ((ys.set (pre.length + i) x1).set (pre.length + X.length + mid.length + i) x2))) h ?_ ?_ (by kernel_rfl) (by kernel_rfl)
      · exact sw_step hI hn (by omega) hx2 hx1
      · show X.length - (i + 1) < X.length - i; omega
    · have hc2 := hc; clear hc
      have hc2' := of_decide_eq_false hc2
      refine wp_exit ?_
      refine then_x ?_
      refine then_x ?_
      refine inBlock_exit ?_
      have hxs : ys = (pre ++ Y ++ mid ++ X ++ post) := by
        obtain ⟨g1, g2⟩ := hI
        have hk : i = X.length := by omega
        rw [g2, hk, List.take_of_length_le (Nat.le_refl _), List.drop_of_length_le (Nat.le_refl _), List.take_of_length_le (by omega), List.drop_of_length_le (by omega)]; simp
      rw [hxs] at h
      refine retS [] h Exit.normal (.inr rfl)  rfl trivial ?_ (by kernel_rfl) (by kernel_rfl)
      rfl
end Go.Proofs.Ytekhnajfdaknnaa.S
