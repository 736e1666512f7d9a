/-
  Two parts of a row change places.
-/
import Derived.Test.YtekhnajfdaknnaaTf
namespace Go.Proofs.Ytekhnajfdaknnaa.S
open Go.RowKit

theorem tg_0 : Bodied Try.prog 84 := Bodied.mk' (by kernel_rfl)
def tg_tb : Tb := []
theorem tg_ok : TbOk Try.prog tg_tb := trivial
theorem Sswap2 {r0 r1 : List Part} {ln : Nat} {ia ib ic : Int} (pre X mid Y post : List Part) (e0 : r0 = pre ++ X ++ mid ++ Y ++ post) (e1 : r1 = pre ++ Y ++ mid ++ X ++ post) (el : ln = r0.length) (ea : ia = (pre.length : Int)) (eb : ib = ((pre.length + X.length + mid.length : Nat) : Int)) (ec : ic = (X.length : Int)) (hn : X.length = Y.length) (hl : r0.length ≤ 1000000) :
    Fn Try.prog 84 [(0, .row 47 3 (r0.map Part.d))] [.t (.c (.own 0 ln)), vi .i64 ia, vi .i64 ib, vi .i64 ic, .t (.c (.fn (.func 31) [] []))] (.tup []) [(0, .row 47 3 (r1.map Part.d))] := by
  subst el e0 e1 ea eb ec
  exact Sswaprange pre X mid Y post hn hl
structure RotI (X Y D1 X1 Y1 D2 : List Part) : Prop where
  eq : D1 ++ Y1 ++ X1 ++ D2 = Y ++ X
  l1 : D1.length + X1.length = X.length
  l2 : Y1.length + D2.length = Y.length
  p1 : 0 < X1.length
  p2 : 0 < Y1.length
theorem split_at {l : List Part} {n : Nat} (h : n ≤ l.length) : ∃ u v, l = u ++ v ∧ u.length = n := ⟨l.take n, l.drop n, (List.take_append_drop _ _).symm, by rw [List.length_take]; omega⟩
set_option maxRecDepth 100000 in
theorem Srotate (pre X Y post : List Part) (hX : 0 < X.length) (hY : 0 < Y.length) (hl : pre.length + X.length + Y.length + post.length ≤ 1000000) : Fn Try.prog 80 [(0, .row 47 3 ((pre ++ X ++ Y ++ post).map Part.d))] [.t (.c (.own 0 (pre.length + X.length + Y.length + post.length))), vi .i64 (pre.length : Int), vi .i64 ((pre.length + X.length : Nat) : Int), vi .i64 ((pre.length + X.length + Y.length : Nat) : Int), .t (.c (.fn (.func 31) [] []))] (.tup []) [(0, .row 47 3 ((pre ++ (Y ++ X) ++ post).map Part.d))] := by
  refine Fn.body Try.func80 rfl 58 rfl fun w H B a h => ?_
  refine rSeq tg_ok 1 [(2, .gen _ _ _ fun _ _ _ _ => Op.arith (op := .sub) (d := 14) (xt := 3) (yt := 3) (k := .i64) (m := ((pre.length + X.length : Nat) : Int)) (n := (pre.length : Int)) (r := (X.length : Int)) (OV.tmp 12 _) (OV.tmp 13 _) (.inr (.inl ⟨rfl, (by omega)⟩)) (i64_id (by omega) (by omega)))] [(0, .t (.c (.own 0 (pre.length + X.length + Y.length + post.length)))), (2, vi .i64 ((pre.length + X.length : Nat) : Int)), (3, vi .i64 ((pre.length + X.length + Y.length : Nat) : Int)), (4, .t (.c (.fn (.func 31) [] []))), (10, vi .i64 (X.length : Int))] [(0, .row 47 3 ((pre ++ X ++ Y ++ post).map Part.d))] (by kernel_rfl) h ?_; clear h; intro a w h
  replace h := h.conv (f' := F.of [(0, .t (.c (.own 0 (pre.length + X.length + Y.length + post.length)))), (2, vi .i64 ((pre.length + X.length : Nat) : Int)), (3, vi .i64 ((pre.length + X.length + Y.length : Nat) : Int)), (4, .t (.c (.fn (.func 31) [] []))), (10, vi .i64 (X.length : Int))] [(0, .row 47 3 ((pre ++ [] ++ X ++ Y ++ [] ++ post).map Part.d))]) (by rw [show (pre ++ X ++ Y ++ post : List Part) = pre ++ [] ++ X ++ Y ++ [] ++ post by simp])
  refine rSeq tg_ok 1 [(2, .gen _ _ _ fun _ _ _ _ => Op.arith (op := .sub) (d := 17) (xt := 3) (yt := 3) (k := .i64) (m := ((pre.length + X.length + Y.length : Nat) : Int)) (n := ((pre.length + X.length : Nat) : Int)) (r := (Y.length : Int)) (OV.tmp 15 _) (OV.tmp 16 _) (.inr (.inl ⟨rfl, (by omega)⟩)) (i64_id (by omega) (by omega)))] [(0, .t (.c (.own 0 (pre.length + X.length + Y.length + post.length)))), (2, vi .i64 ((pre.length + X.length : Nat) : Int)), (4, .t (.c (.fn (.func 31) [] []))), (10, vi .i64 (X.length : Int)), (11, vi .i64 (Y.length : Int))] [(0, .row 47 3 ((pre ++ [] ++ X ++ Y ++ [] ++ post).map Part.d))] (by kernel_rfl) h ?_; clear h; intro a w h
  refine wp_seq ?_
  refine wp_block ?_
  refine loopS (ι := (List Part) × (List Part) × (List Part) × (List Part)) (fun (z_ : (List Part) × (List Part) × (List Part) × (List Part)) => match z_ with | (D1, X1, Y1, D2) => RotI X Y D1 X1 Y1 D2)
      (fun (z_ : (List Part) × (List Part) × (List Part) × (List Part)) => match z_ with | (D1, X1, Y1, D2) => [(0, .t (.c (.own 0 (pre.length + X.length + Y.length + post.length)))), (2, vi .i64 ((pre.length + X.length : Nat) : Int)), (4, .t (.c (.fn (.func 31) [] []))), (10, vi .i64 (X1.length : Int)), (11, vi .i64 (Y1.length : Int))])
      (fun (z_ : (List Part) × (List Part) × (List Part) × (List Part)) => match z_ with | (D1, X1, Y1, D2) => [(0, .row 47 3 ((pre ++ D1 ++ X1 ++ Y1 ++ D2 ++ post).map Part.d))])
      (fun (z_ : (List Part) × (List Part) × (List Part) × (List Part)) => match z_ with | (D1, X1, Y1, D2) => X1.length + Y1.length) ([], X, Y, []) ?_ h (by kernel_rfl) (by kernel_rfl) ?_
  · exact ⟨by simp, by simp, by simp, hX, hY⟩
  · clear h; rintro ⟨D1, X1, Y1, D2⟩ a w hI h
    change St _ (F.of [(0, .t (.c (.own 0 (pre.length + X.length + Y.length + post.length)))), (2, vi .i64 ((pre.length + X.length : Nat) : Int)), (4, .t (.c (.fn (.func 31) [] []))), (10, vi .i64 (X1.length : Int)), (11, vi .i64 (Y1.length : Int))] [(0, .row 47 3 ((pre ++ D1 ++ X1 ++ Y1 ++ D2 ++ post).map Part.d))]) a w at h
    obtain ⟨q0, q1, q2, q3, q4⟩ := hI
    have hrow : (pre ++ D1 ++ X1 ++ Y1 ++ D2 ++ post).length = pre.length + X.length + Y.length + post.length := by simp only [List.length_append]; omega
    refine wp_seq ?_
    refine rSeq tg_ok 1 [] [(0, .t (.c (.own 0 (pre.length + X.length + Y.length + post.length)))), (2, vi .i64 ((pre.length + X.length : Nat) : Int)), (4, .t (.c (.fn (.func 31) [] []))), (10, vi .i64 (X1.length : Int)), (11, vi .i64 (Y1.length : Int)), (20, vb ((X1.length : Int) != (Y1.length : Int)))] [(0, .row 47 3 ((pre ++ D1 ++ X1 ++ Y1 ++ D2 ++ post).map Part.d))] (by kernel_rfl) h ?_; clear h; intro a w h
    refine condS ((X1.length : Int) != (Y1.length : Int)) h rfl (fun hc => ?_) (fun hc => ?_)
    · have hc1 := hc; clear hc
      have hc1' := hc1; (try simp at hc1')
      refine wp_skip ?_
      refine then_n ?_
      refine wp_block ?_
      refine rSeq tg_ok 1 [] [(0, .t (.c (.own 0 (pre.length + X.length + Y.length + post.length)))), (2, vi .i64 ((pre.length + X.length : Nat) : Int)), (4, .t (.c (.fn (.func 31) [] []))), (10, vi .i64 (X1.length : Int)), (11, vi .i64 (Y1.length : Int)), (23, vb (decide ((X1.length : Int) > (Y1.length : Int))))] [(0, .row 47 3 ((pre ++ D1 ++ X1 ++ Y1 ++ D2 ++ post).map Part.d))] (by kernel_rfl) h ?_; clear h; intro a w h
      refine condS (decide ((X1.length : Int) > (Y1.length : Int))) h rfl (fun hc => ?_) (fun hc => ?_)
      · have hc2 := hc; clear hc
        have hc2' := of_decide_eq_true hc2
        obtain ⟨Xa, Xb, hs1, hs2⟩ := split_at (l := X1) (n := Y1.length) (by omega)
        have hxl : X1.length = Xa.length + Xb.length := by rw [hs1, List.length_append]
        refine rSeq tg_ok 1 [(3, .gen _ _ _ fun _ _ _ _ => Op.arith (op := .sub) (d := 27) (xt := 3) (yt := 3) (k := .i64) (m := ((pre.length + X.length : Nat) : Int)) (n := (X1.length : Int)) (r := ((pre.length + D1.length : Nat) : Int)) (OV.tmp 25 _) (OV.tmp 26 _) (.inr (.inl ⟨rfl, (by omega)⟩)) (i64_id (by omega) (by omega))), (7, .call (Sswap2 (ln := (pre.length + X.length + Y.length + post.length)) (ia := ((pre.length + D1.length : Nat) : Int)) (ib := ((pre.length + X.length : Nat) : Int)) (ic := (Y1.length : Int)) (r0 := (pre ++ D1 ++ X1 ++ Y1 ++ D2 ++ post)) (r1 := (pre ++ (D1 ++ Y1) ++ Xb ++ Xa ++ D2 ++ post)) (pre ++ D1) Xa Xb Y1 (D2 ++ post) (by rw [hs1]; simp only [List.append_assoc]) (by first | (simp only [List.append_assoc]; done) | simp only [List.append_assoc, List.nil_append]) (by first | exact hrow.symm | omega) (by first | omega | (simp only [List.length_append]; omega) | (simp only [List.length_append, List.length_nil]; omega) | simp only [List.length_append]) (by first | omega | (simp only [List.length_append]; omega) | (simp only [List.length_append, List.length_nil]; omega) | simp only [List.length_append]) (by omega) (by omega) (by omega)) tg_0)] [(0, .t (.c (.own 0 (pre.length + X.length + Y.length + post.length)))), (2, vi .i64 ((pre.length + X.length : Nat) : Int)), (4, .t (.c (.fn (.func 31) [] []))), (10, vi .i64 (X1.length : Int)), (11, vi .i64 (Y1.length : Int))] [(0, .row 47 3 ((pre ++ (D1 ++ Y1) ++ Xb ++ Xa ++ D2 ++ post).map Part.d))] (by kernel_rfl) h ?_; clear h; intro a w h
        refine rS tg_ok 1 [(2, .gen _ _ _ fun _ _ _ _ => Op.arith (op := .sub) (d := 34) (xt := 3) (yt := 3) (k := .i64) (m := (X1.length : Int)) (n := (Y1.length : Int)) (r := (Xb.length : Int)) (OV.tmp 32 _) (OV.tmp 33 _) (.inr (.inl ⟨rfl, (by omega)⟩)) (i64_id (by omega) (by omega)))] [(0, .t (.c (.own 0 (pre.length + X.length + Y.length + post.length)))), (2, vi .i64 ((pre.length + X.length : Nat) : Int)), (4, .t (.c (.fn (.func 31) [] []))), (10, vi .i64 (Xb.length : Int)), (11, vi .i64 (Y1.length : Int))] [(0, .row 47 3 ((pre ++ (D1 ++ Y1) ++ Xb ++ Xa ++ D2 ++ post).map Part.d))] (by kernel_rfl) h ?_; clear h; intro a w h
        refine block_n ?_
        refine then_n ?_
        rw [← hs2] at h
        refine roundS (x := (D1, X1, Y1, D2)) (y := ((D1 ++ Y1), Xb, Xa, D2)) h ?_ ?_ (by kernel_rfl) (by kernel_rfl)
        · exact ⟨by rw [← q0, hs1]; simp only [List.append_assoc], by simp only [List.length_append]; omega, by omega, by omega, by omega⟩
        · show Xb.length + Xa.length < X1.length + Y1.length
          omega
      · have hc3 := hc; clear hc
        have hc3' := of_decide_eq_false hc3
        obtain ⟨Ya, Yb, hs1, hs3⟩ := split_at (l := Y1) (n := Y1.length - X1.length) (by omega)
        have hs2 : Yb.length = X1.length := by have := congrArg List.length hs1; simp only [List.length_append] at this; omega
        have hxl : Y1.length = Ya.length + Yb.length := by rw [hs1, List.length_append]
        refine rSeq tg_ok 1 [(3, .gen _ _ _ fun _ _ _ _ => Op.arith (op := .sub) (d := 38) (xt := 3) (yt := 3) (k := .i64) (m := ((pre.length + X.length : Nat) : Int)) (n := (X1.length : Int)) (r := ((pre.length + D1.length : Nat) : Int)) (OV.tmp 36 _) (OV.tmp 37 _) (.inr (.inl ⟨rfl, (by omega)⟩)) (i64_id (by omega) (by omega))), (6, .gen _ _ _ fun _ _ _ _ => Op.arith (op := .add) (d := 41) (xt := 3) (yt := 3) (k := .i64) (m := ((pre.length + X.length : Nat) : Int)) (n := (Y1.length : Int)) (r := ((pre.length + X.length + Y1.length : Nat) : Int)) (OV.tmp 39 _) (OV.tmp 40 _) (.inl ⟨rfl, (by omega)⟩) (i64_id (by omega) (by omega))), (8, .gen _ _ _ fun _ _ _ _ => Op.arith (op := .sub) (d := 43) (xt := 3) (yt := 3) (k := .i64) (m := ((pre.length + X.length + Y1.length : Nat) : Int)) (n := (X1.length : Int)) (r := ((pre.length + X.length + Ya.length : Nat) : Int)) (OV.tmp 41 _) (OV.tmp 42 _) (.inr (.inl ⟨rfl, (by omega)⟩)) (i64_id (by omega) (by omega))), (11, .call (Sswap2 (ln := (pre.length + X.length + Y.length + post.length)) (ia := ((pre.length + D1.length : Nat) : Int)) (ib := ((pre.length + X.length + Ya.length : Nat) : Int)) (ic := (X1.length : Int)) (r0 := (pre ++ D1 ++ X1 ++ Y1 ++ D2 ++ post)) (r1 := (pre ++ D1 ++ Yb ++ Ya ++ (X1 ++ D2) ++ post)) (pre ++ D1) X1 Ya Yb (D2 ++ post) (by rw [hs1]; simp only [List.append_assoc]) (by first | (simp only [List.append_assoc]; done) | simp only [List.append_assoc, List.nil_append]) (by first | exact hrow.symm | omega) (by first | omega | (simp only [List.length_append]; omega) | (simp only [List.length_append, List.length_nil]; omega) | simp only [List.length_append]) (by first | omega | (simp only [List.length_append]; omega) | (simp only [List.length_append, List.length_nil]; omega) | simp only [List.length_append]) (by omega) (by omega) (by omega)) tg_0)] [(0, .t (.c (.own 0 (pre.length + X.length + Y.length + post.length)))), (2, vi .i64 ((pre.length + X.length : Nat) : Int)), (4, .t (.c (.fn (.func 31) [] []))), (10, vi .i64 (X1.length : Int)), (11, vi .i64 (Y1.length : Int))] [(0, .row 47 3 ((pre ++ D1 ++ Yb ++ Ya ++ (X1 ++ D2) ++ post).map Part.d))] (by kernel_rfl) h ?_; clear h; intro a w h
        refine rS tg_ok 1 [(2, .gen _ _ _ fun _ _ _ _ => Op.arith (op := .sub) (d := 49) (xt := 3) (yt := 3) (k := .i64) (m := (Y1.length : Int)) (n := (X1.length : Int)) (r := (Ya.length : Int)) (OV.tmp 47 _) (OV.tmp 48 _) (.inr (.inl ⟨rfl, (by omega)⟩)) (i64_id (by omega) (by omega)))] [(0, .t (.c (.own 0 (pre.length + X.length + Y.length + post.length)))), (2, vi .i64 ((pre.length + X.length : Nat) : Int)), (4, .t (.c (.fn (.func 31) [] []))), (10, vi .i64 (X1.length : Int)), (11, vi .i64 (Ya.length : Int))] [(0, .row 47 3 ((pre ++ D1 ++ Yb ++ Ya ++ (X1 ++ D2) ++ post).map Part.d))] (by kernel_rfl) h ?_; clear h; intro a w h
        refine block_n ?_
        refine then_n ?_
        rw [← hs2] at h
        refine roundS (x := (D1, X1, Y1, D2)) (y := (D1, Yb, Ya, (X1 ++ D2))) h ?_ ?_ (by kernel_rfl) (by kernel_rfl)
        · exact ⟨by rw [← q0, hs1]; simp only [List.append_assoc], by omega, by simp only [List.length_append]; omega, by omega, by omega⟩
        · show Yb.length + Ya.length < X1.length + Y1.length
          omega
    · have hc4 := hc; clear hc
      have hc4' := hc4; (try simp at hc4')
      refine wp_exit ?_
      refine then_x ?_
      refine then_x ?_
      refine inBlock_exit ?_
      refine then_n ?_
      refine rS tg_ok 1 [(3, .gen _ _ _ fun _ _ _ _ => Op.arith (op := .sub) (d := 53) (xt := 3) (yt := 3) (k := .i64) (m := ((pre.length + X.length : Nat) : Int)) (n := (X1.length : Int)) (r := ((pre.length + D1.length : Nat) : Int)) (OV.tmp 51 _) (OV.tmp 52 _) (.inr (.inl ⟨rfl, (by omega)⟩)) (i64_id (by omega) (by omega))), (7, .call (Sswap2 (ln := (pre.length + X.length + Y.length + post.length)) (ia := ((pre.length + D1.length : Nat) : Int)) (ib := ((pre.length + X.length : Nat) : Int)) (ic := (X1.length : Int)) (r0 := (pre ++ D1 ++ X1 ++ Y1 ++ D2 ++ post)) (r1 := (pre ++ D1 ++ Y1 ++ X1 ++ D2 ++ post)) (pre ++ D1) X1 [] Y1 (D2 ++ post) (by simp only [List.append_assoc, List.nil_append]) (by first | (simp only [List.append_assoc]; done) | simp only [List.append_assoc, List.nil_append]) (by first | exact hrow.symm | omega) (by first | omega | (simp only [List.length_append]; omega) | (simp only [List.length_append, List.length_nil]; omega) | simp only [List.length_append]) (by first | omega | (simp only [List.length_append]; omega) | (simp only [List.length_append, List.length_nil]; omega) | simp only [List.length_append]) (by omega) (by omega) (by omega)) tg_0)] [] [(0, .row 47 3 ((pre ++ D1 ++ Y1 ++ X1 ++ D2 ++ post).map Part.d))] (by kernel_rfl) h ?_; clear h; intro a w h
      have hxs : (pre ++ D1 ++ Y1 ++ X1 ++ D2 ++ post : List Part) = pre ++ (Y ++ X) ++ post := by rw [← q0]; simp only [List.append_assoc]
      rw [hxs] at h
      refine retS [] h Exit.normal (.inr rfl)  rfl trivial ?_ (by kernel_rfl) (by kernel_rfl)
      rfl
end Go.Proofs.Ytekhnajfdaknnaa.S
