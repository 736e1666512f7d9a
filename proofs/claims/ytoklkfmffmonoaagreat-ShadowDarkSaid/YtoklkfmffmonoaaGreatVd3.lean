/-
  Part 3 of the proof of the statement ShadowDark: the walk through the program and the references lifted to the given row. It holds for every input.
-/
import Derived.Test.YtoklkfmffmonoaaGreatVd2
import Derived.Laws.Cover3
set_option maxRecDepth 100000
section
namespace Go.Proofs.YtoklkfmffmonoaaGreat.S
open Go.RowKit

theorem tg_0 : Bodied Tryz.prog 169 := Bodied.mk' (by kernel_rfl)
theorem Sswap2 {r0 r1 : List Part} {ln : Nat} {ia ib ic : Int} (pre X mid Y post : List Part) (e0 : r0 = pre ++ X ++ mid ++ Y ++ post) (e1 : r1 = pre ++ Y ++ mid ++ X ++ post) (el : ln = r0.length) (ea : ia = (pre.length : Int)) (eb : ib = ((pre.length + X.length + mid.length : Nat) : Int)) (ec : ic = (X.length : Int)) (hn : X.length = Y.length) (hl : r0.length ≤ 1000000) :
  Fn Tryz.prog 169 [(0, .row 57 3 (r0.map Part.d))] [.t (.c (.own 0 ln)), vi .i64 ia, vi .i64 ib, vi .i64 ic, .t (.c (.fn (.func 105) [] []))] (.tup []) [(0, .row 57 3 (r1.map Part.d))] := by
 subst el e0 e1 ea eb ec
 exact Sswaprange pre X mid Y post hn hl
structure RotI (X Y D1 X1 Y1 D2 : List Part) : Prop where
  eq : D1 ++ Y1 ++ X1 ++ D2 = Y ++ X
  l1 : D1.length + X1.length = X.length
  l2 : Y1.length + D2.length = Y.length
  p1 : 0 < X1.length
  p2 : 0 < Y1.length
theorem split_at {l : List Part} {n : Nat} (h : n ≤ l.length) : ∃ u v, l = u ++ v ∧ u.length = n := ⟨l.take n, l.drop n, (List.take_append_drop _ _).symm, by rw [List.length_take]; omega⟩
theorem Srotate (pre X Y post : List Part) (hX : 0 < X.length) (hY : 0 < Y.length) (hl : pre.length + X.length + Y.length + post.length ≤ 1000000) : Fn Tryz.prog 168 [(0, .row 57 3 ((pre ++ X ++ Y ++ post).map Part.d))] [.t (.c (.own 0 (pre.length + X.length + Y.length + post.length))), vi .i64 (pre.length : Int), vi .i64 ((pre.length + X.length : Nat) : Int), vi .i64 ((pre.length + X.length + Y.length : Nat) : Int), .t (.c (.fn (.func 105) [] []))] (.tup []) [(0, .row 57 3 ((pre ++ (Y ++ X) ++ post).map Part.d))] := by
 refine Fn.body Tryz.func168 rfl 58 rfl fun w H B a h => ?_
 refine rSeq fam0ok 1 [(2, .gen _ _ _ fun _ _ _ _ => Op.arith (op := .sub) (d := 14) (xt := 3) (yt := 3) (k := .i64) (m := ((pre.length + X.length : Nat) : Int)) (n := (pre.length : Int)) (r := (X.length : Int)) (OV.tmp 12 _) (OV.tmp 13 _) (.inr (.inl ⟨rfl, (by omega)⟩)) (i64_id (by omega) (by omega)))] [(0, .t (.c (.own 0 (pre.length + X.length + Y.length + post.length)))), (2, vi .i64 ((pre.length + X.length : Nat) : Int)), (3, vi .i64 ((pre.length + X.length + Y.length : Nat) : Int)), (4, .t (.c (.fn (.func 105) [] []))), (10, vi .i64 (X.length : Int))] [(0, .row 57 3 ((pre ++ X ++ Y ++ post).map Part.d))] (by kernel_rfl) h ?_; clear h; intro a w h
 replace h := h.conv (f' := F.of [(0, .t (.c (.own 0 (pre.length + X.length + Y.length + post.length)))), (2, vi .i64 ((pre.length + X.length : Nat) : Int)), (3, vi .i64 ((pre.length + X.length + Y.length : Nat) : Int)), (4, .t (.c (.fn (.func 105) [] []))), (10, vi .i64 (X.length : Int))] [(0, .row 57 3 ((pre ++ [] ++ X ++ Y ++ [] ++ post).map Part.d))]) (by rw [show (pre ++ X ++ Y ++ post : List Part) = pre ++ [] ++ X ++ Y ++ [] ++ post by simp])
 refine rSeq fam0ok 1 [(2, .gen _ _ _ fun _ _ _ _ => Op.arith (op := .sub) (d := 17) (xt := 3) (yt := 3) (k := .i64) (m := ((pre.length + X.length + Y.length : Nat) : Int)) (n := ((pre.length + X.length : Nat) : Int)) (r := (Y.length : Int)) (OV.tmp 15 _) (OV.tmp 16 _) (.inr (.inl ⟨rfl, (by omega)⟩)) (i64_id (by omega) (by omega)))] [(0, .t (.c (.own 0 (pre.length + X.length + Y.length + post.length)))), (2, vi .i64 ((pre.length + X.length : Nat) : Int)), (4, .t (.c (.fn (.func 105) [] []))), (10, vi .i64 (X.length : Int)), (11, vi .i64 (Y.length : Int))] [(0, .row 57 3 ((pre ++ [] ++ X ++ Y ++ [] ++ post).map Part.d))] (by kernel_rfl) h ?_; clear h; intro a w h
 refine wp_seq ?_
 refine wp_block ?_
 refine loopS (ι := (List Part) × (List Part) × (List Part) × (List Part)) (fun (z_ : (List Part) × (List Part) × (List Part) × (List Part)) => match z_ with | (D1, X1, Y1, D2) => RotI X Y D1 X1 Y1 D2)
   (fun (z_ : (List Part) × (List Part) × (List Part) × (List Part)) => match z_ with | (D1, X1, Y1, D2) => [(0, .t (.c (.own 0 (pre.length + X.length + Y.length + post.length)))), (2, vi .i64 ((pre.length + X.length : Nat) : Int)), (4, .t (.c (.fn (.func 105) [] []))), (10, vi .i64 (X1.length : Int)), (11, vi .i64 (Y1.length : Int))])
   (fun (z_ : (List Part) × (List Part) × (List Part) × (List Part)) => match z_ with | (D1, X1, Y1, D2) => [(0, .row 57 3 ((pre ++ D1 ++ X1 ++ Y1 ++ D2 ++ post).map Part.d))])
   (fun (z_ : (List Part) × (List Part) × (List Part) × (List Part)) => match z_ with | (D1, X1, Y1, D2) => X1.length + Y1.length) ([], X, Y, []) ?_ h (by kernel_rfl) (by kernel_rfl) ?_
 ·exact ⟨by simp, by simp, by simp, hX, hY⟩
 ·clear h; rintro ⟨D1, X1, Y1, D2⟩ a w hI h
  change St _ (F.of [(0, .t (.c (.own 0 (pre.length + X.length + Y.length + post.length)))), (2, vi .i64 ((pre.length + X.length : Nat) : Int)), (4, .t (.c (.fn (.func 105) [] []))), (10, vi .i64 (X1.length : Int)), (11, vi .i64 (Y1.length : Int))] [(0, .row 57 3 ((pre ++ D1 ++ X1 ++ Y1 ++ D2 ++ post).map Part.d))]) a w at h
  obtain ⟨q0, q1, q2, q3, q4⟩ := hI
  have hrow : (pre ++ D1 ++ X1 ++ Y1 ++ D2 ++ post).length = pre.length + X.length + Y.length + post.length := by simp only [List.length_append]; omega
  refine wp_seq ?_
  refine rSeq fam0ok 1 [] [(0, .t (.c (.own 0 (pre.length + X.length + Y.length + post.length)))), (2, vi .i64 ((pre.length + X.length : Nat) : Int)), (4, .t (.c (.fn (.func 105) [] []))), (10, vi .i64 (X1.length : Int)), (11, vi .i64 (Y1.length : Int)), (20, vb ((X1.length : Int) != (Y1.length : Int)))] [(0, .row 57 3 ((pre ++ D1 ++ X1 ++ Y1 ++ D2 ++ post).map Part.d))] (by kernel_rfl) h ?_; clear h; intro a w h
  refine condS ((X1.length : Int) != (Y1.length : Int)) h rfl (fun hc => ?_) (fun hc => ?_)
  ·have hc1 := hc; clear hc
   have hc1' := hc1; (try simp at hc1')
   refine wp_skip ?_
   refine then_n ?_
   refine wp_block ?_
   refine rSeq fam0ok 1 [] [(0, .t (.c (.own 0 (pre.length + X.length + Y.length + post.length)))), (2, vi .i64 ((pre.length + X.length : Nat) : Int)), (4, .t (.c (.fn (.func 105) [] []))), (10, vi .i64 (X1.length : Int)), (11, vi .i64 (Y1.length : Int)), (23, vb (decide ((X1.length : Int) > (Y1.length : Int))))] [(0, .row 57 3 ((pre ++ D1 ++ X1 ++ Y1 ++ D2 ++ post).map Part.d))] (by kernel_rfl) h ?_; clear h; intro a w h
   refine condS (decide ((X1.length : Int) > (Y1.length : Int))) h rfl (fun hc => ?_) (fun hc => ?_)
   ·have hc2 := hc; clear hc
    have hc2' := of_decide_eq_true hc2
    obtain ⟨Xa, Xb, hs1, hs2⟩ := split_at (l := X1) (n := Y1.length) (by omega)
    have hxl : X1.length = Xa.length + Xb.length := by rw [hs1, List.length_append]
    refine rSeq fam0ok 1 [(3, .gen _ _ _ fun _ _ _ _ => Op.arith (op := .sub) (d := 27) (xt := 3) (yt := 3) (k := .i64) (m := ((pre.length + X.length : Nat) : Int)) (n := (X1.length : Int)) (r := ((pre.length + D1.length : Nat) : Int)) (OV.tmp 25 _) (OV.tmp 26 _) (.inr (.inl ⟨rfl, (by omega)⟩)) (i64_id (by omega) (by omega))), (7, .call (Sswap2 (ln := (pre.length + X.length + Y.length + post.length)) (ia := ((pre.length + D1.length : Nat) : Int)) (ib := ((pre.length + X.length : Nat) : Int)) (ic := (Y1.length : Int)) (r0 := (pre ++ D1 ++ X1 ++ Y1 ++ D2 ++ post)) (r1 := (pre ++ (D1 ++ Y1) ++ Xb ++ Xa ++ D2 ++ post)) (pre ++ D1) Xa Xb Y1 (D2 ++ post) (by rw [hs1]; simp only [List.append_assoc]) (by first | (simp only [List.append_assoc]; done) | simp only [List.append_assoc, List.nil_append]) (by first | exact hrow.symm | omega) (by first | omega | (simp only [List.length_append]; omega) | (simp only [List.length_append]; omega) | simp only [List.length_append]) (by first | omega | (simp only [List.length_append]; omega) | (simp only [List.length_append, List.length_nil]; omega) | simp only [List.length_append]) (by omega) (by omega) (by omega)) tg_0)] [(0, .t (.c (.own 0 (pre.length + X.length + Y.length + post.length)))), (2, vi .i64 ((pre.length + X.length : Nat) : Int)), (4, .t (.c (.fn (.func 105) [] []))), (10, vi .i64 (X1.length : Int)), (11, vi .i64 (Y1.length : Int))] [(0, .row 57 3 ((pre ++ (D1 ++ Y1) ++ Xb ++ Xa ++ D2 ++ post).map Part.d))] (by kernel_rfl) h ?_; clear h; intro a w h
    refine rS fam0ok 1 [(2, .gen _ _ _ fun _ _ _ _ => Op.arith (op := .sub) (d := 34) (xt := 3) (yt := 3) (k := .i64) (m := (X1.length : Int)) (n := (Y1.length : Int)) (r := (Xb.length : Int)) (OV.tmp 32 _) (OV.tmp 33 _) (.inr (.inl ⟨rfl, (by omega)⟩)) (i64_id (by omega) (by omega)))] [(0, .t (.c (.own 0 (pre.length + X.length + Y.length + post.length)))), (2, vi .i64 ((pre.length + X.length : Nat) : Int)), (4, .t (.c (.fn (.func 105) [] []))), (10, vi .i64 (Xb.length : Int)), (11, vi .i64 (Y1.length : Int))] [(0, .row 57 3 ((pre ++ (D1 ++ Y1) ++ Xb ++ Xa ++ D2 ++ post).map Part.d))] (by kernel_rfl) h ?_; clear h; intro a w h
    refine block_n ?_
    refine then_n ?_
    rw [← hs2] at h
    refine roundS (x := (D1, X1, Y1, D2)) (y := ((D1 ++ Y1), Xb, Xa, D2)) h ?_ ?_ (by kernel_rfl) (by kernel_rfl)
    ·exact ⟨by rw [← q0, hs1]; simp only [List.append_assoc], by simp only [List.length_append]; omega, by omega, by omega, by omega⟩
    ·show Xb.length + Xa.length < X1.length + Y1.length
     omega
   ·have hc3 := hc; clear hc
    have hc3' := of_decide_eq_false hc3
    obtain ⟨Ya, Yb, hs1, hs3⟩ := split_at (l := Y1) (n := Y1.length - X1.length) (by omega)
    have hs2 : Yb.length = X1.length := by have := congrArg List.length hs1; simp only [List.length_append] at this; omega
    have hxl : Y1.length = Ya.length + Yb.length := by rw [hs1, List.length_append]
    refine rSeq fam0ok 1 [(3, .gen _ _ _ fun _ _ _ _ => Op.arith (op := .sub) (d := 38) (xt := 3) (yt := 3) (k := .i64) (m := ((pre.length + X.length : Nat) : Int)) (n := (X1.length : Int)) (r := ((pre.length + D1.length : Nat) : Int)) (OV.tmp 36 _) (OV.tmp 37 _) (.inr (.inl ⟨rfl, (by omega)⟩)) (i64_id (by omega) (by omega))), (6, .gen _ _ _ fun _ _ _ _ => Op.arith (op := .add) (d := 41) (xt := 3) (yt := 3) (k := .i64) (m := ((pre.length + X.length : Nat) : Int)) (n := (Y1.length : Int)) (r := ((pre.length + X.length + Y1.length : Nat) : Int)) (OV.tmp 39 _) (OV.tmp 40 _) (.inl ⟨rfl, (by omega)⟩) (i64_id (by omega) (by omega))), (8, .gen _ _ _ fun _ _ _ _ => Op.arith (op := .sub) (d := 43) (xt := 3) (yt := 3) (k := .i64) (m := ((pre.length + X.length + Y1.length : Nat) : Int)) (n := (X1.length : Int)) (r := ((pre.length + X.length + Ya.length : Nat) : Int)) (OV.tmp 41 _) (OV.tmp 42 _) (.inr (.inl ⟨rfl, (by omega)⟩)) (i64_id (by omega) (by omega))), (11, .call (Sswap2 (ln := (pre.length + X.length + Y.length + post.length)) (ia := ((pre.length + D1.length : Nat) : Int)) (ib := ((pre.length + X.length + Ya.length : Nat) : Int)) (ic := (X1.length : Int)) (r0 := (pre ++ D1 ++ X1 ++ Y1 ++ D2 ++ post)) (r1 := (pre ++ D1 ++ Yb ++ Ya ++ (X1 ++ D2) ++ post)) (pre ++ D1) X1 Ya Yb (D2 ++ post) (by rw [hs1]; simp only [List.append_assoc]) (by first | (simp only [List.append_assoc]; done) | simp only [List.append_assoc, List.nil_append]) (by first | exact hrow.symm | omega) (by first | omega | (simp only [List.length_append]; omega) | (simp only [List.length_append]; omega) | simp only [List.length_append]) (by first | omega | (simp only [List.length_append]; omega) | (simp only [List.length_append, List.length_nil]; omega) | simp only [List.length_append]) (by omega) (by omega) (by omega)) tg_0)] [(0, .t (.c (.own 0 (pre.length + X.length + Y.length + post.length)))), (2, vi .i64 ((pre.length + X.length : Nat) : Int)), (4, .t (.c (.fn (.func 105) [] []))), (10, vi .i64 (X1.length : Int)), (11, vi .i64 (Y1.length : Int))] [(0, .row 57 3 ((pre ++ D1 ++ Yb ++ Ya ++ (X1 ++ D2) ++ post).map Part.d))] (by kernel_rfl) h ?_; clear h; intro a w h
    refine rS fam0ok 1 [(2, .gen _ _ _ fun _ _ _ _ => Op.arith (op := .sub) (d := 49) (xt := 3) (yt := 3) (k := .i64) (m := (Y1.length : Int)) (n := (X1.length : Int)) (r := (Ya.length : Int)) (OV.tmp 47 _) (OV.tmp 48 _) (.inr (.inl ⟨rfl, (by omega)⟩)) (i64_id (by omega) (by omega)))] [(0, .t (.c (.own 0 (pre.length + X.length + Y.length + post.length)))), (2, vi .i64 ((pre.length + X.length : Nat) : Int)), (4, .t (.c (.fn (.func 105) [] []))), (10, vi .i64 (X1.length : Int)), (11, vi .i64 (Ya.length : Int))] [(0, .row 57 3 ((pre ++ D1 ++ Yb ++ Ya ++ (X1 ++ D2) ++ post).map Part.d))] (by kernel_rfl) h ?_; clear h; intro a w h
    refine block_n ?_
    refine then_n ?_
    rw [← hs2] at h
    refine roundS (x := (D1, X1, Y1, D2)) (y := (D1, Yb, Ya, (X1 ++ D2))) h ?_ ?_ (by kernel_rfl) (by kernel_rfl)
    ·exact ⟨by rw [← q0, hs1]; simp only [List.append_assoc], by omega, by simp only [List.length_append]; omega, by omega, by omega⟩
    ·show Yb.length + Ya.length < X1.length + Y1.length
     omega
  ·have hc4 := hc; clear hc
   have hc4' := hc4; (try simp at hc4')
   refine wp_exit ?_
   refine then_x ?_
   refine then_x ?_
   refine inBlock_exit ?_
   refine then_n ?_
   refine rS fam0ok 1 [(3, .gen _ _ _ fun _ _ _ _ => Op.arith (op := .sub) (d := 53) (xt := 3) (yt := 3) (k := .i64) (m := ((pre.length + X.length : Nat) : Int)) (n := (X1.length : Int)) (r := ((pre.length + D1.length : Nat) : Int)) (OV.tmp 51 _) (OV.tmp 52 _) (.inr (.inl ⟨rfl, (by omega)⟩)) (i64_id (by omega) (by omega))), (7, .call (Sswap2 (ln := (pre.length + X.length + Y.length + post.length)) (ia := ((pre.length + D1.length : Nat) : Int)) (ib := ((pre.length + X.length : Nat) : Int)) (ic := (X1.length : Int)) (r0 := (pre ++ D1 ++ X1 ++ Y1 ++ D2 ++ post)) (r1 := (pre ++ D1 ++ Y1 ++ X1 ++ D2 ++ post)) (pre ++ D1) X1 [] Y1 (D2 ++ post) (by simp only [List.append_assoc, List.nil_append]) (by first | (simp only [List.append_assoc]; done) | simp only [List.append_assoc, List.nil_append]) (by first | exact hrow.symm | omega) (by first | omega | (simp only [List.length_append]; omega) | (simp only [List.length_append]; omega) | simp only [List.length_append]) (by first | omega | (simp only [List.length_append]; omega) | (simp only [List.length_append, List.length_nil]; omega) | simp only [List.length_append]) (by omega) (by omega) (by omega)) tg_0)] [] [(0, .row 57 3 ((pre ++ D1 ++ Y1 ++ X1 ++ D2 ++ post).map Part.d))] (by kernel_rfl) h ?_; clear h; intro a w h
   have hxs : (pre ++ D1 ++ Y1 ++ X1 ++ D2 ++ post : List Part) = pre ++ (Y ++ X) ++ post := by rw [← q0]; simp only [List.append_assoc]
   rw [hxs] at h
   refine retS [] h Exit.normal (.inr rfl)  rfl trivial ?_ (by kernel_rfl) (by kernel_rfl)
   rfl
end Go.Proofs.YtoklkfmffmonoaaGreat.S
end
section
namespace Go.Proofs.YtoklkfmffmonoaaGreat.S
open Go.RowKit

theorem th_2 : Bodied Tryz.prog 110 := Bodied.mk' (by kernel_rfl)
theorem sgn0_t {z : Int} (h : (sgn z == 0) = true) : z = 0 := sgn_eq_zero.1 (by simpa using h)
theorem sgn0_f {z : Int} (h : (sgn z == 0) = false) : z ≠ 0 := fun e => by rw [sgn_zero e] at h; cases h
end Go.Proofs.YtoklkfmffmonoaaGreat.S
end
section
namespace Go.Proofs.YtoklkfmffmonoaaGreat.S

def kat (l : List Part) (q : Nat) : Int := match l[q]? with | some x => x.v | none => 0
theorem kat_of {l : List Part} {q : Nat} {x : Part} (h : l[q]? = some x) : kat l q = x.v := by simp [kat, h]
theorem kat_app {pre X post : List Part} {q r : Nat} (h : q < X.length) (hr : r = pre.length + q) : kat (pre ++ X ++ post) r = kat X q := by
 subst hr
 simp only [kat]
 rw [List.append_assoc, List.getElem?_append_right (by omega), Nat.add_sub_cancel_left, List.getElem?_append_left h]
theorem ris_kat : ∀ {X : List Part}, Ris Part.v X → ∀ {p q : Nat}, p ≤ q → q < X.length → kat X p ≤ kat X q
 | [], _, _, _, _, hq => by simp at hq
 | x :: X, h, 0, 0, _, _ => Int.le_refl _
 | x :: X, h, 0, q + 1, _, hq => by
  have hq' : q < X.length := by simpa using hq
  have h1 := h.1 _ (List.getElem_mem hq')
  have e1 : kat (x :: X) 0 = x.v := kat_of rfl
  have e2 : kat (x :: X) (q + 1) = X[q].v := kat_of (by rw [List.getElem?_cons_succ]; exact List.getElem?_eq_getElem hq')
  rw [e1, e2]; exact h1
 | x :: X, h, p + 1, q + 1, hpq, hq => by
  have h1 := ris_kat h.2 (p := p) (q := q) (by omega) (by simpa using hq)
  simpa [kat] using h1
theorem part_at {X : List Part} {y : Part} (h : y ∈ X) : ∃ q, q < X.length ∧ kat X q = y.v := by
 obtain ⟨q, hq⟩ := List.mem_iff_getElem?.1 h
 exact ⟨q, (List.getElem?_eq_some_iff.1 hq).1, kat_of hq⟩
theorem kat_l {X Y : List Part} {q : Nat} (h : q < X.length) : kat (X ++ Y) q = kat X q := by simp only [kat]; rw [List.getElem?_append_left h]
theorem kat_r {X Y : List Part} {q : Nat} : kat (X ++ Y) (X.length + q) = kat Y q := by simp only [kat]; rw [List.getElem?_append_right (by omega), Nat.add_sub_cancel_left]
theorem len_nil {α : Type} {l : List α} (h : l.length = 0) : l = [] := List.length_eq_zero_iff.1 h
theorem sym3 {a1 a2 b1 b2 : List Part} (hX : Ris Part.v (a1 ++ a2)) (hY : Ris Part.v (b1 ++ b2)) (h1 : a1.length = 0 ∨ b2.length = 0 ∨ kat (a1 ++ a2) (a1.length - 1) ≤ kat (b1 ++ b2) b1.length) (h2 : a2.length = 0 ∨ b1.length = 0 ∨ kat (b1 ++ b2) (b1.length - 1) < kat (a1 ++ a2) a1.length) :
  ssV Part.v (a1 ++ b1) ++ ssV Part.v (a2 ++ b2) = ssV Part.v (a1 ++ a2 ++ (b1 ++ b2)) := by
 refine sym_merge hX hY (fun x hx y hy => ?_) (fun x hx y hy => ?_)
 ·obtain ⟨q, hq, eq⟩ := part_at hx
  obtain ⟨r, hr, er⟩ := part_at hy
  rcases h1 with h | h | h
  ·omega
  ·omega
  ·have g1 := ris_kat hX (p := q) (q := a1.length - 1) (by omega) (by rw [List.length_append]; omega)
   have g2 := ris_kat hY (p := b1.length) (q := b1.length + r) (by omega) (by rw [List.length_append]; omega)
   rw [kat_l hq] at g1
   rw [kat_r] at g2
   omega
 ·obtain ⟨q, hq, eq⟩ := part_at hx
  obtain ⟨r, hr, er⟩ := part_at hy
  rcases h2 with h | h | h
  ·omega
  ·omega
  ·have g1 := ris_kat hX (p := a1.length) (q := a1.length + q) (by omega) (by rw [List.length_append]; omega)
   have g2 := ris_kat hY (p := r) (q := b1.length - 1) (by omega) (by rw [List.length_append]; omega)
   rw [kat_r] at g1
   rw [kat_l hr] at g2
   omega
theorem sym1 {x : Part} {b1 b2 : List Part} (hY : Ris Part.v (b1 ++ b2)) (h1 : b1.length = 0 ∨ kat (b1 ++ b2) (b1.length - 1) < x.v) (h2 : b2.length = 0 ∨ x.v ≤ kat (b1 ++ b2) b1.length) : b1 ++ x :: b2 = ssV Part.v ([x] ++ (b1 ++ b2)) := by
 refine sym_left hY (fun y hy => ?_) (fun y hy => ?_)
 ·obtain ⟨r, hr, er⟩ := part_at hy
  have g2 := ris_kat hY (p := b1.length) (q := b1.length + r) (by omega) (by rw [List.length_append]; omega)
  rw [kat_r] at g2
  rcases h2 with h | h <;> omega
 ·obtain ⟨r, hr, er⟩ := part_at hy
  have g2 := ris_kat hY (p := r) (q := b1.length - 1) (by omega) (by rw [List.length_append]; omega)
  rw [kat_l hr] at g2
  rcases h1 with h | h <;> omega
theorem sym2 {y : Part} {a1 a2 : List Part} (hX : Ris Part.v (a1 ++ a2)) (h1 : a1.length = 0 ∨ kat (a1 ++ a2) (a1.length - 1) ≤ y.v) (h2 : a2.length = 0 ∨ y.v < kat (a1 ++ a2) a1.length) : a1 ++ y :: a2 = ssV Part.v (a1 ++ a2 ++ [y]) := by
 refine sym_right hX (fun x hx => ?_) (fun x hx => ?_)
 ·obtain ⟨r, hr, er⟩ := part_at hx
  have g2 := ris_kat hX (p := r) (q := a1.length - 1) (by omega) (by rw [List.length_append]; omega)
  rw [kat_l hr] at g2
  rcases h1 with h | h <;> omega
 ·obtain ⟨r, hr, er⟩ := part_at hx
  have g2 := ris_kat hX (p := a1.length) (q := a1.length + r) (by omega) (by rw [List.length_append]; omega)
  rw [kat_r] at g2
  rcases h2 with h | h <;> omega
theorem split_to {l : List Part} {n : Nat} (h : n ≤ l.length) : ∃ u v, l = u ++ v ∧ u.length = n := ⟨l.take n, l.drop n, (List.take_append_drop _ _).symm, by rw [List.length_take]; omega⟩
section
variable {pre X Y post : List Part}
theorem katX {q r : Nat} (h : q < X.length) (hr : r = pre.length + q) : kat (pre ++ X ++ Y ++ post) r = kat X q := by
 rw [show pre ++ X ++ Y ++ post = pre ++ X ++ (Y ++ post) by simp only [List.append_assoc]]; exact kat_app h hr
theorem katY {q r : Nat} (h : q < Y.length) (hr : r = pre.length + X.length + q) : kat (pre ++ X ++ Y ++ post) r = kat Y q :=
 kat_app (pre := pre ++ X) h (by rw [List.length_append]; exact hr)
theorem srch1 {i : Nat} (hX : X.length = 1) (hY : Ris Part.v Y) (l1 : pre.length + 1 ≤ i) (l2 : i ≤ pre.length + 1 + Y.length) (h1 : i = pre.length + 1 ∨ kat (pre ++ X ++ Y ++ post) (i - 1) < kat (pre ++ X ++ Y ++ post) pre.length) (h2 : i = pre.length + 1 + Y.length ∨ kat (pre ++ X ++ Y ++ post) pre.length ≤ kat (pre ++ X ++ Y ++ post) i) :
  ∃ x b1 b2, X = [x] ∧ Y = b1 ++ b2 ∧ i = pre.length + 1 + b1.length ∧ b1 ++ x :: b2 = ssV Part.v (X ++ Y) := by
 obtain ⟨x, rfl⟩ := List.length_eq_one_iff.1 hX
 obtain ⟨b1, b2, rfl, hb⟩ := split_to (l := Y) (n := i - (pre.length + 1)) (by omega)
 rw [List.length_append] at l2 h2
 refine ⟨x, b1, b2, rfl, rfl, by omega, sym1 hY ?_ ?_⟩
 ·rcases h1 with h | h
  ·exact .inl (by omega)
  ·by_cases h0 : b1.length = 0
   ·exact .inl h0
   ·rw [katX (r := pre.length) (q := 0) (by simp) (by simp), katY (r := i - 1) (q := b1.length - 1) (by rw [List.length_append]; omega) (by simp; omega)] at h
    exact .inr h
 ·rcases h2 with h | h
  ·exact .inl (by omega)
  ·by_cases h0 : b2.length = 0
   ·exact .inl h0
   ·rw [katX (r := pre.length) (q := 0) (by simp) (by simp), katY (r := i) (q := b1.length) (by rw [List.length_append]; omega) (by simp; omega)] at h
    exact .inr h
theorem srch2 {i : Nat} (hY : Y.length = 1) (hX : Ris Part.v X) (l1 : pre.length ≤ i) (l2 : i ≤ pre.length + X.length) (h1 : i = pre.length ∨ kat (pre ++ X ++ Y ++ post) (i - 1) ≤ kat (pre ++ X ++ Y ++ post) (pre.length + X.length)) (h2 : i = pre.length + X.length ∨ kat (pre ++ X ++ Y ++ post) (pre.length + X.length) < kat (pre ++ X ++ Y ++ post) i) :
  ∃ y a1 a2, Y = [y] ∧ X = a1 ++ a2 ∧ i = pre.length + a1.length ∧ a1 ++ y :: a2 = ssV Part.v (X ++ Y) := by
 obtain ⟨y, rfl⟩ := List.length_eq_one_iff.1 hY
 obtain ⟨a1, a2, rfl, hb⟩ := split_to (l := X) (n := i - pre.length) (by omega)
 have l2 : i ≤ pre.length + (a1.length + a2.length) := by rw [List.length_append] at l2; exact l2
 refine ⟨y, a1, a2, rfl, rfl, by omega, sym2 hX ?_ ?_⟩
 ·rcases h1 with h | h
  ·exact .inl (by omega)
  ·by_cases h0 : a1.length = 0
   ·exact .inl h0
   ·rw [katY (r := pre.length + (a1 ++ a2).length) (q := 0) (by simp) (by simp), katX (r := i - 1) (q := a1.length - 1) (by rw [List.length_append]; omega) (by omega)] at h
    exact .inr h
 ·rcases h2 with h | h
  ·rw [List.length_append] at h; exact .inl (by omega)
  ·by_cases h0 : a2.length = 0
   ·exact .inl h0
   ·rw [katX (r := i) (q := a1.length) (by rw [List.length_append]; omega) (by omega), katY (r := pre.length + (a1 ++ a2).length) (q := 0) (by simp) (by simp)] at h
    exact .inr h
theorem srch3 {s e : Nat} (hX : Ris Part.v X) (hY : Ris Part.v Y) (l1 : pre.length ≤ s) (l2 : s ≤ pre.length + X.length) (l3 : pre.length + X.length ≤ e) (l4 : e ≤ pre.length + X.length + Y.length)
  (h1 : s = pre.length ∨ e = pre.length + X.length + Y.length ∨ kat (pre ++ X ++ Y ++ post) (s - 1) ≤ kat (pre ++ X ++ Y ++ post) e) (h2 : s = pre.length + X.length ∨ e = pre.length + X.length ∨ kat (pre ++ X ++ Y ++ post) (e - 1) < kat (pre ++ X ++ Y ++ post) s) :
  ∃ a1 a2 b1 b2, X = a1 ++ a2 ∧ Y = b1 ++ b2 ∧ s = pre.length + a1.length ∧ e = pre.length + X.length + b1.length ∧ ssV Part.v (a1 ++ b1) ++ ssV Part.v (a2 ++ b2) = ssV Part.v (X ++ Y) ∧ Ris Part.v a1 ∧ Ris Part.v a2 ∧ Ris Part.v b1 ∧ Ris Part.v b2 := by
 obtain ⟨a1, a2, rfl, ha⟩ := split_to (l := X) (n := s - pre.length) (by omega)
 obtain ⟨b1, b2, rfl, hb⟩ := split_to (l := Y) (n := e - (pre.length + (a1 ++ a2).length)) (by omega)
 have rX := Ris.app.1 hX
 have rY := Ris.app.1 hY
 have la : (a1 ++ a2).length = a1.length + a2.length := List.length_append
 have lb : (b1 ++ b2).length = b1.length + b2.length := List.length_append
 refine ⟨a1, a2, b1, b2, rfl, rfl, by omega, by omega, sym3 hX hY ?_ ?_, rX.1, rX.2.1, rY.1, rY.2.1⟩
 ·by_cases g1 : a1.length = 0
  ·exact .inl g1
  by_cases g2 : b2.length = 0
  ·exact .inr (.inl g2)
  rcases h1 with h | h | h
  ·omega
  ·omega
  ·rw [katX (r := s - 1) (q := a1.length - 1) (by omega) (by omega), katY (r := e) (q := b1.length) (by omega) (by omega)] at h
   exact .inr (.inr h)
 ·by_cases g1 : a2.length = 0
  ·exact .inl g1
  by_cases g2 : b1.length = 0
  ·exact .inr (.inl g2)
  rcases h2 with h | h | h
  ·omega
  ·omega
  ·rw [katX (r := s) (q := a1.length) (by omega) (by omega), katY (r := e - 1) (q := b1.length - 1) (by omega) (by omega)] at h
   exact .inr (.inr h)
end
theorem up_at {p q r : List Part} {x : Part} {t : Nat} (k : Nat) (hk : k = p.length + t) (ht : t ≤ q.length) : (p ++ q.take t ++ x :: (q.drop t ++ r))[k]? = some x := mid_at k (by rw [List.length_append, List.length_take]; omega)
theorem up_nx {p q r : List Part} {x y : Part} {t : Nat} (k : Nat) (hk : k = p.length + t + 1) (hy : q[t]? = some y) : (p ++ q.take t ++ x :: (q.drop t ++ r))[k]? = some y := by
 obtain ⟨ht, rfl⟩ := List.getElem?_eq_some_iff.1 hy
 have e : q.drop t = q[t] :: q.drop (t + 1) := List.drop_eq_getElem_cons ht
 have e2 : p ++ q.take t ++ x :: (q.drop t ++ r) = (p ++ q.take t ++ [x]) ++ q[t] :: (q.drop (t + 1) ++ r) := by rw [e]; simp only [List.append_assoc, List.cons_append, List.nil_append]
 rw [e2]
 exact mid_at k (by simp only [List.length_append, List.length_take, List.length_cons, List.length_nil]; omega)
theorem up_step {p q r : List Part} {x y : Part} {t : Nat} (k k1 : Nat) (hk : k = p.length + t) (hk1 : k1 = k + 1) (hy : q[t]? = some y) : ((p ++ q.take t ++ x :: (q.drop t ++ r)).set k y).set k1 x = p ++ q.take (t + 1) ++ x :: (q.drop (t + 1) ++ r) := by
 obtain ⟨ht, rfl⟩ := List.getElem?_eq_some_iff.1 hy
 have e : q.drop t = q[t] :: q.drop (t + 1) := List.drop_eq_getElem_cons ht
 have tx : q.take (t + 1) = q.take t ++ [q[t]] := by rw [List.take_add_one, List.getElem?_eq_getElem ht]; rfl
 have hl : k = (p ++ q.take t).length := by rw [List.length_append, List.length_take]; omega
 rw [e, tx, hk1, hl, List.set_append_right _ _ (Nat.le_refl _), Nat.sub_self, List.set_cons_zero, List.set_append_right _ _ (by omega), Nat.add_sub_cancel_left, List.cons_append, List.set_cons_succ, List.set_cons_zero]
 simp only [List.append_assoc, List.cons_append, List.nil_append]
theorem dn_step {p q r : List Part} {x y : Part} {t : Nat} (k k1 : Nat) (hk : k = p.length + t) (hk1 : k1 = k - 1) (ht : 0 < t) (hy : q[t - 1]? = some y) : ((p ++ q.take t ++ x :: (q.drop t ++ r)).set k y).set k1 x = p ++ q.take (t - 1) ++ x :: (q.drop (t - 1) ++ r) := by
 obtain ⟨t, rfl⟩ : ∃ s, t = s + 1 := ⟨t - 1, by omega⟩
 rw [Nat.add_sub_cancel] at hy ⊢
 obtain ⟨ht, rfl⟩ := List.getElem?_eq_some_iff.1 hy
 have e : q.drop t = q[t] :: q.drop (t + 1) := List.drop_eq_getElem_cons ht
 have tx : q.take (t + 1) = q.take t ++ [q[t]] := by rw [List.take_add_one, List.getElem?_eq_getElem ht]; rfl
 have hl : k = (p ++ q.take t).length + 1 := by rw [List.length_append, List.length_take]; omega
 have hl1 : k1 = (p ++ q.take t).length := by omega
 have e2 : p ++ (q.take t ++ [q[t]]) ++ x :: (q.drop (t + 1) ++ r) = (p ++ q.take t) ++ q[t] :: x :: (q.drop (t + 1) ++ r) := by simp only [List.append_assoc, List.cons_append, List.nil_append]
 rw [e, tx, e2, hl1, hl, List.set_append_right _ _ (by omega), Nat.add_sub_cancel_left, List.set_cons_succ, List.set_cons_zero, List.set_append_right _ _ (Nat.le_refl _), Nat.sub_self, List.set_cons_zero]
 simp only [List.append_assoc, List.cons_append]
theorem dn_nx {p q r : List Part} {x y : Part} {t : Nat} (k : Nat) (hk : k + 1 = p.length + t) (ht : 0 < t) (hy : q[t - 1]? = some y) : (p ++ q.take t ++ x :: (q.drop t ++ r))[k]? = some y := by
 obtain ⟨t, rfl⟩ : ∃ s, t = s + 1 := ⟨t - 1, by omega⟩
 rw [Nat.add_sub_cancel] at hy
 obtain ⟨ht, rfl⟩ := List.getElem?_eq_some_iff.1 hy
 have tx : q.take (t + 1) = q.take t ++ [q[t]] := by rw [List.take_add_one, List.getElem?_eq_getElem ht]; rfl
 have e2 : p ++ q.take (t + 1) ++ x :: (q.drop (t + 1) ++ r) = (p ++ q.take t) ++ q[t] :: (x :: (q.drop (t + 1) ++ r)) := by rw [tx]; simp only [List.append_assoc, List.cons_append, List.nil_append]
 rw [e2]
 exact mid_at k (by simp only [List.length_append, List.length_take]; omega)
theorem half (x : Nat) : (x : Int).fdiv (2 ^ 1) = ((x / 2 : Nat) : Int) := by
 rw [Int.fdiv_eq_ediv_of_nonneg _ (by decide)]; omega
end Go.Proofs.YtoklkfmffmonoaaGreat.S
end
section
namespace Go.Proofs.YtoklkfmffmonoaaGreat.S
open Go.RowKit

/-- a bound of a part: told, or left out -/
inductive BO : Option Operand → Nat → Nat → List (Nat × V) → Prop
  | no (n : Nat) : BO none n n []
  | yes {y : Operand} {k : IntKind} {i : Nat} {rs : List (Nat × V)} (n : Nat) (h : OV y (vi k i) rs) : BO (some y) n i rs
section
variable {P : Program}
theorem BO.low {x : Option Operand} {l h : Nat} {rs : List (Nat × V)} (hx : BO x 0 l rs) {e : E} {f : F} {H : Im} {B : Bl} {a : Act} {w : World} (hok : Ok e f H B a w) (hr : ∀ p ∈ rs, f.s p.1 = some p.2) (hl : l ≤ h) (c : BoundsCode) :
  (match x.map a.eval with | some v => Instr.sliceBound v h c | none => pure 0).run P w = .ok l w := by
 cases hx with
 | no => simp
 | yes _ hv =>
  have h2 := (hv.eval hok hr).rawI
  simp only [Option.map_some]
  rw [h2, run_sliceBound (P := P) w _ _ h c (by omega) (by omega)]
  simp
theorem BO.high {x : Option Operand} {n l h : Nat} {rs : List (Nat × V)} (hx : BO x n l rs) {e : E} {f : F} {H : Im} {B : Bl} {a : Act} {w : World} (hok : Ok e f H B a w) (hr : ∀ p ∈ rs, f.s p.1 = some p.2) (hl : l ≤ h) (c : BoundsCode) :
  (match x.map a.eval with | some v => Instr.sliceBound v h c | none => pure n).run P w = .ok l w := by
 cases hx with
 | no => simp
 | yes _ hv =>
  have h2 := (hv.eval hok hr).rawI
  simp only [Option.map_some]
  rw [h2, run_sliceBound (P := P) w _ _ h c (by omega) (by omega)]
  simp
theorem run_bounds {lo hi : Option Operand} {len cap l h : Nat} {rs rs' : List (Nat × V)} {is : Bool} (hl : BO lo 0 l rs) (hh : BO hi len h rs') {e : E} {f : F} {H : Im} {B : Bl} {a : Act} {w : World} (hok : Ok e f H B a w) (hr : ∀ p ∈ rs, f.s p.1 = some p.2) (hr' : ∀ p ∈ rs', f.s p.1 = some p.2)
  (h1 : l ≤ h) (h2 : h ≤ cap) : (Instr.sliceBounds is len cap (lo.map a.eval) (hi.map a.eval) none).run P w = .ok (l, h, cap) w := by
 have g1 := hl.low (P := P) hok hr h1 .sliceB
 have g2 := hh.high (P := P) hok hr' h2 (if is then .sliceAcap else .sliceAlen)
 cases lo with
 | none =>
  cases hi with
  | none => cases hl; cases hh; simp [Instr.sliceBounds]
  | some y => simp only [Option.map_some, Option.map_none] at g1 g2 ⊢; cases hl; simp [Instr.sliceBounds, g2]
 | some x =>
  cases hi with
  | none => simp only [Option.map_some, Option.map_none] at g1 g2 ⊢; cases hh; simp [Instr.sliceBounds, g1]
  | some y => simp only [Option.map_some] at g1 g2 ⊢; simp [Instr.sliceBounds, g1, g2]
theorem run_sliceS {t el : TypeId} {es : Nat} (hs : SlT P t el es) {ao : Option Addr} {len cap l h : Nat} {lo hi : Option Value} {w : World} (hb : (Instr.sliceBounds true len cap lo hi none).run P w = .ok (l, h, cap) w) :
  (Instr.sliceAt t (.slice ao len cap) lo hi none).run P w = .ok (.slice (if cap = l then ao else ao.map (·.add (l * es))) (h - l) (cap - l)) w := by
 simp only [Instr.sliceAt, Instr.slice, Sem.run_bind, run_underlying hs.hu, Result.andThen_ok, hb, size_run hs.hs, Sem.run_pure]
theorem Ok.ownCap {e : E} {f : F} {H : Im} {B : Bl} {a : Act} {w : World} (h : Ok e f H B a w) {n : Nat} {ty : TypeId} {es : Nat} {rows : List (List D)} (hl : f.l n = some (.row ty es rows)) {len k : Nat} (hk : k ≤ rows.length) {v : Value} (hv : CR H B (.own n len) v) :
  ∃ ao c, v = .slice ao len c ∧ k ≤ c ∧ ((B n = none ∧ len = 0 ∧ c = 0) ∨ ∃ b, B n = some (b, c) ∧ ao = some ⟨b, 0, none⟩) := by
 simp only [CR] at hv
 cases hB : B n with
 | none =>
  rw [hB] at hv
  obtain ⟨rfl, ao, rfl⟩ := hv
  have h1 := h.loc n _ hl
  simp only [LR, hB] at h1
  rw [h1] at hk
  exact ⟨ao, 0, rfl, hk, .inl ⟨rfl, rfl, rfl⟩⟩
 | some q =>
  obtain ⟨b, c⟩ := q
  rw [hB] at hv
  obtain ⟨arr, g1, g2, g3, g4, g5, g6⟩ := h.row hl hB
  exact ⟨_, c, hv, by omega, .inr ⟨b, rfl, rfl⟩⟩
theorem Op.sliceLo {d t n len l es : Nat} {y : Operand} {k : IntKind} {rows : List (List D)} {rs : List (Nat × V)} {rty xt el ty : TypeId} {pos af gd} (hs : SlT P xt el es) (hlen : len ≤ rows.length) (hy : OV y (vi k l) rs) (h1 : l ≤ len) {len' : Nat} (he : len - l = len') :
  OpOk P ⟨some d, .slice xt (.tmp t) (some y) none none, ty, pos, af, gd⟩ { rs := (t, .t (.c (.own n len))) :: rs, rl := [(n, .row rty es rows)], ws := [(d, some (.t (.c (.sub n (l * es) len'))))] } :=
 OpOk.value d _ rfl rfl rfl fun e f H B a w hok hr2 => by
  have g1 := hok.slot t _ (hr2.1 (t, .t (.c (.own n len))) (by simp))
  obtain ⟨ao, c, hv, hc, hB⟩ := hok.ownCap (hr2.2 (n, .row rty es rows) (by simp)) hlen g1
  have hv : a.eval (.tmp t) = .slice ao len c := hv
  subst he
  have hb := run_bounds (P := P) (is := true) (lo := some y) (hi := none) (len := len) (cap := c) (BO.yes 0 hy) (BO.no len) hok (fun p hp => hr2.1 p (by simp [hp])) (fun p hp => by cases hp) h1 hc
  have hrun := run_sliceS (ao := ao) hs hb
  refine ⟨.slice (if c = l then ao else ao.map (·.add (l * es))) (len - l) (c - l), ?_, ⟨⟨_, _, rfl⟩, fun hlt => ?_⟩⟩
  ·generalize a.eval = ρ at hv hrun ⊢
   have hrun' : (Instr.sliceAt xt (ρ (.tmp t)) ((some y).map ρ) ((none : Option Operand).map ρ) ((none : Option Operand).map ρ)).run P w = .ok (.slice (if c = l then ao else ao.map (·.add (l * es))) (len - l) (c - l)) w := by rw [hv]; exact hrun
   simp only [execOp, Sem.run_bind, hrun', Result.andThen_ok, Sem.run_pure]
  ·rcases hB with ⟨_, h3, _⟩ | ⟨b, h3, rfl⟩
   ·omega
   ·refine ⟨b, c, c - l, h3, ?_⟩
    rw [if_neg (by omega)]
    simp only [Option.map_some, Addr.add_mid, Nat.zero_add]
theorem Op.sliceHi {d t n len h es : Nat} {y : Operand} {k : IntKind} {rows : List (List D)} {rs : List (Nat × V)} {rty xt el ty : TypeId} {pos af gd} (hs : SlT P xt el es) (hlen : h ≤ rows.length) (hy : OV y (vi k h) rs) :
  OpOk P ⟨some d, .slice xt (.tmp t) none (some y) none, ty, pos, af, gd⟩ { rs := (t, .t (.c (.own n len))) :: rs, rl := [(n, .row rty es rows)], ws := [(d, some (.t (.c (.own n h))))] } :=
 OpOk.value d _ rfl rfl rfl fun e f H B a w hok hr2 => by
  have g1 := hok.slot t _ (hr2.1 (t, .t (.c (.own n len))) (by simp))
  obtain ⟨ao, c, hv, hc, hB⟩ := hok.ownCap (hr2.2 (n, .row rty es rows) (by simp)) hlen g1
  have hv : a.eval (.tmp t) = .slice ao len c := hv
  have hb := run_bounds (P := P) (is := true) (lo := none) (hi := some y) (len := len) (cap := c) (BO.no 0) (BO.yes len hy) hok (fun p hp => by cases hp) (fun p hp => hr2.1 p (by simp [hp])) (Nat.zero_le _) (by omega)
  have hrun := run_sliceS (ao := ao) hs hb
  have e1 : (if c = 0 then ao else ao.map (·.add (0 * es))) = ao := by
   split
   ·rfl
   ·rcases hB with ⟨_, _, h3⟩ | ⟨b, h3, rfl⟩
    ·omega
    ·simp [Addr.add_mid]
  rw [e1] at hrun
  refine ⟨.slice ao h c, ?_, ?_⟩
  ·generalize a.eval = ρ at hv hrun ⊢
   have hrun' : (Instr.sliceAt xt (ρ (.tmp t)) ((none : Option Operand).map ρ) ((some y).map ρ) ((none : Option Operand).map ρ)).run P w = .ok (.slice ao h c) w := by rw [hv]; exact hrun
   simp only [execOp, Sem.run_bind, hrun', Result.andThen_ok, Sem.run_pure]
  ·show CR H B (.own n h) _
   simp only [CR]
   rcases hB with ⟨h2, h3, h4⟩ | ⟨b, h3, rfl⟩
   ·rw [h2]; exact ⟨by omega, ao, by rw [show h = 0 by omega, h4]⟩
   ·rw [h3]
theorem Op.clearCut {o : Option Nat} {t n off len l es : Nat} {rows : List (List D)} {zs : List C} {rty xt el ty : TypeId} {pos af gd} (hu : P.underlying xt = some (.slice el)) (hz : Zero P el zs) (hzl : zs.length = es) (ho : off = l * es) (hlen : l + len = rows.length)
  (x : List (Nat × Option V)) (hx : x = (match o with | none => [] | some d => [(d, some (.tup []))])) :
  OpOk P ⟨o, .call { callee := .builtin .clear, args := #[.tmp t], argTypes := #[xt] }, ty, pos, af, gd⟩ { rs := [(t, .t (.c (.sub n off len)))], rl := [(n, .row rty es rows)], ws := x, wl := [(n, some (.row rty es (rows.take l)))] } := by
 rintro e f a w Q ⟨H, B, hok⟩ hr2 hnw hb0
 have hfl := hr2.2 (n, .row rty es rows) (by simp)
 have hv : CR H B (.sub n off len) (a.eval (.tmp t)) := hok.slot t _ (hr2.1 (t, .t (.c (.sub n off len))) (by simp))
 obtain ⟨⟨ao, c, hv⟩, hv2⟩ := hv
 obtain ⟨z, zl, hz1, hz2, hz3⟩ := hz.ex
 have hzl2 : zl.length = es := by rw [← (hz3 H B).length]; exact hzl
 -- the run
 obtain ⟨w', hrun, hw'⟩ : ∃ w', (Builtin.clear_ #[xt] ty #[a.eval (.tmp t)]).run P w = .ok (.tuple #[]) w' ∧ Ok e ⟨f.s, fun m => if m = n then some (.row rty es (rows.take l)) else f.l m⟩ H B a w' := by
  have cut : Ok e ⟨f.s, fun m => if m = n then some (.row rty es (rows.take l)) else f.l m⟩ H B a w := by
   obtain ⟨H', B', h'⟩ := (show St e f a w from ⟨H, B, hok⟩).cutR n l es rty hfl
   have h1 := hok.setL n _ (.row rty es (rows.take l)) hfl fun hu => by
    simp only [LR] at hu ⊢
    split at hu
    ·rw [hu]; simp
    ·obtain ⟨arr, h1, h2, h3, h4, h5, h6⟩ := hu
     have h5' : ∀ r ∈ rows.take l, r.length = es := fun r hr => h5 r (List.mem_of_mem_take hr)
     have h3' : (rows.take l).length ≤ _ := Nat.le_trans (by rw [List.length_take]; omega) h3
     refine ⟨arr, h1, h2, h3', h4, h5', (rowAt_iff h2 h3' h5').2 fun i r hr f x hx => ?_⟩
     rw [List.getElem?_take] at hr
     split at hr
     ·exact (rowAt_iff h2 h3 h5).1 h6 i r hr f x hx
     ·cases hr
   refine ⟨h1.df, h1.n, h1.ext, h1.sat, h1.slot, fun m y hy => h1.loc m y ?_, fun m y b c hy => h1.priv m y b c ?_, fun m k y y' b c c' hy hy' => h1.inj m k y y' b c c' ?_ ?_, h1.low, h1.le, h1.keep⟩ <;> (simp only [F.setL]; first | (simpa using hy) | (simpa using hy'))
  by_cases h0 : len = 0
  ·subst h0
   refine ⟨w, ?_, cut⟩
   rw [hv]
   cases ao <;> simp [Builtin.clear_, run_underlying hu]
  ·obtain ⟨b, cc, k, hB, hv3⟩ := hv2 (by omega)
   obtain ⟨arr, hcl, h2, h3, h4, h5, h6⟩ := hok.row hfl hB
   have hzc : ((Builtin.zeroCells z.cells len).toList).length = len * es := by simp [Builtin.zeroCells, hz2, hzl2]
   have hle : rows.length * es ≤ cc * es := Nat.mul_le_mul_right _ h3
   have hfit : off + len * es ≤ arr.length := by rw [h2, ho, ← Nat.add_mul, hlen]; exact hle
   obtain ⟨k1, k2, k3, k4, k5, k6⟩ := setCells_heap (Builtin.zeroCells z.cells len).toList off w arr hcl
   refine ⟨w.setCells b off (Builtin.zeroCells z.cells len).toList, ?_, ?_⟩
   ·have hst := run_storeCells_cells (P := P) b off (Builtin.zeroCells z.cells len).toList 0 w (fun j hj => by
     rw [cell_of hcl (o := off + 0 + j) (v := arr[off + 0 + j]'(by omega)) (List.getElem?_eq_getElem _)]; rfl) (fun j hj => by simp [World.frozen?, hcl]) (fun v hv => by
     simp only [Builtin.zeroCells, hz2, Array.toList_map, List.mem_map] at hv
     obtain ⟨i, hi, rfl⟩ := hv
     have hm : i % zl.length < zl.length := by
      refine Nat.mod_lt _ (Nat.pos_of_ne_zero fun e0 => ?_)
      have hi' : i < len * zl.length := by simpa using hi
      rw [e0] at hi'; omega
     have e1 : ((⟨zl⟩ : Array Value)[i % (⟨zl⟩ : Array Value).size]!) = zl[i % zl.length] := by simp [hm]
     rw [e1]
     obtain ⟨y, hy, hR⟩ := (hz3 H B).get (i % zl.length) (by rw [(hz3 H B).length]; exact hm)
     rw [List.getElem?_eq_getElem hm] at hy
     injection hy with hy
     rw [hy]
     exact flat_one (CR.flat hR))
    have hzv : ∀ w', (zeroValue el).run P w' = .ok z w' := fun w' => Zero.run hz1 w'
    rw [hv3]
    cases len with
    | zero => omega
    | succ m =>
     simp at hst
     simp [Builtin.clear_, hst, run_underlying hu, hzv]
   ·refine (hok.write (g := ⟨f.s, fun m => if m = n then some (.row rty es (rows.take l)) else f.l m⟩) (l' := .row rty es (rows.take l)) hfl hB (fun _ => rfl) (fun _ => rfl) k2 k3 k4 k5 k6 ?_)
    simp only [LR, hB]
    have h5' : ∀ r ∈ rows.take l, r.length = es := fun r hr => h5 r (List.mem_of_mem_take hr)
    have h3' : (rows.take l).length ≤ cc := Nat.le_trans (by rw [List.length_take]; omega) h3
    refine ⟨putL arr off (Builtin.zeroCells z.cells len).toList, k1, by rw [putL_length]; exact h2, h3', h4, h5', (rowAt_iff (by rw [putL_length]; exact h2) h3' h5').2 fun i r hr f x hx => ?_⟩
    rw [List.getElem?_take] at hr
    split at hr
    ·rename_i hil
     obtain ⟨u, j1, j2⟩ := h6 i r hr f x hx
     have hf : f < es := by rw [← h5 r (List.mem_of_getElem? hr)]; exact (List.getElem?_eq_some_iff.1 hx).1
     have : (i + 1) * es ≤ l * es := Nat.mul_le_mul_right _ hil
     rw [Nat.add_mul] at this
     refine ⟨u, ?_, j2⟩
     rw [putL_get _ arr off _ (by omega), if_neg (by omega)]
     exact j1
    ·cases hr
 have hex : (execOp a.eval ⟨o, .call { callee := .builtin .clear, args := #[.tmp t], argTypes := #[xt] }, ty, pos, af, gd⟩).run P w = .ok (.value (.tuple #[])) w' := by
  generalize a.eval = ρ at hrun ⊢
  have e1 : (Array.map ρ #[.tmp t]) = #[ρ (.tmp t)] := by simp
  simp only [execOp, resolve, e1, Sem.run_bind, Sem.run_pure, Result.andThen_ok, invoke, builtin, hrun]
 unfold Oper.wp
 rw [hex, Oper.upon_value]
 subst hx
 cases o with
 | none => exact St.put0 ⟨H, B, hw'⟩ rfl (app0_s _ _ rfl) (fun m => app1_l f n _ _ rfl m)
 | some d => exact ⟨H, B, hw'.put (x := some (.tup [])) (hb0.1 (d, some (.tup [])) (by simp)) (app1_s f d _ _ rfl) (fun m => app1_l f n _ _ rfl m) (fun y hy => by injection hy with hy; subst hy; exact ⟨[], rfl, trivial⟩)⟩
theorem Op.clearCut' {o : Option Nat} {t n off len l es : Nat} {rows rows' : List (List D)} {zs : List C} {rty xt el ty : TypeId} {pos af gd} (hu : P.underlying xt = some (.slice el)) (hz : Zero P el zs) (hzl : zs.length = es) (ho : off = l * es) (hlen : l + len = rows.length)
  (x : List (Nat × Option V)) (hx : x = (match o with | none => [] | some d => [(d, some (.tup []))])) (hr : rows.take l = rows') :
  OpOk P ⟨o, .call { callee := .builtin .clear, args := #[.tmp t], argTypes := #[xt] }, ty, pos, af, gd⟩ { rs := [(t, .t (.c (.sub n off len)))], rl := [(n, .row rty es rows)], ws := x, wl := [(n, some (.row rty es rows'))] } := by
 subst hr
 exact Op.clearCut hu hz hzl ho hlen x hx
theorem midH {w0 : World} {H0 : Im} {B0 : Bl} {K : List Nat} {N : Nat} {Q : Exit → Act → World → Prop} {a : Act} {w : World} {x y : Code} {sl : List (Nat × V)} {lc : List (Nat × L)} (_h : St ⟨w0, H0, B0, K, N⟩ (F.of sl lc) a w) (sl' : List (Nat × V)) (lc' : List (Nat × L))
  (hx : x.wp P (Exit.then (fun a w => St ⟨w0, H0, B0, K, N⟩ (F.of sl' lc') a w) Q) a w) (hy : ∀ a w, St ⟨w0, H0, B0, K, N⟩ (F.of sl' lc') a w → y.wp P Q a w) : (Code.seq x y).wp P Q a w := midS sl' lc' hx hy
theorem nilDSr {w0 : World} {H0 : Im} {B0 : Bl} {K : List Nat} {N : Nat} {a : Act} {w : World} {sl : List (Nat × V)} {lc : List (Nat × L)} (t j es : Nat) (v : V) (ao : Option Addr) (c : Nat) (h1 : ao = none → c = 0) (h2 : c ≤ maxLen) (sl' : List (Nat × V)) (lc' : List (Nat × L)) (h : St ⟨w0, H0, B0, K, N⟩ (F.of sl lc) a w) (hv : sl.lookup t = some v) (hg : v.getC j = some (.d (.raw (.slice ao 0 c))))
  (h3 : leS ((F.of sl lc).setS t (v.setC j (.d (.sl es [])))) sl' = sl'.map fun p => some p.2) (h4 : leN ((F.of sl lc).setS t (v.setC j (.d (.sl es [])))) lc' = lc'.map fun p => some p.2) : St ⟨w0, H0, B0, K, N⟩ (F.of sl' lc') a w :=
 (h.nilDS t j es (ao := ao) hv hg h1 h2).weaken (le_of h3 h4)
theorem run_eqNil {xt el : TypeId} (hu : P.underlying xt = some (.slice el)) (ao : Option Addr) (n c : Nat) (x y : Operand) (w : World) :
  (do eqGuard .eql xt x y (.slice ao n c) nilV; binOp .eql xt (.slice ao n c) nilV : Sem Value).run P w = .ok (.bool ao.isNone) w := by
 have h1 : (eqGuard .eql xt x y (.slice ao n c) nilV).run P w = .ok () w := by simp [eqGuard]
 have h2 : (binOp .eql xt (.slice ao n c) nilV).run P w = .ok (.bool ao.isNone) w := by
  show (do pure (Value.bool (← Op.equal xt (.slice ao n c) (.slice none 0 0))) : Sem Value).run P w = _
  simp only [Sem.run_bind, run_equal_slice_nil (P := P) w xt el ao n c hu, Result.andThen_ok, Sem.run_pure]
 simp only [Sem.run_bind, h1, Result.andThen_ok, h2]
theorem Op.eqNilR {d : Nat} {x y : Operand} {ao : Option Addr} {n c : Nat} {rs rs' : List (Nat × V)} {xt yt el ty : TypeId} {pos af gd} (hu : P.underlying xt = some (.slice el)) (h : OV x (.t (.c (.d (.raw (.slice ao n c))))) rs) (h' : OV y (.t (.c (.d (.raw nilV)))) rs') :
  OpOk P ⟨some d, .binOp .eql xt x y yt, ty, pos, af, gd⟩ { rs := rs ++ rs', ws := [(d, some (vb ao.isNone))] } := by
 refine Op.raw2 rfl h h' rfl fun ρ w h1 h2 => ?_
 have := run_eqNil (P := P) hu ao n c x y w
 simp only [Sem.run_bind] at this
 simp only [execOp, h1, h2, Sem.run_bind, this, Result.andThen_ok, Sem.run_pure]
theorem Op.eqNilD {d t es : Nat} {y : Operand} {rows : List (List D)} {rs' : List (Nat × V)} {xt yt el ty : TypeId} {pos af gd} (hu : P.underlying xt = some (.slice el)) (hn : 0 < rows.length) (h' : OV y (.t (.c (.d (.raw nilV)))) rs') :
  OpOk P ⟨some d, .binOp .eql xt (.tmp t) y yt, ty, pos, af, gd⟩ { rs := (t, .t (.c (.d (.sl es rows)))) :: rs', ws := [(d, some (vb false))] } :=
 OpOk.value d _ rfl rfl rfl fun e f H B a w hok hr2 => by
  have h1 := hok.slot t _ (hr2.1 (t, .t (.c (.d (.sl es rows)))) (by simp))
  have h2 : a.eval y = nilV := (h'.eval hok fun p hp => hr2.1 p (by simp [hp])).rawI
  have h3 : DR H (.sl es rows) (a.eval (.tmp t)) := h1
  generalize hv0 : a.eval (.tmp t) = v at h3
  cases h3 with
  | nil ao c => simp at hn
  | sl _ _ b o c arr ty' fz vs hp hb hl hc hes hv hx =>
   refine ⟨.bool false, ?_, DR.raw _ rfl⟩
   generalize a.eval = ρ at hv0 h2 ⊢
   have := run_eqNil (P := P) hu (some ⟨b, o, none⟩) rows.length c (.tmp t) y w
   simp only [Sem.run_bind] at this
   simp only [execOp, hv0, h2, Sem.run_bind, this, Result.andThen_ok, Sem.run_pure]
   rfl
theorem Fn.rawE {k : FuncId} {ps qs : List (Nat × L)} {es : Nat} {res : V} (h : ∀ (ao : Option Addr) (c : Nat), (ao = none → c = 0) → c ≤ maxLen → Fn P k ps [.t (.c (.d (.raw (.slice ao 0 c))))] res qs) : Fn P k ps [.t (.c (.d (.sl es [])))] res qs := by
 intro w H B vals pre
 obtain ⟨h1, h2, h3, h4, h5⟩ := pre
 cases vals with
 | nil => exact h5.elim
 | cons v vs =>
  have h6 : DR H (.sl es []) v := h5.1
  cases h6 with
  | sl _ _ b o c arr ty fz ws hp => exact absurd hp (by simp)
  | nil _ ao c g1 g2 => exact h ao c g1 g2 w H B _ ⟨h1, h2, h3, h4, DR.raw _ rfl, h5.2⟩
end
end Go.Proofs.YtoklkfmffmonoaaGreat.S
end
section
namespace Go.Proofs.YtoklkfmffmonoaaGreat.S
open Go.RowKit

theorem ti_3 : Bodied Tryz.prog 168 := Bodied.mk' (by kernel_rfl)
theorem ti_4 : Bodied Tryz.prog 157 := Bodied.mk' (by kernel_rfl)
theorem Srotate2 {r0 r1 : List Part} {L a m b : Nat} (pre X Y post : List Part) (e0 : r0 = pre ++ X ++ Y ++ post) (e1 : r1 = pre ++ (Y ++ X) ++ post) (eL : L = pre.length + X.length + Y.length + post.length) (ea : a = pre.length) (em : m = pre.length + X.length) (eb : b = pre.length + X.length + Y.length) (hX : 0 < X.length) (hY : 0 < Y.length) (hl : L ≤ 1000000) :
  Fn Tryz.prog 168 [(0, .row 57 3 (r0.map Part.d))] [.t (.c (.own 0 L)), vi .i64 (a : Int), vi .i64 (m : Int), vi .i64 (b : Int), .t (.c (.fn (.func 105) [] []))] (.tup []) [(0, .row 57 3 (r1.map Part.d))] := by
 subst eL e0 e1 ea em eb
 exact Srotate pre X Y post hX hY hl
def SymP (N L a m b : Nat) (r0 r1 : List Part) : Prop := ∃ pre X Y post : List Part, X.length + Y.length = N ∧ a = pre.length ∧ m = pre.length + X.length ∧ b = pre.length + X.length + Y.length ∧ L = pre.length + X.length + Y.length + post.length ∧ L ≤ 1000000 ∧ 0 < X.length ∧ 0 < Y.length ∧ Ris Part.v X ∧ Ris Part.v Y ∧
  r0 = pre ++ X ++ Y ++ post ∧ r1 = pre ++ ssV Part.v (X ++ Y) ++ post
theorem ssV_e {a b : List Part} (h : a.length = 0 ∨ b.length = 0) (ra : Ris Part.v a) (rb : Ris Part.v b) : ssV Part.v (a ++ b) = a ++ b := by
 rcases h with h | h
 ·rw [len_nil h, List.nil_append]; exact ssV_of rb
 ·rw [len_nil h, List.append_nil]; exact ssV_of ra
def SymIH (N : Nat) : Prop := ∀ n, n < N → ∀ (L a m b : Nat) (r0 r1 : List Part), SymP n L a m b r0 r1 → Fn Tryz.prog 157 [(0, .row 57 3 (r0.map Part.d))] [.t (.c (.own 0 L)), vi .i64 (a : Int), vi .i64 (m : Int), vi .i64 (b : Int), .t (.c (.fn (.func 105) [] []))] (.tup []) [(0, .row 57 3 (r1.map Part.d))]
set_option maxHeartbeats 4000000 in
theorem SsymN {N L lo m b : Nat} {r0 r1 : List Part} (ih : SymIH N) (hs : SymP N L lo m b r0 r1)  : Fn Tryz.prog 157 [(0, .row 57 3 (r0.map Part.d))] [.t (.c (.own 0 L)), vi .i64 (lo : Int), vi .i64 (m : Int), vi .i64 (b : Int), .t (.c (.fn (.func 105) [] []))] (.tup []) [(0, .row 57 3 (r1.map Part.d))] := by
 obtain ⟨pre, X, Y, post, hN, ha, hm, hb, hL, hl, hX, hY, rX, rY, rfl, rfl⟩ := hs
 have hlen : (pre ++ X ++ Y ++ post).length = L := by simp only [List.length_append]; omega
 refine Fn.body Tryz.func157 rfl 220 rfl fun w H B a h => ?_
 refine wp_seq ?_
 refine rSeq fam0ok 1 [(2, .gen _ _ _ fun _ _ _ _ => Op.arith (op := .sub) (d := 27) (xt := 3) (yt := 3) (k := .i64) (m := (m : Int)) (n := (lo : Int)) (r := (X.length : Int)) (OV.tmp 25 _) (OV.tmp 26 _) (.inr (.inl ⟨rfl, (by omega)⟩)) (i64_id (by omega) (by omega)))] [(0, .t (.c (.own 0 L))), (1, vi .i64 (lo : Int)), (2, vi .i64 (m : Int)), (3, vi .i64 (b : Int)), (4, .t (.c (.fn (.func 105) [] []))), (28, vb ((X.length : Int) == 1))] [(0, .row 57 3 ((pre ++ X ++ Y ++ post).map Part.d))] (by kernel_rfl) h ?_; clear h; intro a w h
 refine condS ((X.length : Int) == 1) h rfl (fun hc => ?_) (fun hc => ?_)
 ·have hc1 := hc; clear hc
  have hc1' := hc1; (try simp at hc1')
  refine rSeq fam0ok 1 [] [(0, .t (.c (.own 0 L))), (1, vi .i64 (lo : Int)), (2, vi .i64 (m : Int)), (3, vi .i64 (b : Int)), (4, .t (.c (.fn (.func 105) [] []))), (10, vi .i64 (m : Int))] [(0, .row 57 3 ((pre ++ X ++ Y ++ post).map Part.d))] (by kernel_rfl) h ?_; clear h; intro a w h
  refine rSeq fam0ok 1 [] [(0, .t (.c (.own 0 L))), (1, vi .i64 (lo : Int)), (2, vi .i64 (m : Int)), (3, vi .i64 (b : Int)), (4, .t (.c (.fn (.func 105) [] []))), (10, vi .i64 (m : Int)), (11, vi .i64 (b : Int))] [(0, .row 57 3 ((pre ++ X ++ Y ++ post).map Part.d))] (by kernel_rfl) h ?_; clear h; intro a w h
  refine wp_seq ?_
  refine wp_block ?_
  refine loopS (ι := (Nat) × (Nat)) (fun (z_ : (Nat) × (Nat)) => match z_ with | (i, j) => m ≤ i ∧ i ≤ j ∧ j ≤ b ∧ (i = m ∨ kat (pre ++ X ++ Y ++ post) (i - 1) < kat (pre ++ X ++ Y ++ post) (lo)) ∧ (j = b ∨ kat (pre ++ X ++ Y ++ post) (lo) ≤ kat (pre ++ X ++ Y ++ post) (j)))
    (fun (z_ : (Nat) × (Nat)) => match z_ with | (i, j) => [(0, .t (.c (.own 0 L))), (1, vi .i64 (lo : Int)), (2, vi .i64 (m : Int)), (3, vi .i64 (b : Int)), (4, .t (.c (.fn (.func 105) [] []))), (10, vi .i64 (i : Int)), (11, vi .i64 (j : Int))])
    (fun (z_ : (Nat) × (Nat)) => match z_ with | (i, j) => [(0, .row 57 3 ((pre ++ X ++ Y ++ post).map Part.d))])
    (fun (z_ : (Nat) × (Nat)) => match z_ with | (i, j) => j - i) (m, b) ?_ h (by kernel_rfl) (by kernel_rfl) ?_
  ·exact ⟨Nat.le_refl _, by omega, Nat.le_refl _, .inl rfl, .inl rfl⟩
  ·clear h; rintro ⟨i, j⟩ a w hI h
   change St _ (F.of [(0, .t (.c (.own 0 L))), (1, vi .i64 (lo : Int)), (2, vi .i64 (m : Int)), (3, vi .i64 (b : Int)), (4, .t (.c (.fn (.func 105) [] []))), (10, vi .i64 (i : Int)), (11, vi .i64 (j : Int))] [(0, .row 57 3 ((pre ++ X ++ Y ++ post).map Part.d))]) a w at h
   obtain ⟨q1, q2, q3, q4, q5⟩ := hI
   refine wp_seq ?_
   refine rSeq fam0ok 1 [] [(0, .t (.c (.own 0 L))), (1, vi .i64 (lo : Int)), (2, vi .i64 (m : Int)), (3, vi .i64 (b : Int)), (4, .t (.c (.fn (.func 105) [] []))), (10, vi .i64 (i : Int)), (11, vi .i64 (j : Int)), (33, vb (decide ((i : Int) < (j : Int))))] [(0, .row 57 3 ((pre ++ X ++ Y ++ post).map Part.d))] (by kernel_rfl) h ?_; clear h; intro a w h
   refine condS (decide ((i : Int) < (j : Int))) h rfl (fun hc => ?_) (fun hc => ?_)
   ·have hc2 := hc; clear hc
    have hc2' := of_decide_eq_true hc2
    refine wp_skip ?_
    refine then_n ?_
    refine wp_block ?_
    refine rSeq fam0ok 1 [(2, .gen _ _ _ fun _ _ _ _ => Op.arith (op := .add) (d := 36) (xt := 3) (yt := 3) (k := .i64) (m := (i : Int)) (n := (j : Int)) (r := ((i + j : Nat) : Int)) (OV.tmp 34 _) (OV.tmp 35 _) (.inl ⟨rfl, (by omega)⟩) (i64_id (by omega) (by omega))), (3, .conv .i64 .u64 (m := ((i + j : Nat) : Int)) (u64_id (by omega) (by omega))), (4, .gen _ _ _ fun _ _ _ _ => Op.shr (d := 38) (xt := 113) (yt := 113) (k := .u64) (k' := .u64) (m := ((i + j : Nat) : Int)) (n := 1) (r := (((i + j) / 2 : Nat) : Int)) (OV.tmp 37 _) (OV.const (.int .u64 1) rfl) (by decide) (half _)), (5, .conv .u64 .i64 (m := (((i + j) / 2 : Nat) : Int)) (i64_id (by omega) (by omega)))] [(0, .t (.c (.own 0 L))), (1, vi .i64 (lo : Int)), (2, vi .i64 (m : Int)), (3, vi .i64 (b : Int)), (4, .t (.c (.fn (.func 105) [] []))), (10, vi .i64 (i : Int)), (11, vi .i64 (j : Int)), (12, vi .i64 (((i + j) / 2 : Nat) : Int))] [(0, .row 57 3 ((pre ++ X ++ Y ++ post).map Part.d))] (by kernel_rfl) h ?_; clear h; intro a w h
    obtain ⟨x1, hx1⟩ : ∃ z_ : Part, (pre ++ X ++ Y ++ post)[(i + j) / 2]? = some z_ := ⟨_, List.getElem?_eq_getElem (by first | omega | (simp at *; omega))⟩
    obtain ⟨x2, hx2⟩ : ∃ z_ : Part, (pre ++ X ++ Y ++ post)[lo]? = some z_ := ⟨_, List.getElem?_eq_getElem (by first | omega | (simp at *; omega))⟩
    refine rSeq fam0ok 1 [(3, .gen _ _ _ fun _ _ _ _ => Op.idxO (d := 43) (t := 41) (k := .i64) (n := 0) (len := L) (i := ((i + j) / 2)) ta_0 (by first | omega | (simp at *; omega)) (OV.tmp 42 _)), (4, .gen _ _ _ fun _ _ _ _ => Op.loadR_agg (d := 44) (t := 43) (n := 0) (i := ((i + j) / 2)) (fo := 0) (rty := 57) (es := 3) (xs := [.raw (.int .i64 x1.v), .raw (.bool x1.c.neg), nsl x1.c.abs]) te_1 rfl (map_at hx1 (f := Part.d)) rfl rfl), (7, .gen _ _ _ fun _ _ _ _ => Op.idxO (d := 47) (t := 45) (k := .i64) (n := 0) (len := L) (i := lo) ta_0 (by first | omega | (simp at *; omega)) (OV.tmp 46 _)), (8, .gen _ _ _ fun _ _ _ _ => Op.loadR_agg (d := 48) (t := 47) (n := 0) (i := lo) (fo := 0) (rty := 57) (es := 3) (xs := [.raw (.int .i64 x2.v), .raw (.bool x2.c.neg), nsl x2.c.abs]) te_1 rfl (map_at hx2 (f := Part.d)) rfl rfl), (9, .gen _ _ _ fun _ _ _ _ => Op.callV (d := 49) (t := 40) (cap := []) (args := [.t (.agg ([.d (.raw (.int .i64 x1.v))] ++ zi x1.c)), .t (.agg ([.d (.raw (.int .i64 x2.v))] ++ zi x2.c))]) (rs := [(44, .t (.agg ([.d (.raw (.int .i64 x1.v))] ++ zi x1.c))), (48, .t (.agg ([.d (.raw (.int .i64 x2.v))] ++ zi x2.c)))]) (tys := #[57, 57]) (SPlain1 x1 x2) te_2 (OVs.cons (OV.tmp 44 _) (OVs.cons (OV.tmp 48 _) (OVs.nil))))] [(0, .t (.c (.own 0 L))), (1, vi .i64 (lo : Int)), (2, vi .i64 (m : Int)), (3, vi .i64 (b : Int)), (4, .t (.c (.fn (.func 105) [] []))), (10, vi .i64 (i : Int)), (11, vi .i64 (j : Int)), (12, vi .i64 (((i + j) / 2 : Nat) : Int)), (50, vb (decide (cmpZ x1.v x2.v < 0)))] [(0, .row 57 3 ((pre ++ X ++ Y ++ post).map Part.d))] (by kernel_rfl) h ?_; clear h; intro a w h
    refine condS (decide (cmpZ x1.v x2.v < 0)) h rfl (fun hc => ?_) (fun hc => ?_)
    ·have hc3 := hc; clear hc
     have hc3' := of_decide_eq_true hc3
     refine rS fam0ok 1 [(1, .gen _ _ _ fun _ _ _ _ => Op.arith (op := .add) (d := 52) (xt := 3) (yt := 3) (k := .i64) (m := (((i + j) / 2 : Nat) : Int)) (n := 1) (r := (((i + j) / 2 + 1 : Nat) : Int)) (OV.tmp 51 _) (OV.const (.int .i64 1) rfl) (.inl ⟨rfl, (by omega)⟩) (i64_id (by omega) (by omega)))] [(0, .t (.c (.own 0 L))), (1, vi .i64 (lo : Int)), (2, vi .i64 (m : Int)), (3, vi .i64 (b : Int)), (4, .t (.c (.fn (.func 105) [] []))), (10, vi .i64 (((i + j) / 2 + 1 : Nat) : Int)), (11, vi .i64 (j : Int))] [(0, .row 57 3 ((pre ++ X ++ Y ++ post).map Part.d))] (by kernel_rfl) h ?_; clear h; intro a w h
     refine block_n ?_
     refine then_n ?_
     refine roundS (x := (i, j)) (y := (((i + j) / 2 + 1), j)) h ?_ ?_ (by kernel_rfl) (by kernel_rfl)
     ·exact ⟨by omega, by omega, by omega, .inr (by rw [show (i + j) / 2 + 1 - 1 = (i + j) / 2 from rfl, kat_of hx1, kat_of hx2]; exact cmpZ_lt0.1 hc3'), q5⟩
     ·show j - ((i + j) / 2 + 1) < j - i
      omega
    ·have hc4 := hc; clear hc
     have hc4' := of_decide_eq_false hc4
     refine rS fam0ok 1 [] [(0, .t (.c (.own 0 L))), (1, vi .i64 (lo : Int)), (2, vi .i64 (m : Int)), (3, vi .i64 (b : Int)), (4, .t (.c (.fn (.func 105) [] []))), (10, vi .i64 (i : Int)), (11, vi .i64 (((i + j) / 2 : Nat) : Int))] [(0, .row 57 3 ((pre ++ X ++ Y ++ post).map Part.d))] (by kernel_rfl) h ?_; clear h; intro a w h
     refine block_n ?_
     refine then_n ?_
     refine roundS (x := (i, j)) (y := (i, ((i + j) / 2))) h ?_ ?_ (by kernel_rfl) (by kernel_rfl)
     ·exact ⟨by omega, by omega, by omega, q4, .inr (by rw [kat_of hx1, kat_of hx2]; exact Int.not_lt.1 (mt cmpZ_lt0.2 hc4'))⟩
     ·show (i + j) / 2 - i < j - i
      omega
   ·have hc5 := hc; clear hc
    have hc5' := of_decide_eq_false hc5
    refine wp_exit ?_
    refine then_x ?_
    refine then_x ?_
    refine inBlock_exit ?_
    refine then_n ?_
    refine wp_seq ?_
    obtain ⟨x, b1, b2, hX1, hY1, hi1, hsm⟩ := srch1 (pre := pre) (X := X) (Y := Y) (post := post) (i := i) (by omega) rY (by omega) (by omega) (q4.elim (fun g => .inl (by omega)) (fun g => .inr (by rw [← ha]; exact g))) (q5.elim (fun g => .inl (by omega)) (fun g => .inr (by rw [← ha, show i = j by omega]; exact g)))
    have hlb : Y.length = b1.length + b2.length := by rw [hY1, List.length_append]
    replace h := h.conv (f' := F.of [(0, .t (.c (.own 0 L))), (1, vi .i64 (lo : Int)), (2, vi .i64 (m : Int)), (3, vi .i64 (b : Int)), (4, .t (.c (.fn (.func 105) [] []))), (10, vi .i64 (i : Int)), (11, vi .i64 (j : Int)), (33, vb (decide ((i : Int) < (j : Int))))] [(0, .row 57 3 ((pre ++ b1.take 0 ++ x :: (b1.drop 0 ++ (b2 ++ post))).map Part.d))]) (congrArg (fun (z_ : List Part) => F.of [(0, .t (.c (.own 0 L))), (1, vi .i64 (lo : Int)), (2, vi .i64 (m : Int)), (3, vi .i64 (b : Int)), (4, .t (.c (.fn (.func 105) [] []))), (10, vi .i64 (i : Int)), (11, vi .i64 (j : Int)), (33, vb (decide ((i : Int) < (j : Int))))] [(0, .row 57 3 (z_.map Part.d))]) (show ((pre ++ X ++ Y ++ post) : List Part) = (pre ++ b1.take 0 ++ x :: (b1.drop 0 ++ (b2 ++ post))) from by rw [hX1, hY1]; simp))
    refine rSeq fam0ok 1 [] [(0, .t (.c (.own 0 L))), (1, vi .i64 (lo : Int)), (2, vi .i64 (m : Int)), (3, vi .i64 (b : Int)), (4, .t (.c (.fn (.func 105) [] []))), (10, vi .i64 (i : Int)), (13, vi .i64 (lo : Int))] [(0, .row 57 3 ((pre ++ b1.take 0 ++ x :: (b1.drop 0 ++ (b2 ++ post))).map Part.d))] (by kernel_rfl) h ?_; clear h; intro a w h
    refine wp_block ?_
    refine loopS (ι := (Nat) × (Nat)) (fun (z_ : (Nat) × (Nat)) => match z_ with | (k, t) => k = lo + t ∧ t ≤ b1.length)
      (fun (z_ : (Nat) × (Nat)) => match z_ with | (k, t) => [(0, .t (.c (.own 0 L))), (1, vi .i64 (lo : Int)), (2, vi .i64 (m : Int)), (3, vi .i64 (b : Int)), (4, .t (.c (.fn (.func 105) [] []))), (10, vi .i64 (i : Int)), (13, vi .i64 (k : Int))])
      (fun (z_ : (Nat) × (Nat)) => match z_ with | (k, t) => [(0, .row 57 3 ((pre ++ b1.take t ++ x :: (b1.drop t ++ (b2 ++ post))).map Part.d))])
      (fun (z_ : (Nat) × (Nat)) => match z_ with | (k, t) => b1.length - t) (lo, 0) ?_ h (by kernel_rfl) (by kernel_rfl) ?_
    ·exact ⟨rfl, Nat.zero_le _⟩
    ·clear h; rintro ⟨k, t⟩ a w hI h
     change St _ (F.of [(0, .t (.c (.own 0 L))), (1, vi .i64 (lo : Int)), (2, vi .i64 (m : Int)), (3, vi .i64 (b : Int)), (4, .t (.c (.fn (.func 105) [] []))), (10, vi .i64 (i : Int)), (13, vi .i64 (k : Int))] [(0, .row 57 3 ((pre ++ b1.take t ++ x :: (b1.drop t ++ (b2 ++ post))).map Part.d))]) a w at h
     obtain ⟨p1, p2⟩ := hI
     refine wp_seq ?_
     refine rSeq fam0ok 1 [(2, .gen _ _ _ fun _ _ _ _ => Op.arith (op := .sub) (d := 57) (xt := 3) (yt := 3) (k := .i64) (m := (i : Int)) (n := 1) (r := ((lo + b1.length : Nat) : Int)) (OV.tmp 56 _) (OV.const (.int .i64 1) rfl) (.inr (.inl ⟨rfl, (by omega)⟩)) (i64_id (by omega) (by omega)))] [(0, .t (.c (.own 0 L))), (1, vi .i64 (lo : Int)), (2, vi .i64 (m : Int)), (3, vi .i64 (b : Int)), (4, .t (.c (.fn (.func 105) [] []))), (10, vi .i64 (i : Int)), (13, vi .i64 (k : Int)), (58, vb (decide ((k : Int) < ((lo + b1.length : Nat) : Int))))] [(0, .row 57 3 ((pre ++ b1.take t ++ x :: (b1.drop t ++ (b2 ++ post))).map Part.d))] (by kernel_rfl) h ?_; clear h; intro a w h
     refine condS (decide ((k : Int) < ((lo + b1.length : Nat) : Int))) h rfl (fun hc => ?_) (fun hc => ?_)
     ·have hc6 := hc; clear hc
      have hc6' := of_decide_eq_true hc6
      refine wp_skip ?_
      refine then_n ?_
      refine wp_seq ?_
      refine wp_block ?_
      obtain ⟨y, hy⟩ : ∃ z_ : Part, b1[t]? = some z_ := ⟨_, List.getElem?_eq_getElem (by omega)⟩
      refine rS fam0ok 1 [(4, .gen _ _ _ fun _ _ _ _ => Op.arith (op := .add) (d := 65) (xt := 3) (yt := 3) (k := .i64) (m := (k : Int)) (n := 1) (r := ((k + 1 : Nat) : Int)) (OV.tmp 64 _) (OV.const (.int .i64 1) rfl) (.inl ⟨rfl, (by omega)⟩) (i64_id (by omega) (by omega))), (7, .gen _ _ _ fun _ _ _ _ => Op.arith (op := .add) (d := 68) (xt := 3) (yt := 3) (k := .i64) (m := (k : Int)) (n := 1) (r := ((k + 1 : Nat) : Int)) (OV.tmp 67 _) (OV.const (.int .i64 1) rfl) (.inl ⟨rfl, (by omega)⟩) (i64_id (by omega) (by omega))), (8, .gen _ _ _ fun _ _ _ _ => Op.idxO (d := 69) (t := 66) (k := .i64) (n := 0) (len := L) (i := (k + 1)) ta_0 (by first | omega | (simp at *; omega)) (OV.tmp 68 _)), (9, .gen _ _ _ fun _ _ _ _ => Op.loadR_agg (d := 70) (t := 69) (n := 0) (i := (k + 1)) (fo := 0) (rty := 57) (es := 3) (xs := [.raw (.int .i64 y.v), .raw (.bool y.c.neg), nsl y.c.abs]) te_1 rfl (map_at (show ((pre ++ b1.take t ++ x :: (b1.drop t ++ (b2 ++ post))) : List Part)[k + 1]? = some y from (up_nx (p := pre) (k + 1) (by omega) hy)) (f := Part.d)) rfl rfl), (12, .gen _ _ _ fun _ _ _ _ => Op.idxO (d := 73) (t := 71) (k := .i64) (n := 0) (len := L) (i := k) ta_0 (by first | omega | (simp at *; omega)) (OV.tmp 72 _)), (13, .gen _ _ _ fun _ _ _ _ => Op.loadR_agg (d := 74) (t := 73) (n := 0) (i := k) (fo := 0) (rty := 57) (es := 3) (xs := [.raw (.int .i64 x.v), .raw (.bool x.c.neg), nsl x.c.abs]) te_1 rfl (map_at (show ((pre ++ b1.take t ++ x :: (b1.drop t ++ (b2 ++ post))) : List Part)[k]? = some x from (up_at (p := pre) (q := b1) (t := t) k (by omega) (by omega))) (f := Part.d)) rfl rfl), (14, .gen _ _ _ fun _ _ _ _ => Op.idxO (d := 75) (t := 61) (k := .i64) (n := 0) (len := L) (i := k) ta_0 (by first | omega | (simp at *; omega)) (OV.tmp 62 _)), (15, .gen _ _ _ fun _ _ _ _ => Op.storeR (t := 75) (n := 0) (i := k) (fo := 0) (rty := 57) (es := 3) (r := Part.d x) (ds := [.raw (.int .i64 y.v), .raw (.bool y.c.neg), nsl y.c.abs]) (rs := [(70, .t (.agg ([.d (.raw (.int .i64 y.v))] ++ zi y.c)))]) (rows := (pre ++ b1.take t ++ x :: (b1.drop t ++ (b2 ++ post))).map Part.d) (rows' := ((pre ++ b1.take t ++ x :: (b1.drop t ++ (b2 ++ post))).set k y).map Part.d) te_1 (OV.tmp 70 _) rfl rfl rfl (map_at (show ((pre ++ b1.take t ++ x :: (b1.drop t ++ (b2 ++ post))) : List Part)[k]? = some x from (up_at (p := pre) (q := b1) (t := t) k (by omega) (by omega))) (f := Part.d)) (by simp [Part.d]) (set_map (xs := (pre ++ b1.take t ++ x :: (b1.drop t ++ (b2 ++ post)))) (F := Part.d) k _ _ rfl)), (16, .gen _ _ _ fun _ _ _ _ => Op.idxO (d := 76) (t := 63) (k := .i64) (n := 0) (len := L) (i := (k + 1)) ta_0 (by first | omega | (simp at *; omega)) (OV.tmp 65 _)), (17, .gen _ _ _ fun _ _ _ _ => Op.storeR (t := 76) (n := 0) (i := (k + 1)) (fo := 0) (rty := 57) (es := 3) (r := Part.d y) (ds := [.raw (.int .i64 x.v), .raw (.bool x.c.neg), nsl x.c.abs]) (rs := [(74, .t (.agg ([.d (.raw (.int .i64 x.v))] ++ zi x.c)))]) (rows := ((pre ++ b1.take t ++ x :: (b1.drop t ++ (b2 ++ post))).set k y).map Part.d) (rows' := (((pre ++ b1.take t ++ x :: (b1.drop t ++ (b2 ++ post))).set k y).set (k + 1) x).map Part.d) te_1 (OV.tmp 74 _) rfl rfl rfl (map_at ((List.getElem?_set_ne (by omega)).trans (show ((pre ++ b1.take t ++ x :: (b1.drop t ++ (b2 ++ post))) : List Part)[k + 1]? = some y from (up_nx (p := pre) (k + 1) (by omega) hy))) (f := Part.d)) (by simp [Part.d]) (set_map (xs := ((pre ++ b1.take t ++ x :: (b1.drop t ++ (b2 ++ post))).set k y)) (F := Part.d) (k + 1) _ _ rfl))] [(0, .t (.c (.own 0 L))), (1, vi .i64 (lo : Int)), (2, vi .i64 (m : Int)), (3, vi .i64 (b : Int)), (4, .t (.c (.fn (.func 105) [] []))), (10, vi .i64 (i : Int)), (13, vi .i64 (k : Int))] [(0, .row 57 3 ((((pre ++ b1.take t ++ x :: (b1.drop t ++ (b2 ++ post))).set k y).set (k + 1) x).map Part.d))] (by kernel_rfl) h ?_; clear h; intro a w h
      refine block_n ?_
      refine then_n ?_
      refine rS fam0ok 1 [(1, .gen _ _ _ fun _ _ _ _ => Op.arith (op := .add) (d := 60) (xt := 3) (yt := 3) (k := .i64) (m := (k : Int)) (n := 1) (r := ((k + 1 : Nat) : Int)) (OV.tmp 59 _) (OV.const (.int .i64 1) rfl) (.inl ⟨rfl, (by omega)⟩) (i64_id (by omega) (by omega)))] [(0, .t (.c (.own 0 L))), (1, vi .i64 (lo : Int)), (2, vi .i64 (m : Int)), (3, vi .i64 (b : Int)), (4, .t (.c (.fn (.func 105) [] []))), (10, vi .i64 (i : Int)), (13, vi .i64 ((k + 1 : Nat) : Int))] [(0, .row 57 3 ((((pre ++ b1.take t ++ x :: (b1.drop t ++ (b2 ++ post))).set k y).set (k + 1) x).map Part.d))] (by kernel_rfl) h ?_; clear h; intro a w h
      refine then_n ?_
      rw [up_step (p := pre) k (k + 1) (by omega) rfl hy] at h
      refine roundS (x := (k, t)) (y := (k + 1, t + 1)) h ?_ ?_ (by kernel_rfl) (by kernel_rfl)
      ·exact ⟨by omega, by omega⟩
      ·show b1.length - (t + 1) < b1.length - t
       omega
     ·have hc7 := hc; clear hc
      have hc7' := of_decide_eq_false hc7
      refine wp_exit ?_
      refine then_x ?_
      refine then_x ?_
      refine inBlock_exit ?_
      refine then_n ?_
      refine wp_ret ?_
      refine then_r ?_
      replace h := h.conv (f' := F.of [(0, .t (.c (.own 0 L))), (1, vi .i64 (lo : Int)), (2, vi .i64 (m : Int)), (3, vi .i64 (b : Int)), (4, .t (.c (.fn (.func 105) [] []))), (10, vi .i64 (i : Int)), (13, vi .i64 (k : Int)), (58, vb (decide ((k : Int) < ((lo + b1.length : Nat) : Int))))] [(0, .row 57 3 ((pre ++ ssV Part.v (X ++ Y) ++ post).map Part.d))]) (congrArg (fun (z_ : List Part) => F.of [(0, .t (.c (.own 0 L))), (1, vi .i64 (lo : Int)), (2, vi .i64 (m : Int)), (3, vi .i64 (b : Int)), (4, .t (.c (.fn (.func 105) [] []))), (10, vi .i64 (i : Int)), (13, vi .i64 (k : Int)), (58, vb (decide ((k : Int) < ((lo + b1.length : Nat) : Int))))] [(0, .row 57 3 (z_.map Part.d))]) (show ((pre ++ b1.take t ++ x :: (b1.drop t ++ (b2 ++ post))) : List Part) = (pre ++ ssV Part.v (X ++ Y) ++ post) from by
        rw [← hsm, show t = b1.length by omega, List.take_length, List.drop_length]; simp))
      refine retS [] h Exit.ret (.inl rfl)  rfl trivial ?_ (by kernel_rfl) (by kernel_rfl)
      rfl
 ·have hc8 := hc; clear hc
  have hc8' := hc8; (try simp at hc8')
  refine wp_skip ?_
  refine then_n ?_
  refine wp_seq ?_
  refine rSeq fam0ok 1 [(2, .gen _ _ _ fun _ _ _ _ => Op.arith (op := .sub) (d := 79) (xt := 3) (yt := 3) (k := .i64) (m := (b : Int)) (n := (m : Int)) (r := (Y.length : Int)) (OV.tmp 77 _) (OV.tmp 78 _) (.inr (.inl ⟨rfl, (by omega)⟩)) (i64_id (by omega) (by omega)))] [(0, .t (.c (.own 0 L))), (1, vi .i64 (lo : Int)), (2, vi .i64 (m : Int)), (3, vi .i64 (b : Int)), (4, .t (.c (.fn (.func 105) [] []))), (80, vb ((Y.length : Int) == 1))] [(0, .row 57 3 ((pre ++ X ++ Y ++ post).map Part.d))] (by kernel_rfl) h ?_; clear h; intro a w h
  refine condS ((Y.length : Int) == 1) h rfl (fun hc => ?_) (fun hc => ?_)
  ·have hc9 := hc; clear hc
   have hc9' := hc9; (try simp at hc9')
   refine rSeq fam0ok 1 [] [(0, .t (.c (.own 0 L))), (1, vi .i64 (lo : Int)), (2, vi .i64 (m : Int)), (3, vi .i64 (b : Int)), (4, .t (.c (.fn (.func 105) [] []))), (14, vi .i64 (lo : Int))] [(0, .row 57 3 ((pre ++ X ++ Y ++ post).map Part.d))] (by kernel_rfl) h ?_; clear h; intro a w h
   refine rSeq fam0ok 1 [] [(0, .t (.c (.own 0 L))), (1, vi .i64 (lo : Int)), (2, vi .i64 (m : Int)), (3, vi .i64 (b : Int)), (4, .t (.c (.fn (.func 105) [] []))), (14, vi .i64 (lo : Int)), (15, vi .i64 (m : Int))] [(0, .row 57 3 ((pre ++ X ++ Y ++ post).map Part.d))] (by kernel_rfl) h ?_; clear h; intro a w h
   refine wp_seq ?_
   refine wp_block ?_
   refine loopS (ι := (Nat) × (Nat)) (fun (z_ : (Nat) × (Nat)) => match z_ with | (i, j) => lo ≤ i ∧ i ≤ j ∧ j ≤ m ∧ (i = lo ∨ kat (pre ++ X ++ Y ++ post) (i - 1) ≤ kat (pre ++ X ++ Y ++ post) (m)) ∧ (j = m ∨ kat (pre ++ X ++ Y ++ post) (m) < kat (pre ++ X ++ Y ++ post) (j)))
     (fun (z_ : (Nat) × (Nat)) => match z_ with | (i, j) => [(0, .t (.c (.own 0 L))), (1, vi .i64 (lo : Int)), (2, vi .i64 (m : Int)), (3, vi .i64 (b : Int)), (4, .t (.c (.fn (.func 105) [] []))), (14, vi .i64 (i : Int)), (15, vi .i64 (j : Int))])
     (fun (z_ : (Nat) × (Nat)) => match z_ with | (i, j) => [(0, .row 57 3 ((pre ++ X ++ Y ++ post).map Part.d))])
     (fun (z_ : (Nat) × (Nat)) => match z_ with | (i, j) => j - i) (lo, m) ?_ h (by kernel_rfl) (by kernel_rfl) ?_
   ·exact ⟨Nat.le_refl _, by omega, Nat.le_refl _, .inl rfl, .inl rfl⟩
   ·clear h; rintro ⟨i, j⟩ a w hI h
    change St _ (F.of [(0, .t (.c (.own 0 L))), (1, vi .i64 (lo : Int)), (2, vi .i64 (m : Int)), (3, vi .i64 (b : Int)), (4, .t (.c (.fn (.func 105) [] []))), (14, vi .i64 (i : Int)), (15, vi .i64 (j : Int))] [(0, .row 57 3 ((pre ++ X ++ Y ++ post).map Part.d))]) a w at h
    obtain ⟨q1, q2, q3, q4, q5⟩ := hI
    refine wp_seq ?_
    refine rSeq fam0ok 1 [] [(0, .t (.c (.own 0 L))), (1, vi .i64 (lo : Int)), (2, vi .i64 (m : Int)), (3, vi .i64 (b : Int)), (4, .t (.c (.fn (.func 105) [] []))), (14, vi .i64 (i : Int)), (15, vi .i64 (j : Int)), (85, vb (decide ((i : Int) < (j : Int))))] [(0, .row 57 3 ((pre ++ X ++ Y ++ post).map Part.d))] (by kernel_rfl) h ?_; clear h; intro a w h
    refine condS (decide ((i : Int) < (j : Int))) h rfl (fun hc => ?_) (fun hc => ?_)
    ·have hc10 := hc; clear hc
     have hc10' := of_decide_eq_true hc10
     refine wp_skip ?_
     refine then_n ?_
     refine wp_block ?_
     refine rSeq fam0ok 1 [(2, .gen _ _ _ fun _ _ _ _ => Op.arith (op := .add) (d := 88) (xt := 3) (yt := 3) (k := .i64) (m := (i : Int)) (n := (j : Int)) (r := ((i + j : Nat) : Int)) (OV.tmp 86 _) (OV.tmp 87 _) (.inl ⟨rfl, (by omega)⟩) (i64_id (by omega) (by omega))), (3, .conv .i64 .u64 (m := ((i + j : Nat) : Int)) (u64_id (by omega) (by omega))), (4, .gen _ _ _ fun _ _ _ _ => Op.shr (d := 90) (xt := 113) (yt := 113) (k := .u64) (k' := .u64) (m := ((i + j : Nat) : Int)) (n := 1) (r := (((i + j) / 2 : Nat) : Int)) (OV.tmp 89 _) (OV.const (.int .u64 1) rfl) (by decide) (half _)), (5, .conv .u64 .i64 (m := (((i + j) / 2 : Nat) : Int)) (i64_id (by omega) (by omega)))] [(0, .t (.c (.own 0 L))), (1, vi .i64 (lo : Int)), (2, vi .i64 (m : Int)), (3, vi .i64 (b : Int)), (4, .t (.c (.fn (.func 105) [] []))), (14, vi .i64 (i : Int)), (15, vi .i64 (j : Int)), (16, vi .i64 (((i + j) / 2 : Nat) : Int))] [(0, .row 57 3 ((pre ++ X ++ Y ++ post).map Part.d))] (by kernel_rfl) h ?_; clear h; intro a w h
     obtain ⟨x4, hx4⟩ : ∃ z_ : Part, (pre ++ X ++ Y ++ post)[m]? = some z_ := ⟨_, List.getElem?_eq_getElem (by first | omega | (simp at *; omega))⟩
     obtain ⟨x5, hx5⟩ : ∃ z_ : Part, (pre ++ X ++ Y ++ post)[(i + j) / 2]? = some z_ := ⟨_, List.getElem?_eq_getElem (by first | omega | (simp at *; omega))⟩
     refine rSeq fam0ok 1 [(3, .gen _ _ _ fun _ _ _ _ => Op.idxO (d := 95) (t := 93) (k := .i64) (n := 0) (len := L) (i := m) ta_0 (by first | omega | (simp at *; omega)) (OV.tmp 94 _)), (4, .gen _ _ _ fun _ _ _ _ => Op.loadR_agg (d := 96) (t := 95) (n := 0) (i := m) (fo := 0) (rty := 57) (es := 3) (xs := [.raw (.int .i64 x4.v), .raw (.bool x4.c.neg), nsl x4.c.abs]) te_1 rfl (map_at hx4 (f := Part.d)) rfl rfl), (7, .gen _ _ _ fun _ _ _ _ => Op.idxO (d := 99) (t := 97) (k := .i64) (n := 0) (len := L) (i := ((i + j) / 2)) ta_0 (by first | omega | (simp at *; omega)) (OV.tmp 98 _)), (8, .gen _ _ _ fun _ _ _ _ => Op.loadR_agg (d := 100) (t := 99) (n := 0) (i := ((i + j) / 2)) (fo := 0) (rty := 57) (es := 3) (xs := [.raw (.int .i64 x5.v), .raw (.bool x5.c.neg), nsl x5.c.abs]) te_1 rfl (map_at hx5 (f := Part.d)) rfl rfl), (9, .gen _ _ _ fun _ _ _ _ => Op.callV (d := 101) (t := 92) (cap := []) (args := [.t (.agg ([.d (.raw (.int .i64 x4.v))] ++ zi x4.c)), .t (.agg ([.d (.raw (.int .i64 x5.v))] ++ zi x5.c))]) (rs := [(96, .t (.agg ([.d (.raw (.int .i64 x4.v))] ++ zi x4.c))), (100, .t (.agg ([.d (.raw (.int .i64 x5.v))] ++ zi x5.c)))]) (tys := #[57, 57]) (SPlain1 x4 x5) te_2 (OVs.cons (OV.tmp 96 _) (OVs.cons (OV.tmp 100 _) (OVs.nil))))] [(0, .t (.c (.own 0 L))), (1, vi .i64 (lo : Int)), (2, vi .i64 (m : Int)), (3, vi .i64 (b : Int)), (4, .t (.c (.fn (.func 105) [] []))), (14, vi .i64 (i : Int)), (15, vi .i64 (j : Int)), (16, vi .i64 (((i + j) / 2 : Nat) : Int)), (103, vb (!(decide (cmpZ x4.v x5.v < 0))))] [(0, .row 57 3 ((pre ++ X ++ Y ++ post).map Part.d))] (by kernel_rfl) h ?_; clear h; intro a w h
     refine condS (!(decide (cmpZ x4.v x5.v < 0))) h rfl (fun hc => ?_) (fun hc => ?_)
     ·have hc11 := hc; clear hc
      have hc11' := hc11; (try simp at hc11')
      refine rS fam0ok 1 [(1, .gen _ _ _ fun _ _ _ _ => Op.arith (op := .add) (d := 105) (xt := 3) (yt := 3) (k := .i64) (m := (((i + j) / 2 : Nat) : Int)) (n := 1) (r := (((i + j) / 2 + 1 : Nat) : Int)) (OV.tmp 104 _) (OV.const (.int .i64 1) rfl) (.inl ⟨rfl, (by omega)⟩) (i64_id (by omega) (by omega)))] [(0, .t (.c (.own 0 L))), (1, vi .i64 (lo : Int)), (2, vi .i64 (m : Int)), (3, vi .i64 (b : Int)), (4, .t (.c (.fn (.func 105) [] []))), (14, vi .i64 (((i + j) / 2 + 1 : Nat) : Int)), (15, vi .i64 (j : Int))] [(0, .row 57 3 ((pre ++ X ++ Y ++ post).map Part.d))] (by kernel_rfl) h ?_; clear h; intro a w h
      refine block_n ?_
      refine then_n ?_
      refine roundS (x := (i, j)) (y := (((i + j) / 2 + 1), j)) h ?_ ?_ (by kernel_rfl) (by kernel_rfl)
      ·exact ⟨by omega, by omega, by omega, .inr (by rw [show (i + j) / 2 + 1 - 1 = (i + j) / 2 from rfl, kat_of hx5, kat_of hx4]; exact Int.not_lt.1 (mt cmpZ_lt0.2 (Int.not_lt.2 hc11'))), q5⟩
      ·show j - ((i + j) / 2 + 1) < j - i
       omega
     ·have hc12 := hc; clear hc
      have hc12' := hc12; (try simp at hc12')
      refine rS fam0ok 1 [] [(0, .t (.c (.own 0 L))), (1, vi .i64 (lo : Int)), (2, vi .i64 (m : Int)), (3, vi .i64 (b : Int)), (4, .t (.c (.fn (.func 105) [] []))), (14, vi .i64 (i : Int)), (15, vi .i64 (((i + j) / 2 : Nat) : Int))] [(0, .row 57 3 ((pre ++ X ++ Y ++ post).map Part.d))] (by kernel_rfl) h ?_; clear h; intro a w h
      refine block_n ?_
      refine then_n ?_
      refine roundS (x := (i, j)) (y := (i, ((i + j) / 2))) h ?_ ?_ (by kernel_rfl) (by kernel_rfl)
      ·exact ⟨by omega, by omega, by omega, q4, .inr (by rw [kat_of hx5, kat_of hx4]; exact cmpZ_lt0.1 hc12')⟩
      ·show (i + j) / 2 - i < j - i
       omega
    ·have hc13 := hc; clear hc
     have hc13' := of_decide_eq_false hc13
     refine wp_exit ?_
     refine then_x ?_
     refine then_x ?_
     refine inBlock_exit ?_
     refine then_n ?_
     refine wp_seq ?_
     obtain ⟨y, a1, a2, hY1, hX1, hi1, hsm⟩ := srch2 (pre := pre) (X := X) (Y := Y) (post := post) (i := i) (by omega) rX (by omega) (by omega) (q4.elim (fun g => .inl (by omega)) (fun g => .inr (by rw [← hm]; exact g))) (q5.elim (fun g => .inl (by omega)) (fun g => .inr (by rw [← hm, show i = j by omega]; exact g)))
     have hla : X.length = a1.length + a2.length := by rw [hX1, List.length_append]
     replace h := h.conv (f' := F.of [(0, .t (.c (.own 0 L))), (1, vi .i64 (lo : Int)), (2, vi .i64 (m : Int)), (3, vi .i64 (b : Int)), (4, .t (.c (.fn (.func 105) [] []))), (14, vi .i64 (i : Int)), (15, vi .i64 (j : Int)), (85, vb (decide ((i : Int) < (j : Int))))] [(0, .row 57 3 (((pre ++ a1) ++ a2.take a2.length ++ y :: (a2.drop a2.length ++ post)).map Part.d))]) (congrArg (fun (z_ : List Part) => F.of [(0, .t (.c (.own 0 L))), (1, vi .i64 (lo : Int)), (2, vi .i64 (m : Int)), (3, vi .i64 (b : Int)), (4, .t (.c (.fn (.func 105) [] []))), (14, vi .i64 (i : Int)), (15, vi .i64 (j : Int)), (85, vb (decide ((i : Int) < (j : Int))))] [(0, .row 57 3 (z_.map Part.d))]) (show ((pre ++ X ++ Y ++ post) : List Part) = ((pre ++ a1) ++ a2.take a2.length ++ y :: (a2.drop a2.length ++ post)) from by rw [hX1, hY1, List.take_length, List.drop_length]; simp))
     refine rSeq fam0ok 1 [] [(0, .t (.c (.own 0 L))), (1, vi .i64 (lo : Int)), (2, vi .i64 (m : Int)), (3, vi .i64 (b : Int)), (4, .t (.c (.fn (.func 105) [] []))), (14, vi .i64 (i : Int)), (17, vi .i64 (m : Int))] [(0, .row 57 3 (((pre ++ a1) ++ a2.take a2.length ++ y :: (a2.drop a2.length ++ post)).map Part.d))] (by kernel_rfl) h ?_; clear h; intro a w h
     refine wp_block ?_
     refine loopS (ι := (Nat) × (Nat)) (fun (z_ : (Nat) × (Nat)) => match z_ with | (k, t) => k = pre.length + a1.length + t ∧ t ≤ a2.length)
       (fun (z_ : (Nat) × (Nat)) => match z_ with | (k, t) => [(0, .t (.c (.own 0 L))), (1, vi .i64 (lo : Int)), (2, vi .i64 (m : Int)), (3, vi .i64 (b : Int)), (4, .t (.c (.fn (.func 105) [] []))), (14, vi .i64 (i : Int)), (17, vi .i64 (k : Int))])
       (fun (z_ : (Nat) × (Nat)) => match z_ with | (k, t) => [(0, .row 57 3 (((pre ++ a1) ++ a2.take t ++ y :: (a2.drop t ++ post)).map Part.d))])
       (fun (z_ : (Nat) × (Nat)) => match z_ with | (k, t) => t) (m, a2.length) ?_ h (by kernel_rfl) (by kernel_rfl) ?_
     ·exact ⟨by omega, Nat.le_refl _⟩
     ·clear h; rintro ⟨k, t⟩ a w hI h
      change St _ (F.of [(0, .t (.c (.own 0 L))), (1, vi .i64 (lo : Int)), (2, vi .i64 (m : Int)), (3, vi .i64 (b : Int)), (4, .t (.c (.fn (.func 105) [] []))), (14, vi .i64 (i : Int)), (17, vi .i64 (k : Int))] [(0, .row 57 3 (((pre ++ a1) ++ a2.take t ++ y :: (a2.drop t ++ post)).map Part.d))]) a w at h
      obtain ⟨p1, p2⟩ := hI
      refine wp_seq ?_
      refine rSeq fam0ok 1 [] [(0, .t (.c (.own 0 L))), (1, vi .i64 (lo : Int)), (2, vi .i64 (m : Int)), (3, vi .i64 (b : Int)), (4, .t (.c (.fn (.func 105) [] []))), (14, vi .i64 (i : Int)), (17, vi .i64 (k : Int)), (110, vb (decide ((k : Int) > (i : Int))))] [(0, .row 57 3 (((pre ++ a1) ++ a2.take t ++ y :: (a2.drop t ++ post)).map Part.d))] (by kernel_rfl) h ?_; clear h; intro a w h
      refine condS (decide ((k : Int) > (i : Int))) h rfl (fun hc => ?_) (fun hc => ?_)
      ·have hc14 := hc; clear hc
       have hc14' := of_decide_eq_true hc14
       refine wp_skip ?_
       refine then_n ?_
       refine wp_seq ?_
       refine wp_block ?_
       obtain ⟨z, hz⟩ : ∃ z_ : Part, a2[t - 1]? = some z_ := ⟨_, List.getElem?_eq_getElem (by omega)⟩
       refine rS fam0ok 1 [(4, .gen _ _ _ fun _ _ _ _ => Op.arith (op := .sub) (d := 117) (xt := 3) (yt := 3) (k := .i64) (m := (k : Int)) (n := 1) (r := ((k - 1 : Nat) : Int)) (OV.tmp 116 _) (OV.const (.int .i64 1) rfl) (.inr (.inl ⟨rfl, (by omega)⟩)) (i64_id (by omega) (by omega))), (7, .gen _ _ _ fun _ _ _ _ => Op.arith (op := .sub) (d := 120) (xt := 3) (yt := 3) (k := .i64) (m := (k : Int)) (n := 1) (r := ((k - 1 : Nat) : Int)) (OV.tmp 119 _) (OV.const (.int .i64 1) rfl) (.inr (.inl ⟨rfl, (by omega)⟩)) (i64_id (by omega) (by omega))), (8, .gen _ _ _ fun _ _ _ _ => Op.idxO (d := 121) (t := 118) (k := .i64) (n := 0) (len := L) (i := (k - 1)) ta_0 (by first | omega | (simp at *; omega)) (OV.tmp 120 _)), (9, .gen _ _ _ fun _ _ _ _ => Op.loadR_agg (d := 122) (t := 121) (n := 0) (i := (k - 1)) (fo := 0) (rty := 57) (es := 3) (xs := [.raw (.int .i64 z.v), .raw (.bool z.c.neg), nsl z.c.abs]) te_1 rfl (map_at (show (((pre ++ a1) ++ a2.take t ++ y :: (a2.drop t ++ post)) : List Part)[k - 1]? = some z from (dn_nx (p := pre ++ a1) (k - 1) (by first | omega | (simp only [List.length_append]; omega)) (by omega) hz)) (f := Part.d)) rfl rfl), (12, .gen _ _ _ fun _ _ _ _ => Op.idxO (d := 125) (t := 123) (k := .i64) (n := 0) (len := L) (i := k) ta_0 (by first | omega | (simp at *; omega)) (OV.tmp 124 _)), (13, .gen _ _ _ fun _ _ _ _ => Op.loadR_agg (d := 126) (t := 125) (n := 0) (i := k) (fo := 0) (rty := 57) (es := 3) (xs := [.raw (.int .i64 y.v), .raw (.bool y.c.neg), nsl y.c.abs]) te_1 rfl (map_at (show (((pre ++ a1) ++ a2.take t ++ y :: (a2.drop t ++ post)) : List Part)[k]? = some y from (up_at (p := pre ++ a1) (q := a2) (t := t) k (by first | omega | (simp only [List.length_append]; omega)) (by omega))) (f := Part.d)) rfl rfl), (14, .gen _ _ _ fun _ _ _ _ => Op.idxO (d := 127) (t := 113) (k := .i64) (n := 0) (len := L) (i := k) ta_0 (by first | omega | (simp at *; omega)) (OV.tmp 114 _)), (15, .gen _ _ _ fun _ _ _ _ => Op.storeR (t := 127) (n := 0) (i := k) (fo := 0) (rty := 57) (es := 3) (r := Part.d y) (ds := [.raw (.int .i64 z.v), .raw (.bool z.c.neg), nsl z.c.abs]) (rs := [(122, .t (.agg ([.d (.raw (.int .i64 z.v))] ++ zi z.c)))]) (rows := ((pre ++ a1) ++ a2.take t ++ y :: (a2.drop t ++ post)).map Part.d) (rows' := (((pre ++ a1) ++ a2.take t ++ y :: (a2.drop t ++ post)).set k z).map Part.d) te_1 (OV.tmp 122 _) rfl rfl rfl (map_at (show (((pre ++ a1) ++ a2.take t ++ y :: (a2.drop t ++ post)) : List Part)[k]? = some y from (up_at (p := pre ++ a1) (q := a2) (t := t) k (by first | omega | (simp only [List.length_append]; omega)) (by omega))) (f := Part.d)) (by simp [Part.d]) (set_map (xs := ((pre ++ a1) ++ a2.take t ++ y :: (a2.drop t ++ post))) (F := Part.d) k _ _ rfl)), (16, .gen _ _ _ fun _ _ _ _ => Op.idxO (d := 128) (t := 115) (k := .i64) (n := 0) (len := L) (i := (k - 1)) ta_0 (by first | omega | (simp at *; omega)) (OV.tmp 117 _)), (17, .gen _ _ _ fun _ _ _ _ => Op.storeR (t := 128) (n := 0) (i := (k - 1)) (fo := 0) (rty := 57) (es := 3) (r := Part.d z) (ds := [.raw (.int .i64 y.v), .raw (.bool y.c.neg), nsl y.c.abs]) (rs := [(126, .t (.agg ([.d (.raw (.int .i64 y.v))] ++ zi y.c)))]) (rows := (((pre ++ a1) ++ a2.take t ++ y :: (a2.drop t ++ post)).set k z).map Part.d) (rows' := ((((pre ++ a1) ++ a2.take t ++ y :: (a2.drop t ++ post)).set k z).set (k - 1) y).map Part.d) te_1 (OV.tmp 126 _) rfl rfl rfl (map_at ((List.getElem?_set_ne (by omega)).trans (show (((pre ++ a1) ++ a2.take t ++ y :: (a2.drop t ++ post)) : List Part)[k - 1]? = some z from (dn_nx (p := pre ++ a1) (k - 1) (by first | omega | (simp only [List.length_append]; omega)) (by omega) hz))) (f := Part.d)) (by simp [Part.d]) (set_map (xs := (((pre ++ a1) ++ a2.take t ++ y :: (a2.drop t ++ post)).set k z)) (F := Part.d) (k - 1) _ _ rfl))] [(0, .t (.c (.own 0 L))), (1, vi .i64 (lo : Int)), (2, vi .i64 (m : Int)), (3, vi .i64 (b : Int)), (4, .t (.c (.fn (.func 105) [] []))), (14, vi .i64 (i : Int)), (17, vi .i64 (k : Int))] [(0, .row 57 3 (((((pre ++ a1) ++ a2.take t ++ y :: (a2.drop t ++ post)).set k z).set (k - 1) y).map Part.d))] (by kernel_rfl) h ?_; clear h; intro a w h
       refine block_n ?_
       refine then_n ?_
       refine rS fam0ok 1 [(1, .gen _ _ _ fun _ _ _ _ => Op.arith (op := .sub) (d := 112) (xt := 3) (yt := 3) (k := .i64) (m := (k : Int)) (n := 1) (r := ((k - 1 : Nat) : Int)) (OV.tmp 111 _) (OV.const (.int .i64 1) rfl) (.inr (.inl ⟨rfl, (by omega)⟩)) (i64_id (by omega) (by omega)))] [(0, .t (.c (.own 0 L))), (1, vi .i64 (lo : Int)), (2, vi .i64 (m : Int)), (3, vi .i64 (b : Int)), (4, .t (.c (.fn (.func 105) [] []))), (14, vi .i64 (i : Int)), (17, vi .i64 ((k - 1 : Nat) : Int))] [(0, .row 57 3 (((((pre ++ a1) ++ a2.take t ++ y :: (a2.drop t ++ post)).set k z).set (k - 1) y).map Part.d))] (by kernel_rfl) h ?_; clear h; intro a w h
       refine then_n ?_
       rw [dn_step (p := pre ++ a1) k (k - 1) (by first | omega | (simp only [List.length_append]; omega)) rfl (by omega) hz] at h
       refine roundS (x := (k, t)) (y := (k - 1, t - 1)) h ?_ ?_ (by kernel_rfl) (by kernel_rfl)
       ·exact ⟨by omega, by omega⟩
       ·show t - 1 < t
        omega
      ·have hc15 := hc; clear hc
       have hc15' := of_decide_eq_false hc15
       refine wp_exit ?_
       refine then_x ?_
       refine then_x ?_
       refine inBlock_exit ?_
       refine then_n ?_
       refine wp_ret ?_
       refine then_r ?_
       replace h := h.conv (f' := F.of [(0, .t (.c (.own 0 L))), (1, vi .i64 (lo : Int)), (2, vi .i64 (m : Int)), (3, vi .i64 (b : Int)), (4, .t (.c (.fn (.func 105) [] []))), (14, vi .i64 (i : Int)), (17, vi .i64 (k : Int)), (110, vb (decide ((k : Int) > (i : Int))))] [(0, .row 57 3 ((pre ++ ssV Part.v (X ++ Y) ++ post).map Part.d))]) (congrArg (fun (z_ : List Part) => F.of [(0, .t (.c (.own 0 L))), (1, vi .i64 (lo : Int)), (2, vi .i64 (m : Int)), (3, vi .i64 (b : Int)), (4, .t (.c (.fn (.func 105) [] []))), (14, vi .i64 (i : Int)), (17, vi .i64 (k : Int)), (110, vb (decide ((k : Int) > (i : Int))))] [(0, .row 57 3 (z_.map Part.d))]) (show (((pre ++ a1) ++ a2.take t ++ y :: (a2.drop t ++ post)) : List Part) = (pre ++ ssV Part.v (X ++ Y) ++ post) from by
         rw [← hsm, show t = 0 by omega, List.take_zero, List.drop_zero]; simp))
       refine retS [] h Exit.ret (.inl rfl)  rfl trivial ?_ (by kernel_rfl) (by kernel_rfl)
       rfl
  ·have hc16 := hc; clear hc
   have hc16' := hc16; (try simp at hc16')
   refine wp_skip ?_
   refine then_n ?_
   refine rSeq fam0ok 1 [(2, .gen _ _ _ fun _ _ _ _ => Op.arith (op := .add) (d := 131) (xt := 3) (yt := 3) (k := .i64) (m := (lo : Int)) (n := (b : Int)) (r := ((lo + b : Nat) : Int)) (OV.tmp 129 _) (OV.tmp 130 _) (.inl ⟨rfl, (by omega)⟩) (i64_id (by omega) (by omega))), (3, .conv .i64 .u64 (m := ((lo + b : Nat) : Int)) (u64_id (by omega) (by omega))), (4, .gen _ _ _ fun _ _ _ _ => Op.shr (d := 133) (xt := 113) (yt := 113) (k := .u64) (k' := .u64) (m := ((lo + b : Nat) : Int)) (n := 1) (r := (((lo + b) / 2 : Nat) : Int)) (OV.tmp 132 _) (OV.const (.int .u64 1) rfl) (by decide) (half _)), (5, .conv .u64 .i64 (m := (((lo + b) / 2 : Nat) : Int)) (i64_id (by omega) (by omega)))] [(0, .t (.c (.own 0 L))), (1, vi .i64 (lo : Int)), (2, vi .i64 (m : Int)), (3, vi .i64 (b : Int)), (4, .t (.c (.fn (.func 105) [] []))), (18, vi .i64 (((lo + b) / 2 : Nat) : Int))] [(0, .row 57 3 ((pre ++ X ++ Y ++ post).map Part.d))] (by kernel_rfl) h ?_; clear h; intro a w h
   obtain ⟨md, emd⟩ : ∃ z_ : Nat, z_ = (lo + b) / 2 := ⟨_, rfl⟩
   replace h := h.conv (f' := F.of [(0, .t (.c (.own 0 L))), (1, vi .i64 (lo : Int)), (2, vi .i64 (m : Int)), (3, vi .i64 (b : Int)), (4, .t (.c (.fn (.func 105) [] []))), (18, vi .i64 (md : Int))] [(0, .row 57 3 ((pre ++ X ++ Y ++ post).map Part.d))]) (by rw [emd])
   refine rSeq fam0ok 1 [(2, .gen _ _ _ fun _ _ _ _ => Op.arith (op := .add) (d := 137) (xt := 3) (yt := 3) (k := .i64) (m := (md : Int)) (n := (m : Int)) (r := ((md + m : Nat) : Int)) (OV.tmp 135 _) (OV.tmp 136 _) (.inl ⟨rfl, (by omega)⟩) (i64_id (by omega) (by omega)))] [(0, .t (.c (.own 0 L))), (1, vi .i64 (lo : Int)), (2, vi .i64 (m : Int)), (3, vi .i64 (b : Int)), (4, .t (.c (.fn (.func 105) [] []))), (18, vi .i64 (md : Int)), (19, vi .i64 ((md + m : Nat) : Int))] [(0, .row 57 3 ((pre ++ X ++ Y ++ post).map Part.d))] (by kernel_rfl) h ?_; clear h; intro a w h
   refine rSeq fam0ok 1 [] [(0, .t (.c (.own 0 L))), (1, vi .i64 (lo : Int)), (2, vi .i64 (m : Int)), (3, vi .i64 (b : Int)), (4, .t (.c (.fn (.func 105) [] []))), (18, vi .i64 (md : Int)), (19, vi .i64 ((md + m : Nat) : Int)), (20, vi .i64 0), (21, vi .i64 0)] [(0, .row 57 3 ((pre ++ X ++ Y ++ post).map Part.d))] (by kernel_rfl) h ?_; clear h; intro a w h
   obtain ⟨s0, r0, hsr1, hsr2⟩ : ∃ s0 r0 : Nat, (md < m → s0 = md + m - b ∧ r0 = md) ∧ (¬ md < m → s0 = lo ∧ r0 = m) := by
    by_cases g : md < m
    ·exact ⟨_, _, fun _ => ⟨rfl, rfl⟩, fun g2 => absurd g g2⟩
    ·exact ⟨_, _, fun g2 => absurd g2 g, fun _ => ⟨rfl, rfl⟩⟩
   have hsr : lo ≤ s0 ∧ s0 ≤ r0 ∧ r0 ≤ m ∧ r0 ≤ md ∧ md + m ≤ s0 + b := by
    by_cases g : md < m
    ·have := hsr1 g; omega
    ·have := hsr2 g; omega
   refine midH h [(0, .t (.c (.own 0 L))), (1, vi .i64 (lo : Int)), (2, vi .i64 (m : Int)), (3, vi .i64 (b : Int)), (4, .t (.c (.fn (.func 105) [] []))), (18, vi .i64 (md : Int)), (19, vi .i64 ((md + m : Nat) : Int)), (20, vi .i64 (s0 : Int)), (21, vi .i64 (r0 : Int))] [(0, .row 57 3 ((pre ++ X ++ Y ++ post).map Part.d))] ?_ (fun a w h => ?_)
   ·refine rSeq fam0ok 1 [] [(0, .t (.c (.own 0 L))), (1, vi .i64 (lo : Int)), (2, vi .i64 (m : Int)), (3, vi .i64 (b : Int)), (4, .t (.c (.fn (.func 105) [] []))), (18, vi .i64 (md : Int)), (19, vi .i64 ((md + m : Nat) : Int)), (20, vi .i64 0), (21, vi .i64 0), (140, vb (decide ((m : Int) > (md : Int))))] [(0, .row 57 3 ((pre ++ X ++ Y ++ post).map Part.d))] (by kernel_rfl) h ?_; clear h; intro a w h
    refine condS (decide ((m : Int) > (md : Int))) h rfl (fun hc => ?_) (fun hc => ?_)
    ·have hc17 := hc; clear hc
     have hc17' := of_decide_eq_true hc17
     refine rSeq fam0ok 1 [(2, .gen _ _ _ fun _ _ _ _ => Op.arith (op := .sub) (d := 143) (xt := 3) (yt := 3) (k := .i64) (m := ((md + m : Nat) : Int)) (n := (b : Int)) (r := ((md + m - b : Nat) : Int)) (OV.tmp 141 _) (OV.tmp 142 _) (.inr (.inl ⟨rfl, (by omega)⟩)) (i64_id (by omega) (by omega)))] [(0, .t (.c (.own 0 L))), (1, vi .i64 (lo : Int)), (2, vi .i64 (m : Int)), (3, vi .i64 (b : Int)), (4, .t (.c (.fn (.func 105) [] []))), (18, vi .i64 (md : Int)), (19, vi .i64 ((md + m : Nat) : Int)), (20, vi .i64 ((md + m - b : Nat) : Int)), (21, vi .i64 0)] [(0, .row 57 3 ((pre ++ X ++ Y ++ post).map Part.d))] (by kernel_rfl) h ?_; clear h; intro a w h
     refine rS fam0ok 1 [] [(0, .t (.c (.own 0 L))), (1, vi .i64 (lo : Int)), (2, vi .i64 (m : Int)), (3, vi .i64 (b : Int)), (4, .t (.c (.fn (.func 105) [] []))), (18, vi .i64 (md : Int)), (19, vi .i64 ((md + m : Nat) : Int)), (20, vi .i64 ((md + m - b : Nat) : Int)), (21, vi .i64 (md : Int))] [(0, .row 57 3 ((pre ++ X ++ Y ++ post).map Part.d))] (by kernel_rfl) h ?_; clear h; intro a w h
     refine then_n ?_
     have hg := hsr1 (by omega)
     replace h := h.conv (f' := F.of [(0, .t (.c (.own 0 L))), (1, vi .i64 (lo : Int)), (2, vi .i64 (m : Int)), (3, vi .i64 (b : Int)), (4, .t (.c (.fn (.func 105) [] []))), (18, vi .i64 (md : Int)), (19, vi .i64 ((md + m : Nat) : Int)), (20, vi .i64 (s0 : Int)), (21, vi .i64 (r0 : Int))] [(0, .row 57 3 ((pre ++ X ++ Y ++ post).map Part.d))]) (by rw [hg.1, hg.2])
     exact atS h (by kernel_rfl) (by kernel_rfl)
    ·have hc18 := hc; clear hc
     have hc18' := of_decide_eq_false hc18
     refine rSeq fam0ok 1 [] [(0, .t (.c (.own 0 L))), (1, vi .i64 (lo : Int)), (2, vi .i64 (m : Int)), (3, vi .i64 (b : Int)), (4, .t (.c (.fn (.func 105) [] []))), (18, vi .i64 (md : Int)), (19, vi .i64 ((md + m : Nat) : Int)), (20, vi .i64 (lo : Int)), (21, vi .i64 0)] [(0, .row 57 3 ((pre ++ X ++ Y ++ post).map Part.d))] (by kernel_rfl) h ?_; clear h; intro a w h
     refine rS fam0ok 1 [] [(0, .t (.c (.own 0 L))), (1, vi .i64 (lo : Int)), (2, vi .i64 (m : Int)), (3, vi .i64 (b : Int)), (4, .t (.c (.fn (.func 105) [] []))), (18, vi .i64 (md : Int)), (19, vi .i64 ((md + m : Nat) : Int)), (20, vi .i64 (lo : Int)), (21, vi .i64 (m : Int))] [(0, .row 57 3 ((pre ++ X ++ Y ++ post).map Part.d))] (by kernel_rfl) h ?_; clear h; intro a w h
     refine then_n ?_
     have hg := hsr2 (by omega)
     replace h := h.conv (f' := F.of [(0, .t (.c (.own 0 L))), (1, vi .i64 (lo : Int)), (2, vi .i64 (m : Int)), (3, vi .i64 (b : Int)), (4, .t (.c (.fn (.func 105) [] []))), (18, vi .i64 (md : Int)), (19, vi .i64 ((md + m : Nat) : Int)), (20, vi .i64 (s0 : Int)), (21, vi .i64 (r0 : Int))] [(0, .row 57 3 ((pre ++ X ++ Y ++ post).map Part.d))]) (by rw [hg.1, hg.2])
     exact atS h (by kernel_rfl) (by kernel_rfl)
   ·refine rSeq fam0ok 1 [(1, .gen _ _ _ fun _ _ _ _ => Op.arith (op := .sub) (d := 148) (xt := 3) (yt := 3) (k := .i64) (m := ((md + m : Nat) : Int)) (n := 1) (r := ((md + m - 1 : Nat) : Int)) (OV.tmp 147 _) (OV.const (.int .i64 1) rfl) (.inr (.inl ⟨rfl, (by omega)⟩)) (i64_id (by omega) (by omega)))] [(0, .t (.c (.own 0 L))), (1, vi .i64 (lo : Int)), (2, vi .i64 (m : Int)), (3, vi .i64 (b : Int)), (4, .t (.c (.fn (.func 105) [] []))), (18, vi .i64 (md : Int)), (19, vi .i64 ((md + m : Nat) : Int)), (20, vi .i64 (s0 : Int)), (21, vi .i64 (r0 : Int)), (22, vi .i64 ((md + m - 1 : Nat) : Int))] [(0, .row 57 3 ((pre ++ X ++ Y ++ post).map Part.d))] (by kernel_rfl) h ?_; clear h; intro a w h
    refine wp_seq ?_
    refine wp_block ?_
    refine loopS (ι := (Nat) × (Nat)) (fun (z_ : (Nat) × (Nat)) => match z_ with | (s, r) => s0 ≤ s ∧ s ≤ r ∧ r ≤ r0 ∧ (s = s0 ∨ kat (pre ++ X ++ Y ++ post) (s - 1) ≤ kat (pre ++ X ++ Y ++ post) (md + m - s)) ∧ (r = r0 ∨ kat (pre ++ X ++ Y ++ post) (md + m - 1 - r) < kat (pre ++ X ++ Y ++ post) (r)))
      (fun (z_ : (Nat) × (Nat)) => match z_ with | (s, r) => [(0, .t (.c (.own 0 L))), (1, vi .i64 (lo : Int)), (2, vi .i64 (m : Int)), (3, vi .i64 (b : Int)), (4, .t (.c (.fn (.func 105) [] []))), (18, vi .i64 (md : Int)), (19, vi .i64 ((md + m : Nat) : Int)), (20, vi .i64 (s : Int)), (21, vi .i64 (r : Int)), (22, vi .i64 ((md + m - 1 : Nat) : Int))])
      (fun (z_ : (Nat) × (Nat)) => match z_ with | (s, r) => [(0, .row 57 3 ((pre ++ X ++ Y ++ post).map Part.d))])
      (fun (z_ : (Nat) × (Nat)) => match z_ with | (s, r) => r - s) (s0, r0) ?_ h (by kernel_rfl) (by kernel_rfl) ?_
    ·exact ⟨Nat.le_refl _, by omega, Nat.le_refl _, .inl rfl, .inl rfl⟩
    ·clear h; rintro ⟨s, r⟩ a w hI h
     change St _ (F.of [(0, .t (.c (.own 0 L))), (1, vi .i64 (lo : Int)), (2, vi .i64 (m : Int)), (3, vi .i64 (b : Int)), (4, .t (.c (.fn (.func 105) [] []))), (18, vi .i64 (md : Int)), (19, vi .i64 ((md + m : Nat) : Int)), (20, vi .i64 (s : Int)), (21, vi .i64 (r : Int)), (22, vi .i64 ((md + m - 1 : Nat) : Int))] [(0, .row 57 3 ((pre ++ X ++ Y ++ post).map Part.d))]) a w at h
     obtain ⟨q1, q2, q3, q4, q5⟩ := hI
     refine wp_seq ?_
     refine rSeq fam0ok 1 [] [(0, .t (.c (.own 0 L))), (1, vi .i64 (lo : Int)), (2, vi .i64 (m : Int)), (3, vi .i64 (b : Int)), (4, .t (.c (.fn (.func 105) [] []))), (18, vi .i64 (md : Int)), (19, vi .i64 ((md + m : Nat) : Int)), (20, vi .i64 (s : Int)), (21, vi .i64 (r : Int)), (22, vi .i64 ((md + m - 1 : Nat) : Int)), (151, vb (decide ((s : Int) < (r : Int))))] [(0, .row 57 3 ((pre ++ X ++ Y ++ post).map Part.d))] (by kernel_rfl) h ?_; clear h; intro a w h
     refine condS (decide ((s : Int) < (r : Int))) h rfl (fun hc => ?_) (fun hc => ?_)
     ·have hc19 := hc; clear hc
      have hc19' := of_decide_eq_true hc19
      refine wp_skip ?_
      refine then_n ?_
      refine wp_block ?_
      refine rSeq fam0ok 1 [(2, .gen _ _ _ fun _ _ _ _ => Op.arith (op := .add) (d := 154) (xt := 3) (yt := 3) (k := .i64) (m := (s : Int)) (n := (r : Int)) (r := ((s + r : Nat) : Int)) (OV.tmp 152 _) (OV.tmp 153 _) (.inl ⟨rfl, (by omega)⟩) (i64_id (by omega) (by omega))), (3, .conv .i64 .u64 (m := ((s + r : Nat) : Int)) (u64_id (by omega) (by omega))), (4, .gen _ _ _ fun _ _ _ _ => Op.shr (d := 156) (xt := 113) (yt := 113) (k := .u64) (k' := .u64) (m := ((s + r : Nat) : Int)) (n := 1) (r := (((s + r) / 2 : Nat) : Int)) (OV.tmp 155 _) (OV.const (.int .u64 1) rfl) (by decide) (half _)), (5, .conv .u64 .i64 (m := (((s + r) / 2 : Nat) : Int)) (i64_id (by omega) (by omega)))] [(0, .t (.c (.own 0 L))), (1, vi .i64 (lo : Int)), (2, vi .i64 (m : Int)), (3, vi .i64 (b : Int)), (4, .t (.c (.fn (.func 105) [] []))), (18, vi .i64 (md : Int)), (19, vi .i64 ((md + m : Nat) : Int)), (20, vi .i64 (s : Int)), (21, vi .i64 (r : Int)), (22, vi .i64 ((md + m - 1 : Nat) : Int)), (23, vi .i64 (((s + r) / 2 : Nat) : Int))] [(0, .row 57 3 ((pre ++ X ++ Y ++ post).map Part.d))] (by kernel_rfl) h ?_; clear h; intro a w h
      obtain ⟨x7, hx7⟩ : ∃ z_ : Part, (pre ++ X ++ Y ++ post)[md + m - 1 - (s + r) / 2]? = some z_ := ⟨_, List.getElem?_eq_getElem (by first | omega | (simp at *; omega))⟩
      obtain ⟨x8, hx8⟩ : ∃ z_ : Part, (pre ++ X ++ Y ++ post)[(s + r) / 2]? = some z_ := ⟨_, List.getElem?_eq_getElem (by first | omega | (simp at *; omega))⟩
      refine rSeq fam0ok 1 [(4, .gen _ _ _ fun _ _ _ _ => Op.arith (op := .sub) (d := 162) (xt := 3) (yt := 3) (k := .i64) (m := ((md + m - 1 : Nat) : Int)) (n := (((s + r) / 2 : Nat) : Int)) (r := ((md + m - 1 - (s + r) / 2 : Nat) : Int)) (OV.tmp 160 _) (OV.tmp 161 _) (.inr (.inl ⟨rfl, (by omega)⟩)) (i64_id (by omega) (by omega))), (5, .gen _ _ _ fun _ _ _ _ => Op.idxO (d := 163) (t := 159) (k := .i64) (n := 0) (len := L) (i := (md + m - 1 - (s + r) / 2)) ta_0 (by first | omega | (simp at *; omega)) (OV.tmp 162 _)), (6, .gen _ _ _ fun _ _ _ _ => Op.loadR_agg (d := 164) (t := 163) (n := 0) (i := (md + m - 1 - (s + r) / 2)) (fo := 0) (rty := 57) (es := 3) (xs := [.raw (.int .i64 x7.v), .raw (.bool x7.c.neg), nsl x7.c.abs]) te_1 rfl (map_at hx7 (f := Part.d)) rfl rfl), (9, .gen _ _ _ fun _ _ _ _ => Op.idxO (d := 167) (t := 165) (k := .i64) (n := 0) (len := L) (i := ((s + r) / 2)) ta_0 (by first | omega | (simp at *; omega)) (OV.tmp 166 _)), (10, .gen _ _ _ fun _ _ _ _ => Op.loadR_agg (d := 168) (t := 167) (n := 0) (i := ((s + r) / 2)) (fo := 0) (rty := 57) (es := 3) (xs := [.raw (.int .i64 x8.v), .raw (.bool x8.c.neg), nsl x8.c.abs]) te_1 rfl (map_at hx8 (f := Part.d)) rfl rfl), (11, .gen _ _ _ fun _ _ _ _ => Op.callV (d := 169) (t := 158) (cap := []) (args := [.t (.agg ([.d (.raw (.int .i64 x7.v))] ++ zi x7.c)), .t (.agg ([.d (.raw (.int .i64 x8.v))] ++ zi x8.c))]) (rs := [(164, .t (.agg ([.d (.raw (.int .i64 x7.v))] ++ zi x7.c))), (168, .t (.agg ([.d (.raw (.int .i64 x8.v))] ++ zi x8.c)))]) (tys := #[57, 57]) (SPlain1 x7 x8) te_2 (OVs.cons (OV.tmp 164 _) (OVs.cons (OV.tmp 168 _) (OVs.nil))))] [(0, .t (.c (.own 0 L))), (1, vi .i64 (lo : Int)), (2, vi .i64 (m : Int)), (3, vi .i64 (b : Int)), (4, .t (.c (.fn (.func 105) [] []))), (18, vi .i64 (md : Int)), (19, vi .i64 ((md + m : Nat) : Int)), (20, vi .i64 (s : Int)), (21, vi .i64 (r : Int)), (22, vi .i64 ((md + m - 1 : Nat) : Int)), (23, vi .i64 (((s + r) / 2 : Nat) : Int)), (171, vb (!(decide (cmpZ x7.v x8.v < 0))))] [(0, .row 57 3 ((pre ++ X ++ Y ++ post).map Part.d))] (by kernel_rfl) h ?_; clear h; intro a w h
      refine condS (!(decide (cmpZ x7.v x8.v < 0))) h rfl (fun hc => ?_) (fun hc => ?_)
      ·have hc20 := hc; clear hc
       have hc20' := hc20; (try simp at hc20')
       refine rS fam0ok 1 [(1, .gen _ _ _ fun _ _ _ _ => Op.arith (op := .add) (d := 173) (xt := 3) (yt := 3) (k := .i64) (m := (((s + r) / 2 : Nat) : Int)) (n := 1) (r := (((s + r) / 2 + 1 : Nat) : Int)) (OV.tmp 172 _) (OV.const (.int .i64 1) rfl) (.inl ⟨rfl, (by omega)⟩) (i64_id (by omega) (by omega)))] [(0, .t (.c (.own 0 L))), (1, vi .i64 (lo : Int)), (2, vi .i64 (m : Int)), (3, vi .i64 (b : Int)), (4, .t (.c (.fn (.func 105) [] []))), (18, vi .i64 (md : Int)), (19, vi .i64 ((md + m : Nat) : Int)), (20, vi .i64 (((s + r) / 2 + 1 : Nat) : Int)), (21, vi .i64 (r : Int)), (22, vi .i64 ((md + m - 1 : Nat) : Int))] [(0, .row 57 3 ((pre ++ X ++ Y ++ post).map Part.d))] (by kernel_rfl) h ?_; clear h; intro a w h
       refine block_n ?_
       refine then_n ?_
       refine roundS (x := (s, r)) (y := (((s + r) / 2 + 1), r)) h ?_ ?_ (by kernel_rfl) (by kernel_rfl)
       ·exact ⟨by omega, by omega, by omega, .inr (by rw [show (s + r) / 2 + 1 - 1 = (s + r) / 2 from rfl, show md + m - ((s + r) / 2 + 1) = md + m - 1 - (s + r) / 2 by omega, kat_of hx7, kat_of hx8]; exact Int.not_lt.1 (mt cmpZ_lt0.2 (Int.not_lt.2 hc20'))), q5⟩
       ·show r - ((s + r) / 2 + 1) < r - s
        omega
      ·have hc21 := hc; clear hc
       have hc21' := hc21; (try simp at hc21')
       refine rS fam0ok 1 [] [(0, .t (.c (.own 0 L))), (1, vi .i64 (lo : Int)), (2, vi .i64 (m : Int)), (3, vi .i64 (b : Int)), (4, .t (.c (.fn (.func 105) [] []))), (18, vi .i64 (md : Int)), (19, vi .i64 ((md + m : Nat) : Int)), (20, vi .i64 (s : Int)), (21, vi .i64 (((s + r) / 2 : Nat) : Int)), (22, vi .i64 ((md + m - 1 : Nat) : Int))] [(0, .row 57 3 ((pre ++ X ++ Y ++ post).map Part.d))] (by kernel_rfl) h ?_; clear h; intro a w h
       refine block_n ?_
       refine then_n ?_
       refine roundS (x := (s, r)) (y := (s, ((s + r) / 2))) h ?_ ?_ (by kernel_rfl) (by kernel_rfl)
       ·exact ⟨by omega, by omega, by omega, q4, .inr (by rw [kat_of hx7, kat_of hx8]; exact cmpZ_lt0.1 hc21')⟩
       ·show (s + r) / 2 - s < r - s
        omega
     ·have hc22 := hc; clear hc
      have hc22' := of_decide_eq_false hc22
      refine wp_exit ?_
      refine then_x ?_
      refine then_x ?_
      refine inBlock_exit ?_
      refine then_n ?_
      refine rSeq fam0ok 1 [(2, .gen _ _ _ fun _ _ _ _ => Op.arith (op := .sub) (d := 177) (xt := 3) (yt := 3) (k := .i64) (m := ((md + m : Nat) : Int)) (n := (s : Int)) (r := ((md + m - s : Nat) : Int)) (OV.tmp 175 _) (OV.tmp 176 _) (.inr (.inl ⟨rfl, (by omega)⟩)) (i64_id (by omega) (by omega)))] [(0, .t (.c (.own 0 L))), (1, vi .i64 (lo : Int)), (2, vi .i64 (m : Int)), (3, vi .i64 (b : Int)), (4, .t (.c (.fn (.func 105) [] []))), (18, vi .i64 (md : Int)), (20, vi .i64 (s : Int)), (24, vi .i64 ((md + m - s : Nat) : Int))] [(0, .row 57 3 ((pre ++ X ++ Y ++ post).map Part.d))] (by kernel_rfl) h ?_; clear h; intro a w h
      obtain ⟨e, ee⟩ : ∃ z_ : Nat, z_ = md + m - s := ⟨_, rfl⟩
      replace h := h.conv (f' := F.of [(0, .t (.c (.own 0 L))), (1, vi .i64 (lo : Int)), (2, vi .i64 (m : Int)), (3, vi .i64 (b : Int)), (4, .t (.c (.fn (.func 105) [] []))), (18, vi .i64 (md : Int)), (20, vi .i64 (s : Int)), (24, vi .i64 (e : Int))] [(0, .row 57 3 ((pre ++ X ++ Y ++ post).map Part.d))]) (by rw [ee])
      have hsr' : s = r := by omega
      have g1 : s = pre.length ∨ e = pre.length + X.length + Y.length ∨ kat (pre ++ X ++ Y ++ post) (s - 1) ≤ kat (pre ++ X ++ Y ++ post) e := by
       rcases q4 with g | g
       ·by_cases gm : md < m
        ·have := hsr1 gm; exact .inr (.inl (by omega))
        ·have := hsr2 gm; exact .inl (by omega)
       ·exact .inr (.inr (by rw [ee]; exact g))
      have g2 : s = pre.length + X.length ∨ e = pre.length + X.length ∨ kat (pre ++ X ++ Y ++ post) (e - 1) < kat (pre ++ X ++ Y ++ post) s := by
       rcases q5 with g | g
       ·by_cases gm : md < m
        ·have := hsr1 gm; exact .inr (.inl (by omega))
        ·have := hsr2 gm; exact .inl (by omega)
       ·exact .inr (.inr (by rw [show e - 1 = md + m - 1 - r by omega, hsr']; exact g))
      obtain ⟨a1, a2, b1, b2, hX1, hY1, hs1, he1, hsm, ra1, ra2, rb1, rb2⟩ := srch3 (pre := pre) (X := X) (Y := Y) (post := post) (s := s) (e := e) rX rY (by omega) (by omega) (by omega) (by omega) g1 g2
      have hla : X.length = a1.length + a2.length := by rw [hX1, List.length_append]
      have hlb : Y.length = b1.length + b2.length := by rw [hY1, List.length_append]
      replace h := h.conv (f' := F.of [(0, .t (.c (.own 0 L))), (1, vi .i64 (lo : Int)), (2, vi .i64 (m : Int)), (3, vi .i64 (b : Int)), (4, .t (.c (.fn (.func 105) [] []))), (18, vi .i64 (md : Int)), (20, vi .i64 (s : Int)), (24, vi .i64 (e : Int))] [(0, .row 57 3 ((pre ++ a1 ++ a2 ++ b1 ++ b2 ++ post).map Part.d))]) (congrArg (fun (z_ : List Part) => F.of [(0, .t (.c (.own 0 L))), (1, vi .i64 (lo : Int)), (2, vi .i64 (m : Int)), (3, vi .i64 (b : Int)), (4, .t (.c (.fn (.func 105) [] []))), (18, vi .i64 (md : Int)), (20, vi .i64 (s : Int)), (24, vi .i64 (e : Int))] [(0, .row 57 3 (z_.map Part.d))]) (show ((pre ++ X ++ Y ++ post) : List Part) = (pre ++ a1 ++ a2 ++ b1 ++ b2 ++ post) from by rw [hX1, hY1]; simp only [List.append_assoc]))
      refine midH h [(0, .t (.c (.own 0 L))), (1, vi .i64 (lo : Int)), (3, vi .i64 (b : Int)), (4, .t (.c (.fn (.func 105) [] []))), (18, vi .i64 (md : Int)), (20, vi .i64 (s : Int)), (24, vi .i64 (e : Int))] [(0, .row 57 3 ((pre ++ a1 ++ b1 ++ a2 ++ b2 ++ post).map Part.d))] ?_ (fun a w h => ?_)
      ·rcases Bool.eq_false_or_eq_true (decide ((s : Int) < (m : Int))) with hc | hc
       ·have hc23 := hc; clear hc
        have hc23' := of_decide_eq_true hc23
        refine rSeq fam0ok 1 [(2, .cmp (op := .lss) (m := (s : Int)) (n := (m : Int)) (b := true) .i64 hc23)] [(0, .t (.c (.own 0 L))), (1, vi .i64 (lo : Int)), (2, vi .i64 (m : Int)), (3, vi .i64 (b : Int)), (4, .t (.c (.fn (.func 105) [] []))), (18, vi .i64 (md : Int)), (20, vi .i64 (s : Int)), (24, vi .i64 (e : Int)), (185, vb (decide ((m : Int) < (e : Int))))] [(0, .row 57 3 ((pre ++ a1 ++ a2 ++ b1 ++ b2 ++ post).map Part.d))] (by kernel_rfl) h ?_; clear h; intro a w h
        refine condS (decide ((m : Int) < (e : Int))) h rfl (fun hc => ?_) (fun hc => ?_)
        ·have hc24 := hc; clear hc
         have hc24' := of_decide_eq_true hc24
         refine rS fam0ok 1 [(5, .call (Srotate2 (r0 := (pre ++ a1 ++ a2 ++ b1 ++ b2 ++ post)) (r1 := (pre ++ a1 ++ b1 ++ a2 ++ b2 ++ post)) (L := L) (a := s) (m := m) (b := e) (pre ++ a1) a2 b1 (b2 ++ post) (by simp only [List.append_assoc]) (by simp only [List.append_assoc]) (by first | omega | (simp only [List.length_append]; omega)) (by first | omega | (simp only [List.length_append]; omega)) (by first | omega | (simp only [List.length_append]; omega)) (by first | omega | (simp only [List.length_append]; omega)) (by omega) (by omega) (by omega)) ti_3)] [(0, .t (.c (.own 0 L))), (1, vi .i64 (lo : Int)), (3, vi .i64 (b : Int)), (4, .t (.c (.fn (.func 105) [] []))), (18, vi .i64 (md : Int)), (20, vi .i64 (s : Int)), (24, vi .i64 (e : Int))] [(0, .row 57 3 ((pre ++ a1 ++ b1 ++ a2 ++ b2 ++ post).map Part.d))] (by kernel_rfl) h ?_; clear h; intro a w h
         refine then_n ?_
         exact atS h (by kernel_rfl) (by kernel_rfl)
        ·have hc25 := hc; clear hc
         have hc25' := of_decide_eq_false hc25
         refine wp_skip ?_
         refine then_n ?_
         replace h := h.conv (f' := F.of [(0, .t (.c (.own 0 L))), (1, vi .i64 (lo : Int)), (2, vi .i64 (m : Int)), (3, vi .i64 (b : Int)), (4, .t (.c (.fn (.func 105) [] []))), (18, vi .i64 (md : Int)), (20, vi .i64 (s : Int)), (24, vi .i64 (e : Int)), (185, vb (decide ((m : Int) < (e : Int))))] [(0, .row 57 3 ((pre ++ a1 ++ b1 ++ a2 ++ b2 ++ post).map Part.d))]) (congrArg (fun (z_ : List Part) => F.of [(0, .t (.c (.own 0 L))), (1, vi .i64 (lo : Int)), (2, vi .i64 (m : Int)), (3, vi .i64 (b : Int)), (4, .t (.c (.fn (.func 105) [] []))), (18, vi .i64 (md : Int)), (20, vi .i64 (s : Int)), (24, vi .i64 (e : Int)), (185, vb (decide ((m : Int) < (e : Int))))] [(0, .row 57 3 (z_.map Part.d))]) (show ((pre ++ a1 ++ a2 ++ b1 ++ b2 ++ post) : List Part) = (pre ++ a1 ++ b1 ++ a2 ++ b2 ++ post) from by rcases (show a2.length = 0 ∨ b1.length = 0 by omega) with g | g <;> (rw [len_nil g]; simp)))
         exact atS h (by kernel_rfl) (by kernel_rfl)
       ·have hc26 := hc; clear hc
        have hc26' := of_decide_eq_false hc26
        refine rSeq fam0ok 1 [(2, .cmp (op := .lss) (m := (s : Int)) (n := (m : Int)) (b := false) .i64 hc26)] [(0, .t (.c (.own 0 L))), (1, vi .i64 (lo : Int)), (2, vi .i64 (m : Int)), (3, vi .i64 (b : Int)), (4, .t (.c (.fn (.func 105) [] []))), (18, vi .i64 (md : Int)), (20, vi .i64 (s : Int)), (24, vi .i64 (e : Int)), (185, vb false)] [(0, .row 57 3 ((pre ++ a1 ++ a2 ++ b1 ++ b2 ++ post).map Part.d))] (by kernel_rfl) h ?_; clear h; intro a w h
        refine condS false h rfl (fun hc => ?_) (fun hc => ?_)
        ·cases hc
        ·clear hc
         refine wp_skip ?_
         refine then_n ?_
         replace h := h.conv (f' := F.of [(0, .t (.c (.own 0 L))), (1, vi .i64 (lo : Int)), (2, vi .i64 (m : Int)), (3, vi .i64 (b : Int)), (4, .t (.c (.fn (.func 105) [] []))), (18, vi .i64 (md : Int)), (20, vi .i64 (s : Int)), (24, vi .i64 (e : Int)), (185, vb false)] [(0, .row 57 3 ((pre ++ a1 ++ b1 ++ a2 ++ b2 ++ post).map Part.d))]) (congrArg (fun (z_ : List Part) => F.of [(0, .t (.c (.own 0 L))), (1, vi .i64 (lo : Int)), (2, vi .i64 (m : Int)), (3, vi .i64 (b : Int)), (4, .t (.c (.fn (.func 105) [] []))), (18, vi .i64 (md : Int)), (20, vi .i64 (s : Int)), (24, vi .i64 (e : Int)), (185, vb false)] [(0, .row 57 3 (z_.map Part.d))]) (show ((pre ++ a1 ++ a2 ++ b1 ++ b2 ++ post) : List Part) = (pre ++ a1 ++ b1 ++ a2 ++ b2 ++ post) from by rcases (show a2.length = 0 ∨ b1.length = 0 by omega) with g | g <;> (rw [len_nil g]; simp)))
         exact atS h (by kernel_rfl) (by kernel_rfl)
      ·refine midH h [(0, .t (.c (.own 0 L))), (3, vi .i64 (b : Int)), (4, .t (.c (.fn (.func 105) [] []))), (18, vi .i64 (md : Int)), (24, vi .i64 (e : Int))] [(0, .row 57 3 ((pre ++ ssV Part.v (a1 ++ b1) ++ a2 ++ b2 ++ post).map Part.d))] ?_ (fun a w h => ?_)
       ·rcases Bool.eq_false_or_eq_true (decide ((lo : Int) < (s : Int))) with hc | hc
        ·have hc27 := hc; clear hc
         have hc27' := of_decide_eq_true hc27
         refine rSeq fam0ok 1 [(2, .cmp (op := .lss) (m := (lo : Int)) (n := (s : Int)) (b := true) .i64 hc27)] [(0, .t (.c (.own 0 L))), (1, vi .i64 (lo : Int)), (3, vi .i64 (b : Int)), (4, .t (.c (.fn (.func 105) [] []))), (18, vi .i64 (md : Int)), (20, vi .i64 (s : Int)), (24, vi .i64 (e : Int)), (199, vb (decide ((s : Int) < (md : Int))))] [(0, .row 57 3 ((pre ++ a1 ++ b1 ++ a2 ++ b2 ++ post).map Part.d))] (by kernel_rfl) h ?_; clear h; intro a w h
         refine condS (decide ((s : Int) < (md : Int))) h rfl (fun hc => ?_) (fun hc => ?_)
         ·have hc28 := hc; clear hc
          have hc28' := of_decide_eq_true hc28
          refine rS fam0ok 1 [(5, .call (ih (a1.length + b1.length) (by omega) L lo s md (pre ++ a1 ++ b1 ++ a2 ++ b2 ++ post) (pre ++ ssV Part.v (a1 ++ b1) ++ a2 ++ b2 ++ post) ⟨pre, a1, b1, (a2 ++ b2 ++ post), rfl, by first | omega | (simp only [List.length_append, ssV_len]; omega), by first | omega | (simp only [List.length_append, ssV_len]; omega), by first | omega | (simp only [List.length_append, ssV_len]; omega), by first | omega | (simp only [List.length_append]; omega), by omega, by omega, by omega, ra1, rb1, by simp only [List.append_assoc], by simp only [List.append_assoc]⟩) ti_4)] [(0, .t (.c (.own 0 L))), (3, vi .i64 (b : Int)), (4, .t (.c (.fn (.func 105) [] []))), (18, vi .i64 (md : Int)), (24, vi .i64 (e : Int))] [(0, .row 57 3 ((pre ++ ssV Part.v (a1 ++ b1) ++ a2 ++ b2 ++ post).map Part.d))] (by kernel_rfl) h ?_; clear h; intro a w h
          refine then_n ?_
          exact atS h (by kernel_rfl) (by kernel_rfl)
         ·have hc29 := hc; clear hc
          have hc29' := of_decide_eq_false hc29
          refine wp_skip ?_
          refine then_n ?_
          replace h := h.conv (f' := F.of [(0, .t (.c (.own 0 L))), (1, vi .i64 (lo : Int)), (3, vi .i64 (b : Int)), (4, .t (.c (.fn (.func 105) [] []))), (18, vi .i64 (md : Int)), (20, vi .i64 (s : Int)), (24, vi .i64 (e : Int)), (199, vb (decide ((s : Int) < (md : Int))))] [(0, .row 57 3 ((pre ++ ssV Part.v (a1 ++ b1) ++ a2 ++ b2 ++ post).map Part.d))]) (congrArg (fun (z_ : List Part) => F.of [(0, .t (.c (.own 0 L))), (1, vi .i64 (lo : Int)), (3, vi .i64 (b : Int)), (4, .t (.c (.fn (.func 105) [] []))), (18, vi .i64 (md : Int)), (20, vi .i64 (s : Int)), (24, vi .i64 (e : Int)), (199, vb (decide ((s : Int) < (md : Int))))] [(0, .row 57 3 (z_.map Part.d))]) (show ((pre ++ a1 ++ b1 ++ a2 ++ b2 ++ post) : List Part) = (pre ++ ssV Part.v (a1 ++ b1) ++ a2 ++ b2 ++ post) from by rw [ssV_e (show a1.length = 0 ∨ b1.length = 0 by omega) ra1 rb1]; simp only [List.append_assoc]))
          exact atS h (by kernel_rfl) (by kernel_rfl)
        ·have hc30 := hc; clear hc
         have hc30' := of_decide_eq_false hc30
         refine rSeq fam0ok 1 [(2, .cmp (op := .lss) (m := (lo : Int)) (n := (s : Int)) (b := false) .i64 hc30)] [(0, .t (.c (.own 0 L))), (1, vi .i64 (lo : Int)), (3, vi .i64 (b : Int)), (4, .t (.c (.fn (.func 105) [] []))), (18, vi .i64 (md : Int)), (20, vi .i64 (s : Int)), (24, vi .i64 (e : Int)), (199, vb false)] [(0, .row 57 3 ((pre ++ a1 ++ b1 ++ a2 ++ b2 ++ post).map Part.d))] (by kernel_rfl) h ?_; clear h; intro a w h
         refine condS false h rfl (fun hc => ?_) (fun hc => ?_)
         ·cases hc
         ·clear hc
          refine wp_skip ?_
          refine then_n ?_
          replace h := h.conv (f' := F.of [(0, .t (.c (.own 0 L))), (1, vi .i64 (lo : Int)), (3, vi .i64 (b : Int)), (4, .t (.c (.fn (.func 105) [] []))), (18, vi .i64 (md : Int)), (20, vi .i64 (s : Int)), (24, vi .i64 (e : Int)), (199, vb false)] [(0, .row 57 3 ((pre ++ ssV Part.v (a1 ++ b1) ++ a2 ++ b2 ++ post).map Part.d))]) (congrArg (fun (z_ : List Part) => F.of [(0, .t (.c (.own 0 L))), (1, vi .i64 (lo : Int)), (3, vi .i64 (b : Int)), (4, .t (.c (.fn (.func 105) [] []))), (18, vi .i64 (md : Int)), (20, vi .i64 (s : Int)), (24, vi .i64 (e : Int)), (199, vb false)] [(0, .row 57 3 (z_.map Part.d))]) (show ((pre ++ a1 ++ b1 ++ a2 ++ b2 ++ post) : List Part) = (pre ++ ssV Part.v (a1 ++ b1) ++ a2 ++ b2 ++ post) from by rw [ssV_e (show a1.length = 0 ∨ b1.length = 0 by omega) ra1 rb1]; simp only [List.append_assoc]))
          exact atS h (by kernel_rfl) (by kernel_rfl)
       ·rcases Bool.eq_false_or_eq_true (decide ((md : Int) < (e : Int))) with hc | hc
        ·have hc31 := hc; clear hc
         have hc31' := of_decide_eq_true hc31
         refine rSeq fam0ok 1 [(2, .cmp (op := .lss) (m := (md : Int)) (n := (e : Int)) (b := true) .i64 hc31)] [(0, .t (.c (.own 0 L))), (3, vi .i64 (b : Int)), (4, .t (.c (.fn (.func 105) [] []))), (18, vi .i64 (md : Int)), (24, vi .i64 (e : Int)), (213, vb (decide ((e : Int) < (b : Int))))] [(0, .row 57 3 ((pre ++ ssV Part.v (a1 ++ b1) ++ a2 ++ b2 ++ post).map Part.d))] (by kernel_rfl) h ?_; clear h; intro a w h
         refine condS (decide ((e : Int) < (b : Int))) h rfl (fun hc => ?_) (fun hc => ?_)
         ·have hc32 := hc; clear hc
          have hc32' := of_decide_eq_true hc32
          refine rS fam0ok 1 [(5, .call (ih (a2.length + b2.length) (by omega) L md e b (pre ++ ssV Part.v (a1 ++ b1) ++ a2 ++ b2 ++ post) (pre ++ ssV Part.v (a1 ++ b1) ++ ssV Part.v (a2 ++ b2) ++ post) ⟨(pre ++ ssV Part.v (a1 ++ b1)), a2, b2, post, rfl, by first | omega | (simp only [List.length_append, ssV_len]; omega), by first | omega | (simp only [List.length_append, ssV_len]; omega), by first | omega | (simp only [List.length_append, ssV_len]; omega), by first | omega | (simp only [List.length_append, ssV_len]; omega), by omega, by omega, by omega, ra2, rb2, by simp only [List.append_assoc], by simp only [List.append_assoc]⟩) ti_4)] [] [(0, .row 57 3 ((pre ++ ssV Part.v (a1 ++ b1) ++ ssV Part.v (a2 ++ b2) ++ post).map Part.d))] (by kernel_rfl) h ?_; clear h; intro a w h
          replace h := h.conv (f' := F.of [] [(0, .row 57 3 ((pre ++ ssV Part.v (X ++ Y) ++ post).map Part.d))]) (congrArg (fun (z_ : List Part) => F.of [] [(0, .row 57 3 (z_.map Part.d))]) (show ((pre ++ ssV Part.v (a1 ++ b1) ++ ssV Part.v (a2 ++ b2) ++ post) : List Part) = (pre ++ ssV Part.v (X ++ Y) ++ post) from by rw [← hsm]; simp only [List.append_assoc]))
          refine retS [] h Exit.normal (.inr rfl)  rfl trivial ?_ (by kernel_rfl) (by kernel_rfl)
          rfl
         ·have hc33 := hc; clear hc
          have hc33' := of_decide_eq_false hc33
          refine wp_skip ?_
          replace h := h.conv (f' := F.of [(0, .t (.c (.own 0 L))), (3, vi .i64 (b : Int)), (4, .t (.c (.fn (.func 105) [] []))), (18, vi .i64 (md : Int)), (24, vi .i64 (e : Int)), (213, vb (decide ((e : Int) < (b : Int))))] [(0, .row 57 3 ((pre ++ ssV Part.v (X ++ Y) ++ post).map Part.d))]) (congrArg (fun (z_ : List Part) => F.of [(0, .t (.c (.own 0 L))), (3, vi .i64 (b : Int)), (4, .t (.c (.fn (.func 105) [] []))), (18, vi .i64 (md : Int)), (24, vi .i64 (e : Int)), (213, vb (decide ((e : Int) < (b : Int))))] [(0, .row 57 3 (z_.map Part.d))]) (show ((pre ++ ssV Part.v (a1 ++ b1) ++ a2 ++ b2 ++ post) : List Part) = (pre ++ ssV Part.v (X ++ Y) ++ post) from by rw [← hsm, ssV_e (show a2.length = 0 ∨ b2.length = 0 by omega) ra2 rb2]; simp only [List.append_assoc]))
          refine retS [] h Exit.normal (.inr rfl)  rfl trivial ?_ (by kernel_rfl) (by kernel_rfl)
          rfl
        ·have hc34 := hc; clear hc
         have hc34' := of_decide_eq_false hc34
         refine rSeq fam0ok 1 [(2, .cmp (op := .lss) (m := (md : Int)) (n := (e : Int)) (b := false) .i64 hc34)] [(0, .t (.c (.own 0 L))), (3, vi .i64 (b : Int)), (4, .t (.c (.fn (.func 105) [] []))), (18, vi .i64 (md : Int)), (24, vi .i64 (e : Int)), (213, vb false)] [(0, .row 57 3 ((pre ++ ssV Part.v (a1 ++ b1) ++ a2 ++ b2 ++ post).map Part.d))] (by kernel_rfl) h ?_; clear h; intro a w h
         refine condS false h rfl (fun hc => ?_) (fun hc => ?_)
         ·cases hc
         ·clear hc
          refine wp_skip ?_
          replace h := h.conv (f' := F.of [(0, .t (.c (.own 0 L))), (3, vi .i64 (b : Int)), (4, .t (.c (.fn (.func 105) [] []))), (18, vi .i64 (md : Int)), (24, vi .i64 (e : Int)), (213, vb false)] [(0, .row 57 3 ((pre ++ ssV Part.v (X ++ Y) ++ post).map Part.d))]) (congrArg (fun (z_ : List Part) => F.of [(0, .t (.c (.own 0 L))), (3, vi .i64 (b : Int)), (4, .t (.c (.fn (.func 105) [] []))), (18, vi .i64 (md : Int)), (24, vi .i64 (e : Int)), (213, vb false)] [(0, .row 57 3 (z_.map Part.d))]) (show ((pre ++ ssV Part.v (a1 ++ b1) ++ a2 ++ b2 ++ post) : List Part) = (pre ++ ssV Part.v (X ++ Y) ++ post) from by rw [← hsm, ssV_e (show a2.length = 0 ∨ b2.length = 0 by omega) ra2 rb2]; simp only [List.append_assoc]))
          refine retS [] h Exit.normal (.inr rfl)  rfl trivial ?_ (by kernel_rfl) (by kernel_rfl)
          rfl
theorem Ssym : ∀ (N : Nat), SymIH N
 | 0 => fun n hn => absurd hn (by omega)
 | N + 1 => fun n hn L a m b r0 r1 hs => SsymN (N := n) (fun k hk => Ssym N k (by omega)) hs
end Go.Proofs.YtoklkfmffmonoaaGreat.S
end
section
namespace Go.Proofs.YtoklkfmffmonoaaGreat.S

/-- blocks of s elements, each of them rising -/
inductive Blk (s : Nat) : List Part → Prop
  | last (l : List Part) (h : Ris Part.v l) (hl : l.length ≤ s) : Blk s l
  | cons (X l : List Part) (hX : X.length = s) (h : Ris Part.v X) (hl : Blk s l) : Blk s (X ++ l)
theorem Blk.ris {s : Nat} {l : List Part} (h : Blk s l) (hl : l.length ≤ s) : Ris Part.v l := by
 cases h with
 | last _ h _ => exact h
 | cons X l' hX h hl' =>
  have : l'.length = 0 := by rw [List.length_append] at hl; omega
  rw [len_nil this, List.append_nil]; exact h
theorem Blk.one {s : Nat} {l : List Part} (h : Blk s l) (hl : s ≤ l.length) : ∃ X r, l = X ++ r ∧ X.length = s ∧ Ris Part.v X ∧ Blk s r := by
 cases h with
 | last _ h h2 => exact ⟨l, [], by simp, by omega, h, .last _ trivial (Nat.zero_le _)⟩
 | cons X l' hX h hl' => exact ⟨X, l', rfl, hX, h, hl'⟩
theorem Blk.two {s : Nat} {l : List Part} (h : Blk s l) (hl : 2 * s ≤ l.length) : ∃ X Y r, l = X ++ Y ++ r ∧ X.length = s ∧ Y.length = s ∧ Ris Part.v X ∧ Ris Part.v Y ∧ Blk s r := by
 obtain ⟨X, l1, rfl, hX, rX, h1⟩ := h.one (by omega)
 obtain ⟨Y, l2, rfl, hY, rY, h2⟩ := h1.one (by rw [List.length_append] at hl; omega)
 exact ⟨X, Y, l2, by simp, hX, hY, rX, rY, h2⟩
def Pfx (s : Nat) (P : List Part) : Prop := ∀ Z, Blk s Z → Blk s (P ++ Z)
theorem Pfx.nil (s : Nat) : Pfx s [] := fun _ h => h
theorem Pfx.snoc {s : Nat} {P M : List Part} (h : Pfx s P) (hM : M.length = s) (rM : Ris Part.v M) : Pfx s (P ++ M) := fun Z hZ => by
 rw [List.append_assoc]; exact h _ (.cons M Z hM rM hZ)
theorem ssV_ris (xs : List Part) : Ris Part.v (ssV Part.v xs) := (ssV_ok xs).1
theorem ssV_stb (xs : List Part) : Stb Part.v (ssV Part.v xs) xs := (ssV_ok xs).2
theorem Stb.mid {P M M' Z xs : List Part} (h : Stb Part.v (P ++ (M ++ Z)) xs) (hM : Stb Part.v M' M) : Stb Part.v (P ++ (M' ++ Z)) xs := ((Stb.refl P).app (hM.app (Stb.refl Z))).trans h
theorem Stb.len {xs ys : List Part} (h : Stb Part.v xs ys) : xs.length = ys.length := Stb.length xs.length rfl h
end Go.Proofs.YtoklkfmffmonoaaGreat.S
end
section
namespace Go.Proofs.YtoklkfmffmonoaaGreat.S
open Go.RowKit

theorem tj_0 : Bodied Tryz.prog 156 := Bodied.mk' (by kernel_rfl)
theorem tj_2 : Bodied Tryz.prog 139 := Bodied.mk' (by kernel_rfl)
theorem Sinsort2 {r0 r1 : List Part} {L lo hi : Nat} (pre mid post : List Part) (e0 : r0 = pre ++ mid ++ post) (e1 : r1 = pre ++ ssV Part.v mid ++ post) (eL : L = pre.length + mid.length + post.length) (ea : lo = pre.length) (eb : hi = pre.length + mid.length) (hl : L ≤ 1000000) :
  Fn Tryz.prog 156 [(0, .row 57 3 (r0.map Part.d))] [.t (.c (.own 0 L)), vi .i64 (lo : Int), vi .i64 (hi : Int), .t (.c (.fn (.func 105) [] []))] (.tup []) [(0, .row 57 3 (r1.map Part.d))] := by
 have el : L = (pre ++ mid ++ post).length := by simp only [List.length_append]; omega
 subst e0 e1 ea eb el
 exact Sinsort pre mid post hl
theorem Ssym2 {r0 r1 : List Part} {L lo m b : Nat} (pre X Y post : List Part) (e0 : r0 = pre ++ X ++ Y ++ post) (e1 : r1 = pre ++ ssV Part.v (X ++ Y) ++ post) (rX : Ris Part.v X) (rY : Ris Part.v Y) (hX : 0 < X.length) (hY : 0 < Y.length) (ea : lo = pre.length) (em : m = pre.length + X.length) (eb : b = pre.length + X.length + Y.length) (eL : L = pre.length + X.length + Y.length + post.length) (hl : L ≤ 1000000) :
  Fn Tryz.prog 157 [(0, .row 57 3 (r0.map Part.d))] [.t (.c (.own 0 L)), vi .i64 (lo : Int), vi .i64 (m : Int), vi .i64 (b : Int), .t (.c (.fn (.func 105) [] []))] (.tup []) [(0, .row 57 3 (r1.map Part.d))] :=
 Ssym (X.length + Y.length + 1) (X.length + Y.length) (by omega) L lo m b r0 r1 ⟨pre, X, Y, post, rfl, ea, em, eb, eL, hl, hX, hY, rX, rY, e0, e1⟩
theorem Sstable (xs : List Part) (L : Nat) (hL : L = xs.length) (hl : L ≤ 400000) : Fn Tryz.prog 139 [(0, .row 57 3 (xs.map Part.d))] [.t (.c (.own 0 L)), vi .i64 (L : Int), .t (.c (.fn (.func 105) [] []))] (.tup []) [(0, .row 57 3 ((ssV Part.v xs).map Part.d))] := by
 refine Fn.body Tryz.func139 rfl 63 rfl fun w H B a h => ?_
 refine rSeq fam0ok 1 [] [(0, .t (.c (.own 0 L))), (1, vi .i64 (L : Int)), (2, .t (.c (.fn (.func 105) [] []))), (6, vi .i64 20)] [(0, .row 57 3 (xs.map Part.d))] (by kernel_rfl) h ?_; clear h; intro a w h
 refine rSeq fam0ok 1 [] [(0, .t (.c (.own 0 L))), (1, vi .i64 (L : Int)), (2, .t (.c (.fn (.func 105) [] []))), (6, vi .i64 20), (7, vi .i64 0), (8, vi .i64 20)] [(0, .row 57 3 (xs.map Part.d))] (by kernel_rfl) h ?_; clear h; intro a w h
 refine wp_seq ?_
 refine wp_block ?_
 refine loopS (ι := (Nat) × (List Part) × (List Part)) (fun (z_ : (Nat) × (List Part) × (List Part)) => match z_ with | (lo, P, Z) => lo = P.length ∧ Pfx 20 P ∧ lo + Z.length = L ∧ Stb Part.v (P ++ Z) xs)
   (fun (z_ : (Nat) × (List Part) × (List Part)) => match z_ with | (lo, P, Z) => [(0, .t (.c (.own 0 L))), (1, vi .i64 (L : Int)), (2, .t (.c (.fn (.func 105) [] []))), (6, vi .i64 20), (7, vi .i64 (lo : Int)), (8, vi .i64 ((20 + lo : Nat) : Int))])
   (fun (z_ : (Nat) × (List Part) × (List Part)) => match z_ with | (lo, P, Z) => [(0, .row 57 3 ((P ++ Z).map Part.d))])
   (fun (z_ : (Nat) × (List Part) × (List Part)) => match z_ with | (lo, P, Z) => Z.length) (0, [], xs) ?_ h (by kernel_rfl) (by kernel_rfl) ?_
 ·exact ⟨rfl, Pfx.nil _, by simp; omega, Stb.refl _⟩
 ·clear h; rintro ⟨lo, P, Z⟩ a w hI h
  change St _ (F.of [(0, .t (.c (.own 0 L))), (1, vi .i64 (L : Int)), (2, .t (.c (.fn (.func 105) [] []))), (6, vi .i64 20), (7, vi .i64 (lo : Int)), (8, vi .i64 ((20 + lo : Nat) : Int))] [(0, .row 57 3 ((P ++ Z).map Part.d))]) a w at h
  obtain ⟨q1, q2, q3, q4⟩ := hI
  refine wp_seq ?_
  refine rSeq fam0ok 1 [] [(0, .t (.c (.own 0 L))), (1, vi .i64 (L : Int)), (2, .t (.c (.fn (.func 105) [] []))), (6, vi .i64 20), (7, vi .i64 (lo : Int)), (8, vi .i64 ((20 + lo : Nat) : Int)), (13, vb (decide (((20 + lo : Nat) : Int) ≤ (L : Int))))] [(0, .row 57 3 ((P ++ Z).map Part.d))] (by kernel_rfl) h ?_; clear h; intro a w h
  refine condS (decide (((20 + lo : Nat) : Int) ≤ (L : Int))) h rfl (fun hc => ?_) (fun hc => ?_)
  ·have hc1 := hc; clear hc
   have hc1' := of_decide_eq_true hc1
   refine wp_skip ?_
   refine then_n ?_
   refine wp_block ?_
   obtain ⟨M, Z1, hZ, hM⟩ := split_to (l := Z) (n := 20) (by omega)
   have hz1 : Z.length = M.length + Z1.length := by rw [hZ, List.length_append]
   replace h := h.conv (f' := F.of [(0, .t (.c (.own 0 L))), (1, vi .i64 (L : Int)), (2, .t (.c (.fn (.func 105) [] []))), (6, vi .i64 20), (7, vi .i64 (lo : Int)), (8, vi .i64 ((20 + lo : Nat) : Int)), (13, vb (decide (((20 + lo : Nat) : Int) ≤ (L : Int))))] [(0, .row 57 3 ((P ++ (M ++ Z1)).map Part.d))]) (congrArg (fun (z_ : List Part) => F.of [(0, .t (.c (.own 0 L))), (1, vi .i64 (L : Int)), (2, .t (.c (.fn (.func 105) [] []))), (6, vi .i64 20), (7, vi .i64 (lo : Int)), (8, vi .i64 ((20 + lo : Nat) : Int)), (13, vb (decide (((20 + lo : Nat) : Int) ≤ (L : Int))))] [(0, .row 57 3 (z_.map Part.d))]) (show ((P ++ Z) : List Part) = (P ++ (M ++ Z1)) from by rw [hZ]))
   refine rSeq fam0ok 1 [(4, .call (Sinsort2 (r0 := (P ++ (M ++ Z1))) (r1 := ((P ++ ssV Part.v M) ++ Z1)) (L := L) (lo := lo) (hi := (20 + lo)) P M Z1 (by simp only [List.append_assoc]) (rfl) (by first | omega | (simp only [List.length_append, ssV_len]; omega)) (by first | omega | (simp only [List.length_append, ssV_len]; omega)) (by first | omega | (simp only [List.length_append, ssV_len]; omega)) (by omega)) tj_0)] [(0, .t (.c (.own 0 L))), (1, vi .i64 (L : Int)), (2, .t (.c (.fn (.func 105) [] []))), (6, vi .i64 20), (7, vi .i64 (lo : Int)), (8, vi .i64 ((20 + lo : Nat) : Int))] [(0, .row 57 3 (((P ++ ssV Part.v M) ++ Z1).map Part.d))] (by kernel_rfl) h ?_; clear h; intro a w h
   refine rSeq fam0ok 1 [] [(0, .t (.c (.own 0 L))), (1, vi .i64 (L : Int)), (2, .t (.c (.fn (.func 105) [] []))), (6, vi .i64 20), (7, vi .i64 ((20 + lo : Nat) : Int)), (8, vi .i64 ((20 + lo : Nat) : Int))] [(0, .row 57 3 (((P ++ ssV Part.v M) ++ Z1).map Part.d))] (by kernel_rfl) h ?_; clear h; intro a w h
   refine rS fam0ok 1 [(2, .gen _ _ _ fun _ _ _ _ => Op.arith (op := .add) (d := 22) (xt := 3) (yt := 3) (k := .i64) (m := ((20 + lo : Nat) : Int)) (n := 20) (r := ((20 + (20 + lo) : Nat) : Int)) (OV.tmp 20 _) (OV.tmp 21 _) (.inl ⟨rfl, (by omega)⟩) (i64_id (by omega) (by omega)))] [(0, .t (.c (.own 0 L))), (1, vi .i64 (L : Int)), (2, .t (.c (.fn (.func 105) [] []))), (6, vi .i64 20), (7, vi .i64 ((20 + lo : Nat) : Int)), (8, vi .i64 ((20 + (20 + lo) : Nat) : Int))] [(0, .row 57 3 (((P ++ ssV Part.v M) ++ Z1).map Part.d))] (by kernel_rfl) h ?_; clear h; intro a w h
   refine block_n ?_
   refine then_n ?_
   refine roundS (x := (lo, P, Z)) (y := ((20 + lo), (P ++ ssV Part.v M), Z1)) h ?_ ?_ (by kernel_rfl) (by kernel_rfl)
   ·exact ⟨by rw [List.length_append, ssV_len]; omega, q2.snoc (by rw [ssV_len]; exact hM) (ssV_ris M), by omega, by rw [List.append_assoc]; exact Stb.mid (by rw [← hZ]; exact q4) (ssV_stb M)⟩
   ·show Z1.length < Z.length
    omega
  ·have hc2 := hc; clear hc
   have hc2' := of_decide_eq_false hc2
   refine wp_exit ?_
   refine then_x ?_
   refine then_x ?_
   refine inBlock_exit ?_
   refine then_n ?_
   refine rSeq fam0ok 1 [(4, .call (Sinsort2 (r0 := (P ++ Z)) (r1 := (P ++ ssV Part.v Z)) (L := L) (lo := lo) (hi := L) P Z [] ((List.append_nil _).symm) ((List.append_nil _).symm) (by simp only [List.length_nil]; omega) (by first | omega | (simp only [List.length_append, ssV_len]; omega)) (by first | omega | (simp only [List.length_append, ssV_len]; omega)) (by omega)) tj_0)] [(0, .t (.c (.own 0 L))), (1, vi .i64 (L : Int)), (2, .t (.c (.fn (.func 105) [] []))), (6, vi .i64 20), (7, vi .i64 (lo : Int)), (8, vi .i64 ((20 + lo : Nat) : Int))] [(0, .row 57 3 ((P ++ ssV Part.v Z).map Part.d))] (by kernel_rfl) h ?_; clear h; intro a w h
   refine wp_block ?_
   refine loopS (ι := (Nat) × (List Part)) (fun (z_ : (Nat) × (List Part)) => match z_ with | (bs, ys) => 20 ≤ bs ∧ bs ≤ 2 * L + 20 ∧ Blk bs ys ∧ Stb Part.v ys xs)
     (fun (z_ : (Nat) × (List Part)) => match z_ with | (bs, ys) => [(0, .t (.c (.own 0 L))), (1, vi .i64 (L : Int)), (2, .t (.c (.fn (.func 105) [] []))), (6, vi .i64 (bs : Int))])
     (fun (z_ : (Nat) × (List Part)) => match z_ with | (bs, ys) => [(0, .row 57 3 (ys.map Part.d))])
     (fun (z_ : (Nat) × (List Part)) => match z_ with | (bs, ys) => L - bs) (20, (P ++ ssV Part.v Z)) ?_ h (by kernel_rfl) (by kernel_rfl) ?_
   ·exact ⟨Nat.le_refl _, by omega, q2 _ (.last _ (ssV_ris Z) (by rw [ssV_len]; omega)), (((Stb.refl P).app (ssV_stb Z)).trans q4)⟩
   ·clear h; rintro ⟨bs, ys⟩ a w hI h
    change St _ (F.of [(0, .t (.c (.own 0 L))), (1, vi .i64 (L : Int)), (2, .t (.c (.fn (.func 105) [] []))), (6, vi .i64 (bs : Int))] [(0, .row 57 3 (ys.map Part.d))]) a w at h
    obtain ⟨p1, p2, p3, p4⟩ := hI
    have p5 := p4.len
    refine wp_seq ?_
    refine rSeq fam0ok 1 [] [(0, .t (.c (.own 0 L))), (1, vi .i64 (L : Int)), (2, .t (.c (.fn (.func 105) [] []))), (6, vi .i64 (bs : Int)), (30, vb (decide ((bs : Int) < (L : Int))))] [(0, .row 57 3 (ys.map Part.d))] (by kernel_rfl) h ?_; clear h; intro a w h
    refine condS (decide ((bs : Int) < (L : Int))) h rfl (fun hc => ?_) (fun hc => ?_)
    ·have hc3 := hc; clear hc
     have hc3' := of_decide_eq_true hc3
     refine wp_skip ?_
     refine then_n ?_
     refine wp_block ?_
     refine rSeq fam0ok 1 [(1, .gen _ _ _ fun _ _ _ _ => Op.arith (op := .mul) (d := 32) (xt := 3) (yt := 3) (k := .i64) (m := 2) (n := (bs : Int)) (r := ((2 * bs : Nat) : Int)) (OV.const (.int .i64 2) rfl) (OV.tmp 31 _) (.inr (.inr ⟨rfl, (by omega)⟩)) (i64_id (by omega) (by omega)))] [(0, .t (.c (.own 0 L))), (1, vi .i64 (L : Int)), (2, .t (.c (.fn (.func 105) [] []))), (6, vi .i64 (bs : Int)), (7, vi .i64 0), (8, vi .i64 ((2 * bs : Nat) : Int))] [(0, .row 57 3 (ys.map Part.d))] (by kernel_rfl) h ?_; clear h; intro a w h
     refine wp_seq ?_
     refine wp_block ?_
     refine loopS (ι := (Nat) × (List Part) × (List Part)) (fun (z_ : (Nat) × (List Part) × (List Part)) => match z_ with | (lo, P, Z) => lo = P.length ∧ Pfx (2 * bs) P ∧ lo + Z.length = L ∧ Blk bs Z ∧ Stb Part.v (P ++ Z) xs)
       (fun (z_ : (Nat) × (List Part) × (List Part)) => match z_ with | (lo, P, Z) => [(0, .t (.c (.own 0 L))), (1, vi .i64 (L : Int)), (2, .t (.c (.fn (.func 105) [] []))), (6, vi .i64 (bs : Int)), (7, vi .i64 (lo : Int)), (8, vi .i64 ((2 * bs + lo : Nat) : Int))])
       (fun (z_ : (Nat) × (List Part) × (List Part)) => match z_ with | (lo, P, Z) => [(0, .row 57 3 ((P ++ Z).map Part.d))])
       (fun (z_ : (Nat) × (List Part) × (List Part)) => match z_ with | (lo, P, Z) => Z.length) (0, [], ys) ?_ h (by kernel_rfl) (by kernel_rfl) ?_
     ·exact ⟨rfl, Pfx.nil _, by simp; omega, p3, p4⟩
     ·clear h; rintro ⟨lo, P, Z⟩ a w hI h
      change St _ (F.of [(0, .t (.c (.own 0 L))), (1, vi .i64 (L : Int)), (2, .t (.c (.fn (.func 105) [] []))), (6, vi .i64 (bs : Int)), (7, vi .i64 (lo : Int)), (8, vi .i64 ((2 * bs + lo : Nat) : Int))] [(0, .row 57 3 ((P ++ Z).map Part.d))]) a w at h
      obtain ⟨q1, q2, q3, q5, q4⟩ := hI
      refine wp_seq ?_
      refine rSeq fam0ok 1 [] [(0, .t (.c (.own 0 L))), (1, vi .i64 (L : Int)), (2, .t (.c (.fn (.func 105) [] []))), (6, vi .i64 (bs : Int)), (7, vi .i64 (lo : Int)), (8, vi .i64 ((2 * bs + lo : Nat) : Int)), (35, vb (decide (((2 * bs + lo : Nat) : Int) ≤ (L : Int))))] [(0, .row 57 3 ((P ++ Z).map Part.d))] (by kernel_rfl) h ?_; clear h; intro a w h
      refine condS (decide (((2 * bs + lo : Nat) : Int) ≤ (L : Int))) h rfl (fun hc => ?_) (fun hc => ?_)
      ·have hc4 := hc; clear hc
       have hc4' := of_decide_eq_true hc4
       refine wp_skip ?_
       refine then_n ?_
       refine wp_block ?_
       obtain ⟨X, Y, Z1, hZ, hX, hY, rX, rY, bZ⟩ := q5.two (by omega)
       have hz1 : Z.length = X.length + Y.length + Z1.length := by rw [hZ, List.length_append, List.length_append]
       replace h := h.conv (f' := F.of [(0, .t (.c (.own 0 L))), (1, vi .i64 (L : Int)), (2, .t (.c (.fn (.func 105) [] []))), (6, vi .i64 (bs : Int)), (7, vi .i64 (lo : Int)), (8, vi .i64 ((2 * bs + lo : Nat) : Int)), (35, vb (decide (((2 * bs + lo : Nat) : Int) ≤ (L : Int))))] [(0, .row 57 3 ((P ++ X ++ Y ++ Z1).map Part.d))]) (congrArg (fun (z_ : List Part) => F.of [(0, .t (.c (.own 0 L))), (1, vi .i64 (L : Int)), (2, .t (.c (.fn (.func 105) [] []))), (6, vi .i64 (bs : Int)), (7, vi .i64 (lo : Int)), (8, vi .i64 ((2 * bs + lo : Nat) : Int)), (35, vb (decide (((2 * bs + lo : Nat) : Int) ≤ (L : Int))))] [(0, .row 57 3 (z_.map Part.d))]) (show ((P ++ Z) : List Part) = (P ++ X ++ Y ++ Z1) from by rw [hZ]; simp only [List.append_assoc]))
       refine rSeq fam0ok 1 [(4, .gen _ _ _ fun _ _ _ _ => Op.arith (op := .add) (d := 40) (xt := 3) (yt := 3) (k := .i64) (m := (lo : Int)) (n := (bs : Int)) (r := ((lo + bs : Nat) : Int)) (OV.tmp 38 _) (OV.tmp 39 _) (.inl ⟨rfl, (by omega)⟩) (i64_id (by omega) (by omega))), (7, .call (Ssym2 (r0 := (P ++ X ++ Y ++ Z1)) (r1 := ((P ++ ssV Part.v (X ++ Y)) ++ Z1)) (L := L) (lo := lo) (m := (lo + bs)) (b := (2 * bs + lo)) P X Y Z1 rfl rfl rX rY (by omega) (by omega) (by first | omega | (simp only [List.length_append, ssV_len]; omega)) (by first | omega | (simp only [List.length_append, ssV_len]; omega)) (by first | omega | (simp only [List.length_append, ssV_len]; omega)) (by first | omega | (simp only [List.length_append, ssV_len]; omega)) (by omega)) ti_4)] [(0, .t (.c (.own 0 L))), (1, vi .i64 (L : Int)), (2, .t (.c (.fn (.func 105) [] []))), (6, vi .i64 (bs : Int)), (7, vi .i64 (lo : Int)), (8, vi .i64 ((2 * bs + lo : Nat) : Int))] [(0, .row 57 3 (((P ++ ssV Part.v (X ++ Y)) ++ Z1).map Part.d))] (by kernel_rfl) h ?_; clear h; intro a w h
       refine rSeq fam0ok 1 [] [(0, .t (.c (.own 0 L))), (1, vi .i64 (L : Int)), (2, .t (.c (.fn (.func 105) [] []))), (6, vi .i64 (bs : Int)), (7, vi .i64 ((2 * bs + lo : Nat) : Int)), (8, vi .i64 ((2 * bs + lo : Nat) : Int))] [(0, .row 57 3 (((P ++ ssV Part.v (X ++ Y)) ++ Z1).map Part.d))] (by kernel_rfl) h ?_; clear h; intro a w h
       refine rS fam0ok 1 [(2, .gen _ _ _ fun _ _ _ _ => Op.arith (op := .mul) (d := 47) (xt := 3) (yt := 3) (k := .i64) (m := 2) (n := (bs : Int)) (r := ((2 * bs : Nat) : Int)) (OV.const (.int .i64 2) rfl) (OV.tmp 46 _) (.inr (.inr ⟨rfl, (by omega)⟩)) (i64_id (by omega) (by omega))), (3, .gen _ _ _ fun _ _ _ _ => Op.arith (op := .add) (d := 48) (xt := 3) (yt := 3) (k := .i64) (m := ((2 * bs + lo : Nat) : Int)) (n := ((2 * bs : Nat) : Int)) (r := ((2 * bs + (2 * bs + lo) : Nat) : Int)) (OV.tmp 45 _) (OV.tmp 47 _) (.inl ⟨rfl, (by omega)⟩) (i64_id (by omega) (by omega)))] [(0, .t (.c (.own 0 L))), (1, vi .i64 (L : Int)), (2, .t (.c (.fn (.func 105) [] []))), (6, vi .i64 (bs : Int)), (7, vi .i64 ((2 * bs + lo : Nat) : Int)), (8, vi .i64 ((2 * bs + (2 * bs + lo) : Nat) : Int))] [(0, .row 57 3 (((P ++ ssV Part.v (X ++ Y)) ++ Z1).map Part.d))] (by kernel_rfl) h ?_; clear h; intro a w h
       refine block_n ?_
       refine then_n ?_
       refine roundS (x := (lo, P, Z)) (y := ((2 * bs + lo), (P ++ ssV Part.v (X ++ Y)), Z1)) h ?_ ?_ (by kernel_rfl) (by kernel_rfl)
       ·exact ⟨by rw [List.length_append, ssV_len, List.length_append]; omega, q2.snoc (by rw [ssV_len, List.length_append]; omega) (ssV_ris _), by omega, bZ, by rw [List.append_assoc]; exact Stb.mid (M := X ++ Y) (by rw [← hZ]; exact q4) (ssV_stb _)⟩
       ·show Z1.length < Z.length
        omega
      ·have hc5 := hc; clear hc
       have hc5' := of_decide_eq_false hc5
       refine wp_exit ?_
       refine then_x ?_
       refine then_x ?_
       refine inBlock_exit ?_
       refine then_n ?_
       refine wp_seq ?_
       refine rSeq fam0ok 1 [(2, .gen _ _ _ fun _ _ _ _ => Op.arith (op := .add) (d := 51) (xt := 3) (yt := 3) (k := .i64) (m := (lo : Int)) (n := (bs : Int)) (r := ((lo + bs : Nat) : Int)) (OV.tmp 49 _) (OV.tmp 50 _) (.inl ⟨rfl, (by omega)⟩) (i64_id (by omega) (by omega)))] [(0, .t (.c (.own 0 L))), (1, vi .i64 (L : Int)), (2, .t (.c (.fn (.func 105) [] []))), (6, vi .i64 (bs : Int)), (7, vi .i64 (lo : Int)), (9, vi .i64 ((lo + bs : Nat) : Int))] [(0, .row 57 3 ((P ++ Z).map Part.d))] (by kernel_rfl) h ?_; clear h; intro a w h
       refine rSeq fam0ok 1 [] [(0, .t (.c (.own 0 L))), (1, vi .i64 (L : Int)), (2, .t (.c (.fn (.func 105) [] []))), (6, vi .i64 (bs : Int)), (7, vi .i64 (lo : Int)), (9, vi .i64 ((lo + bs : Nat) : Int)), (54, vb (decide (((lo + bs : Nat) : Int) < (L : Int))))] [(0, .row 57 3 ((P ++ Z).map Part.d))] (by kernel_rfl) h ?_; clear h; intro a w h
       refine condS (decide (((lo + bs : Nat) : Int) < (L : Int))) h rfl (fun hc => ?_) (fun hc => ?_)
       ·have hc6 := hc; clear hc
        have hc6' := of_decide_eq_true hc6
        obtain ⟨X, Y, hZ, hX, rX, bY⟩ := q5.one (by omega)
        have hz1 : Z.length = X.length + Y.length := by rw [hZ, List.length_append]
        have rY := bY.ris (by omega)
        replace h := h.conv (f' := F.of [(0, .t (.c (.own 0 L))), (1, vi .i64 (L : Int)), (2, .t (.c (.fn (.func 105) [] []))), (6, vi .i64 (bs : Int)), (7, vi .i64 (lo : Int)), (9, vi .i64 ((lo + bs : Nat) : Int)), (54, vb (decide (((lo + bs : Nat) : Int) < (L : Int))))] [(0, .row 57 3 ((P ++ X ++ Y ++ []).map Part.d))]) (congrArg (fun (z_ : List Part) => F.of [(0, .t (.c (.own 0 L))), (1, vi .i64 (L : Int)), (2, .t (.c (.fn (.func 105) [] []))), (6, vi .i64 (bs : Int)), (7, vi .i64 (lo : Int)), (9, vi .i64 ((lo + bs : Nat) : Int)), (54, vb (decide (((lo + bs : Nat) : Int) < (L : Int))))] [(0, .row 57 3 (z_.map Part.d))]) (show ((P ++ Z) : List Part) = (P ++ X ++ Y ++ []) from by rw [hZ]; simp only [List.append_assoc, List.append_nil]))
        refine rS fam0ok 1 [(5, .call (Ssym2 (r0 := (P ++ X ++ Y ++ [])) (r1 := (P ++ ssV Part.v (X ++ Y) ++ [])) (L := L) (lo := lo) (m := (lo + bs)) (b := L) P X Y [] rfl rfl rX rY (by omega) (by omega) (by first | omega | (simp only [List.length_append, ssV_len]; omega)) (by first | omega | (simp only [List.length_append, ssV_len]; omega)) (by first | omega | (simp only [List.length_append, ssV_len]; omega)) (by simp only [List.length_nil]; omega) (by omega)) ti_4)] [(0, .t (.c (.own 0 L))), (1, vi .i64 (L : Int)), (2, .t (.c (.fn (.func 105) [] []))), (6, vi .i64 (bs : Int))] [(0, .row 57 3 ((P ++ ssV Part.v (X ++ Y) ++ []).map Part.d))] (by kernel_rfl) h ?_; clear h; intro a w h
        refine then_n ?_
        refine rS fam0ok 1 [(1, .gen _ _ _ fun _ _ _ _ => Op.arith (op := .mul) (d := 62) (xt := 3) (yt := 3) (k := .i64) (m := (bs : Int)) (n := 2) (r := ((bs * 2 : Nat) : Int)) (OV.tmp 61 _) (OV.const (.int .i64 2) rfl) (.inr (.inr ⟨rfl, (by omega)⟩)) (i64_id (by omega) (by omega)))] [(0, .t (.c (.own 0 L))), (1, vi .i64 (L : Int)), (2, .t (.c (.fn (.func 105) [] []))), (6, vi .i64 ((bs * 2 : Nat) : Int))] [(0, .row 57 3 ((P ++ ssV Part.v (X ++ Y) ++ []).map Part.d))] (by kernel_rfl) h ?_; clear h; intro a w h
        refine block_n ?_
        refine then_n ?_
        replace h := h.conv (f' := F.of [(0, .t (.c (.own 0 L))), (1, vi .i64 (L : Int)), (2, .t (.c (.fn (.func 105) [] []))), (6, vi .i64 ((bs * 2 : Nat) : Int))] [(0, .row 57 3 ((P ++ ssV Part.v Z).map Part.d))]) (congrArg (fun (z_ : List Part) => F.of [(0, .t (.c (.own 0 L))), (1, vi .i64 (L : Int)), (2, .t (.c (.fn (.func 105) [] []))), (6, vi .i64 ((bs * 2 : Nat) : Int))] [(0, .row 57 3 (z_.map Part.d))]) (show ((P ++ ssV Part.v (X ++ Y) ++ []) : List Part) = (P ++ ssV Part.v Z) from by rw [hZ, List.append_nil]))
        refine roundS (x := (bs, ys)) (y := ((bs * 2), (P ++ ssV Part.v Z))) h ?_ ?_ (by kernel_rfl) (by kernel_rfl)
        ·exact ⟨by omega, by omega, by rw [Nat.mul_comm]; exact q2 _ (.last _ (ssV_ris Z) (by rw [ssV_len]; omega)), (((Stb.refl P).app (ssV_stb Z)).trans q4)⟩
        ·show L - bs * 2 < L - bs
         omega
       ·have hc7 := hc; clear hc
        have hc7' := of_decide_eq_false hc7
        refine wp_skip ?_
        refine then_n ?_
        refine rS fam0ok 1 [(1, .gen _ _ _ fun _ _ _ _ => Op.arith (op := .mul) (d := 62) (xt := 3) (yt := 3) (k := .i64) (m := (bs : Int)) (n := 2) (r := ((bs * 2 : Nat) : Int)) (OV.tmp 61 _) (OV.const (.int .i64 2) rfl) (.inr (.inr ⟨rfl, (by omega)⟩)) (i64_id (by omega) (by omega)))] [(0, .t (.c (.own 0 L))), (1, vi .i64 (L : Int)), (2, .t (.c (.fn (.func 105) [] []))), (6, vi .i64 ((bs * 2 : Nat) : Int))] [(0, .row 57 3 ((P ++ Z).map Part.d))] (by kernel_rfl) h ?_; clear h; intro a w h
        refine block_n ?_
        refine then_n ?_
        replace h := h.conv (f' := F.of [(0, .t (.c (.own 0 L))), (1, vi .i64 (L : Int)), (2, .t (.c (.fn (.func 105) [] []))), (6, vi .i64 ((bs * 2 : Nat) : Int))] [(0, .row 57 3 ((P ++ ssV Part.v Z).map Part.d))]) (congrArg (fun (z_ : List Part) => F.of [(0, .t (.c (.own 0 L))), (1, vi .i64 (L : Int)), (2, .t (.c (.fn (.func 105) [] []))), (6, vi .i64 ((bs * 2 : Nat) : Int))] [(0, .row 57 3 (z_.map Part.d))]) (show ((P ++ Z) : List Part) = (P ++ ssV Part.v Z) from by rw [ssV_of (q5.ris (by omega))]))
        refine roundS (x := (bs, ys)) (y := ((bs * 2), (P ++ ssV Part.v Z))) h ?_ ?_ (by kernel_rfl) (by kernel_rfl)
        ·exact ⟨by omega, by omega, by rw [Nat.mul_comm]; exact q2 _ (.last _ (ssV_ris Z) (by rw [ssV_len]; omega)), (((Stb.refl P).app (ssV_stb Z)).trans q4)⟩
        ·show L - bs * 2 < L - bs
         omega
    ·have hc8 := hc; clear hc
     have hc8' := of_decide_eq_false hc8
     refine wp_exit ?_
     refine then_x ?_
     refine then_x ?_
     refine inBlock_exit ?_
     replace h := h.conv (f' := F.of [(0, .t (.c (.own 0 L))), (1, vi .i64 (L : Int)), (2, .t (.c (.fn (.func 105) [] []))), (6, vi .i64 (bs : Int)), (30, vb (decide ((bs : Int) < (L : Int))))] [(0, .row 57 3 ((ssV Part.v xs).map Part.d))]) (congrArg (fun (z_ : List Part) => F.of [(0, .t (.c (.own 0 L))), (1, vi .i64 (L : Int)), (2, .t (.c (.fn (.func 105) [] []))), (6, vi .i64 (bs : Int)), (30, vb (decide ((bs : Int) < (L : Int))))] [(0, .row 57 3 (z_.map Part.d))]) (show (ys : List Part) = (ssV Part.v xs) from ssV_unique (p3.ris (by omega)) p4))
     refine retS [] h Exit.normal (.inr rfl)  rfl trivial ?_ (by kernel_rfl) (by kernel_rfl)
     rfl
theorem SSortStable (xs : List Part) (hl : xs.length ≤ 400000) : Fn Tryz.prog 104 [(0, .row 57 3 (xs.map Part.d))] [.t (.c (.own 0 xs.length)), .t (.c (.fn (.func 105) [] []))] (.tup []) [(0, .row 57 3 ((ssV Part.v xs).map Part.d))] := by
 refine Fn.body Tryz.func104 rfl 9 rfl fun w H B a h => ?_
 refine rS fam0ok 1 [(4, .call (Sstable xs xs.length rfl (by omega)) tj_2)] [] [(0, .row 57 3 ((ssV Part.v xs).map Part.d))] (by kernel_rfl) h ?_; clear h; intro a w h
 refine retS [] h Exit.normal (.inr rfl)  rfl trivial ?_ (by kernel_rfl) (by kernel_rfl)
 rfl
end Go.Proofs.YtoklkfmffmonoaaGreat.S
end
section
namespace Go.Proofs.YtoklkfmffmonoaaGreat.S
open Go.RowKit

theorem tk_3 : Bodied Tryz.prog 143 := Bodied.mk' (by kernel_rfl)
theorem tk_4 : Zero Tryz.prog 57 [.d (.raw (.int .i64 0)), .d (.raw (.bool false)), .d (nsl [])] := ⟨(Value.agg #[.int .i64 0, .bool false, .slice none 0 0]), [.int .i64 0, .bool false, .slice none 0 0], by kernel_rfl, rfl, (fun _ _ => ⟨DR.raw _ rfl, DR.raw _ rfl, DR.nil _ _ _ (fun _ => rfl) (Nat.zero_le _), trivial⟩)⟩
def idxF (pr : Part → Bool) : List Part → Nat → Int
  | [], _ => -1
  | p :: ps, n => if pr p = true then n else idxF pr ps (n + 1)
theorem idxF_at {pr : Part → Bool} {xs : List Part} {j : Nat} {p : Part} (h : xs[j]? = some p) : idxF pr (xs.drop j) j = if pr p = true then (j : Int) else idxF pr (xs.drop (j + 1)) (j + 1) := by
 obtain ⟨hj, rfl⟩ := List.getElem?_eq_some_iff.1 h
 rw [List.drop_eq_getElem_cons hj]; rfl
theorem idxF_cases (pr : Part → Bool) : ∀ (xs : List Part) (n : Nat), (idxF pr xs n = -1 ∧ xs.filter (fun p => !pr p) = xs) ∨ ∃ k x, idxF pr xs n = ((n + k : Nat) : Int) ∧ xs[k]? = some x ∧ pr x = true ∧ (xs.take k).filter (fun p => !pr p) = xs.take k
 | [], n => .inl ⟨rfl, rfl⟩
 | p :: ps, n => by
  cases hp : pr p with
  | true => exact .inr ⟨0, p, by simp [idxF, hp], rfl, hp, rfl⟩
  | false =>
   rcases idxF_cases pr ps (n + 1) with ⟨h1, h2⟩ | ⟨k, x, h1, h2, h3, h4⟩
   ·exact .inl ⟨by simp [idxF, hp, h1], by simp [hp, h2]⟩
   ·exact .inr ⟨k + 1, x, by simp only [idxF, hp, Bool.false_eq_true, if_false, h1]; omega, h2, h3, by simp [hp, h4]⟩
def isZ (p : Part) : Bool := sgn p.c.val == 0
theorem del_at {pr : Part → Bool} {xs F G : List Part} {j : Nat} {x : Part} (hl : F.length + G.length = j) (h : xs[j]? = some x) : (F ++ G ++ xs.drop j)[j]? = some x := by
 obtain ⟨hj, rfl⟩ := List.getElem?_eq_some_iff.1 h
 rw [List.getElem?_append_right (by rw [List.length_append]; omega), List.length_append, hl, Nat.sub_self, List.drop_eq_getElem_cons hj]; rfl
theorem filt_snoc {pr : Part → Bool} {xs : List Part} {j : Nat} {x : Part} (h : xs[j]? = some x) (hp : pr x = false) : ((xs.take (j + 1)).filter (fun p => !pr p)) = ((xs.take j).filter (fun p => !pr p)) ++ [x] := by
 have e : xs.take (j + 1) = xs.take j ++ [x] := by rw [List.take_add_one, h]; rfl
 rw [e, List.filter_append]
 simp only [List.filter_cons, hp, Bool.not_false, if_true, List.filter_nil]
theorem filt_skip {pr : Part → Bool} {xs : List Part} {j : Nat} {x : Part} (h : xs[j]? = some x) (hp : pr x = true) : ((xs.take (j + 1)).filter (fun p => !pr p)) = ((xs.take j).filter (fun p => !pr p)) := by
 have e : xs.take (j + 1) = xs.take j ++ [x] := by rw [List.take_add_one, h]; rfl
 rw [e, List.filter_append]
 simp only [List.filter_cons, hp, Bool.not_true, Bool.false_eq_true, if_false, List.filter_nil, List.append_nil]
theorem del_skip {pr : Part → Bool} {xs G : List Part} {j : Nat} {x : Part} (h : xs[j]? = some x) (hp : pr x = true) : (((xs.take j).filter (fun p => !pr p)) ++ G ++ xs.drop j) = (((xs.take (j + 1)).filter (fun p => !pr p)) ++ (G ++ [x]) ++ xs.drop (j + 1)) := by
 rw [filt_skip h hp]
 obtain ⟨hj, rfl⟩ := List.getElem?_eq_some_iff.1 h
 rw [List.drop_eq_getElem_cons hj]
 simp only [List.append_assoc, List.cons_append, List.nil_append]
theorem del_keep {pr : Part → Bool} {xs G : List Part} {j : Nat} {x : Part} (h : xs[j]? = some x) (hp : pr x = false) (hG : 0 < G.length) : (((xs.take j).filter (fun p => !pr p)) ++ G ++ xs.drop j).set ((xs.take j).filter (fun p => !pr p)).length x = (((xs.take (j + 1)).filter (fun p => !pr p)) ++ (G.tail ++ [x]) ++ xs.drop (j + 1)) := by
 rw [filt_snoc h hp]
 obtain ⟨hj, rfl⟩ := List.getElem?_eq_some_iff.1 h
 obtain ⟨g, G', rfl⟩ : ∃ g G', G = g :: G' := by
  cases G with
  | nil => cases hG
  | cons g G' => exact ⟨g, G', rfl⟩
 rw [List.drop_eq_getElem_cons hj, List.append_assoc, List.set_append_right _ _ (Nat.le_refl _), Nat.sub_self]
 simp only [List.cons_append, List.set_cons_zero, List.append_assoc, List.nil_append, List.tail_cons]
theorem filt_len {pr : Part → Bool} {xs : List Part} {j : Nat} {x : Part} (h : xs[j]? = some x) (hp : pr x = false) : ((xs.take j).filter (fun p => !pr p)).length + 1 = ((xs.take (j + 1)).filter (fun p => !pr p)).length := by
 rw [filt_snoc h hp, List.length_append]; rfl
theorem filt_len0 {pr : Part → Bool} {xs : List Part} {j : Nat} {x : Part} (h : xs[j]? = some x) (hp : pr x = true) : ((xs.take j).filter (fun p => !pr p)).length = ((xs.take (j + 1)).filter (fun p => !pr p)).length := by
 rw [filt_skip h hp]
theorem SIndexFZ (pr : Part → Bool) (xs : List Part) (hf : ∀ p ∈ xs, Fn Tryz.prog 110 [] [vd p.d] (vb (pr p)) []) (hl : xs.length ≤ 1000000) : Fn Tryz.prog 143 [(0, .row 57 3 (xs.map Part.d))] [.t (.c (.own 0 xs.length)), .t (.c (.fn (.func 110) [] []))] (vi .i64 (idxF pr xs 0)) [(0, .row 57 3 (xs.map Part.d))] := by
 refine Fn.body Tryz.func143 rfl 19 rfl fun w H B a h => ?_
 refine rSeq fam0ok 1 [] [(0, .t (.c (.own 0 xs.length))), (1, .t (.c (.fn (.func 110) [] []))), (4, vi .i64 0)] [(0, .row 57 3 (xs.map Part.d))] (by kernel_rfl) h ?_; clear h; intro a w h
 refine wp_seq ?_
 refine rSeq fam0ok 1 [] [(0, .t (.c (.own 0 xs.length))), (1, .t (.c (.fn (.func 110) [] []))), (4, vi .i64 0), (7, vi .i64 (xs.length : Int)), (8, vi .i64 0)] [(0, .row 57 3 (xs.map Part.d))] (by kernel_rfl) h ?_; clear h; intro a w h
 refine wp_block ?_
 refine loopS (ι := (Nat)) (fun (z_ : (Nat)) => match z_ with | j => j ≤ xs.length ∧ idxF pr xs 0 = idxF pr (xs.drop j) j)
   (fun (z_ : (Nat)) => match z_ with | j => [(0, .t (.c (.own 0 xs.length))), (1, .t (.c (.fn (.func 110) [] []))), (7, vi .i64 (xs.length : Int)), (8, vi .i64 (j : Int))])
   (fun (z_ : (Nat)) => match z_ with | j => [(0, .row 57 3 (xs.map Part.d))])
   (fun (z_ : (Nat)) => match z_ with | j => xs.length - j) 0 ?_ h (by kernel_rfl) (by kernel_rfl) ?_
 ·exact ⟨Nat.zero_le _, rfl⟩
 ·clear h; rintro j a w hI h
  change St _ (F.of [(0, .t (.c (.own 0 xs.length))), (1, .t (.c (.fn (.func 110) [] []))), (7, vi .i64 (xs.length : Int)), (8, vi .i64 (j : Int))] [(0, .row 57 3 (xs.map Part.d))]) a w at h
  obtain ⟨hI1, hI2⟩ := hI
  refine rSeq fam0ok 1 [] [(0, .t (.c (.own 0 xs.length))), (1, .t (.c (.fn (.func 110) [] []))), (7, vi .i64 (xs.length : Int)), (8, vi .i64 (j : Int)), (9, vb (decide ((j : Int) < (xs.length : Int))))] [(0, .row 57 3 (xs.map Part.d))] (by kernel_rfl) h ?_; clear h; intro a w h
  refine wp_seq ?_
  refine condS (decide ((j : Int) < (xs.length : Int))) h rfl (fun hc => ?_) (fun hc => ?_)
  ·have hc1 := hc; clear hc
   have hc1' := of_decide_eq_true hc1
   refine wp_skip ?_
   refine then_n ?_
   refine wp_seq ?_
   refine wp_block ?_
   refine rSeq fam0ok 1 [] [(0, .t (.c (.own 0 xs.length))), (1, .t (.c (.fn (.func 110) [] []))), (5, vi .i64 (j : Int)), (7, vi .i64 (xs.length : Int)), (8, vi .i64 (j : Int))] [(0, .row 57 3 (xs.map Part.d))] (by kernel_rfl) h ?_; clear h; intro a w h
   obtain ⟨x1, hx1⟩ : ∃ z_ : Part, xs[j]? = some z_ := ⟨_, List.getElem?_eq_getElem (by first | omega | (simp at *; omega))⟩
   refine rSeq fam0ok 1 [(3, .gen _ _ _ fun _ _ _ _ => Op.idxO (d := 14) (t := 12) (k := .i64) (n := 0) (len := xs.length) (i := j) ta_0 (by first | omega | (simp at *; omega)) (OV.tmp 13 _)), (4, .gen _ _ _ fun _ _ _ _ => Op.loadR_agg (d := 15) (t := 14) (n := 0) (i := j) (fo := 0) (rty := 57) (es := 3) (xs := [.raw (.int .i64 x1.v), .raw (.bool x1.c.neg), nsl x1.c.abs]) te_1 rfl (map_at hx1 (f := Part.d)) rfl rfl), (5, .gen _ _ _ fun _ _ _ _ => Op.callV (d := 16) (t := 11) (cap := []) (args := [.t (.agg ([.d (.raw (.int .i64 x1.v))] ++ zi x1.c))]) (rs := [(15, .t (.agg ([.d (.raw (.int .i64 x1.v))] ++ zi x1.c)))]) (tys := #[57]) (hf x1 (List.mem_of_getElem? hx1)) th_2 (OVs.cons (OV.tmp 15 _) (OVs.nil)))] [(0, .t (.c (.own 0 xs.length))), (1, .t (.c (.fn (.func 110) [] []))), (5, vi .i64 (j : Int)), (7, vi .i64 (xs.length : Int)), (8, vi .i64 (j : Int)), (16, vb (pr x1))] [(0, .row 57 3 (xs.map Part.d))] (by kernel_rfl) h ?_; clear h; intro a w h
   refine condS (pr x1) h rfl (fun hc => ?_) (fun hc => ?_)
   ·have hc2 := hc; clear hc
    refine rSeq fam0ok 1 [] [(0, .t (.c (.own 0 xs.length))), (1, .t (.c (.fn (.func 110) [] []))), (4, vi .i64 (j : Int)), (7, vi .i64 (xs.length : Int)), (8, vi .i64 (j : Int))] [(0, .row 57 3 (xs.map Part.d))] (by kernel_rfl) h ?_; clear h; intro a w h
    refine wp_ret ?_
    refine block_r ?_
    refine then_r ?_
    refine then_r ?_
    refine block_r ?_
    refine then_r ?_
    refine retS [.c (.d (.raw (.int .i64 (j : Int))))] h Exit.ret (.inl rfl)  rfl ⟨RV.tmp _ _ rfl, trivial⟩ ?_ (by kernel_rfl) (by kernel_rfl)
    have hz : idxF pr xs 0 = (j : Int) := by rw [hI2, idxF_at hx1, if_pos hc2]
    rw [hz]; first | done | rfl
   ·have hc3 := hc; clear hc
    refine wp_skip ?_
    refine block_n ?_
    refine then_n ?_
    refine rS fam0ok 1 [(0, .add .i64 (m := (j : Int)) (n := 1) (i64_id (by omega) (by omega)))] [(0, .t (.c (.own 0 xs.length))), (1, .t (.c (.fn (.func 110) [] []))), (7, vi .i64 (xs.length : Int)), (8, vi .i64 ((j : Int) + 1))] [(0, .row 57 3 (xs.map Part.d))] (by kernel_rfl) h ?_; clear h; intro a w h
    refine then_n ?_
    refine roundS (x := j) (y := j + 1) h ?_ ?_ (by kernel_rfl) (by kernel_rfl)
    ·exact ⟨by have := at_lt hx1; omega, by rw [hI2, idxF_at hx1, if_neg (by rw [hc3]; exact Bool.noConfusion)]⟩
    ·simp; omega
  ·have hc4 := hc; clear hc
   have hc4' := of_decide_eq_false hc4
   refine wp_exit ?_
   refine then_x ?_
   refine then_x ?_
   refine inBlock_exit ?_
   refine then_n ?_
   refine rSeq fam0ok 1 [] [(4, vi .i64 (-1))] [(0, .row 57 3 (xs.map Part.d))] (by kernel_rfl) h ?_; clear h; intro a w h
   refine wp_ret ?_
   refine retS [.c (.d (.raw (.int .i64 (-1))))] h Exit.ret (.inl rfl)  rfl ⟨RV.tmp _ _ rfl, trivial⟩ ?_ (by kernel_rfl) (by kernel_rfl)
   have hz : idxF pr xs 0 = -1 := by rw [hI2, List.drop_of_length_le (by omega)]; rfl
   rw [hz]; first | done | rfl
theorem SDeleteFZ (pr : Part → Bool) (xs : List Part) (hf : ∀ p ∈ xs, Fn Tryz.prog 110 [] [vd p.d] (vb (pr p)) []) (hl : xs.length ≤ 1000000) : Fn Tryz.prog 109 [(0, .row 57 3 (xs.map Part.d))] [.t (.c (.own 0 xs.length)), .t (.c (.fn (.func 110) [] []))] (.t (.c (.own 0 (xs.filter (fun p => !pr p)).length))) [(0, .row 57 3 ((xs.filter (fun p => !pr p)).map Part.d))] := by
 refine Fn.body Tryz.func109 rfl 42 rfl fun w H B a h => ?_
 refine rSeq fam0ok 1 [] [(0, .t (.c (.own 0 xs.length))), (1, .t (.c (.fn (.func 110) [] []))), (4, .t (.c (.d (.raw nilV))))] [(0, .row 57 3 (xs.map Part.d))] (by kernel_rfl) h ?_; clear h; intro a w h
 refine rSeq fam0ok 1 [(2, .call (SIndexFZ pr xs  hf hl) tk_3)] [(0, .t (.c (.own 0 xs.length))), (1, .t (.c (.fn (.func 110) [] []))), (4, .t (.c (.d (.raw nilV)))), (5, vi .i64 (idxF pr xs 0))] [(0, .row 57 3 (xs.map Part.d))] (by kernel_rfl) h ?_; clear h; intro a w h
 refine wp_seq ?_
 rcases idxF_cases pr xs 0 with ⟨hz, hz2⟩ | ⟨k, x0, hz, hk, hk2, hk3⟩
 ·rw [hz] at h
  refine rSeq fam0ok 1 [(1, .cmp (op := .eql) (m := (-1)) (n := (-1)) (b := true) .i64 rfl)] [(0, .t (.c (.own 0 xs.length))), (1, .t (.c (.fn (.func 110) [] []))), (4, .t (.c (.d (.raw nilV)))), (5, vi .i64 (-1)), (12, vb true)] [(0, .row 57 3 (xs.map Part.d))] (by kernel_rfl) h ?_; clear h; intro a w h
  refine condS true h rfl (fun hc => ?_) (fun hc => ?_)
  ·clear hc
   refine rSeq fam0ok 1 [] [(0, .t (.c (.own 0 xs.length))), (1, .t (.c (.fn (.func 110) [] []))), (4, .t (.c (.own 0 xs.length))), (5, vi .i64 (-1))] [(0, .row 57 3 (xs.map Part.d))] (by kernel_rfl) h ?_; clear h; intro a w h
   refine wp_ret ?_
   refine then_r ?_
   replace h := h.conv (f' := F.of [(0, .t (.c (.own 0 xs.length))), (1, .t (.c (.fn (.func 110) [] []))), (4, .t (.c (.own 0 (xs.filter (fun p => !pr p)).length))), (5, vi .i64 (-1))] [(0, .row 57 3 (xs.map Part.d))]) (by rw [hz2])
   replace h := h.conv (f' := F.of [(0, .t (.c (.own 0 xs.length))), (1, .t (.c (.fn (.func 110) [] []))), (4, .t (.c (.own 0 (xs.filter (fun p => !pr p)).length))), (5, vi .i64 (-1))] [(0, .row 57 3 ((xs.filter (fun p => !pr p)).map Part.d))]) (congrArg (fun (z_ : List Part) => F.of [(0, .t (.c (.own 0 xs.length))), (1, .t (.c (.fn (.func 110) [] []))), (4, .t (.c (.own 0 (xs.filter (fun p => !pr p)).length))), (5, vi .i64 (-1))] [(0, .row 57 3 (z_.map Part.d))]) (show (xs : List Part) = (xs.filter (fun p => !pr p)) from hz2.symm))
   refine retS [.c (.own 0 (xs.filter (fun p => !pr p)).length)] h Exit.ret (.inl rfl)  rfl ⟨RV.tmp _ _ rfl, trivial⟩ ?_ (by kernel_rfl) (by kernel_rfl)
   rfl
  ·cases hc
 ·rw [Nat.zero_add] at hz
  have hkl := at_lt hk
  have hf2 : ((xs.take (k + 1)).filter (fun p => !pr p)) = xs.take k := by rw [List.take_add_one, hk]; simp [List.filter_append, hk2, hk3]
  have hf3 : ((xs.take (k + 1)).filter (fun p => !pr p)).length = k := by rw [hf2, List.length_take]; omega
  rw [hz] at h
  refine rSeq fam0ok 1 [(1, .cmp (op := .eql) (m := (k : Int)) (n := (-1)) (b := false) .i64 (beq_eq_false_iff_ne.2 (by omega)))] [(0, .t (.c (.own 0 xs.length))), (1, .t (.c (.fn (.func 110) [] []))), (4, .t (.c (.d (.raw nilV)))), (5, vi .i64 (k : Int)), (12, vb false)] [(0, .row 57 3 (xs.map Part.d))] (by kernel_rfl) h ?_; clear h; intro a w h
  refine condS false h rfl (fun hc => ?_) (fun hc => ?_)
  ·cases hc
  ·clear hc
   refine wp_skip ?_
   refine then_n ?_
   refine wp_seq ?_
   refine rSeq fam0ok 1 [(1, .gen _ _ _ fun _ _ _ _ => Op.arith (op := .add) (d := 15) (xt := 3) (yt := 3) (k := .i64) (m := (k : Int)) (n := 1) (r := ((k + 1 : Nat) : Int)) (OV.tmp 14 _) (OV.const (.int .i64 1) rfl) (.inl ⟨rfl, (by omega)⟩) (i64_id (by omega) (by omega)))] [(0, .t (.c (.own 0 xs.length))), (1, .t (.c (.fn (.func 110) [] []))), (4, .t (.c (.d (.raw nilV)))), (5, vi .i64 (k : Int)), (6, vi .i64 ((k + 1 : Nat) : Int))] [(0, .row 57 3 (xs.map Part.d))] (by kernel_rfl) h ?_; clear h; intro a w h
   refine wp_block ?_
   replace h := h.conv (f' := F.of [(0, .t (.c (.own 0 xs.length))), (1, .t (.c (.fn (.func 110) [] []))), (4, .t (.c (.d (.raw nilV)))), (5, vi .i64 (((xs.take (k + 1)).filter (fun p => !pr p)).length : Int)), (6, vi .i64 ((k + 1 : Nat) : Int))] [(0, .row 57 3 (xs.map Part.d))]) (by rw [hf3])
   replace h := h.conv (f' := F.of [(0, .t (.c (.own 0 xs.length))), (1, .t (.c (.fn (.func 110) [] []))), (4, .t (.c (.d (.raw nilV)))), (5, vi .i64 (((xs.take (k + 1)).filter (fun p => !pr p)).length : Int)), (6, vi .i64 ((k + 1 : Nat) : Int))] [(0, .row 57 3 ((((xs.take (k + 1)).filter (fun p => !pr p)) ++ [x0] ++ xs.drop (k + 1)).map Part.d))]) (congrArg (fun (z_ : List Part) => F.of [(0, .t (.c (.own 0 xs.length))), (1, .t (.c (.fn (.func 110) [] []))), (4, .t (.c (.d (.raw nilV)))), (5, vi .i64 (((xs.take (k + 1)).filter (fun p => !pr p)).length : Int)), (6, vi .i64 ((k + 1 : Nat) : Int))] [(0, .row 57 3 (z_.map Part.d))]) (show (xs : List Part) = (((xs.take (k + 1)).filter (fun p => !pr p)) ++ [x0] ++ xs.drop (k + 1)) from by rw [hf2]; obtain ⟨g1, g2⟩ := List.getElem?_eq_some_iff.1 hk; subst g2; simp))
   refine loopS (ι := (Nat) × (List Part)) (fun (z_ : (Nat) × (List Part)) => match z_ with | (j, G) => j ≤ xs.length ∧ ((xs.take j).filter (fun p => !pr p)).length + G.length = j ∧ 0 < G.length)
     (fun (z_ : (Nat) × (List Part)) => match z_ with | (j, G) => [(0, .t (.c (.own 0 xs.length))), (1, .t (.c (.fn (.func 110) [] []))), (4, .t (.c (.d (.raw nilV)))), (5, vi .i64 (((xs.take j).filter (fun p => !pr p)).length : Int)), (6, vi .i64 (j : Int))])
     (fun (z_ : (Nat) × (List Part)) => match z_ with | (j, G) => [(0, .row 57 3 ((((xs.take j).filter (fun p => !pr p)) ++ G ++ xs.drop j).map Part.d))])
     (fun (z_ : (Nat) × (List Part)) => match z_ with | (j, G) => xs.length - j) ((k + 1), [x0]) ?_ h (by kernel_rfl) (by kernel_rfl) ?_
   ·exact ⟨by omega, by rw [hf3]; rfl, Nat.one_pos⟩
   ·clear h; rintro ⟨j, G⟩ a w hI h
    change St _ (F.of [(0, .t (.c (.own 0 xs.length))), (1, .t (.c (.fn (.func 110) [] []))), (4, .t (.c (.d (.raw nilV)))), (5, vi .i64 (((xs.take j).filter (fun p => !pr p)).length : Int)), (6, vi .i64 (j : Int))] [(0, .row 57 3 ((((xs.take j).filter (fun p => !pr p)) ++ G ++ xs.drop j).map Part.d))]) a w at h
    obtain ⟨hI1, hI2, hI3⟩ := hI
    have hrl : (((xs.take j).filter (fun p => !pr p)) ++ G ++ xs.drop j).length = xs.length := by simp only [List.length_append, List.length_drop]; omega
    refine wp_seq ?_
    refine rSeq fam0ok 1 [] [(0, .t (.c (.own 0 xs.length))), (1, .t (.c (.fn (.func 110) [] []))), (4, .t (.c (.d (.raw nilV)))), (5, vi .i64 (((xs.take j).filter (fun p => !pr p)).length : Int)), (6, vi .i64 (j : Int)), (19, vb (decide ((j : Int) < (xs.length : Int))))] [(0, .row 57 3 ((((xs.take j).filter (fun p => !pr p)) ++ G ++ xs.drop j).map Part.d))] (by kernel_rfl) h ?_; clear h; intro a w h
    refine condS (decide ((j : Int) < (xs.length : Int))) h rfl (fun hc => ?_) (fun hc => ?_)
    ·have hc1 := hc; clear hc
     have hc1' := of_decide_eq_true hc1
     refine wp_skip ?_
     refine then_n ?_
     refine wp_seq ?_
     refine wp_block ?_
     obtain ⟨x, hx⟩ : ∃ z_ : Part, xs[j]? = some z_ := ⟨_, List.getElem?_eq_getElem (by omega)⟩
     refine rSeq fam0ok 1 [(2, .gen _ _ _ fun _ _ _ _ => Op.idxO (d := 24) (t := 22) (k := .i64) (n := 0) (len := xs.length) (i := j) ta_0 (by first | omega | (simp at *; omega)) (OV.tmp 23 _)), (3, .gen _ _ _ fun _ _ _ _ => Op.loadR_agg (d := 25) (t := 24) (n := 0) (i := j) (fo := 0) (rty := 57) (es := 3) (xs := [.raw (.int .i64 x.v), .raw (.bool x.c.neg), nsl x.c.abs]) te_1 rfl (map_at (show ((((xs.take j).filter (fun p => !pr p)) ++ G ++ xs.drop j) : List Part)[j]? = some x from del_at (pr := pr) hI2 hx) (f := Part.d)) rfl rfl)] [(0, .t (.c (.own 0 xs.length))), (1, .t (.c (.fn (.func 110) [] []))), (4, .t (.c (.d (.raw nilV)))), (5, vi .i64 (((xs.take j).filter (fun p => !pr p)).length : Int)), (6, vi .i64 (j : Int)), (7, vp 1 0)] [(0, .row 57 3 ((((xs.take j).filter (fun p => !pr p)) ++ G ++ xs.drop j).map Part.d)), (1, .box ([.d (.raw (.int .i64 x.v))] ++ zi x.c))] (by kernel_rfl) h ?_; clear h; intro a w h
     refine rSeq fam0ok 2 [(2, .gen _ _ _ fun _ _ _ _ => Op.callV (d := 28) (t := 26) (cap := []) (args := [.t (.agg ([.d (.raw (.int .i64 x.v))] ++ zi x.c))]) (rs := [(27, .t (.agg ([.d (.raw (.int .i64 x.v))] ++ zi x.c)))]) (tys := #[57]) (hf x (List.mem_of_getElem? hx)) th_2 (OVs.cons (OV.tmp 27 _) (OVs.nil)))] [(0, .t (.c (.own 0 xs.length))), (1, .t (.c (.fn (.func 110) [] []))), (4, .t (.c (.d (.raw nilV)))), (5, vi .i64 (((xs.take j).filter (fun p => !pr p)).length : Int)), (6, vi .i64 (j : Int)), (7, vp 1 0), (29, vb (!(pr x)))] [(0, .row 57 3 ((((xs.take j).filter (fun p => !pr p)) ++ G ++ xs.drop j).map Part.d)), (1, .box ([.d (.raw (.int .i64 x.v))] ++ zi x.c))] (by kernel_rfl) h ?_; clear h; intro a w h
     refine condS (!(pr x)) h rfl (fun hc => ?_) (fun hc => ?_)
     ·have hc2 := hc; clear hc
      have hc2' := hc2; (try simp at hc2')
      obtain ⟨x3, hx3⟩ : ∃ z_ : Part, (((xs.take j).filter (fun p => !pr p)) ++ G ++ xs.drop j)[((xs.take j).filter (fun p => !pr p)).length]? = some z_ := ⟨_, List.getElem?_eq_getElem (by first | omega | (simp at *; omega))⟩
      refine rSeq fam0ok 2 [(3, .gen _ _ _ fun _ _ _ _ => Op.idxO (d := 33) (t := 30) (k := .i64) (n := 0) (len := xs.length) (i := ((xs.take j).filter (fun p => !pr p)).length) ta_0 (by first | omega | (simp at *; omega)) (OV.tmp 31 _)), (4, .gen _ _ _ fun _ _ _ _ => Op.storeR (t := 33) (n := 0) (i := ((xs.take j).filter (fun p => !pr p)).length) (fo := 0) (rty := 57) (es := 3) (r := Part.d x3) (ds := [.raw (.int .i64 x.v), .raw (.bool x.c.neg), nsl x.c.abs]) (rs := [(32, .t (.agg ([.d (.raw (.int .i64 x.v))] ++ zi x.c)))]) (rows := (((xs.take j).filter (fun p => !pr p)) ++ G ++ xs.drop j).map Part.d) (rows' := ((((xs.take j).filter (fun p => !pr p)) ++ G ++ xs.drop j).set ((xs.take j).filter (fun p => !pr p)).length x).map Part.d) te_1 (OV.tmp 32 _) rfl rfl rfl (map_at hx3 (f := Part.d)) (by simp [Part.d]) (set_map (xs := (((xs.take j).filter (fun p => !pr p)) ++ G ++ xs.drop j)) (F := Part.d) ((xs.take j).filter (fun p => !pr p)).length _ _ rfl))] [(0, .t (.c (.own 0 xs.length))), (1, .t (.c (.fn (.func 110) [] []))), (4, .t (.c (.d (.raw nilV)))), (5, vi .i64 (((xs.take j).filter (fun p => !pr p)).length : Int)), (6, vi .i64 (j : Int))] [(0, .row 57 3 (((((xs.take j).filter (fun p => !pr p)) ++ G ++ xs.drop j).set ((xs.take j).filter (fun p => !pr p)).length x).map Part.d))] (by kernel_rfl) h ?_; clear h; intro a w h
      refine rS fam0ok 2 [(1, .gen _ _ _ fun _ _ _ _ => Op.arith (op := .add) (d := 35) (xt := 3) (yt := 3) (k := .i64) (m := (((xs.take j).filter (fun p => !pr p)).length : Int)) (n := 1) (r := ((((xs.take j).filter (fun p => !pr p)).length + 1 : Nat) : Int)) (OV.tmp 34 _) (OV.const (.int .i64 1) rfl) (.inl ⟨rfl, (by omega)⟩) (i64_id (by omega) (by omega)))] [(0, .t (.c (.own 0 xs.length))), (1, .t (.c (.fn (.func 110) [] []))), (4, .t (.c (.d (.raw nilV)))), (5, vi .i64 ((((xs.take j).filter (fun p => !pr p)).length + 1 : Nat) : Int)), (6, vi .i64 (j : Int))] [(0, .row 57 3 (((((xs.take j).filter (fun p => !pr p)) ++ G ++ xs.drop j).set ((xs.take j).filter (fun p => !pr p)).length x).map Part.d))] (by kernel_rfl) h ?_; clear h; intro a w h
      refine block_n ?_
      refine then_n ?_
      refine rS fam0ok 2 [(1, .add .i64 (m := (j : Int)) (n := 1) (i64_id (by omega) (by omega)))] [(0, .t (.c (.own 0 xs.length))), (1, .t (.c (.fn (.func 110) [] []))), (4, .t (.c (.d (.raw nilV)))), (5, vi .i64 ((((xs.take j).filter (fun p => !pr p)).length + 1 : Nat) : Int)), (6, vi .i64 ((j : Int) + 1))] [(0, .row 57 3 (((((xs.take j).filter (fun p => !pr p)) ++ G ++ xs.drop j).set ((xs.take j).filter (fun p => !pr p)).length x).map Part.d))] (by kernel_rfl) h ?_; clear h; intro a w h
      refine then_n ?_
      have hp : pr x = false := (by simpa using hc2)
      replace h := h.conv (f' := F.of [(0, .t (.c (.own 0 xs.length))), (1, .t (.c (.fn (.func 110) [] []))), (4, .t (.c (.d (.raw nilV)))), (5, vi .i64 (((xs.take (j + 1)).filter (fun p => !pr p)).length : Int)), (6, vi .i64 ((j : Int) + 1))] [(0, .row 57 3 (((((xs.take j).filter (fun p => !pr p)) ++ G ++ xs.drop j).set ((xs.take j).filter (fun p => !pr p)).length x).map Part.d))]) (by rw [← filt_len hx hp])
      replace h := h.conv (f' := F.of [(0, .t (.c (.own 0 xs.length))), (1, .t (.c (.fn (.func 110) [] []))), (4, .t (.c (.d (.raw nilV)))), (5, vi .i64 (((xs.take (j + 1)).filter (fun p => !pr p)).length : Int)), (6, vi .i64 ((j : Int) + 1))] [(0, .row 57 3 ((((xs.take (j + 1)).filter (fun p => !pr p)) ++ (G.tail ++ [x]) ++ xs.drop (j + 1)).map Part.d))]) (congrArg (fun (z_ : List Part) => F.of [(0, .t (.c (.own 0 xs.length))), (1, .t (.c (.fn (.func 110) [] []))), (4, .t (.c (.d (.raw nilV)))), (5, vi .i64 (((xs.take (j + 1)).filter (fun p => !pr p)).length : Int)), (6, vi .i64 ((j : Int) + 1))] [(0, .row 57 3 (z_.map Part.d))]) (show (((((xs.take j).filter (fun p => !pr p)) ++ G ++ xs.drop j).set ((xs.take j).filter (fun p => !pr p)).length x) : List Part) = (((xs.take (j + 1)).filter (fun p => !pr p)) ++ (G.tail ++ [x]) ++ xs.drop (j + 1)) from del_keep hx hp hI3))
      refine roundS (x := (j, G)) (y := ((j + 1), (G.tail ++ [x]))) h ?_ ?_ (by kernel_rfl) (by kernel_rfl)
      ·exact ⟨by have := at_lt hx; omega, by rw [← filt_len hx hp, List.length_append, List.length_tail]; simp only [List.length_cons, List.length_nil]; omega, by rw [List.length_append]; simp only [List.length_cons, List.length_nil]; omega⟩
      ·show xs.length - (j + 1) < xs.length - j
       have := at_lt hx; omega
     ·have hc3 := hc; clear hc
      have hc3' := hc3; (try simp at hc3')
      refine wp_skip ?_
      refine block_n ?_
      refine then_n ?_
      refine rS fam0ok 2 [(1, .add .i64 (m := (j : Int)) (n := 1) (i64_id (by omega) (by omega)))] [(0, .t (.c (.own 0 xs.length))), (1, .t (.c (.fn (.func 110) [] []))), (4, .t (.c (.d (.raw nilV)))), (5, vi .i64 (((xs.take j).filter (fun p => !pr p)).length : Int)), (6, vi .i64 ((j : Int) + 1))] [(0, .row 57 3 ((((xs.take j).filter (fun p => !pr p)) ++ G ++ xs.drop j).map Part.d))] (by kernel_rfl) h ?_; clear h; intro a w h
      refine then_n ?_
      have hp : pr x = true := (by simpa using hc3)
      replace h := h.conv (f' := F.of [(0, .t (.c (.own 0 xs.length))), (1, .t (.c (.fn (.func 110) [] []))), (4, .t (.c (.d (.raw nilV)))), (5, vi .i64 (((xs.take (j + 1)).filter (fun p => !pr p)).length : Int)), (6, vi .i64 ((j : Int) + 1))] [(0, .row 57 3 ((((xs.take j).filter (fun p => !pr p)) ++ G ++ xs.drop j).map Part.d))]) (by rw [← filt_len0 hx hp])
      replace h := h.conv (f' := F.of [(0, .t (.c (.own 0 xs.length))), (1, .t (.c (.fn (.func 110) [] []))), (4, .t (.c (.d (.raw nilV)))), (5, vi .i64 (((xs.take (j + 1)).filter (fun p => !pr p)).length : Int)), (6, vi .i64 ((j : Int) + 1))] [(0, .row 57 3 ((((xs.take (j + 1)).filter (fun p => !pr p)) ++ (G ++ [x]) ++ xs.drop (j + 1)).map Part.d))]) (congrArg (fun (z_ : List Part) => F.of [(0, .t (.c (.own 0 xs.length))), (1, .t (.c (.fn (.func 110) [] []))), (4, .t (.c (.d (.raw nilV)))), (5, vi .i64 (((xs.take (j + 1)).filter (fun p => !pr p)).length : Int)), (6, vi .i64 ((j : Int) + 1))] [(0, .row 57 3 (z_.map Part.d))]) (show ((((xs.take j).filter (fun p => !pr p)) ++ G ++ xs.drop j) : List Part) = (((xs.take (j + 1)).filter (fun p => !pr p)) ++ (G ++ [x]) ++ xs.drop (j + 1)) from del_skip hx hp))
      refine roundS (x := (j, G)) (y := ((j + 1), (G ++ [x]))) h ?_ ?_ (by kernel_rfl) (by kernel_rfl)
      ·exact ⟨by have := at_lt hx; omega, by rw [← filt_len0 hx hp, List.length_append]; simp only [List.length_cons, List.length_nil]; omega, by rw [List.length_append]; simp only [List.length_cons, List.length_nil]; omega⟩
      ·show xs.length - (j + 1) < xs.length - j
       have := at_lt hx; omega
    ·have hc4 := hc; clear hc
     have hc4' := of_decide_eq_false hc4
     refine wp_exit ?_
     refine then_x ?_
     refine then_x ?_
     refine inBlock_exit ?_
     refine then_n ?_
     have hj : j = xs.length := by omega
     have hF : ((xs.take j).filter (fun p => !pr p)) = (xs.filter (fun p => !pr p)) := by rw [hj, List.take_length]
     refine rSeq fam0ok 2 [(2, .gen _ _ _ fun _ _ _ _ => Op.sliceLo (d := 38) (t := 36) (k := .i64) (n := 0) (len := xs.length) (l := ((xs.take j).filter (fun p => !pr p)).length) (rows := (((xs.take j).filter (fun p => !pr p)) ++ G ++ xs.drop j).map Part.d) (rty := 57) ta_0 (by first | omega | (simp only [List.length_map, List.length_append, List.length_drop]; omega)) (OV.tmp 37 _) (by first | omega | (simp at *; omega)) rfl), (3, .gen _ _ _ fun _ _ _ _ => Op.clearCut' (rows' := ((xs.take j).filter (fun p => !pr p)).map Part.d) (o := none) (t := 38) (n := 0) (off := ((xs.take j).filter (fun p => !pr p)).length * 3) (len := (xs.length - ((xs.take j).filter (fun p => !pr p)).length)) (l := ((xs.take j).filter (fun p => !pr p)).length) (es := 3) (rows := (((xs.take j).filter (fun p => !pr p)) ++ G ++ xs.drop j).map Part.d) (rty := 57) (zs := [.d (.raw (.int .i64 0)), .d (.raw (.bool false)), .d (nsl [])]) ta_0.hu tk_4 rfl rfl (by first | omega | (simp only [List.length_map, List.length_append, List.length_drop]; omega)) _ rfl (by simp [List.map_append]))] [(0, .t (.c (.own 0 xs.length))), (4, .t (.c (.d (.raw nilV)))), (5, vi .i64 (((xs.take j).filter (fun p => !pr p)).length : Int))] [(0, .row 57 3 (((xs.take j).filter (fun p => !pr p)).map Part.d))] (by kernel_rfl) h ?_; clear h; intro a w h
     refine rSeq fam0ok 2 [(2, .gen _ _ _ fun _ _ _ _ => Op.sliceHi (d := 41) (t := 39) (k := .i64) (n := 0) (len := xs.length) (h := ((xs.take j).filter (fun p => !pr p)).length) (rows := ((xs.take j).filter (fun p => !pr p)).map Part.d) (rty := 57) ta_0 (by first | omega | (simp only [List.length_map]; omega)) (OV.tmp 40 _))] [(4, .t (.c (.own 0 ((xs.take j).filter (fun p => !pr p)).length)))] [(0, .row 57 3 (((xs.take j).filter (fun p => !pr p)).map Part.d))] (by kernel_rfl) h ?_; clear h; intro a w h
     refine wp_ret ?_
     replace h := h.conv (f' := F.of [(4, .t (.c (.own 0 (xs.filter (fun p => !pr p)).length)))] [(0, .row 57 3 (((xs.take j).filter (fun p => !pr p)).map Part.d))]) (by rw [hF])
     replace h := h.conv (f' := F.of [(4, .t (.c (.own 0 (xs.filter (fun p => !pr p)).length)))] [(0, .row 57 3 ((xs.filter (fun p => !pr p)).map Part.d))]) (congrArg (fun (z_ : List Part) => F.of [(4, .t (.c (.own 0 (xs.filter (fun p => !pr p)).length)))] [(0, .row 57 3 (z_.map Part.d))]) (show (((xs.take j).filter (fun p => !pr p)) : List Part) = (xs.filter (fun p => !pr p)) from hF))
     refine retS [.c (.own 0 (xs.filter (fun p => !pr p)).length)] h Exit.ret (.inl rfl)  rfl ⟨RV.tmp _ _ rfl, trivial⟩ ?_ (by kernel_rfl) (by kernel_rfl)
     rfl
end Go.Proofs.YtoklkfmffmonoaaGreat.S
end
section
namespace Go.Proofs.YtoklkfmffmonoaaGreat.S

def mrgStep (out : List Part) (p : Part) : List Part :=
  if p.v < 0 then out else match out[out.length - 1]? with
    | some q => if q.v = p.v then out.set (out.length - 1) ⟨q.v, ZI.of (q.c.val + p.c.val)⟩ else out ++ [⟨p.v, ZI.of p.c.val⟩]
    | none => out ++ [⟨p.v, ZI.of p.c.val⟩]
def mrgZ (s : List Part) : List Part := s.foldl mrgStep []
theorem mrgZ_snoc (s : List Part) (p : Part) : mrgZ (s ++ [p]) = mrgStep (mrgZ s) p := by simp [mrgZ, List.foldl_append]
theorem mrg_neg {out : List Part} {p : Part} (h : p.v < 0) : mrgStep out p = out := by simp [mrgStep, h]
theorem mrg_nil {out : List Part} {p : Part} (h : ¬ p.v < 0) (h0 : out.length = 0) : mrgStep out p = out ++ [⟨p.v, ZI.of p.c.val⟩] := by
 rw [len_nil h0]; simp [mrgStep, h]
theorem mrg_same {out : List Part} {p q : Part} {k : Nat} (h : ¬ p.v < 0) (hk : out.length = k + 1) (hq : out[k]? = some q) (hv : q.v = p.v) : mrgStep out p = out.set k ⟨q.v, ZI.of (q.c.val + p.c.val)⟩ := by
 have : out.length - 1 = k := by omega
 simp only [mrgStep, this, hq, if_neg h, if_pos hv]
theorem mrg_new {out : List Part} {p q : Part} {k : Nat} (h : ¬ p.v < 0) (hk : out.length = k + 1) (hq : out[k]? = some q) (hv : ¬ q.v = p.v) : mrgStep out p = out ++ [⟨p.v, ZI.of p.c.val⟩] := by
 have : out.length - 1 = k := by omega
 simp only [mrgStep, this, hq, if_neg h, if_neg hv]
def MOk (L j : Nat) (out : List Part) : Prop := ∀ q ∈ out, q.c = ZI.of q.c.val ∧ q.c.val.natAbs ≤ j * pw L
theorem MOk.lb {L j : Nat} {out : List Part} (h : MOk L j out) {q : Part} (hq : q ∈ out) (hj : j ≤ 1000) : Lb q.c.abs ∧ q.c.abs.length ≤ L + 1 := by
 obtain ⟨h1, h2⟩ := h q hq
 rw [h1]
 refine ⟨ZI.lb_of _, ZI.len_of ?_⟩
 have h3 : j * pw L ≤ 1000 * pw L := Nat.mul_le_mul_right _ hj
 have h4 := pw_pos L
 rw [pw_succ]; omega
theorem MOk.step {L j : Nat} {out : List Part} {p : Part} (h : MOk L j out) (hp : Lb p.c.abs ∧ p.c.abs.length ≤ L) : MOk L (j + 1) (mrgStep out p) := by
 have hp2 : p.c.val.natAbs ≤ pw L := by
  have h3 := ZI.abs_lt hp.1
  have h4 := pw_le hp.2
  omega
 have up : ∀ q ∈ out, q.c = ZI.of q.c.val ∧ q.c.val.natAbs ≤ (j + 1) * pw L := fun q hq => ⟨(h q hq).1, Nat.le_trans (h q hq).2 (Nat.mul_le_mul_right _ (Nat.le_succ j))⟩
 have new : ∀ q ∈ out ++ [(⟨p.v, ZI.of p.c.val⟩ : Part)], q.c = ZI.of q.c.val ∧ q.c.val.natAbs ≤ (j + 1) * pw L := by
  intro q hq
  rcases List.mem_append.1 hq with hq | hq
  ·exact up q hq
  ·rw [List.mem_singleton.1 hq]
   refine ⟨by rw [ZI.val_of], ?_⟩
   show (ZI.of p.c.val).val.natAbs ≤ _
   rw [ZI.val_of, Nat.add_mul]; omega
 intro q hq
 by_cases h1 : p.v < 0
 ·rw [mrg_neg h1] at hq; exact up q hq
 rcases Nat.eq_zero_or_pos out.length with h0 | h0
 ·rw [mrg_nil h1 h0] at hq; exact new q hq
 obtain ⟨k, hk⟩ : ∃ k, out.length = k + 1 := ⟨out.length - 1, by omega⟩
 have hk2 : out[k]? = some (out[k]'(by omega)) := List.getElem?_eq_getElem _
 by_cases hv : (out[k]'(by omega)).v = p.v
 ·rw [mrg_same h1 hk hk2 hv] at hq
  rcases List.mem_or_eq_of_mem_set hq with hq | rfl
  ·exact up q hq
  ·have := (h _ (List.mem_of_getElem? hk2)).2
   refine ⟨by rw [ZI.val_of], ?_⟩
   show (ZI.of _).val.natAbs ≤ _
   rw [ZI.val_of, Nat.add_mul]; omega
 ·rw [mrg_new h1 hk hk2 hv] at hq; exact new q hq

abbrev SR (l : List Part) : Prop := l.Pairwise fun p q => p.v < q.v
theorem coefZ_none {l : List Part} {v : Int} (h : ∀ q ∈ l, q.v ≠ v) : coefZ l v = 0 := by
 induction l with
 | nil => rfl
 | cons q l ih => simp only [coefZ]; rw [ih fun x hx => h x (by simp [hx]), if_neg fun e => h q (by simp) e.1]; rfl
theorem coefZ_one (p : Part) (v : Int) : coefZ [p] v = if p.v = v ∧ 0 ≤ v then p.c.val else 0 := by simp [coefZ]
theorem coefZ_filter (l : List Part) (v : Int) : coefZ (l.filter fun p => decide (p.v = v)) v = coefZ l v := by
 induction l with
 | nil => rfl
 | cons p l ih =>
  by_cases h : p.v = v
  ·simp only [List.filter_cons, h, decide_true, if_true, coefZ, ih]
  ·simp only [List.filter_cons, h, decide_false, Bool.false_eq_true, if_false, coefZ, ih, false_and, Int.zero_add]
theorem coefZ_stb {xs ys : List Part} (h : Stb Part.v xs ys) (v : Int) : coefZ xs v = coefZ ys v := by
 rw [← coefZ_filter xs, ← coefZ_filter ys, h v]
theorem coefZ_nz (l : List Part) (v : Int) : coefZ (l.filter fun p => !isZ p) v = coefZ l v := by
 induction l with
 | nil => rfl
 | cons p l ih =>
  cases h : isZ p with
  | true =>
   have h0 : p.c.val = 0 := by simp only [isZ] at h; exact sgn0_t h
   simp only [List.filter_cons, h, Bool.not_true, Bool.false_eq_true, if_false, coefZ, ih, h0]
   split <;> omega
  | false => simp only [List.filter_cons, h, Bool.not_false, if_true, coefZ, ih]
theorem SR.head {p : Part} {l : List Part} (s : SR (p :: l)) (h0 : 0 ≤ p.v) : coefZ (p :: l) p.v = p.c.val := by
 rw [coefZ, if_pos ⟨rfl, h0⟩, coefZ_none (fun q hq => by have := (List.pairwise_cons.1 s).1 q hq; omega), Int.add_zero]
theorem SR.below {p : Part} {l : List Part} {v : Int} (s : SR (p :: l)) (hv : v < p.v) : coefZ (p :: l) v = 0 := by
 refine coefZ_none fun q hq => ?_
 rcases List.mem_cons.1 hq with rfl | hq
 ·omega
 ·have := (List.pairwise_cons.1 s).1 q hq; omega
theorem SR.unique : ∀ {l m : List Part}, SR l → SR m → (∀ q ∈ l, 0 ≤ q.v ∧ q.c = ZI.of q.c.val ∧ q.c.val ≠ 0) → (∀ q ∈ m, 0 ≤ q.v ∧ q.c = ZI.of q.c.val ∧ q.c.val ≠ 0) → (∀ v, coefZ l v = coefZ m v) → l = m
 | [], [], _, _, _, _, _ => rfl
 | p :: l, [], s1, _, h1, _, h => by
  have e := h p.v
  rw [s1.head (h1 p (by simp)).1] at e
  exact absurd e (h1 p (by simp)).2.2
 | [], q :: m, _, s2, _, h2, h => by
  have e := h q.v
  rw [s2.head (h2 q (by simp)).1] at e
  exact absurd e.symm (h2 q (by simp)).2.2
 | p :: l, q :: m, s1, s2, h1, h2, h => by
  obtain ⟨p0, p1, p2⟩ := h1 p (by simp)
  obtain ⟨q0, q1, q2⟩ := h2 q (by simp)
  rcases Int.lt_trichotomy p.v q.v with hv | hv | hv
  ·have e := h p.v
   rw [s1.head p0, s2.below hv] at e
   exact absurd e p2
  ·have e := h p.v
   rw [s1.head p0, hv, s2.head q0] at e
   have epq : p = q := by
    cases p; cases q
    simp only at hv e p1 q1
    subst hv
    rw [p1, q1, e]
   subst epq
   rw [SR.unique (List.pairwise_cons.1 s1).2 (List.pairwise_cons.1 s2).2 (fun x hx => h1 x (by simp [hx])) (fun x hx => h2 x (by simp [hx])) fun v => by
    have := h v
    simp only [coefZ] at this
    omega]
  ·have e := h q.v
   rw [s2.head q0, s1.below hv] at e
   exact absurd e.symm q2
theorem SR.last {o : List Part} {q : Part} (h : SR (o ++ [q])) : ∀ x ∈ o, x.v < q.v := fun x hx => (List.pairwise_append.1 h).2.2 x hx q (by simp)
theorem mrgZ_ok (s : List Part) : Ris Part.v s → SR (mrgZ s) ∧ (∀ q ∈ mrgZ s, 0 ≤ q.v ∧ q.c = ZI.of q.c.val ∧ ∃ x ∈ s, x.v = q.v) ∧ ∀ v, coefZ (mrgZ s) v = coefZ s v := by
 refine rev_ind (P := fun s => Ris Part.v s → SR (mrgZ s) ∧ (∀ q ∈ mrgZ s, 0 ≤ q.v ∧ q.c = ZI.of q.c.val ∧ ∃ x ∈ s, x.v = q.v) ∧ ∀ v, coefZ (mrgZ s) v = coefZ s v) ?_ ?_ s
 ·intro _
  exact ⟨List.Pairwise.nil, fun q hq => (by cases hq), fun v => rfl⟩
 ·intro s p ih hR
  obtain ⟨r1, r2, r3⟩ := Ris.app.1 hR
  obtain ⟨i1, i2, i3⟩ := ih r1
  rw [mrgZ_snoc]
  have old : ∀ q ∈ mrgZ s, 0 ≤ q.v ∧ q.c = ZI.of q.c.val ∧ ∃ x ∈ s ++ [p], x.v = q.v := fun q hq => by
   obtain ⟨h1, h2, x, h3, h4⟩ := i2 q hq
   exact ⟨h1, h2, x, by simp [h3], h4⟩
  have le : ∀ q ∈ mrgZ s, q.v ≤ p.v := fun q hq => by
   obtain ⟨_, _, x, h3, h4⟩ := i2 q hq
   have := r3 x h3 p (by simp); omega
  have cs : ∀ v, coefZ (s ++ [p]) v = coefZ (mrgZ s) v + if p.v = v ∧ 0 ≤ v then p.c.val else 0 := fun v => by rw [coefZ_app, coefZ_one, i3 v]
  by_cases hn : p.v < 0
  ·rw [mrg_neg hn]
   exact ⟨i1, old, fun v => by rw [cs v, if_neg (by omega), Int.add_zero]⟩
  rcases snoc_or (mrgZ s) with h0 | ⟨o, q, ho⟩
  ·rw [mrg_nil hn (by rw [h0]; rfl), h0, List.nil_append]
   refine ⟨List.pairwise_singleton _ _, fun q hq => ?_, fun v => ?_⟩
   ·rw [List.mem_singleton.1 hq]
    exact ⟨by show 0 ≤ p.v; omega, by rw [ZI.val_of], p, by simp, rfl⟩
   ·rw [cs v, h0, coefZ_one]; simp [coefZ, ZI.val_of]
  ·rw [ho] at i1 old le cs ⊢
   have hk : (o ++ [q]).length = o.length + 1 := by simp
   have hq : (o ++ [q])[o.length]? = some q := by simp
   have lq := le q (by simp)
   by_cases hv : q.v = p.v
   ·rw [mrg_same hn hk hq hv, show (o ++ [q]).set o.length ⟨q.v, ZI.of (q.c.val + p.c.val)⟩ = o ++ [⟨q.v, ZI.of (q.c.val + p.c.val)⟩] by simp [List.set_append_right]]
    obtain ⟨j1, j2, j3⟩ := List.pairwise_append.1 i1
    refine ⟨List.pairwise_append.2 ⟨j1, List.pairwise_singleton _ _, fun a ha b hb => ?_⟩, fun x hx => ?_, fun v => ?_⟩
    ·rw [List.mem_singleton.1 hb]; exact i1.last a ha
    ·rcases List.mem_append.1 hx with hx | hx
     ·exact old x (by simp [hx])
     ·rw [List.mem_singleton.1 hx]
      exact ⟨by show 0 ≤ q.v; omega, by rw [ZI.val_of], p, by simp, hv.symm⟩
    ·rw [cs v, coefZ_app, coefZ_app, coefZ_one, coefZ_one]
     simp only [ZI.val_of, hv]
     split <;> omega
   ·rw [mrg_new hn hk hq hv]
    refine ⟨List.pairwise_append.2 ⟨i1, List.pairwise_singleton _ _, fun a ha b hb => ?_⟩, fun x hx => ?_, fun v => ?_⟩
    ·rw [List.mem_singleton.1 hb]
     show a.v < p.v
     rcases List.mem_append.1 ha with ha | ha
     ·have := i1.last a ha; omega
     ·rw [List.mem_singleton.1 ha]; omega
    ·rcases List.mem_append.1 hx with hx | hx
     ·exact old x hx
     ·rw [List.mem_singleton.1 hx]
      exact ⟨by show 0 ≤ p.v; omega, by rw [ZI.val_of], p, by simp, rfl⟩
    ·rw [cs v, coefZ_app, coefZ_one]
     simp only [ZI.val_of]
def insR (v : Int) : List Int → List Int
  | [] => [v]
  | x :: l => if v ≤ x then v :: (x :: l).filter (fun y => decide (y ≠ v)) else x :: insR v l
theorem ins_full (v : Int) : ∀ (l acc : List Int), l.foldl (insStep v) (acc, true) = (acc ++ l.filter (fun y => decide (y ≠ v)), true)
 | [], acc => by simp
 | x :: l, acc => by
  have e : insStep v (acc, true) x = (if x ≠ v then (acc ++ [x], true) else (acc, true)) := by simp [insStep]
  rw [List.foldl_cons, e]
  by_cases h : x = v
  ·rw [if_neg (fun g => g h), ins_full v l acc]; simp [h]
  ·rw [if_pos h, ins_full v l (acc ++ [x])]; simp [h]
theorem insZ_R (v : Int) : ∀ (l acc : List Int), (if (l.foldl (insStep v) (acc, false)).2 = true then (l.foldl (insStep v) (acc, false)).1 else (l.foldl (insStep v) (acc, false)).1 ++ [v]) = acc ++ insR v l
 | [], acc => by simp [insR]
 | x :: l, acc => by
  rw [List.foldl_cons]
  by_cases h : v ≤ x
  ·have e : insStep v (acc, false) x = (if x ≠ v then (acc ++ [v] ++ [x], true) else (acc ++ [v], true)) := by simp [insStep, h]
   by_cases h2 : x = v
   ·rw [if_neg (fun g => g h2)] at e
    rw [e, ins_full]; simp [insR, h2]
   ·rw [if_pos h2] at e
    rw [e, ins_full]; simp [insR, h, h2]
  ·have h2 : x ≠ v := by omega
   have e : insStep v (acc, false) x = (acc ++ [x], false) := by simp [insStep, h, h2]
   rw [e, insZ_R v l (acc ++ [x])]
   simp [insR, h]
theorem insZ_eq (l : List Int) (v : Int) : insZ l v = insR v l := by have := insZ_R v l []; simpa [insZ] using this
abbrev SRi (l : List Int) : Prop := l.Pairwise fun x y => x < y
theorem insR_mem (v x : Int) : ∀ l : List Int, x ∈ insR v l ↔ x = v ∨ x ∈ l
 | [] => by simp [insR]
 | y :: l => by
  simp only [insR]
  split
  ·simp only [List.mem_cons, List.mem_filter, decide_eq_true_eq]
   by_cases h : x = v <;> simp [h]
  ·simp only [List.mem_cons, insR_mem v x l]
   constructor
   ·rintro (h | h | h) <;> simp [h]
   ·rintro (h | h | h) <;> simp [h]
theorem insR_sr (v : Int) : ∀ {l : List Int}, SRi l → SRi (insR v l)
 | [], _ => by simp [insR]
 | y :: l, h => by
  obtain ⟨h1, h2⟩ := List.pairwise_cons.1 h
  simp only [insR]
  split
  ·rename_i hv
   refine List.pairwise_cons.2 ⟨fun z hz => ?_, h.filter _⟩
   obtain ⟨hz1, hz2⟩ := List.mem_filter.1 hz
   have hz2 : z ≠ v := by simpa using hz2
   rcases List.mem_cons.1 hz1 with rfl | hz1
   ·omega
   ·have := h1 z hz1; omega
  ·refine List.pairwise_cons.2 ⟨fun z hz => ?_, insR_sr v h2⟩
   rcases (insR_mem v z l).1 hz with rfl | hz
   ·omega
   ·exact h1 z hz
theorem varsFold (ps : List Part) : ∀ (qs : List Part) (out : List Int), SRi out → SRi (qs.foldl (varStep ps) out) ∧ ∀ x, x ∈ qs.foldl (varStep ps) out ↔ x ∈ out ∨ ∃ q ∈ qs, q.v = x ∧ coefZ ps x ≠ 0
 | [], out, h => ⟨h, fun x => by simp⟩
 | q :: qs, out, h => by
  have h1 : SRi (varStep ps out q) := by
   unfold varStep
   split
   ·rw [insZ_eq]; exact insR_sr _ h
   ·exact h
  obtain ⟨i1, i2⟩ := varsFold ps qs _ h1
  refine ⟨i1, fun x => ?_⟩
  rw [List.foldl_cons, i2 x]
  have h2 : x ∈ varStep ps out q ↔ x ∈ out ∨ (q.v = x ∧ coefZ ps x ≠ 0) := by
   unfold varStep
   split
   ·rename_i hc
    rw [insZ_eq, insR_mem]
    constructor
    ·rintro (rfl | h)
     ·exact .inr ⟨rfl, hc⟩
     ·exact .inl h
    ·rintro (h | ⟨rfl, _⟩)
     ·exact .inr h
     ·exact .inl rfl
   ·rename_i hc
    constructor
    ·exact .inl
    ·rintro (h | ⟨rfl, h⟩)
     ·exact h
     ·exact absurd h hc
  rw [h2]
  constructor
  ·rintro ((h | h) | ⟨p, hp, h⟩)
   ·exact .inl h
   ·exact .inr ⟨q, by simp, h⟩
   ·exact .inr ⟨p, by simp [hp], h⟩
  ·rintro (h | ⟨p, hp, h⟩)
   ·exact .inl (.inl h)
   ·rcases List.mem_cons.1 hp with rfl | hp
    ·exact .inl (.inr h)
    ·exact .inr ⟨p, hp, h⟩
theorem coefZ_some {ps : List Part} {v : Int} (h : coefZ ps v ≠ 0) : 0 ≤ v ∧ ∃ q ∈ ps, q.v = v := by
 refine ⟨Int.not_lt.1 fun hv => h ?_, ?_⟩
 ·induction ps with
  | nil => rfl
  | cons p ps ih =>
   simp only [coefZ] at h ⊢
   rw [if_neg (by omega), Int.zero_add] at h ⊢
   exact ih h
 ·exact Classical.byContradiction fun hq => h (coefZ_none fun q hq1 hq2 => hq ⟨q, hq1, hq2⟩)
theorem varsZ_ok (ps : List Part) : SRi (varsZ ps) ∧ ∀ x, x ∈ varsZ ps ↔ coefZ ps x ≠ 0 := by
 obtain ⟨h1, h2⟩ := varsFold ps ps [] List.Pairwise.nil
 refine ⟨h1, fun x => (h2 x).trans ⟨?_, fun h => ?_⟩⟩
 ·rintro (h | ⟨_, _, _, h⟩)
  ·cases h
  ·exact h
 ·obtain ⟨_, q, hq, e⟩ := coefZ_some h
  exact .inr ⟨q, hq, e, h⟩
def partOf (ps : List Part) (v : Int) : Part := ⟨v, ZI.of (coefZ ps v)⟩
theorem coefZ_map (ps : List Part) (v : Int) (hv : 0 ≤ v) : ∀ {l : List Int}, SRi l → coefZ (l.map (partOf ps)) v = if v ∈ l then coefZ ps v else 0
 | [], _ => rfl
 | x :: l, h => by
  obtain ⟨h1, h2⟩ := List.pairwise_cons.1 h
  simp only [List.map_cons, coefZ, coefZ_map ps v hv h2]
  by_cases e : x = v
  ·subst e
   have : x ∉ l := fun hx => by have := h1 x hx; omega
   simp [partOf, hv, this, ZI.val_of]
  ·have e' : ¬ v = x := fun g => e g.symm
   simp [partOf, e, e']
theorem plain_law (ps : List Part) : (mrgZ (ssV Part.v ps)).filter (fun p => !isZ p) = (varsZ ps).map (partOf ps) := by
 obtain ⟨m1, m2, m3⟩ := mrgZ_ok (ssV Part.v ps) (ssV_ris ps)
 obtain ⟨v1, v2⟩ := varsZ_ok ps
 refine SR.unique (m1.filter _) (List.pairwise_map.2 v1) (fun q hq => ?_) (fun q hq => ?_) fun v => ?_
 ·obtain ⟨h1, h2⟩ := List.mem_filter.1 hq
  obtain ⟨h3, h4, _⟩ := m2 q h1
  refine ⟨h3, h4, fun e => ?_⟩
  have : isZ q = true := by simp [isZ, e, sgn_zero]
  rw [this] at h2; cases h2
 ·obtain ⟨v, hv, rfl⟩ := List.mem_map.1 hq
  have hv := (v2 v).1 hv
  refine ⟨(coefZ_some hv).1, by simp [partOf, ZI.val_of], by simpa [partOf, ZI.val_of] using hv⟩
 ·rw [coefZ_nz, m3 v, coefZ_stb (ssV_stb ps) v]
  by_cases hv : 0 ≤ v
  ·rw [coefZ_map ps v hv v1]
   by_cases h : v ∈ varsZ ps
   ·rw [if_pos h]
   ·rw [if_neg h]
    exact Classical.byContradiction fun e => h ((v2 v).2 e)
  ·have z1 : coefZ ps v = 0 := Classical.byContradiction fun e => hv (coefZ_some e).1
   have z2 : coefZ ((varsZ ps).map (partOf ps)) v = 0 := Classical.byContradiction fun e => hv (coefZ_some e).1
   rw [z1, z2]
end Go.Proofs.YtoklkfmffmonoaaGreat.S
end
section
namespace Go.Proofs.YtoklkfmffmonoaaGreat.S
open Go.RowKit

theorem tl_3 : Bodied Tryz.prog 103 := Bodied.mk' (by kernel_rfl)
theorem tl_4 : Bodied Tryz.prog 104 := Bodied.mk' (by kernel_rfl)
theorem tl_5 : Bodied Tryz.prog 107 := Bodied.mk' (by kernel_rfl)
theorem tl_7 : Sz Tryz.prog 3 1 false := Sz.mk' (by kernel_rfl) Tryz.underlying3 _ rfl
theorem tl_9 : Bodied Tryz.prog 108 := Bodied.mk' (by kernel_rfl)
theorem tl_10 : Bodied Tryz.prog 109 := Bodied.mk' (by kernel_rfl)
theorem SClone1 (xs : List Part) (hn : 0 < xs.length) (hl : xs.length ≤ 1000000) : Fn Tryz.prog 103 [] [.t (.c (.d (.sl 3 (xs.map Part.d))))] (.t (.c (.own 0 xs.length))) [(0, .row 57 3 (xs.map Part.d))] := by
 refine Fn.body Tryz.func103 rfl 8 rfl fun w H B a h => ?_
 refine rSeq fam0ok 1 [] [(0, .t (.c (.d (.sl 3 (xs.map Part.d))))), (2, .t (.c (.d (.raw nilV))))] [] (by kernel_rfl) h ?_; clear h; intro a w h
 refine wp_seq ?_
 refine rSeq fam0ok 1 [(1, .gen _ _ _ fun _ _ _ _ => Op.eqNilD (d := 4) (t := 3) (es := 3) (xt := 41) (yt := 41) (rows := xs.map Part.d) ta_0.hu ((by rw [List.length_map]; exact hn)) (OV.const nilV rfl))] [(0, .t (.c (.d (.sl 3 (xs.map Part.d))))), (2, .t (.c (.d (.raw nilV)))), (4, vb false)] [] (by kernel_rfl) h ?_; clear h; intro a w h
 refine condS false h rfl (fun hc => ?_) (fun hc => ?_)
 ·cases hc
 ·clear hc
  refine wp_skip ?_
  refine then_n ?_
  refine rSeq fam0ok 1 [(0, .gen _ _ _ fun _ _ _ _ => Op.buildE (d := 5) (n := 1) tb_9), (2, .gen _ _ _ fun _ _ _ _ => Op.appOD (d := 7) (t := 5) (u := 6) (n := 1) (n' := 2) (len := 0) (len' := xs.length) (rows := [].map Part.d) (rows2 := xs.map Part.d) (rows' := xs.map Part.d) tb_10 (by first | exact (List.length_map _).symm | simp) (by first | (rw [List.length_append, List.length_map]; done) | simp) (by simp) (by simp [Part.d]) (by first | omega | (simp at *; done) | (simp at *; omega)))] [(2, .t (.c (.own 2 xs.length)))] [(2, .row 57 3 (xs.map Part.d))] (by kernel_rfl) h ?_; clear h; intro a w h
  refine wp_ret ?_
  replace h := renS 2 0 [(2, .t (.c (.own 0 xs.length)))] [(0, .row 57 3 (xs.map Part.d))] h (by kernel_rfl) (by kernel_rfl) (by kernel_rfl)
  refine retS [.c (.own 0 xs.length)] h Exit.ret (.inl rfl)  rfl ⟨RV.tmp _ _ rfl, trivial⟩ ?_ (by kernel_rfl) (by kernel_rfl)
  rfl
theorem SClone2  : Fn Tryz.prog 103 [] [.t (.c (.d (.raw nilV)))] (.t (.c (.own 0 0))) [(0, .row 57 3 ([].map Part.d))] := by
 refine Fn.body Tryz.func103 rfl 8 rfl fun w H B a h => ?_
 refine rSeq fam0ok 1 [] [(0, .t (.c (.d (.raw nilV)))), (2, .t (.c (.d (.raw nilV))))] [] (by kernel_rfl) h ?_; clear h; intro a w h
 refine wp_seq ?_
 refine rSeq fam0ok 1 [(1, .gen _ _ _ fun _ _ _ _ => Op.eqNilR (d := 4) (xt := 41) (yt := 41) (ao := none) (n := 0) (c := 0) ta_0.hu (OV.tmp 3 _) (OV.const nilV rfl))] [(0, .t (.c (.d (.raw nilV)))), (2, .t (.c (.d (.raw nilV)))), (4, vb true)] [] (by kernel_rfl) h ?_; clear h; intro a w h
 refine condS true h rfl (fun hc => ?_) (fun hc => ?_)
 ·clear hc
  refine rSeq fam0ok 1 [] [(0, .t (.c (.d (.raw nilV)))), (2, .t (.c (.d (.raw nilV))))] [] (by kernel_rfl) h ?_; clear h; intro a w h
  refine wp_ret ?_
  refine then_r ?_
  replace h := nilOSs 2 0 1 3 57 (.t (.c (.d (.raw nilV)))) [(0, .t (.c (.d (.raw nilV)))), (2, .t (.c (.own 1 0)))] [(1, .row 57 3 ([].map Part.d))] h (by kernel_rfl) rfl rfl (by kernel_rfl) (by kernel_rfl)
  replace h := renS 1 0 [(0, .t (.c (.d (.raw nilV)))), (2, .t (.c (.own 0 0)))] [(0, .row 57 3 ([].map Part.d))] h (by kernel_rfl) (by kernel_rfl) (by kernel_rfl)
  refine retS [.c (.own 0 0)] h Exit.ret (.inl rfl)  rfl ⟨RV.tmp _ _ rfl, trivial⟩ ?_ (by kernel_rfl) (by kernel_rfl)
  rfl
 ·cases hc
theorem SClone3 (ao : Addr) (c : Nat) (hc : c ≤ maxLen) : Fn Tryz.prog 103 [] [.t (.c (.d (.raw (.slice (some ao) 0 c))))] (.t (.c (.own 0 0))) [(0, .row 57 3 ([].map Part.d))] := by
 refine Fn.body Tryz.func103 rfl 8 rfl fun w H B a h => ?_
 refine rSeq fam0ok 1 [] [(0, .t (.c (.d (.raw (.slice (some ao) 0 c))))), (2, .t (.c (.d (.raw nilV))))] [] (by kernel_rfl) h ?_; clear h; intro a w h
 refine wp_seq ?_
 refine rSeq fam0ok 1 [(1, .gen _ _ _ fun _ _ _ _ => Op.eqNilR (d := 4) (xt := 41) (yt := 41) (ao := some ao) (n := 0) (c := c) ta_0.hu (OV.tmp 3 _) (OV.const nilV rfl))] [(0, .t (.c (.d (.raw (.slice (some ao) 0 c))))), (2, .t (.c (.d (.raw nilV)))), (4, vb false)] [] (by kernel_rfl) h ?_; clear h; intro a w h
 refine condS false h rfl (fun hc => ?_) (fun hc => ?_)
 ·cases hc
 ·clear hc
  refine wp_skip ?_
  refine then_n ?_
  replace h := nilDSr 0 0 3 (.t (.c (.d (.raw (.slice (some ao) 0 c))))) (some ao) c (fun e => by cases e) hc [(0, .t (.c (.d (.sl 3 ([].map Part.d))))), (2, .t (.c (.d (.raw nilV)))), (4, vb false)] [] h rfl rfl (by kernel_rfl) (by kernel_rfl)
  refine rSeq fam0ok 1 [(0, .gen _ _ _ fun _ _ _ _ => Op.buildE (d := 5) (n := 1) tb_9), (2, .gen _ _ _ fun _ _ _ _ => Op.appOD (d := 7) (t := 5) (u := 6) (n := 1) (n' := 2) (len := 0) (len' := 0) (rows := [].map Part.d) (rows2 := [].map Part.d) (rows' := [].map Part.d) tb_10 (by first | exact (List.length_map _).symm | simp) (by first | (rw [List.length_append, List.length_map]; done) | simp) (by simp) (by simp [Part.d]) (by first | omega | (simp at *; done) | (simp at *; omega)))] [(2, .t (.c (.own 2 0)))] [(2, .row 57 3 ([].map Part.d))] (by kernel_rfl) h ?_; clear h; intro a w h
  refine wp_ret ?_
  replace h := renS 2 0 [(2, .t (.c (.own 0 0)))] [(0, .row 57 3 ([].map Part.d))] h (by kernel_rfl) (by kernel_rfl) (by kernel_rfl)
  refine retS [.c (.own 0 0)] h Exit.ret (.inl rfl)  rfl ⟨RV.tmp _ _ rfl, trivial⟩ ?_ (by kernel_rfl) (by kernel_rfl)
  rfl
theorem SClone (xs : List Part) (hl : xs.length ≤ 1000000) : Fn Tryz.prog 103 [] [.t (.c (.d (.sl 3 (xs.map Part.d))))] (.t (.c (.own 0 xs.length))) [(0, .row 57 3 (xs.map Part.d))] := by
 cases xs with
 | nil =>
  refine Fn.rawE fun ao c h1 h2 => ?_
  cases ao with
  | none => obtain rfl := h1 rfl; exact SClone2
  | some ao => exact SClone3 ao c h2
 | cons x xs => exact SClone1 (x :: xs) (by simp) hl
theorem ssV_mem {xs : List Part} {p : Part} (h : p ∈ ssV Part.v xs) : p ∈ xs := (ssV_stb xs).mem h
theorem PsOk.get_mem {L : Nat} {ps : List Part} (h : PsOk L ps) {p : Part} (hp : p ∈ ps) : Lb p.c.abs ∧ p.c.abs.length ≤ L := h.2 p hp
theorem SPlain0 (t : Term) (ht : PsOk 40000 t.parts) (hk : Lb t.k.abs) (lk : t.k.abs.length ≤ 40000) : Fn Tryz.prog 69 [] [.t (.agg ([.d (.sl 3 (t.parts.map Part.d))] ++ zi t.k))] (vd (plainT t).d) [] := by
 have ln := ht.1
 refine Fn.body Tryz.func69 rfl 74 rfl fun w H B a h => ?_
 refine rSeq fam0ok 5 [] [(1, vp 5 0), (2, vp 6 0)] [(5, .box ([.d (.sl 3 (t.parts.map Part.d))] ++ zi t.k)), (6, .box [.d (.raw nilV), .d (.raw (.bool false)), .d (nsl [])])] (by kernel_rfl) h ?_; clear h; intro a w h
 refine rSeq fam0ok 7 [(2, .call (SClone t.parts (by omega)) tl_3)] [(1, vp 5 0), (2, vp 6 0), (3, .t (.c (.own 0 t.parts.length)))] [(5, .box ([.d (.sl 3 (t.parts.map Part.d))] ++ zi t.k)), (6, .box [.d (.raw nilV), .d (.raw (.bool false)), .d (nsl [])]), (0, .row 57 3 (t.parts.map Part.d))] (by kernel_rfl) h ?_; clear h; intro a w h
 refine rSeq fam0ok 7 [(1, .call (SSortStable t.parts (by omega)) tl_4)] [(1, vp 5 0), (2, vp 6 0), (3, .t (.c (.own 0 t.parts.length)))] [(5, .box ([.d (.sl 3 (t.parts.map Part.d))] ++ zi t.k)), (6, .box [.d (.raw nilV), .d (.raw (.bool false)), .d (nsl [])]), (0, .row 57 3 ((ssV Part.v t.parts).map Part.d))] (by kernel_rfl) h ?_; clear h; intro a w h
 obtain ⟨r3, er3, vr3, or3, lr3⟩ := mkZ (v := t.k.val) (m := t.k.abs.length) (len_id hk)
 refine rSeq fam0ok 7 [(2, .call (Fn.cast (Scopied t.k hk (by omega)) (congrArg vz er3.symm)) tl_5)] [(2, vp 6 0), (3, .t (.c (.own 0 t.parts.length))), (4, vp 7 0)] [(6, .box [.d (.raw nilV), .d (.raw (.bool false)), .d (nsl [])]), (0, .row 57 3 ((ssV Part.v t.parts).map Part.d)), (7, .box ([.d (.raw nilV)] ++ zi r3))] (by kernel_rfl) h ?_; clear h; intro a w h
 refine wp_seq ?_
 replace h := nilOLs 7 0 8 3 57 ([.d (.raw nilV)] ++ zi r3) [(2, vp 6 0), (3, .t (.c (.own 0 t.parts.length))), (4, vp 7 0)] [(6, .box [.d (.raw nilV), .d (.raw (.bool false)), .d (nsl [])]), (0, .row 57 3 ((ssV Part.v t.parts).map Part.d)), (7, .box ([.own 8 0] ++ zi r3)), (8, .row 57 3 ([].map Part.d))] h (by kernel_rfl) rfl rfl (by kernel_rfl) (by kernel_rfl)
 refine rSeq fam0ok 9 [] [(2, vp 6 0), (4, vp 7 0), (17, .t (.c (.own 0 t.parts.length))), (18, vi .i64 (t.parts.length : Int)), (19, vi .i64 0)] [(6, .box [.d (.raw nilV), .d (.raw (.bool false)), .d (nsl [])]), (0, .row 57 3 ((ssV Part.v t.parts).map Part.d)), (7, .box ([.own 8 0] ++ zi r3)), (8, .row 57 3 ([].map Part.d))] (by kernel_rfl) h ?_; clear h; intro a w h
 refine wp_block ?_
 refine loopS (ι := (Nat) × (List Part)) (fun (z_ : (Nat) × (List Part)) => match z_ with | (j, out) => out = (mrgZ ((ssV Part.v t.parts).take j)) ∧ j ≤ (ssV Part.v t.parts).length ∧ out.length ≤ j ∧ MOk 40000 j out)
   (fun (z_ : (Nat) × (List Part)) => match z_ with | (j, out) => [(2, vp 6 0), (4, vp 7 0), (17, .t (.c (.own 0 t.parts.length))), (18, vi .i64 (t.parts.length : Int)), (19, vi .i64 (j : Int))])
   (fun (z_ : (Nat) × (List Part)) => match z_ with | (j, out) => [(6, .box [.d (.raw nilV), .d (.raw (.bool false)), .d (nsl [])]), (0, .row 57 3 ((ssV Part.v t.parts).map Part.d)), (7, .box ([.own 8 out.length] ++ zi r3)), (8, .row 57 3 (out.map Part.d))])
   (fun (z_ : (Nat) × (List Part)) => match z_ with | (j, out) => (ssV Part.v t.parts).length - j) (0, []) ?_ h (by kernel_rfl) (by kernel_rfl) ?_
 ·exact ⟨by simp [mrgZ], Nat.zero_le _, Nat.zero_le _, fun q hq => (by cases hq)⟩
 ·clear h; rintro ⟨j, out⟩ a w hI h
  change St _ (F.of [(2, vp 6 0), (4, vp 7 0), (17, .t (.c (.own 0 t.parts.length))), (18, vi .i64 (t.parts.length : Int)), (19, vi .i64 (j : Int))] [(6, .box [.d (.raw nilV), .d (.raw (.bool false)), .d (nsl [])]), (0, .row 57 3 ((ssV Part.v t.parts).map Part.d)), (7, .box ([.own 8 out.length] ++ zi r3)), (8, .row 57 3 (out.map Part.d))]) a w at h
  obtain ⟨hI1, hI2, hI3, hI4⟩ := hI
  have ln := ht.1
  have ls : (ssV Part.v t.parts).length = t.parts.length := ssV_len _
  refine rSeq fam0ok 9 [] [(2, vp 6 0), (4, vp 7 0), (17, .t (.c (.own 0 t.parts.length))), (18, vi .i64 (t.parts.length : Int)), (19, vi .i64 (j : Int)), (20, vb (decide ((j : Int) < (t.parts.length : Int))))] [(6, .box [.d (.raw nilV), .d (.raw (.bool false)), .d (nsl [])]), (0, .row 57 3 ((ssV Part.v t.parts).map Part.d)), (7, .box ([.own 8 out.length] ++ zi r3)), (8, .row 57 3 (out.map Part.d))] (by kernel_rfl) h ?_; clear h; intro a w h
  refine wp_seq ?_
  refine condS (decide ((j : Int) < (t.parts.length : Int))) h rfl (fun hc => ?_) (fun hc => ?_)
  ·have hc1 := hc; clear hc
   have hc1' := of_decide_eq_true hc1
   refine wp_skip ?_
   refine then_n ?_
   refine wp_seq ?_
   refine wp_block ?_
   obtain ⟨x4, hx4⟩ : ∃ z_ : Part, (ssV Part.v t.parts)[j]? = some z_ := ⟨_, List.getElem?_eq_getElem (by first | omega | (simp at *; omega))⟩
   obtain ⟨ox4, lx4⟩ := ht.get_mem (ssV_mem (List.mem_of_getElem? hx4))
   refine rSeq fam0ok 9 [(0, .gen _ _ _ fun _ _ _ _ => Op.idxO (d := 21) (t := 17) (k := .i64) (n := 0) (len := t.parts.length) (i := j) ta_0 (by first | omega | (simp at *; omega)) (OV.tmp 19 _)), (1, .gen _ _ _ fun _ _ _ _ => Op.loadR_agg (d := 22) (t := 21) (n := 0) (i := j) (fo := 0) (rty := 57) (es := 3) (xs := [.raw (.int .i64 x4.v), .raw (.bool x4.c.neg), nsl x4.c.abs]) te_1 rfl (map_at hx4 (f := Part.d)) rfl rfl)] [(2, vp 6 0), (4, vp 7 0), (6, vp 9 0), (17, .t (.c (.own 0 t.parts.length))), (18, vi .i64 (t.parts.length : Int)), (19, vi .i64 (j : Int))] [(6, .box [.d (.raw nilV), .d (.raw (.bool false)), .d (nsl [])]), (0, .row 57 3 ((ssV Part.v t.parts).map Part.d)), (7, .box ([.own 8 out.length] ++ zi r3)), (8, .row 57 3 (out.map Part.d)), (9, .box ([.d (.raw (.int .i64 x4.v))] ++ zi x4.c))] (by kernel_rfl) h ?_; clear h; intro a w h
   refine wp_seq ?_
   refine rSeq fam0ok 10 [] [(2, vp 6 0), (4, vp 7 0), (6, vp 9 0), (17, .t (.c (.own 0 t.parts.length))), (18, vi .i64 (t.parts.length : Int)), (19, vi .i64 (j : Int)), (25, vb (decide (x4.v < 0)))] [(6, .box [.d (.raw nilV), .d (.raw (.bool false)), .d (nsl [])]), (0, .row 57 3 ((ssV Part.v t.parts).map Part.d)), (7, .box ([.own 8 out.length] ++ zi r3)), (8, .row 57 3 (out.map Part.d)), (9, .box ([.d (.raw (.int .i64 x4.v))] ++ zi x4.c))] (by kernel_rfl) h ?_; clear h; intro a w h
   refine condS (decide (x4.v < 0)) h rfl (fun hc => ?_) (fun hc => ?_)
   ·have hc2 := hc; clear hc
    have hc2' := of_decide_eq_true hc2
    refine wp_exit ?_
    refine then_x ?_
    refine inBlock_exit ?_
    refine then_n ?_
    refine rS fam0ok 10 [(0, .add .i64 (m := (j : Int)) (n := 1) (i64_id (by omega) (by omega)))] [(2, vp 6 0), (4, vp 7 0), (17, .t (.c (.own 0 t.parts.length))), (18, vi .i64 (t.parts.length : Int)), (19, vi .i64 ((j : Int) + 1))] [(6, .box [.d (.raw nilV), .d (.raw (.bool false)), .d (nsl [])]), (0, .row 57 3 ((ssV Part.v t.parts).map Part.d)), (7, .box ([.own 8 out.length] ++ zi r3)), (8, .row 57 3 (out.map Part.d))] (by kernel_rfl) h ?_; clear h; intro a w h
    refine then_n ?_
    have hst : (mrgZ ((ssV Part.v t.parts).take (j + 1))) = mrgStep out x4 := by rw [hI1, show ((ssV Part.v t.parts).take (j + 1) : List Part) = (ssV Part.v t.parts).take j ++ [x4] from by rw [List.take_add_one, hx4]; rfl, mrgZ_snoc]
    have hst2 := mrg_neg (out := out) hc2'
    refine roundS (x := (j, out)) (y := ((j + 1), out)) h ?_ ?_ (by kernel_rfl) (by kernel_rfl)
    ·exact ⟨by rw [hst, hst2], (by have := at_lt hx4; omega), by omega, by have hh := hI4.step (ht.get_mem (ssV_mem (List.mem_of_getElem? hx4))); rw [hst2] at hh; exact hh⟩
    ·show (ssV Part.v t.parts).length - (j + 1) < (ssV Part.v t.parts).length - j
     have := at_lt hx4; omega
   ·have hc3 := hc; clear hc
    have hc3' := of_decide_eq_false hc3
    refine wp_skip ?_
    refine then_n ?_
    rcases Nat.eq_zero_or_pos out.length with hz | hz
    ·refine rSeq fam0ok 10 [(3, .gen _ _ _ fun _ _ _ _ => Op.arith (op := .sub) (d := 29) (xt := 3) (yt := 3) (k := .i64) (m := (out.length : Int)) (n := 1) (r := (-1)) (OV.tmp 28 _) (OV.const (.int .i64 1) rfl) (.inr (.inl ⟨rfl, (by omega)⟩)) (i64_id (by omega) (by omega)))] [(2, vp 6 0), (4, vp 7 0), (6, vp 9 0), (7, vi .i64 (-1)), (17, .t (.c (.own 0 t.parts.length))), (18, vi .i64 (t.parts.length : Int)), (19, vi .i64 (j : Int))] [(6, .box [.d (.raw nilV), .d (.raw (.bool false)), .d (nsl [])]), (0, .row 57 3 ((ssV Part.v t.parts).map Part.d)), (7, .box ([.own 8 out.length] ++ zi r3)), (8, .row 57 3 (out.map Part.d)), (9, .box ([.d (.raw (.int .i64 x4.v))] ++ zi x4.c))] (by kernel_rfl) h ?_; clear h; intro a w h
     refine rSeq fam0ok 10 [(1, .cmp (op := .geq) (m := (-1)) (n := 0) (b := false) .i64 rfl)] [(2, vp 6 0), (4, vp 7 0), (6, vp 9 0), (7, vi .i64 (-1)), (17, .t (.c (.own 0 t.parts.length))), (18, vi .i64 (t.parts.length : Int)), (19, vi .i64 (j : Int)), (42, vb false)] [(6, .box [.d (.raw nilV), .d (.raw (.bool false)), .d (nsl [])]), (0, .row 57 3 ((ssV Part.v t.parts).map Part.d)), (7, .box ([.own 8 out.length] ++ zi r3)), (8, .row 57 3 (out.map Part.d)), (9, .box ([.d (.raw (.int .i64 x4.v))] ++ zi x4.c))] (by kernel_rfl) h ?_; clear h; intro a w h
     refine condS false h rfl (fun hc => ?_) (fun hc => ?_)
     ·cases hc
     ·clear hc
      obtain ⟨r5, er5, vr5, or5, lr5⟩ := mkZ (v := x4.c.val) (m := x4.c.abs.length) (len_id ox4)
      refine rS fam0ok 10 [(6, .call (Fn.cast (Scopied x4.c ox4 (by omega)) (congrArg vz er5.symm)) tl_5), (8, .gen _ _ _ fun _ _ _ _ => Op.buildD (d := 65) (len := 1) (rows := [(Part.mk x4.v r5)].map Part.d) (rs := [(64, .t (.agg ([.d (.raw (.int .i64 x4.v))] ++ zi r5)))]) tb_9 (.cons (i := 0) (OV.tmp 64 _) (.nil)) (by kernel_rfl) rfl (by simp [Part.d]) (by decide) (by decide)), (9, .gen _ _ _ fun _ _ _ _ => Op.appOD (d := 66) (t := 58) (u := 65) (n := 8) (n' := 10) (len := out.length) (len' := (out ++ [(Part.mk x4.v r5)]).length) (rows := out.map Part.d) (rows2 := [(Part.mk x4.v r5)].map Part.d) (rows' := (out ++ [(Part.mk x4.v r5)]).map Part.d) tb_10 (by first | exact (List.length_map _).symm | simp) (by first | (rw [List.length_append, List.length_map]; done) | simp) (by simp) (by simp [Part.d]) (by first | omega | (simp at *; done) | (simp at *; omega)))] [(2, vp 6 0), (4, vp 7 0), (17, .t (.c (.own 0 t.parts.length))), (18, vi .i64 (t.parts.length : Int)), (19, vi .i64 (j : Int))] [(6, .box [.d (.raw nilV), .d (.raw (.bool false)), .d (nsl [])]), (0, .row 57 3 ((ssV Part.v t.parts).map Part.d)), (7, .box ([.own 10 (out ++ [(Part.mk x4.v r5)]).length] ++ zi r3)), (10, .row 57 3 ((out ++ [(Part.mk x4.v r5)]).map Part.d))] (by kernel_rfl) h ?_; clear h; intro a w h
      refine block_n ?_
      refine then_n ?_
      refine rS fam0ok 11 [(0, .add .i64 (m := (j : Int)) (n := 1) (i64_id (by omega) (by omega)))] [(2, vp 6 0), (4, vp 7 0), (17, .t (.c (.own 0 t.parts.length))), (18, vi .i64 (t.parts.length : Int)), (19, vi .i64 ((j : Int) + 1))] [(6, .box [.d (.raw nilV), .d (.raw (.bool false)), .d (nsl [])]), (0, .row 57 3 ((ssV Part.v t.parts).map Part.d)), (7, .box ([.own 10 (out ++ [(Part.mk x4.v r5)]).length] ++ zi r3)), (10, .row 57 3 ((out ++ [(Part.mk x4.v r5)]).map Part.d))] (by kernel_rfl) h ?_; clear h; intro a w h
      refine then_n ?_
      have hst : (mrgZ ((ssV Part.v t.parts).take (j + 1))) = mrgStep out x4 := by rw [hI1, show ((ssV Part.v t.parts).take (j + 1) : List Part) = (ssV Part.v t.parts).take j ++ [x4] from by rw [List.take_add_one, hx4]; rfl, mrgZ_snoc]
      have hst2 := mrg_nil hc3' hz
      replace h := renS 10 8 [(2, vp 6 0), (4, vp 7 0), (17, .t (.c (.own 0 t.parts.length))), (18, vi .i64 (t.parts.length : Int)), (19, vi .i64 ((j : Int) + 1))] [(6, .box [.d (.raw nilV), .d (.raw (.bool false)), .d (nsl [])]), (0, .row 57 3 ((ssV Part.v t.parts).map Part.d)), (7, .box ([.own 8 (out ++ [(Part.mk x4.v r5)]).length] ++ zi r3)), (8, .row 57 3 ((out ++ [(Part.mk x4.v r5)]).map Part.d))] h (by kernel_rfl) (by kernel_rfl) (by kernel_rfl)
      refine roundS (x := (j, out)) (y := ((j + 1), (out ++ [(Part.mk x4.v r5)]))) h ?_ ?_ (by kernel_rfl) (by kernel_rfl)
      ·have hnew : (out ++ [(Part.mk x4.v r5)]) = mrgStep out x4 := by rw [hst2, er5]
       exact ⟨by rw [hst]; exact hnew, (by have := at_lt hx4; omega), by rw [List.length_append]; simp only [List.length_cons, List.length_nil]; omega, by rw [hnew]; exact hI4.step (ht.get_mem (ssV_mem (List.mem_of_getElem? hx4)))⟩
      ·show (ssV Part.v t.parts).length - (j + 1) < (ssV Part.v t.parts).length - j
       have := at_lt hx4; omega
    ·obtain ⟨k, hk1⟩ : ∃ k, out.length = k + 1 := ⟨out.length - 1, by omega⟩
     refine rSeq fam0ok 11 [(3, .gen _ _ _ fun _ _ _ _ => Op.arith (op := .sub) (d := 29) (xt := 3) (yt := 3) (k := .i64) (m := (out.length : Int)) (n := 1) (r := (k : Int)) (OV.tmp 28 _) (OV.const (.int .i64 1) rfl) (.inr (.inl ⟨rfl, (by omega)⟩)) (i64_id (by omega) (by omega)))] [(2, vp 6 0), (4, vp 7 0), (6, vp 9 0), (7, vi .i64 (k : Int)), (17, .t (.c (.own 0 t.parts.length))), (18, vi .i64 (t.parts.length : Int)), (19, vi .i64 (j : Int))] [(6, .box [.d (.raw nilV), .d (.raw (.bool false)), .d (nsl [])]), (0, .row 57 3 ((ssV Part.v t.parts).map Part.d)), (7, .box ([.own 8 out.length] ++ zi r3)), (8, .row 57 3 (out.map Part.d)), (9, .box ([.d (.raw (.int .i64 x4.v))] ++ zi x4.c))] (by kernel_rfl) h ?_; clear h; intro a w h
     obtain ⟨x6, hx6⟩ : ∃ z_ : Part, out[k]? = some z_ := ⟨_, List.getElem?_eq_getElem (by first | omega | (simp at *; omega))⟩
     obtain ⟨ox6, lx6⟩ := hI4.lb (List.mem_of_getElem? hx6) (by omega)
     refine rSeq fam0ok 11 [(1, .cmp (op := .geq) (m := (k : Int)) (n := 0) (b := true) .i64 (show decide ((k : Int) ≥ 0) = true from decide_eq_true (by omega))), (6, .gen _ _ _ fun _ _ _ _ => Op.idxO (d := 36) (t := 34) (k := .i64) (n := 8) (len := out.length) (i := k) ta_0 (by first | omega | (simp at *; omega)) (OV.tmp 35 _)), (8, .gen _ _ _ fun _ _ _ _ => Op.loadR_c (d := 38) (t := 37) (n := 8) (i := k) (fo := 0) (rty := 57) (es := 3) (x := (.raw (.int .i64 x6.v))) tl_7 rfl (map_at hx6 (f := Part.d)) rfl)] [(2, vp 6 0), (4, vp 7 0), (6, vp 9 0), (7, vi .i64 (k : Int)), (17, .t (.c (.own 0 t.parts.length))), (18, vi .i64 (t.parts.length : Int)), (19, vi .i64 (j : Int)), (42, vb (x6.v == x4.v))] [(6, .box [.d (.raw nilV), .d (.raw (.bool false)), .d (nsl [])]), (0, .row 57 3 ((ssV Part.v t.parts).map Part.d)), (7, .box ([.own 8 out.length] ++ zi r3)), (8, .row 57 3 (out.map Part.d)), (9, .box ([.d (.raw (.int .i64 x4.v))] ++ zi x4.c))] (by kernel_rfl) h ?_; clear h; intro a w h
     refine condS (x6.v == x4.v) h rfl (fun hc => ?_) (fun hc => ?_)
     ·have hc4 := hc; clear hc
      have hc4' := hc4; (try simp at hc4')
      obtain ⟨r7, er7, vr7, or7, lr7⟩ := mkZ (v := x6.c.val + x4.c.val) (m := x6.c.abs.length + x4.c.abs.length + 1) (len_add ox6 ox4)
      refine rS fam0ok 11 [(6, .gen _ _ _ fun _ _ _ _ => Op.idxO (d := 49) (t := 47) (k := .i64) (n := 8) (len := out.length) (i := k) ta_0 (by first | omega | (simp at *; omega)) (OV.tmp 48 _)), (8, .gen _ _ _ fun _ _ _ _ => Op.loadR_agg (d := 51) (t := 50) (n := 8) (i := k) (fo := 1) (rty := 57) (es := 3) (xs := [.raw (.bool x6.c.neg), nsl x6.c.abs]) ia_1 rfl (map_at hx6 (f := Part.d)) rfl rfl), (11, .call (Fn.cast (SAdd x6.c x4.c ox6 ox4 (by omega) (by omega)) (congrArg vz er7.symm)) tl_9), (12, .gen _ _ _ fun _ _ _ _ => Op.idxO (d := 55) (t := 44) (k := .i64) (n := 8) (len := out.length) (i := k) ta_0 (by first | omega | (simp at *; omega)) (OV.tmp 45 _)), (14, .gen _ _ _ fun _ _ _ _ => Op.storeR (t := 56) (n := 8) (i := k) (fo := 1) (rty := 57) (es := 3) (r := Part.d x6) (ds := [.raw (.bool r7.neg), nsl r7.abs]) (rs := [(54, vz r7)]) (rows := out.map Part.d) (rows' := (out.set k (Part.mk x6.v r7)).map Part.d) ia_1 (OV.tmp 54 _) rfl rfl rfl (map_at hx6 (f := Part.d)) (by simp [Part.d]) (set_map (xs := out) (F := Part.d) k _ _ rfl))] [(2, vp 6 0), (4, vp 7 0), (17, .t (.c (.own 0 t.parts.length))), (18, vi .i64 (t.parts.length : Int)), (19, vi .i64 (j : Int))] [(6, .box [.d (.raw nilV), .d (.raw (.bool false)), .d (nsl [])]), (0, .row 57 3 ((ssV Part.v t.parts).map Part.d)), (7, .box ([.own 8 out.length] ++ zi r3)), (8, .row 57 3 ((out.set k (Part.mk x6.v r7)).map Part.d))] (by kernel_rfl) h ?_; clear h; intro a w h
      refine block_n ?_
      refine then_n ?_
      refine rS fam0ok 11 [(0, .add .i64 (m := (j : Int)) (n := 1) (i64_id (by omega) (by omega)))] [(2, vp 6 0), (4, vp 7 0), (17, .t (.c (.own 0 t.parts.length))), (18, vi .i64 (t.parts.length : Int)), (19, vi .i64 ((j : Int) + 1))] [(6, .box [.d (.raw nilV), .d (.raw (.bool false)), .d (nsl [])]), (0, .row 57 3 ((ssV Part.v t.parts).map Part.d)), (7, .box ([.own 8 out.length] ++ zi r3)), (8, .row 57 3 ((out.set k (Part.mk x6.v r7)).map Part.d))] (by kernel_rfl) h ?_; clear h; intro a w h
      refine then_n ?_
      have hst : (mrgZ ((ssV Part.v t.parts).take (j + 1))) = mrgStep out x4 := by rw [hI1, show ((ssV Part.v t.parts).take (j + 1) : List Part) = (ssV Part.v t.parts).take j ++ [x4] from by rw [List.take_add_one, hx4]; rfl, mrgZ_snoc]
      replace h := h.conv (f' := F.of [(2, vp 6 0), (4, vp 7 0), (17, .t (.c (.own 0 t.parts.length))), (18, vi .i64 (t.parts.length : Int)), (19, vi .i64 ((j : Int) + 1))] [(6, .box [.d (.raw nilV), .d (.raw (.bool false)), .d (nsl [])]), (0, .row 57 3 ((ssV Part.v t.parts).map Part.d)), (7, .box ([.own 8 (out.set k (Part.mk x6.v r7)).length] ++ zi r3)), (8, .row 57 3 ((out.set k (Part.mk x6.v r7)).map Part.d))]) (by rw [List.length_set])
      have hst2 := mrg_same hc3' hk1 hx6 (by simpa using hc4)
      refine roundS (x := (j, out)) (y := ((j + 1), (out.set k (Part.mk x6.v r7)))) h ?_ ?_ (by kernel_rfl) (by kernel_rfl)
      ·have hnew : (out.set k (Part.mk x6.v r7)) = mrgStep out x4 := by rw [hst2, er7]
       exact ⟨by rw [hst]; exact hnew, (by have := at_lt hx4; omega), by rw [List.length_set]; omega, by rw [hnew]; exact hI4.step (ht.get_mem (ssV_mem (List.mem_of_getElem? hx4)))⟩
      ·show (ssV Part.v t.parts).length - (j + 1) < (ssV Part.v t.parts).length - j
       have := at_lt hx4; omega
     ·have hc5 := hc; clear hc
      have hc5' := hc5; (try simp at hc5')
      obtain ⟨r8, er8, vr8, or8, lr8⟩ := mkZ (v := x4.c.val) (m := x4.c.abs.length) (len_id ox4)
      refine rS fam0ok 11 [(6, .call (Fn.cast (Scopied x4.c ox4 (by omega)) (congrArg vz er8.symm)) tl_5), (8, .gen _ _ _ fun _ _ _ _ => Op.buildD (d := 65) (len := 1) (rows := [(Part.mk x4.v r8)].map Part.d) (rs := [(64, .t (.agg ([.d (.raw (.int .i64 x4.v))] ++ zi r8)))]) tb_9 (.cons (i := 0) (OV.tmp 64 _) (.nil)) (by kernel_rfl) rfl (by simp [Part.d]) (by decide) (by decide)), (9, .gen _ _ _ fun _ _ _ _ => Op.appOD (d := 66) (t := 58) (u := 65) (n := 8) (n' := 11) (len := out.length) (len' := (out ++ [(Part.mk x4.v r8)]).length) (rows := out.map Part.d) (rows2 := [(Part.mk x4.v r8)].map Part.d) (rows' := (out ++ [(Part.mk x4.v r8)]).map Part.d) tb_10 (by first | exact (List.length_map _).symm | simp) (by first | (rw [List.length_append, List.length_map]; done) | simp) (by simp) (by simp [Part.d]) (by first | omega | (simp at *; done) | (simp at *; omega)))] [(2, vp 6 0), (4, vp 7 0), (17, .t (.c (.own 0 t.parts.length))), (18, vi .i64 (t.parts.length : Int)), (19, vi .i64 (j : Int))] [(6, .box [.d (.raw nilV), .d (.raw (.bool false)), .d (nsl [])]), (0, .row 57 3 ((ssV Part.v t.parts).map Part.d)), (7, .box ([.own 11 (out ++ [(Part.mk x4.v r8)]).length] ++ zi r3)), (11, .row 57 3 ((out ++ [(Part.mk x4.v r8)]).map Part.d))] (by kernel_rfl) h ?_; clear h; intro a w h
      refine block_n ?_
      refine then_n ?_
      refine rS fam0ok 12 [(0, .add .i64 (m := (j : Int)) (n := 1) (i64_id (by omega) (by omega)))] [(2, vp 6 0), (4, vp 7 0), (17, .t (.c (.own 0 t.parts.length))), (18, vi .i64 (t.parts.length : Int)), (19, vi .i64 ((j : Int) + 1))] [(6, .box [.d (.raw nilV), .d (.raw (.bool false)), .d (nsl [])]), (0, .row 57 3 ((ssV Part.v t.parts).map Part.d)), (7, .box ([.own 11 (out ++ [(Part.mk x4.v r8)]).length] ++ zi r3)), (11, .row 57 3 ((out ++ [(Part.mk x4.v r8)]).map Part.d))] (by kernel_rfl) h ?_; clear h; intro a w h
      refine then_n ?_
      have hst : (mrgZ ((ssV Part.v t.parts).take (j + 1))) = mrgStep out x4 := by rw [hI1, show ((ssV Part.v t.parts).take (j + 1) : List Part) = (ssV Part.v t.parts).take j ++ [x4] from by rw [List.take_add_one, hx4]; rfl, mrgZ_snoc]
      have hst2 := mrg_new hc3' hk1 hx6 (by simpa using hc5)
      replace h := renS 11 8 [(2, vp 6 0), (4, vp 7 0), (17, .t (.c (.own 0 t.parts.length))), (18, vi .i64 (t.parts.length : Int)), (19, vi .i64 ((j : Int) + 1))] [(6, .box [.d (.raw nilV), .d (.raw (.bool false)), .d (nsl [])]), (0, .row 57 3 ((ssV Part.v t.parts).map Part.d)), (7, .box ([.own 8 (out ++ [(Part.mk x4.v r8)]).length] ++ zi r3)), (8, .row 57 3 ((out ++ [(Part.mk x4.v r8)]).map Part.d))] h (by kernel_rfl) (by kernel_rfl) (by kernel_rfl)
      refine roundS (x := (j, out)) (y := ((j + 1), (out ++ [(Part.mk x4.v r8)]))) h ?_ ?_ (by kernel_rfl) (by kernel_rfl)
      ·have hnew : (out ++ [(Part.mk x4.v r8)]) = mrgStep out x4 := by rw [hst2, er8]
       exact ⟨by rw [hst]; exact hnew, (by have := at_lt hx4; omega), by rw [List.length_append]; simp only [List.length_cons, List.length_nil]; omega, by rw [hnew]; exact hI4.step (ht.get_mem (ssV_mem (List.mem_of_getElem? hx4)))⟩
      ·show (ssV Part.v t.parts).length - (j + 1) < (ssV Part.v t.parts).length - j
       have := at_lt hx4; omega
  ·have hc6 := hc; clear hc
   have hc6' := of_decide_eq_false hc6
   refine wp_exit ?_
   refine then_x ?_
   refine then_x ?_
   refine inBlock_exit ?_
   refine then_n ?_
   replace h := atS (sl' := [(2, vp 6 0), (4, vp 7 0)]) (lc' := [(6, .box [.d (.raw nilV), .d (.raw (.bool false)), .d (nsl [])]), (7, .box ([.own 8 out.length] ++ zi r3)), (8, .row 57 3 (out.map Part.d))]) h (by kernel_rfl) (by kernel_rfl)
   replace h := renS 8 0 [(2, vp 6 0), (4, vp 7 0)] [(6, .box [.d (.raw nilV), .d (.raw (.bool false)), .d (nsl [])]), (7, .box ([.own 0 out.length] ++ zi r3)), (0, .row 57 3 (out.map Part.d))] h (by kernel_rfl) (by kernel_rfl) (by kernel_rfl)
   refine rSeq fam0ok 12 [(2, .call (SDeleteFZ isZ out (fun p hp => SPlain2 p (hI4.lb hp (by omega)).1 (by have := (hI4.lb hp (by omega)).2; omega)) (by omega)) tl_10)] [(2, vp 6 0), (4, vp 7 0)] [(6, .box [.d (.raw nilV), .d (.raw (.bool false)), .d (nsl [])]), (7, .box ([.own 0 (out.filter (fun p => !isZ p)).length] ++ zi r3)), (0, .row 57 3 ((out.filter (fun p => !isZ p)).map Part.d))] (by kernel_rfl) h ?_; clear h; intro a w h
   refine rSeq fam0ok 12 [] [(2, vp 6 0)] [(6, .box ([.own 0 (out.filter (fun p => !isZ p)).length] ++ zi r3)), (0, .row 57 3 ((out.filter (fun p => !isZ p)).map Part.d))] (by kernel_rfl) h ?_; clear h; intro a w h
   refine wp_ret ?_
   replace h := pubS 0 3 57 ((out.filter (fun p => !isZ p)).map Part.d) [(2, vp 6 0)] [(6, .box ([.d (.sl 3 ((out.filter (fun p => !isZ p)).map Part.d))] ++ zi r3))] h rfl trivial (show AllEq _ [(out.filter (fun p => !isZ p)).length] from ⟨by first | exact (List.length_map _).symm | simp, trivial⟩) (by kernel_rfl) (by kernel_rfl)
   refine retS [.agg ([.d (.sl 3 ((out.filter (fun p => !isZ p)).map Part.d))] ++ zi r3)] h Exit.ret (.inl rfl)  rfl ⟨RV.agg _ 6 0 _ _ _ _ tb_11 rfl rfl rfl rfl, trivial⟩ ?_ (by kernel_rfl) (by kernel_rfl)
   have hj : j = (ssV Part.v t.parts).length := by omega
   subst hj
   rw [hI1, List.take_length, plain_law, er3]; first | done | rfl
theorem SPlain (t : Term) {n L : Nat} (h : TOk n L t) (hn : n ≤ 1000) (hL : L ≤ 40000) : Fn Tryz.prog 69 [] [vd t.d] (vd (plainT t).d) [] :=
 have h' := h.mono hn hL
 SPlain0 t h'.psok h'.kb h'.kl
end Go.Proofs.YtoklkfmffmonoaaGreat.S
end
section
namespace Go.Proofs.YtoklkfmffmonoaaGreat.S
open Go.RowKit

section
variable {P : Program}
theorem Op.capR {d : Nat} {x : Operand} {ao : Option Addr} {n c : Nat} {rs : List (Nat × V)} {t el ty : TypeId} {pos af gd} (hu : P.underlying t = some (.slice el)) (h : OV x (.t (.c (.d (.raw (.slice ao n c))))) rs) :
  OpOk P ⟨some d, .call { callee := .builtin .cap, args := #[x], argTypes := #[t] }, ty, pos, af, gd⟩ { rs := rs, ws := [(d, some (vi .i64 (c : Int)))] } :=
 OpOk.value d _ rfl rfl rfl fun e f H B a w hok hr2 => by
  have h2 := (h.eval hok fun p hp => hr2.1 p hp).rawI
  refine ⟨goInt c, ?_, DR.raw _ rfl⟩
  generalize a.eval = ρ at h2 ⊢
  have e1 : (Array.map ρ #[x]) = #[ρ x] := by simp
  simp [execOp, resolve, e1, h2, invoke, builtin, Builtin.cap_, run_underlying hu]
theorem Op.sliceR0 {d : Nat} {x y : Operand} {k : IntKind} {rs rs' : List (Nat × V)} {xt el ty : TypeId} {es : Nat} {pos af gd} (hs : SlT P xt el es) (hx : OV x (.t (.c (.d (.raw nilV)))) rs) (hy : OV y (vi k (0 : Nat)) rs') :
  OpOk P ⟨some d, .slice xt x none (some y) none, ty, pos, af, gd⟩ { rs := rs ++ rs', ws := [(d, some (.t (.c (.d (.raw nilV)))))] } :=
 OpOk.value d _ rfl rfl rfl fun e f H B a w hok hr2 => by
  have hv : a.eval x = nilV := (hx.eval hok fun p hp => hr2.1 p (by simp [hp])).rawI
  have hb := run_bounds (P := P) (is := true) (lo := none) (hi := some y) (len := 0) (cap := 0) (BO.no 0) (BO.yes 0 hy) hok (fun p hp => by cases hp) (fun p hp => hr2.1 p (by simp [hp])) (Nat.zero_le _) (Nat.le_refl _)
  have hrun := run_sliceS (ao := none) hs hb
  refine ⟨nilV, ?_, DR.raw _ rfl⟩
  generalize a.eval = ρ at hv hrun ⊢
  have hrun' : (Instr.sliceAt xt (ρ x) ((none : Option Operand).map ρ) ((some y).map ρ) ((none : Option Operand).map ρ)).run P w = .ok nilV w := by rw [hv]; simpa [nilV] using hrun
  simp only [execOp, Sem.run_bind, hrun', Result.andThen_ok, Sem.run_pure]
theorem run_app_make {xt el it ty : TypeId} {i : TypeInfo} {z : Value} (hu : P.underlying xt = some (.slice el)) (hi : P.underlying it = some (.int .i64)) (hI : P.info? el = some i) (hz : i.zero = some z) (hs : i.size ≠ 0) {L : Nat} (hL0 : 0 < L) (hL : L ≤ 4294967296) (hb : L * i.bytes ≤ 140737488355328) (w : World) :
  (Builtin.append_ #[xt, it] ty #[nilV, .int .i64 (L : Int)]).run P w = .ok (.slice (some ⟨w.heap.size, 0, none⟩) L (grownCap w L 0 el)) (w.drew.alloc (.cells (Builtin.zeroCells z.cells L ++ Builtin.zeroCells z.cells (grownCap w L 0 el - L)) el)) := by
 have wl : IntKind.i64.wrap (L : Int) = (L : Int) := by rw [IntKind.wrap_i64]; omega
 have c1 : ¬ ((L : Int) < 0) := by omega
 have c2 : ¬ (281474976710656 < (L : Int) * (i.bytes : Int)) := by
  have : ((L * i.bytes : Nat) : Int) = (L : Int) * (i.bytes : Int) := Int.natCast_mul _ _
  omega
 have c4 : ¬ (9223372036854775807 < (L : Int)) := by omega
 have c5 : ¬ (281474976710656 < Builtin.nextslicecap L 0 * i.bytes) := by
  have := growslice_fits (need := L) (old := 0) (bytes := i.bytes) (by omega) hb
  omega
 have hL1 : L ≠ 0 := by omega
 have hL2 : L * i.size ≠ 0 := Nat.mul_ne_zero hL1 hs
 simp [Builtin.append_, nilV, run_underlying hu, run_underlying hi, sizeOf, typeInfo, zeroValue, hI, hz, hL2, asInt, asIntOf, wl, c1, c2, c4, c5, hL1, Question.forced, run_firstCells_none, newRow, grownCap]
theorem Op.appNM {d t u n es bs L : Nat} {xt el it ty : TypeId} {pos af gd} (hT : ElT P xt el es bs) (hi : P.underlying it = some (.int .i64)) (hL0 : 0 < L) (hL : L ≤ 1000000000) (hb : L * bs ≤ 140737488355328) :
  OpOk P ⟨some d, .call { callee := .builtin .append, args := #[.tmp t, .tmp u], argTypes := #[xt, it] }, ty, pos, af, gd⟩
   { rs := [(t, .t (.c (.d (.raw nilV)))), (u, vi .i64 (L : Int))], ws := [(d, some (.t (.c (.own n L))))], wl := [(n, some (.row el es []))], nw := [n] } := by
 rintro e f a w Q ⟨H, B, hok⟩ hr hnw hb0
 have hnew := hnw n (by simp)
 have h1 : a.eval (.tmp t) = nilV := VR.rawI (hok.slot t _ (hr.1 (t, .t (.c (.d (.raw nilV)))) (by simp)))
 have h2 : a.eval (.tmp u) = .int .i64 (L : Int) := VR.rawI (hok.slot u _ (hr.1 (u, vi .i64 (L : Int)) (by simp)))
 obtain ⟨i, z, hI, hz, hsz, hby, hzs⟩ := hT.ex
 have hrun := run_app_make (P := P) (ty := ty) hT.hu hi hI hz (by rw [hsz]; exact Nat.pos_iff_ne_zero.1 hT.pos) hL0 (by omega) (by rw [hby]; exact hb) w
 have hge := grownCap_ge w L 0 el
 have hle := grownCap_le_maxLen w L 0 el (by simp only [maxLen]; omega)
 generalize grownCap w L 0 el = c at hrun hge hle
 have hok2 : Ok e f H B a w.drew := ⟨hok.df, hok.n, ⟨hok.ext.os, hok.ext.tape, hok.ext.output, hok.ext.size, hok.ext.block⟩, hok.sat, hok.slot, fun m l hm => LR.mono (Le.refl _) rfl (fun _ _ => rfl) (fun _ _ _ => rfl) (hok.loc m l hm), hok.priv, hok.inj, hok.low, hok.le, hok.keep⟩
 have hlen : (Builtin.zeroCells z.cells L ++ Builtin.zeroCells z.cells (c - L)).toList.length = c * es := by
  simp only [Builtin.zeroCells, Array.toList_append, List.length_append, Array.length_toList, Array.size_map, Array.size_range, hzs]
  rw [← Nat.add_mul]; congr 1; omega
 have hobj : (Builtin.zeroCells z.cells L ++ Builtin.zeroCells z.cells (c - L)) = ⟨(Builtin.zeroCells z.cells L ++ Builtin.zeroCells z.cells (c - L)).toList⟩ := by simp
 rw [hobj] at hrun
 generalize (Builtin.zeroCells z.cells L ++ Builtin.zeroCells z.cells (c - L)).toList = arr at hrun hlen
 have h3 : Ok e ⟨f.s, fun m => if m = n then some (.row el es []) else f.l m⟩ H (fun m => if m = n then some (w.drew.heap.size, c) else B m) a (w.drew.alloc (.cells ⟨arr⟩ el)) :=
  hok2.new hnew (.cells ⟨arr⟩ el) c (.row el es []) (fun _ => rfl) (fun _ => rfl) (by
   simp only [LR, if_true]
   exact ⟨arr, heap_alloc_new w.drew _, hlen, Nat.zero_le _, hle, by simp, by simp [All2]⟩)
 refine wp_of_run (d := d) rfl ?_ ⟨H, _, h3.put (x := some (.t (.c (.own n L)))) (hb0.1 (d, some (.t (.c (.own n L)))) (by simp)) (app1_s f d _ _ rfl) (fun m => ?_) (v := .slice (some ⟨w.heap.size, 0, none⟩) L c) (fun y hy => by injection hy with hy; subst hy; simp [VR, TR, CR])⟩
 ·generalize a.eval = ρ at h1 h2 ⊢
  have e1 : (Array.map ρ #[.tmp t, .tmp u]) = #[ρ (.tmp t), ρ (.tmp u)] := by simp
  simp only [execOp, resolve, e1, h1, h2, Sem.run_bind, Sem.run_pure, Result.andThen_ok, invoke, builtin, hrun]
 ·simp only [F.app, List.lookup]
  by_cases e1 : m = n
  ·simp [e1]
  ·have g1 : (m == n) = false := by simpa using e1
   simp [g1, e1]
end
end Go.Proofs.YtoklkfmffmonoaaGreat.S
end
section
namespace Go.Proofs.YtoklkfmffmonoaaGreat.S
open Go.RowKit

theorem tm_2 : SlT Tryz.prog 161 41 1 := SlT.mk' Tryz.underlying161 (by kernel_rfl)
theorem tm_3 : Bodied Tryz.prog 153 := Bodied.mk' (by kernel_rfl)
theorem tm_4 : ElZ Tryz.prog 161 41 1 := ElZ.mk' Tryz.underlying161 _ _ rfl rfl (by kernel_rfl) (by kernel_rfl) (by kernel_rfl) (by decide)
theorem tm_5 : Bodied Tryz.prog 133 := Bodied.mk' (by kernel_rfl)
theorem tm_7 : Bodied Tryz.prog 69 := Bodied.mk' (by kernel_rfl)
theorem tm_10 : Bodied Tryz.prog 93 := Bodied.mk' (by kernel_rfl)
theorem tm_12 : Bodied Tryz.prog 94 := Bodied.mk' (by kernel_rfl)
theorem tm_13 : Bodied Tryz.prog 90 := Bodied.mk' (by kernel_rfl)
theorem tm_14 : Bodied Tryz.prog 137 := Bodied.mk' (by kernel_rfl)
theorem tm_15 : Bodied Tryz.prog 89 := Bodied.mk' (by kernel_rfl)
theorem SGrow (n : Nat) (hn : n ≤ 1000000) : Fn Tryz.prog 153 [] [.t (.c (.d (.raw nilV))), vi .i64 (n : Int)] (.t (.c (.own 0 0))) [(0, .row 57 3 ([].map Part.d))] := by
 refine Fn.body Tryz.func153 rfl 27 rfl fun w H B a h => ?_
 refine rSeq fam0ok 1 [] [(0, .t (.c (.d (.raw nilV)))), (1, vi .i64 (n : Int)), (4, .t (.c (.d (.raw nilV))))] [] (by kernel_rfl) h ?_; clear h; intro a w h
 refine wp_seq ?_
 refine rSeq fam0ok 1 [(1, .cmp (op := .lss) (m := (n : Int)) (n := 0) (b := false) .i64 (show decide ((n : Int) < 0) = false from decide_eq_false (by omega)))] [(0, .t (.c (.d (.raw nilV)))), (1, vi .i64 (n : Int)), (4, .t (.c (.d (.raw nilV)))), (6, vb false)] [] (by kernel_rfl) h ?_; clear h; intro a w h
 refine condS false h rfl (fun hc => ?_) (fun hc => ?_)
 ·cases hc
 ·clear hc
  refine wp_skip ?_
  refine then_n ?_
  refine wp_seq ?_
  refine rSeq fam0ok 1 [(2, .gen _ _ _ fun _ _ _ _ => Op.capR (d := 10) (ao := none) (n := 0) (c := 0) ta_0.hu (OV.tmp 9 _)), (5, .gen _ _ _ fun _ _ _ _ => Op.arith (op := .sub) (d := 13) (xt := 3) (yt := 3) (k := .i64) (m := 0) (n := 0) (r := 0) (OV.tmp 10 _) (OV.tmp 12 _) (.inr (.inl ⟨rfl, rfl⟩)) (i64_id (by omega) (by omega))), (6, .gen _ _ _ fun _ _ _ _ => Op.arith (op := .sub) (d := 14) (xt := 3) (yt := 3) (k := .i64) (m := (n : Int)) (n := 0) (r := (n : Int)) (OV.tmp 8 _) (OV.tmp 13 _) (.inr (.inl ⟨rfl, (Int.sub_zero _).symm⟩)) (i64_id (by omega) (by omega)))] [(0, .t (.c (.d (.raw nilV)))), (1, vi .i64 (n : Int)), (4, .t (.c (.d (.raw nilV))))] [] (by kernel_rfl) h ?_; clear h; intro a w h
  refine rSeq fam0ok 1 [] [(0, .t (.c (.d (.raw nilV)))), (1, vi .i64 (n : Int)), (4, .t (.c (.d (.raw nilV)))), (16, vb (decide ((n : Int) > 0)))] [] (by kernel_rfl) h ?_; clear h; intro a w h
  refine condS (decide ((n : Int) > 0)) h rfl (fun hc => ?_) (fun hc => ?_)
  ·have hc1 := hc; clear hc
   have hc1' := of_decide_eq_true hc1
   refine rS fam0ok 1 [(2, .gen _ _ _ fun _ _ _ _ => Op.capR (d := 19) (ao := none) (n := 0) (c := 0) ta_0.hu (OV.tmp 18 _)), (3, .gen _ _ _ fun _ _ _ _ => Op.sliceR0 (d := 20) (k := .i64) ta_0 (OV.tmp 17 _) (OV.tmp 19 _)), (5, .gen _ _ _ fun _ _ _ _ => Op.appNM (d := 22) (t := 20) (u := 21) (n := 1) (L := n) tb_10 Tryz.underlying3 (by omega) (by omega) (by omega)), (8, .gen _ _ _ fun _ _ _ _ => Op.sliceHi (d := 25) (t := 22) (k := .i64) (n := 1) (len := n) (h := 0) (rows := [].map Part.d) (rty := 57) ta_0 (by first | omega | (simp at *; omega)) (OV.tmp 24 _))] [(0, .t (.c (.own 1 0))), (4, .t (.c (.d (.raw nilV))))] [(1, .row 57 3 ([].map Part.d))] (by kernel_rfl) h ?_; clear h; intro a w h
   refine then_n ?_
   refine rSeq fam0ok 2 [] [(4, .t (.c (.own 1 0)))] [(1, .row 57 3 ([].map Part.d))] (by kernel_rfl) h ?_; clear h; intro a w h
   refine wp_ret ?_
   replace h := renS 1 0 [(4, .t (.c (.own 0 0)))] [(0, .row 57 3 ([].map Part.d))] h (by kernel_rfl) (by kernel_rfl) (by kernel_rfl)
   refine retS [.c (.own 0 0)] h Exit.ret (.inl rfl)  rfl ⟨RV.tmp _ _ rfl, trivial⟩ ?_ (by kernel_rfl) (by kernel_rfl)
   rfl
  ·have hc2 := hc; clear hc
   have hc2' := of_decide_eq_false hc2
   refine wp_skip ?_
   refine then_n ?_
   refine rSeq fam0ok 2 [] [(4, .t (.c (.d (.raw nilV))))] [] (by kernel_rfl) h ?_; clear h; intro a w h
   refine wp_ret ?_
   replace h := nilOSs 4 0 2 3 57 (.t (.c (.d (.raw nilV)))) [(4, .t (.c (.own 2 0)))] [(2, .row 57 3 ([].map Part.d))] h (by kernel_rfl) rfl rfl (by kernel_rfl) (by kernel_rfl)
   replace h := renS 2 0 [(4, .t (.c (.own 0 0)))] [(0, .row 57 3 ([].map Part.d))] h (by kernel_rfl) (by kernel_rfl) (by kernel_rfl)
   refine retS [.c (.own 0 0)] h Exit.ret (.inl rfl)  rfl ⟨RV.tmp _ _ rfl, trivial⟩ ?_ (by kernel_rfl) (by kernel_rfl)
   rfl
theorem sum_take_le (l : List Nat) : ∀ j, (l.take j).sum ≤ l.sum := by
 induction l with
 | nil => intro j; simp
 | cons x l ih =>
  intro j
  cases j with
  | zero => simp
  | succ j => simp only [List.take_succ_cons, List.sum_cons]; have := ih j; omega
theorem flat_sum {α : Type} (l : List (List α)) : l.flatten.length = (l.map List.length).sum := List.length_flatten
theorem sum_mem {l : List Nat} {x : Nat} (h : x ∈ l) : x ≤ l.sum := by
 induction l with
 | nil => cases h
 | cons y l ih =>
  rw [List.sum_cons]
  rcases List.mem_cons.1 h with rfl | h
  ·omega
  ·have := ih h; omega
theorem SConcat (xss : List (List Part)) (hl : (xss.map List.length).sum ≤ 1000000) (hn : xss.length ≤ 1000) : Fn Tryz.prog 133 [] [.t (.c (.d (.sl 1 (xss.map (slD 3 Part.d)))))] (.t (.c (.d (.sl 3 (xss.flatten.map Part.d))))) [] := by
 refine Fn.body Tryz.func133 rfl 36 rfl fun w H B a h => ?_
 refine rSeq fam0ok 5 [] [(0, .t (.c (.d (.sl 1 (xss.map (slD 3 Part.d)))))), (2, .t (.c (.d (.raw nilV))))] [] (by kernel_rfl) h ?_; clear h; intro a w h
 refine rSeq fam0ok 5 [] [(0, .t (.c (.d (.sl 1 (xss.map (slD 3 Part.d)))))), (2, .t (.c (.d (.raw nilV)))), (3, vi .i64 0)] [] (by kernel_rfl) h ?_; clear h; intro a w h
 refine wp_seq ?_
 refine rSeq fam0ok 5 [(1, .len (c := (.d (.sl 1 (xss.map (slD 3 Part.d))))) (n := xss.length) (lenC_map _ _ _))] [(0, .t (.c (.d (.sl 1 (xss.map (slD 3 Part.d)))))), (2, .t (.c (.d (.raw nilV)))), (3, vi .i64 0), (9, .t (.c (.d (.sl 1 (xss.map (slD 3 Part.d)))))), (10, vi .i64 (xss.length : Int)), (11, vi .i64 0)] [] (by kernel_rfl) h ?_; clear h; intro a w h
 refine wp_block ?_
 refine loopS (ι := (Nat)) (fun (z_ : (Nat)) => match z_ with | j => j ≤ xss.length)
   (fun (z_ : (Nat)) => match z_ with | j => [(0, .t (.c (.d (.sl 1 (xss.map (slD 3 Part.d)))))), (2, .t (.c (.d (.raw nilV)))), (3, vi .i64 ((((xss.map List.length).take j).sum : Nat) : Int)), (9, .t (.c (.d (.sl 1 (xss.map (slD 3 Part.d)))))), (10, vi .i64 (xss.length : Int)), (11, vi .i64 (j : Int))])
   (fun (z_ : (Nat)) => match z_ with | j => [])
   (fun (z_ : (Nat)) => match z_ with | j => xss.length - j) 0 ?_ h (by kernel_rfl) (by kernel_rfl) ?_
 ·exact Nat.zero_le _
 ·clear h; rintro j a w hI h
  change St _ (F.of [(0, .t (.c (.d (.sl 1 (xss.map (slD 3 Part.d)))))), (2, .t (.c (.d (.raw nilV)))), (3, vi .i64 ((((xss.map List.length).take j).sum : Nat) : Int)), (9, .t (.c (.d (.sl 1 (xss.map (slD 3 Part.d)))))), (10, vi .i64 (xss.length : Int)), (11, vi .i64 (j : Int))] []) a w at h
  have hs1 := sum_take_le (xss.map List.length) j
  have hs2 := sum_take_le (xss.map List.length) (j + 1)
  refine rSeq fam0ok 5 [] [(0, .t (.c (.d (.sl 1 (xss.map (slD 3 Part.d)))))), (2, .t (.c (.d (.raw nilV)))), (3, vi .i64 ((((xss.map List.length).take j).sum : Nat) : Int)), (9, .t (.c (.d (.sl 1 (xss.map (slD 3 Part.d)))))), (10, vi .i64 (xss.length : Int)), (11, vi .i64 (j : Int)), (12, vb (decide ((j : Int) < (xss.length : Int))))] [] (by kernel_rfl) h ?_; clear h; intro a w h
  refine wp_seq ?_
  refine condS (decide ((j : Int) < (xss.length : Int))) h rfl (fun hc => ?_) (fun hc => ?_)
  ·have hc1 := hc; clear hc
   have hc1' := of_decide_eq_true hc1
   refine wp_skip ?_
   refine then_n ?_
   refine wp_seq ?_
   refine wp_block ?_
   obtain ⟨x1, hx1⟩ : ∃ z_ : List Part, xss[j]? = some z_ := ⟨_, List.getElem?_eq_getElem (by first | omega | (simp at *; omega))⟩
   have hsx : x1.length ≤ (xss.map List.length).sum := by
    have := sum_mem (List.mem_map_of_mem (f := List.length) (List.mem_of_getElem? hx1))
    omega
   refine rSeq fam0ok 5 [(0, .gen _ _ _ fun _ _ _ _ => Op.idxD (d := 13) (t := 9) (k := .i64) tm_2 (map_at hx1 (f := (slD 3 Part.d))) (OV.tmp 11 _))] [(0, .t (.c (.d (.sl 1 (xss.map (slD 3 Part.d)))))), (2, .t (.c (.d (.raw nilV)))), (3, vi .i64 ((((xss.map List.length).take j).sum : Nat) : Int)), (5, .t (.c (.d (.sl 3 (x1.map Part.d))))), (9, .t (.c (.d (.sl 1 (xss.map (slD 3 Part.d)))))), (10, vi .i64 (xss.length : Int)), (11, vi .i64 (j : Int))] [] (by kernel_rfl) h ?_; clear h; intro a w h
   refine rSeq fam0ok 5 [(2, .len (c := (.d (.sl 3 (x1.map Part.d)))) (n := x1.length) (lenC_map _ _ _)), (3, .gen _ _ _ fun _ _ _ _ => Op.arith (op := .add) (d := 18) (xt := 3) (yt := 3) (k := .i64) (m := ((((xss.map List.length).take j).sum : Nat) : Int)) (n := (x1.length : Int)) (r := ((((xss.map List.length).take (j + 1)).sum : Nat) : Int)) (OV.tmp 15 _) (OV.tmp 17 _) (.inl ⟨rfl, (by rw [List.take_add_one, List.getElem?_map, hx1]; simp)⟩) (i64_id (by omega) (by omega)))] [(0, .t (.c (.d (.sl 1 (xss.map (slD 3 Part.d)))))), (2, .t (.c (.d (.raw nilV)))), (3, vi .i64 ((((xss.map List.length).take (j + 1)).sum : Nat) : Int)), (9, .t (.c (.d (.sl 1 (xss.map (slD 3 Part.d)))))), (10, vi .i64 (xss.length : Int)), (11, vi .i64 (j : Int))] [] (by kernel_rfl) h ?_; clear h; intro a w h
   refine rSeq fam0ok 5 [(1, .cmp (op := .lss) (m := ((((xss.map List.length).take (j + 1)).sum : Nat) : Int)) (n := 0) (b := false) .i64 (show decide (((((xss.map List.length).take (j + 1)).sum : Nat) : Int) < 0) = false from decide_eq_false (by omega)))] [(0, .t (.c (.d (.sl 1 (xss.map (slD 3 Part.d)))))), (2, .t (.c (.d (.raw nilV)))), (3, vi .i64 ((((xss.map List.length).take (j + 1)).sum : Nat) : Int)), (9, .t (.c (.d (.sl 1 (xss.map (slD 3 Part.d)))))), (10, vi .i64 (xss.length : Int)), (11, vi .i64 (j : Int)), (20, vb false)] [] (by kernel_rfl) h ?_; clear h; intro a w h
   refine condS false h rfl (fun hc => ?_) (fun hc => ?_)
   ·cases hc
   ·clear hc
    refine wp_skip ?_
    refine block_n ?_
    refine then_n ?_
    refine rS fam0ok 5 [(0, .add .i64 (m := (j : Int)) (n := 1) (i64_id (by omega) (by omega)))] [(0, .t (.c (.d (.sl 1 (xss.map (slD 3 Part.d)))))), (2, .t (.c (.d (.raw nilV)))), (3, vi .i64 ((((xss.map List.length).take (j + 1)).sum : Nat) : Int)), (9, .t (.c (.d (.sl 1 (xss.map (slD 3 Part.d)))))), (10, vi .i64 (xss.length : Int)), (11, vi .i64 ((j : Int) + 1))] [] (by kernel_rfl) h ?_; clear h; intro a w h
    refine then_n ?_
    refine roundS (x := j) (y := (j + 1)) h ?_ ?_ (by kernel_rfl) (by kernel_rfl)
    ·have := at_lt hx1; omega
    ·show xss.length - (j + 1) < xss.length - j
     have := at_lt hx1; omega
  ·have hc2 := hc; clear hc
   have hc2' := of_decide_eq_false hc2
   refine wp_exit ?_
   refine then_x ?_
   refine then_x ?_
   refine inBlock_exit ?_
   refine then_n ?_
   have hj : j = xss.length := by omega
   refine rSeq fam0ok 5 [(1, .call (SGrow ((xss.map List.length).take j).sum (by omega)) tm_3)] [(0, .t (.c (.d (.sl 1 (xss.map (slD 3 Part.d)))))), (2, .t (.c (.d (.raw nilV)))), (6, .t (.c (.own 0 0)))] [(0, .row 57 3 ([].map Part.d))] (by kernel_rfl) h ?_; clear h; intro a w h
   refine wp_seq ?_
   refine rSeq fam0ok 5 [(1, .len (c := (.d (.sl 1 (xss.map (slD 3 Part.d))))) (n := xss.length) (lenC_map _ _ _))] [(2, .t (.c (.d (.raw nilV)))), (6, .t (.c (.own 0 0))), (25, .t (.c (.d (.sl 1 (xss.map (slD 3 Part.d)))))), (26, vi .i64 (xss.length : Int)), (27, vi .i64 0)] [(0, .row 57 3 ([].map Part.d))] (by kernel_rfl) h ?_; clear h; intro a w h
   refine wp_block ?_
   refine loopS (ι := (Nat)) (fun (z_ : (Nat)) => match z_ with | i => i ≤ xss.length)
     (fun (z_ : (Nat)) => match z_ with | i => [(2, .t (.c (.d (.raw nilV)))), (6, .t (.c (.own 0 ((xss.take i).flatten).length))), (25, .t (.c (.d (.sl 1 (xss.map (slD 3 Part.d)))))), (26, vi .i64 (xss.length : Int)), (27, vi .i64 (i : Int))])
     (fun (z_ : (Nat)) => match z_ with | i => [(0, .row 57 3 (((xss.take i).flatten).map Part.d))])
     (fun (z_ : (Nat)) => match z_ with | i => xss.length - i) 0 ?_ h (by kernel_rfl) (by kernel_rfl) ?_
   ·exact Nat.zero_le _
   ·clear h; rintro i a w hI h
    change St _ (F.of [(2, .t (.c (.d (.raw nilV)))), (6, .t (.c (.own 0 ((xss.take i).flatten).length))), (25, .t (.c (.d (.sl 1 (xss.map (slD 3 Part.d)))))), (26, vi .i64 (xss.length : Int)), (27, vi .i64 (i : Int))] [(0, .row 57 3 (((xss.take i).flatten).map Part.d))]) a w at h
    have hs1 := sum_take_le (xss.map List.length) i
    have hs2 := sum_take_le (xss.map List.length) (i + 1)
    have hf1 : ((xss.take i).flatten).length = ((xss.map List.length).take i).sum := by rw [flat_sum, List.map_take]
    have hf2 : ((xss.take (i + 1)).flatten).length = ((xss.map List.length).take (i + 1)).sum := by rw [flat_sum, List.map_take]
    refine rSeq fam0ok 5 [] [(2, .t (.c (.d (.raw nilV)))), (6, .t (.c (.own 0 ((xss.take i).flatten).length))), (25, .t (.c (.d (.sl 1 (xss.map (slD 3 Part.d)))))), (26, vi .i64 (xss.length : Int)), (27, vi .i64 (i : Int)), (28, vb (decide ((i : Int) < (xss.length : Int))))] [(0, .row 57 3 (((xss.take i).flatten).map Part.d))] (by kernel_rfl) h ?_; clear h; intro a w h
    refine wp_seq ?_
    refine condS (decide ((i : Int) < (xss.length : Int))) h rfl (fun hc => ?_) (fun hc => ?_)
    ·have hc3 := hc; clear hc
     have hc3' := of_decide_eq_true hc3
     refine wp_skip ?_
     refine then_n ?_
     refine wp_seq ?_
     refine wp_block ?_
     obtain ⟨x3, hx3⟩ : ∃ z_ : List Part, xss[i]? = some z_ := ⟨_, List.getElem?_eq_getElem (by first | omega | (simp at *; omega))⟩
     have hsx : x3.length ≤ (xss.map List.length).sum := by
      have := sum_mem (List.mem_map_of_mem (f := List.length) (List.mem_of_getElem? hx3))
      omega
     refine rSeq fam0ok 5 [(0, .gen _ _ _ fun _ _ _ _ => Op.idxD (d := 29) (t := 25) (k := .i64) tm_2 (map_at hx3 (f := (slD 3 Part.d))) (OV.tmp 27 _))] [(2, .t (.c (.d (.raw nilV)))), (6, .t (.c (.own 0 ((xss.take i).flatten).length))), (8, .t (.c (.d (.sl 3 (x3.map Part.d))))), (25, .t (.c (.d (.sl 1 (xss.map (slD 3 Part.d)))))), (26, vi .i64 (xss.length : Int)), (27, vi .i64 (i : Int))] [(0, .row 57 3 (((xss.take i).flatten).map Part.d))] (by kernel_rfl) h ?_; clear h; intro a w h
     refine rS fam0ok 5 [(2, .gen _ _ _ fun _ _ _ _ => Op.appOD (d := 33) (t := 31) (u := 32) (n := 0) (n' := 5) (len := ((xss.take i).flatten).length) (len' := (((xss.take i).flatten) ++ x3).length) (rows := ((xss.take i).flatten).map Part.d) (rows2 := x3.map Part.d) (rows' := (((xss.take i).flatten) ++ x3).map Part.d) tb_10 (by first | exact (List.length_map _).symm | simp) (by first | (rw [List.length_append, List.length_map]; done) | simp) (by simp) (by simp [Part.d]) (by first | omega | (simp at *; done) | (simp at *; omega)))] [(2, .t (.c (.d (.raw nilV)))), (6, .t (.c (.own 5 (((xss.take i).flatten) ++ x3).length))), (25, .t (.c (.d (.sl 1 (xss.map (slD 3 Part.d)))))), (26, vi .i64 (xss.length : Int)), (27, vi .i64 (i : Int))] [(5, .row 57 3 ((((xss.take i).flatten) ++ x3).map Part.d))] (by kernel_rfl) h ?_; clear h; intro a w h
     refine block_n ?_
     refine then_n ?_
     refine rS fam0ok 6 [(0, .add .i64 (m := (i : Int)) (n := 1) (i64_id (by omega) (by omega)))] [(2, .t (.c (.d (.raw nilV)))), (6, .t (.c (.own 5 (((xss.take i).flatten) ++ x3).length))), (25, .t (.c (.d (.sl 1 (xss.map (slD 3 Part.d)))))), (26, vi .i64 (xss.length : Int)), (27, vi .i64 ((i : Int) + 1))] [(5, .row 57 3 ((((xss.take i).flatten) ++ x3).map Part.d))] (by kernel_rfl) h ?_; clear h; intro a w h
     refine then_n ?_
     have hnw : (((xss.take i).flatten) ++ x3) = ((xss.take (i + 1)).flatten) := by rw [List.take_add_one, hx3]; simp
     replace h := h.conv (f' := F.of [(2, .t (.c (.d (.raw nilV)))), (6, .t (.c (.own 5 ((xss.take (i + 1)).flatten).length))), (25, .t (.c (.d (.sl 1 (xss.map (slD 3 Part.d)))))), (26, vi .i64 (xss.length : Int)), (27, vi .i64 ((i : Int) + 1))] [(5, .row 57 3 (((xss.take (i + 1)).flatten).map Part.d))]) (by rw [hnw])
     replace h := renS 5 0 [(2, .t (.c (.d (.raw nilV)))), (6, .t (.c (.own 0 ((xss.take (i + 1)).flatten).length))), (25, .t (.c (.d (.sl 1 (xss.map (slD 3 Part.d)))))), (26, vi .i64 (xss.length : Int)), (27, vi .i64 ((i : Int) + 1))] [(0, .row 57 3 (((xss.take (i + 1)).flatten).map Part.d))] h (by kernel_rfl) (by kernel_rfl) (by kernel_rfl)
     refine roundS (x := i) (y := (i + 1)) h ?_ ?_ (by kernel_rfl) (by kernel_rfl)
     ·have := at_lt hx3; omega
     ·show xss.length - (i + 1) < xss.length - i
      have := at_lt hx3; omega
    ·have hc4 := hc; clear hc
     have hc4' := of_decide_eq_false hc4
     refine wp_exit ?_
     refine then_x ?_
     refine then_x ?_
     refine inBlock_exit ?_
     refine then_n ?_
     refine rSeq fam0ok 6 [] [(2, .t (.c (.own 0 ((xss.take i).flatten).length)))] [(0, .row 57 3 (((xss.take i).flatten).map Part.d))] (by kernel_rfl) h ?_; clear h; intro a w h
     refine wp_ret ?_
     replace h := pubS 0 3 57 (((xss.take i).flatten).map Part.d) [(2, .t (.c (.d (.sl 3 (((xss.take i).flatten).map Part.d)))))] [] h rfl (show AllEq _ [((xss.take i).flatten).length] from ⟨by first | exact (List.length_map _).symm | simp, trivial⟩) trivial (by kernel_rfl) (by kernel_rfl)
     refine retS [.c (.d (.sl 3 (((xss.take i).flatten).map Part.d)))] h Exit.ret (.inl rfl)  rfl ⟨RV.tmp _ _ rfl, trivial⟩ ?_ (by kernel_rfl) (by kernel_rfl)
     have hi : i = xss.length := by omega
     subst hi
     rw [List.take_length]; first | done | rfl
theorem STAdd (s t : Term) (hs : TOk 400 15000 s) (ht : TOk 400 15000 t) : Fn Tryz.prog 89 [] [.t (.agg ([.d (.sl 3 (s.parts.map Part.d))] ++ zi s.k)), .t (.agg ([.d (.sl 3 (t.parts.map Part.d))] ++ zi t.k))] (vd (addT s t).d) [] := by
 have ks := hs.kl
 have kt := ht.kl
 have ls := hs.len
 have lt := ht.len
 refine Fn.body Tryz.func89 rfl 18 rfl fun w H B a h => ?_
 refine rSeq fam0ok 0 [] [(2, vp 0 0), (3, vp 1 0), (4, vp 2 0)] [(0, .box ([.d (.sl 3 (s.parts.map Part.d))] ++ zi s.k)), (1, .box ([.d (.sl 3 (t.parts.map Part.d))] ++ zi t.k)), (2, .box [.d (.raw nilV), .d (.raw (.bool false)), .d (nsl [])])] (by kernel_rfl) h ?_; clear h; intro a w h
 obtain ⟨r2, er2, vr2, or2, lr2⟩ := mkZ (v := s.k.val + t.k.val) (m := s.k.abs.length + t.k.abs.length + 1) (len_add hs.kb ht.kb)
 refine rSeq fam0ok 3 [(4, .gen _ _ _ fun _ _ _ _ => Op.buildD (d := 9) (len := 2) (rows := [s.parts, t.parts].map (slD 3 Part.d)) (rs := [(6, .t (.c (.d (.sl 3 (s.parts.map Part.d))))), (8, .t (.c (.d (.sl 3 (t.parts.map Part.d)))))]) tm_4 (.cons (i := 0) (OV.tmp 6 _) (.cons (i := 1) (OV.tmp 8 _) (.nil))) (by kernel_rfl) rfl (by simp [slD]) (by decide) (by decide)), (5, .call (Fn.cast (SConcat [s.parts, t.parts] (by simp only [List.map_cons, List.map_nil, List.sum_cons, List.sum_nil]; omega) (by simp)) (show _ = (.t (.c (.d (.sl 3 ((s.parts ++ t.parts).map Part.d)))) : V) by simp)) tm_5), (10, .call (Fn.cast (SAdd s.k t.k hs.kb ht.kb (by omega) (by omega)) (congrArg vz er2.symm)) tl_9), (12, .call (SPlain (Term.mk (s.parts ++ t.parts) r2) (TOk.add hs ht r2 or2 (by have := hs.kl; have := ht.kl; omega)) (by decide) (by decide)) tm_7)] [(4, vp 2 0)] [(2, .box ([.d (.sl 3 ((plainT (Term.mk (s.parts ++ t.parts) r2)).parts.map Part.d))] ++ zi (plainT (Term.mk (s.parts ++ t.parts) r2)).k))] (by kernel_rfl) h ?_; clear h; intro a w h
 refine wp_ret ?_
 refine retS [.agg ([.d (.sl 3 ((plainT (Term.mk (s.parts ++ t.parts) r2)).parts.map Part.d))] ++ zi (plainT (Term.mk (s.parts ++ t.parts) r2)).k)] h Exit.ret (.inl rfl)  rfl ⟨RV.agg _ 2 0 _ _ _ _ tb_11 rfl rfl rfl rfl, trivial⟩ ?_ (by kernel_rfl) (by kernel_rfl)
 rw [er2]; first | done | rfl
theorem SNumber (k : ZI) (hk : Lb k.abs) (lk : k.abs.length ≤ 40000) : Fn Tryz.prog 97 [] [vz k] (vd (numT k).d) [] := by
 refine Fn.body Tryz.func97 rfl 6 rfl fun w H B a h => ?_
 refine rSeq fam0ok 0 [] [(1, vp 0 0), (2, vp 1 0)] [(0, .box (zi k)), (1, .box [.d (.raw nilV), .d (.raw (.bool false)), .d (nsl [])])] (by kernel_rfl) h ?_; clear h; intro a w h
 obtain ⟨r1, er1, vr1, or1, lr1⟩ := mkZ (v := k.val) (m := k.abs.length) (len_id hk)
 refine rSeq fam0ok 2 [(1, .call (Fn.cast (Scopied k hk (by omega)) (congrArg vz er1.symm)) tl_5)] [(2, vp 1 0)] [(1, .box ([.d (.raw nilV)] ++ zi r1))] (by kernel_rfl) h ?_; clear h; intro a w h
 refine wp_ret ?_
 replace h := nilDLs 1 0 3 ([.d (.raw nilV)] ++ zi r1) [(2, vp 1 0)] [(1, .box ([.d (.sl 3 ([].map Part.d))] ++ zi r1))] h rfl rfl (by kernel_rfl) (by kernel_rfl)
 refine retS [.agg ([.d (.sl 3 ([].map Part.d))] ++ zi r1)] h Exit.ret (.inl rfl)  rfl ⟨RV.agg _ 1 0 _ _ _ _ tb_11 rfl rfl rfl rfl, trivial⟩ ?_ (by kernel_rfl) (by kernel_rfl)
 rw [er1]; first | done | rfl
theorem SVar (v : Int)  : Fn Tryz.prog 101 [] [vi .i64 v] (vd (varT v).d) [] := by
 refine Fn.body Tryz.func101 rfl 9 rfl fun w H B a h => ?_
 refine rSeq fam0ok 0 [] [(0, vi .i64 v), (2, vp 0 0)] [(0, .box [.d (.raw nilV), .d (.raw (.bool false)), .d (nsl [])])] (by kernel_rfl) h ?_; clear h; intro a w h
 obtain ⟨r1, er1, vr1, or1, lr1⟩ := mkZ (v := 1) (m := 2) (ZI.len_of (by have := pw2; omega))
 refine rSeq fam0ok 1 [(1, .call (Fn.cast (SOf 1 ⟨by omega, by omega⟩) (congrArg vz er1.symm)) tm_10), (3, .gen _ _ _ fun _ _ _ _ => Op.buildD (d := 6) (len := 1) (rows := [(Part.mk v r1)].map Part.d) (rs := [(5, .t (.agg ([.d (.raw (.int .i64 v))] ++ zi r1)))]) tb_9 (.cons (i := 0) (OV.tmp 5 _) (.nil)) (by kernel_rfl) rfl (by simp [Part.d]) (by decide) (by decide)), (5, .call ((show Fn _ _ _ [vd (Term.mk [Part.mk v r1] ⟨false, []⟩).d] _ _ from by rw [er1]; exact SPlain (oneT v) TOk.one (by decide) (by decide))) tm_7)] [(2, vp 0 0)] [(0, .box ([.d (.sl 3 ((varT v).parts.map Part.d))] ++ zi (varT v).k))] (by kernel_rfl) h ?_; clear h; intro a w h
 refine wp_ret ?_
 refine retS [.agg ([.d (.sl 3 ((varT v).parts.map Part.d))] ++ zi (varT v).k)] h Exit.ret (.inl rfl)  rfl ⟨RV.agg _ 0 0 _ _ _ _ tb_11 rfl rfl rfl rfl, trivial⟩ ?_ (by kernel_rfl) (by kernel_rfl)
 rfl
theorem SScale (t : Term) (q : ZI) {n L M : Nat} (ht : TOk n L t) (hn : n ≤ 1000) (hq : Lb q.abs) (lq : q.abs.length ≤ M) (hL : L + M ≤ 40000) : Fn Tryz.prog 90 [] [.t (.agg ([.d (.sl 3 (t.parts.map Part.d))] ++ zi t.k)), vz q] (vd (scaleT t q).d) [] := by
 have kt := ht.kl
 have nt := ht.len
 refine Fn.body Tryz.func90 rfl 35 rfl fun w H B a h => ?_
 refine rSeq fam0ok 0 [] [(2, vp 0 0), (3, vp 1 0), (4, vp 2 0)] [(0, .box ([.d (.sl 3 (t.parts.map Part.d))] ++ zi t.k)), (1, .box (zi q)), (2, .box [.d (.raw nilV), .d (.raw (.bool false)), .d (nsl [])])] (by kernel_rfl) h ?_; clear h; intro a w h
 obtain ⟨r1, er1, vr1, or1, lr1⟩ := mkZ (v := t.k.val * q.val) (m := t.k.abs.length + q.abs.length) (len_mul ht.kb hq)
 refine rSeq fam0ok 3 [(3, .call (Fn.cast (SMul t.k q ht.kb hq (by omega) (by omega)) (congrArg vz er1.symm)) tm_12)] [(2, vp 0 0), (3, vp 1 0), (4, vp 2 0), (5, vp 3 0)] [(0, .box ([.d (.sl 3 (t.parts.map Part.d))] ++ zi t.k)), (1, .box (zi q)), (2, .box [.d (.raw nilV), .d (.raw (.bool false)), .d (nsl [])]), (3, .box ([.d (.raw nilV)] ++ zi r1))] (by kernel_rfl) h ?_; clear h; intro a w h
 refine wp_seq ?_
 replace h := nilOLs 3 0 4 3 57 ([.d (.raw nilV)] ++ zi r1) [(2, vp 0 0), (3, vp 1 0), (4, vp 2 0), (5, vp 3 0)] [(0, .box ([.d (.sl 3 (t.parts.map Part.d))] ++ zi t.k)), (1, .box (zi q)), (2, .box [.d (.raw nilV), .d (.raw (.bool false)), .d (nsl [])]), (3, .box ([.own 4 0] ++ zi r1)), (4, .row 57 3 ([].map Part.d))] h (by kernel_rfl) rfl rfl (by kernel_rfl) (by kernel_rfl)
 refine rSeq fam0ok 5 [(2, .len (c := (.d (.sl 3 (t.parts.map Part.d)))) (n := t.parts.length) (lenC_map _ _ _))] [(3, vp 1 0), (4, vp 2 0), (5, vp 3 0), (14, .t (.c (.d (.sl 3 (t.parts.map Part.d))))), (15, vi .i64 (t.parts.length : Int)), (16, vi .i64 0)] [(1, .box (zi q)), (2, .box [.d (.raw nilV), .d (.raw (.bool false)), .d (nsl [])]), (3, .box ([.own 4 0] ++ zi r1)), (4, .row 57 3 ([].map Part.d))] (by kernel_rfl) h ?_; clear h; intro a w h
 refine wp_block ?_
 refine loopS (ι := (Nat) × (List Part)) (fun (z_ : (Nat) × (List Part)) => match z_ with | (j, out) => out = (t.parts.take j).map (fun p => Part.mk p.v (ZI.of (p.c.val * q.val))) ∧ j ≤ t.parts.length ∧ out.length ≤ j)
   (fun (z_ : (Nat) × (List Part)) => match z_ with | (j, out) => [(3, vp 1 0), (4, vp 2 0), (5, vp 3 0), (14, .t (.c (.d (.sl 3 (t.parts.map Part.d))))), (15, vi .i64 (t.parts.length : Int)), (16, vi .i64 (j : Int))])
   (fun (z_ : (Nat) × (List Part)) => match z_ with | (j, out) => [(1, .box (zi q)), (2, .box [.d (.raw nilV), .d (.raw (.bool false)), .d (nsl [])]), (3, .box ([.own 4 out.length] ++ zi r1)), (4, .row 57 3 (out.map Part.d))])
   (fun (z_ : (Nat) × (List Part)) => match z_ with | (j, out) => t.parts.length - j) (0, []) ?_ h (by kernel_rfl) (by kernel_rfl) ?_
 ·exact ⟨by simp, Nat.zero_le _, Nat.zero_le _⟩
 ·clear h; rintro ⟨j, out⟩ a w hI h
  change St _ (F.of [(3, vp 1 0), (4, vp 2 0), (5, vp 3 0), (14, .t (.c (.d (.sl 3 (t.parts.map Part.d))))), (15, vi .i64 (t.parts.length : Int)), (16, vi .i64 (j : Int))] [(1, .box (zi q)), (2, .box [.d (.raw nilV), .d (.raw (.bool false)), .d (nsl [])]), (3, .box ([.own 4 out.length] ++ zi r1)), (4, .row 57 3 (out.map Part.d))]) a w at h
  obtain ⟨hI1, hI2, hI3⟩ := hI
  refine rSeq fam0ok 5 [] [(3, vp 1 0), (4, vp 2 0), (5, vp 3 0), (14, .t (.c (.d (.sl 3 (t.parts.map Part.d))))), (15, vi .i64 (t.parts.length : Int)), (16, vi .i64 (j : Int)), (17, vb (decide ((j : Int) < (t.parts.length : Int))))] [(1, .box (zi q)), (2, .box [.d (.raw nilV), .d (.raw (.bool false)), .d (nsl [])]), (3, .box ([.own 4 out.length] ++ zi r1)), (4, .row 57 3 (out.map Part.d))] (by kernel_rfl) h ?_; clear h; intro a w h
  refine wp_seq ?_
  refine condS (decide ((j : Int) < (t.parts.length : Int))) h rfl (fun hc => ?_) (fun hc => ?_)
  ·have hc1 := hc; clear hc
   have hc1' := of_decide_eq_true hc1
   refine wp_skip ?_
   refine then_n ?_
   refine wp_seq ?_
   refine wp_block ?_
   obtain ⟨x2, hx2⟩ : ∃ z_ : Part, t.parts[j]? = some z_ := ⟨_, List.getElem?_eq_getElem (by first | omega | (simp at *; omega))⟩
   obtain ⟨ox2, lx2⟩ := ht.get hx2
   refine rSeq fam0ok 5 [(0, .gen _ _ _ fun _ _ _ _ => Op.idxD (d := 18) (t := 14) (k := .i64) ta_0 (map_at hx2 (f := Part.d)) (OV.tmp 16 _))] [(3, vp 1 0), (4, vp 2 0), (5, vp 3 0), (7, vp 5 0), (14, .t (.c (.d (.sl 3 (t.parts.map Part.d))))), (15, vi .i64 (t.parts.length : Int)), (16, vi .i64 (j : Int))] [(1, .box (zi q)), (2, .box [.d (.raw nilV), .d (.raw (.bool false)), .d (nsl [])]), (3, .box ([.own 4 out.length] ++ zi r1)), (4, .row 57 3 (out.map Part.d)), (5, .box ([.d (.raw (.int .i64 x2.v))] ++ zi x2.c))] (by kernel_rfl) h ?_; clear h; intro a w h
   obtain ⟨r3, er3, vr3, or3, lr3⟩ := mkZ (v := x2.c.val * q.val) (m := x2.c.abs.length + q.abs.length) (len_mul ox2 hq)
   refine rS fam0ok 6 [(7, .call (Fn.cast (SMul x2.c q ox2 hq (by omega) (by omega)) (congrArg vz er3.symm)) tm_12), (9, .gen _ _ _ fun _ _ _ _ => Op.buildD (d := 29) (len := 1) (rows := [(Part.mk x2.v r3)].map Part.d) (rs := [(28, .t (.agg ([.d (.raw (.int .i64 x2.v))] ++ zi r3)))]) tb_9 (.cons (i := 0) (OV.tmp 28 _) (.nil)) (by kernel_rfl) rfl (by simp [Part.d]) (by decide) (by decide)), (10, .gen _ _ _ fun _ _ _ _ => Op.appOD (d := 30) (t := 21) (u := 29) (n := 4) (n' := 6) (len := out.length) (len' := (out ++ [(Part.mk x2.v r3)]).length) (rows := out.map Part.d) (rows2 := [(Part.mk x2.v r3)].map Part.d) (rows' := (out ++ [(Part.mk x2.v r3)]).map Part.d) tb_10 (by first | exact (List.length_map _).symm | simp) (by first | (rw [List.length_append, List.length_map]; done) | simp) (by simp) (by simp [Part.d]) (by first | omega | (simp at *; done) | (simp at *; omega)))] [(3, vp 1 0), (4, vp 2 0), (5, vp 3 0), (14, .t (.c (.d (.sl 3 (t.parts.map Part.d))))), (15, vi .i64 (t.parts.length : Int)), (16, vi .i64 (j : Int))] [(1, .box (zi q)), (2, .box [.d (.raw nilV), .d (.raw (.bool false)), .d (nsl [])]), (3, .box ([.own 6 (out ++ [(Part.mk x2.v r3)]).length] ++ zi r1)), (6, .row 57 3 ((out ++ [(Part.mk x2.v r3)]).map Part.d))] (by kernel_rfl) h ?_; clear h; intro a w h
   refine block_n ?_
   refine then_n ?_
   refine rS fam0ok 7 [(0, .add .i64 (m := (j : Int)) (n := 1) (i64_id (by omega) (by omega)))] [(3, vp 1 0), (4, vp 2 0), (5, vp 3 0), (14, .t (.c (.d (.sl 3 (t.parts.map Part.d))))), (15, vi .i64 (t.parts.length : Int)), (16, vi .i64 ((j : Int) + 1))] [(1, .box (zi q)), (2, .box [.d (.raw nilV), .d (.raw (.bool false)), .d (nsl [])]), (3, .box ([.own 6 (out ++ [(Part.mk x2.v r3)]).length] ++ zi r1)), (6, .row 57 3 ((out ++ [(Part.mk x2.v r3)]).map Part.d))] (by kernel_rfl) h ?_; clear h; intro a w h
   refine then_n ?_
   replace h := renS 6 4 [(3, vp 1 0), (4, vp 2 0), (5, vp 3 0), (14, .t (.c (.d (.sl 3 (t.parts.map Part.d))))), (15, vi .i64 (t.parts.length : Int)), (16, vi .i64 ((j : Int) + 1))] [(1, .box (zi q)), (2, .box [.d (.raw nilV), .d (.raw (.bool false)), .d (nsl [])]), (3, .box ([.own 4 (out ++ [(Part.mk x2.v r3)]).length] ++ zi r1)), (4, .row 57 3 ((out ++ [(Part.mk x2.v r3)]).map Part.d))] h (by kernel_rfl) (by kernel_rfl) (by kernel_rfl)
   refine roundS (x := (j, out)) (y := (j + 1, (out ++ [(Part.mk x2.v r3)]))) h ?_ ?_ (by kernel_rfl) (by kernel_rfl)
   ·refine ⟨?_, by have := at_lt hx2; omega, by simp; omega⟩
    rw [take_map hx2, ← hI1, er3]
   ·simp; omega
  ·have hc2 := hc; clear hc
   have hc2' := of_decide_eq_false hc2
   refine wp_exit ?_
   refine then_x ?_
   refine then_x ?_
   refine inBlock_exit ?_
   refine then_n ?_
   have hj : j = t.parts.length := by have := hc2'; omega
   rw [hj, List.take_length] at hI1
   have hq2 : Term.mk out r1 = mulT t q := by rw [hI1, er1]; first | done | rfl
   replace h := pubS 4 3 57 (out.map Part.d) [(3, vp 1 0), (4, vp 2 0), (5, vp 3 0), (14, .t (.c (.d (.sl 3 (t.parts.map Part.d))))), (15, vi .i64 (t.parts.length : Int)), (16, vi .i64 (j : Int)), (17, vb (decide ((j : Int) < (t.parts.length : Int))))] [(1, .box (zi q)), (2, .box [.d (.raw nilV), .d (.raw (.bool false)), .d (nsl [])]), (3, .box ([.d (.sl 3 (out.map Part.d))] ++ zi r1))] h rfl trivial (show AllEq _ [out.length] from ⟨by first | exact (List.length_map _).symm | simp, trivial⟩) (by kernel_rfl) (by kernel_rfl)
   refine rSeq fam0ok 7 [(1, .call ((show Fn _ _ _ [vd (Term.mk out r1).d] _ _ from by rw [hq2]; exact SPlain (mulT t q) (TOk.mul ht hq lq) (by omega) (by omega))) tm_7)] [(4, vp 2 0)] [(2, .box ([.d (.sl 3 ((scaleT t q).parts.map Part.d))] ++ zi (scaleT t q).k))] (by kernel_rfl) h ?_; clear h; intro a w h
   refine wp_ret ?_
   refine retS [.agg ([.d (.sl 3 ((scaleT t q).parts.map Part.d))] ++ zi (scaleT t q).k)] h Exit.ret (.inl rfl)  rfl ⟨RV.agg _ 2 0 _ _ _ _ tb_11 rfl rfl rfl rfl, trivial⟩ ?_ (by kernel_rfl) (by kernel_rfl)
   rfl
theorem SNeg3 (t : Term) (ht : TOk 400 10000 t) : Fn Tryz.prog 137 [] [.t (.agg ([.d (.sl 3 (t.parts.map Part.d))] ++ zi t.k))] (vd (negT t).d) [] := by
 refine Fn.body Tryz.func137 rfl 6 rfl fun w H B a h => ?_
 refine rSeq fam0ok 0 [] [(1, vp 0 0), (2, vp 1 0)] [(0, .box ([.d (.sl 3 (t.parts.map Part.d))] ++ zi t.k)), (1, .box [.d (.raw nilV), .d (.raw (.bool false)), .d (nsl [])])] (by kernel_rfl) h ?_; clear h; intro a w h
 obtain ⟨r1, er1, vr1, or1, lr1⟩ := mkZ (v := (-1)) (m := 2) (ZI.len_of (by have := pw2; omega))
 refine rSeq fam0ok 2 [(1, .call (Fn.cast (SOf (-1) ⟨by omega, by omega⟩) (congrArg vz er1.symm)) tm_10), (2, .call (SScale t r1 ht (by decide) or1 lr1 (by decide)) tm_13)] [(2, vp 1 0)] [(1, .box ([.d (.sl 3 ((scaleT t r1).parts.map Part.d))] ++ zi (scaleT t r1).k))] (by kernel_rfl) h ?_; clear h; intro a w h
 refine wp_ret ?_
 refine retS [.agg ([.d (.sl 3 ((scaleT t r1).parts.map Part.d))] ++ zi (scaleT t r1).k)] h Exit.ret (.inl rfl)  rfl ⟨RV.agg _ 1 0 _ _ _ _ tb_11 rfl rfl rfl rfl, trivial⟩ ?_ (by kernel_rfl) (by kernel_rfl)
 rw [er1]; first | done | rfl
theorem STSub (s t : Term) (hs : TOk 400 10000 s) (ht : TOk 400 10000 t) : Fn Tryz.prog 96 [] [.t (.agg ([.d (.sl 3 (s.parts.map Part.d))] ++ zi s.k)), .t (.agg ([.d (.sl 3 (t.parts.map Part.d))] ++ zi t.k))] (vd (subT s t).d) [] := by
 refine Fn.body Tryz.func96 rfl 9 rfl fun w H B a h => ?_
 refine rSeq fam0ok 0 [] [(2, vp 0 0), (3, vp 1 0), (4, vp 2 0)] [(0, .box ([.d (.sl 3 (s.parts.map Part.d))] ++ zi s.k)), (1, .box ([.d (.sl 3 (t.parts.map Part.d))] ++ zi t.k)), (2, .box [.d (.raw nilV), .d (.raw (.bool false)), .d (nsl [])])] (by kernel_rfl) h ?_; clear h; intro a w h
 refine rSeq fam0ok 3 [(2, .call (SNeg3 t (ht.mono (by decide) (by decide))) tm_14), (3, .call (STAdd s (negT t) (hs.mono (by decide) (by decide)) (((TOk.mul ht (ZI.lb_of _) (show (ZI.of (-1)).abs.length ≤ 2 from by decide)).plain (by decide)).mono (by decide) (by decide))) tm_15)] [(4, vp 2 0)] [(2, .box ([.d (.sl 3 ((addT s (negT t)).parts.map Part.d))] ++ zi (addT s (negT t)).k))] (by kernel_rfl) h ?_; clear h; intro a w h
 refine wp_ret ?_
 refine retS [.agg ([.d (.sl 3 ((addT s (negT t)).parts.map Part.d))] ++ zi (addT s (negT t)).k)] h Exit.ret (.inl rfl)  rfl ⟨RV.agg _ 2 0 _ _ _ _ tb_11 rfl rfl rfl rfl, trivial⟩ ?_ (by kernel_rfl) (by kernel_rfl)
 rfl
end Go.Proofs.YtoklkfmffmonoaaGreat.S
end
section
namespace Go.Proofs.YtoklkfmffmonoaaGreat.S
open Go.RowKit

theorem tn_1 : SlT Tryz.prog 98 2 1 := SlT.mk' Tryz.underlying98 (by kernel_rfl)
theorem tn_5 : Bodied Tryz.prog 84 := Bodied.mk' (by kernel_rfl)
theorem plainT_eq {t u : Term} (h1 : SR u.parts) (h2 : ∀ q ∈ u.parts, 0 ≤ q.v ∧ q.c = ZI.of q.c.val ∧ q.c.val ≠ 0) (h3 : ∀ v, coefZ t.parts v = coefZ u.parts v) (h4 : u.k = ZI.of t.k.val) : plainT t = u := by
 obtain ⟨v1, v2⟩ := varsZ_ok t.parts
 have hp : (varsZ t.parts).map (partOf t.parts) = u.parts := by
  refine SR.unique (List.pairwise_map.2 v1) h1 (fun q hq => ?_) h2 fun v => ?_
  ·obtain ⟨v, hv, rfl⟩ := List.mem_map.1 hq
   have hv := (v2 v).1 hv
   exact ⟨(coefZ_some hv).1, by simp [partOf, ZI.val_of], by simpa [partOf, ZI.val_of] using hv⟩
  ·rw [← h3 v]
   by_cases hv : 0 ≤ v
   ·rw [coefZ_map t.parts v hv v1]
    by_cases h : v ∈ varsZ t.parts
    ·rw [if_pos h]
    ·rw [if_neg h]; exact (Classical.byContradiction fun e => h ((v2 v).2 fun e2 => e e2.symm))
   ·have z1 : coefZ t.parts v = 0 := Classical.byContradiction fun e => hv (coefZ_some e).1
    have z2 : coefZ ((varsZ t.parts).map (partOf t.parts)) v = 0 := Classical.byContradiction fun e => hv (coefZ_some e).1
    rw [z1, z2]
 cases u with
 | mk ps k =>
  simp only at hp h4
  unfold plainT
  rw [h4, ← hp]; rfl
theorem plainT_parts (t : Term) : SR (plainT t).parts ∧ (∀ q ∈ (plainT t).parts, 0 ≤ q.v ∧ q.c = ZI.of q.c.val ∧ q.c.val ≠ 0) ∧ ∀ v, coefZ (plainT t).parts v = coefZ t.parts v := by
 obtain ⟨v1, v2⟩ := varsZ_ok t.parts
 refine ⟨List.pairwise_map.2 v1, fun q hq => ?_, fun v => ?_⟩
 ·obtain ⟨v, hv, rfl⟩ := List.mem_map.1 hq
  have hv := (v2 v).1 hv
  exact ⟨(coefZ_some hv).1, by simp [ZI.val_of], by simpa [ZI.val_of] using hv⟩
 ·show coefZ ((varsZ t.parts).map (partOf t.parts)) v = _
  by_cases hv : 0 ≤ v
  ·rw [coefZ_map t.parts v hv v1]
   by_cases h : v ∈ varsZ t.parts
   ·rw [if_pos h]
   ·rw [if_neg h]; exact (Classical.byContradiction fun e => h ((v2 v).2 fun e2 => e e2.symm))
  ·have z1 : coefZ t.parts v = 0 := Classical.byContradiction fun e => hv (coefZ_some e).1
   have z2 : coefZ ((varsZ t.parts).map (partOf t.parts)) v = 0 := Classical.byContradiction fun e => hv (coefZ_some e).1
   rw [z1, z2]
end Go.Proofs.YtoklkfmffmonoaaGreat.S
end
section
namespace Go.Proofs.YtoklkfmffmonoaaGreat.S

def idxI (v : Int) : List Int → Nat → Int
  | [], _ => -1
  | x :: xs, n => if v = x then n else idxI v xs (n + 1)
end Go.Proofs.YtoklkfmffmonoaaGreat.S
end
section
namespace Go.Proofs.YtoklkfmffmonoaaGreat.S
open Go.RowKit

theorem to_0 : Bodied Tryz.prog 101 := Bodied.mk' (by kernel_rfl)
theorem to_1 : ElZ Tryz.prog 98 2 1 := ElZ.mk' Tryz.underlying98 _ _ rfl rfl (by kernel_rfl) (by kernel_rfl) (by kernel_rfl) (by decide)
theorem to_7 : Bodied Tryz.prog 97 := Bodied.mk' (by kernel_rfl)
theorem to_9 : Bodied Tryz.prog 96 := Bodied.mk' (by kernel_rfl)
end Go.Proofs.YtoklkfmffmonoaaGreat.S
end
section
namespace Go.Proofs.YtoklkfmffmonoaaGreat.S
open Go.RowKit

section
variable {P : Program}
theorem Op.raw2c {b : Builtin} {d : Nat} {x y : Operand} {v v' u : Value} {rs rs' : List (Nat × V)} {tys : Array TypeId} {ty : TypeId} {pos af gd} (h : OV x (.t (.c (.d (.raw v)))) rs) (h' : OV y (.t (.c (.d (.raw v')))) rs') (hf : flat u = true)
  (hrun : ∀ (cs : Array Bool) w, (builtin b tys ty cs #[v, v']).run P w = .ok (.value u) w) : OpOk P ⟨some d, .call { callee := .builtin b, args := #[x, y], argTypes := tys }, ty, pos, af, gd⟩ { rs := rs ++ rs', ws := [(d, some (.t (.c (.d (.raw u)))))] } :=
 Op.raw2 rfl h h' hf fun ρ w h1 h2 => by
  have e1 : (Array.map ρ #[x, y]) = #[ρ x, ρ y] := by simp
  simp only [execOp, resolve, e1, h1, h2, Sem.run_bind, Sem.run_pure, Result.andThen_ok, invoke, hrun]
theorem Op.max2 {d : Nat} {x y : Operand} {k : IntKind} {m n r : Int} {rs rs' : List (Nat × V)} {tys : Array TypeId} {ty : TypeId} {pos af gd} (h : OV x (vi k m) rs) (h' : OV y (vi k n) rs') (he : r = max m n) :
  OpOk P ⟨some d, .call { callee := .builtin .max, args := #[x, y], argTypes := tys }, ty, pos, af, gd⟩ { rs := rs ++ rs', ws := [(d, some (vi k r))] } := by
 subst he
 refine Op.raw2c h h' rfl fun cs w => ?_
 by_cases hc : m < n
 ·simp [builtin, Builtin.max_, Builtin.max2, hc, Int.max_eq_right (Int.le_of_lt hc)]
 ·simp [builtin, Builtin.max_, Builtin.max2, hc, Int.max_eq_left (Int.not_lt.1 hc)]
theorem Op.makeF1 {d t : Nat} {fn : Go.Fn} {x : A} {ty : TypeId} {pos af gd} :
  OpOk P ⟨some d, .makeFunc fn #[] #[.tmp t], ty, pos, af, gd⟩ { rs := [(t, .t (.c x.c))], ws := [(d, some (.t (.c (.fn fn [] [x]))))] } :=
 OpOk.value d _ rfl rfl rfl fun e f H B a w hok hr => by
  have h1 : CR H B x.c (a.eval (.tmp t)) := hok.slot t _ (hr.1 (t, .t (.c x.c)) (by simp))
  refine ⟨.func fn #[] #[a.eval (.tmp t)], ?_, [], [a.eval (.tmp t)], rfl, trivial, ?_, trivial⟩
  ·simp [execOp, Instr.makeFunc]
  ·cases x <;> exact h1
end
end Go.Proofs.YtoklkfmffmonoaaGreat.S
end
