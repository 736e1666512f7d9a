/-
  Numbers with a sign, of layer 2 and of its reference.
-/
import Derived.Test.YtekhnajfdaknnaaSigI
import Derived.Test.YtekhnajfdaknnaaSgn
namespace Go.Proofs.Ytekhnajfdaknnaa.S
open Go.RowKit

theorem ia_0 : Bodied Try.prog 73 := Bodied.mk' (by kernel_rfl)
theorem ia_1 : Sz Try.prog 26 2 true := Sz.mk' (by kernel_rfl) Try.underlying26 _ rfl
theorem ia_2 : Bodied Try.prog 67 := Bodied.mk' (by kernel_rfl)
theorem ia_3 : Bodied Try.prog 55 := Bodied.mk' (by kernel_rfl)
theorem ia_4 : Bodied Try.prog 47 := Bodied.mk' (by kernel_rfl)
theorem ia_5 : Bodied Try.prog 59 := Bodied.mk' (by kernel_rfl)
theorem ia_6 : Bodied Try.prog 56 := Bodied.mk' (by kernel_rfl)
theorem ia_7 : Bodied Try.prog 57 := Bodied.mk' (by kernel_rfl)
theorem ia_8 : Bodied Try.prog 64 := Bodied.mk' (by kernel_rfl)
def ia_tb : Tb := [(4, ⟨1, false, [], [.d (.raw (.bool false))], 3⟩), (24, ⟨1, false, [], [.d (nsl [])], 1⟩), (26, ⟨2, true, [(0, 1, false), (1, 1, false)], [.d (.raw (.bool false)), .d (nsl [])], 0⟩)]
theorem ia_ok : TbOk Try.prog ia_tb := ⟨TyOk.bl Try.underlying4 (by kernel_rfl) ⟨(.bool false : Value), [.bool false], by kernel_rfl, rfl, (fun _ _ => ⟨DR.raw _ rfl, trivial⟩)⟩,
  TyOk.slc Try.underlying24 (by kernel_rfl) ⟨(.slice none 0 0 : Value), [.slice none 0 0], by kernel_rfl, rfl, (fun _ _ => ⟨DR.nil _ _ _ (fun _ => rfl) (Nat.zero_le _), trivial⟩)⟩,
  TyOk.st Try.underlying26 (by kernel_rfl) ⟨⟨by decide, Fd.mk' _ _ Try.underlying26 rfl rfl (Sz.mk' (by kernel_rfl) Try.underlying4 _ rfl)⟩, ⟨by decide, Fd.mk' _ _ Try.underlying26 rfl rfl (Sz.mk' (by kernel_rfl) Try.underlying24 _ rfl)⟩, trivial⟩ ⟨(Value.agg #[.bool false, .slice none 0 0]), [.bool false, .slice none 0 0], by kernel_rfl, rfl, (fun _ _ => ⟨DR.raw _ rfl, DR.nil _ _ _ (fun _ => rfl) (Nat.zero_le _), trivial⟩)⟩ ⟨_, Try.underlying26, ⟨⟨rfl, by kernel_rfl⟩, ⟨rfl, by kernel_rfl⟩, trivial⟩⟩,
  trivial⟩
theorem nadd_lt {xs ys : List Nat} (hx : Lb xs) (hy : Lb ys) : Go.Proofs.Ytekhnajfdaknnaa.val xs + Go.Proofs.Ytekhnajfdaknnaa.val ys < pw (xs.length + ys.length + 1) := add_lt_pw hx hy (by omega) (by omega)
theorem nmul_lt {xs ys : List Nat} (hx : Lb xs) (hy : Lb ys) : Go.Proofs.Ytekhnajfdaknnaa.val xs * Go.Proofs.Ytekhnajfdaknnaa.val ys < pw (xs.length + ys.length) := mul_lt_pw (val_lt hx) (val_lt hy)
theorem ZI.of_iv {s : Bool} {zs : List Nat} (h : 0 < zs.length) {n : Nat} (e : zs = lbs n) : (⟨s, zs⟩ : ZI) = ZI.of (iv s zs) := ZI.of_eq ⟨by rw [e]; exact lbs_canon n, fun h0 => by omega⟩ rfl
theorem ZI.of_iv0 {s : Bool} {zs : List Nat} (h : zs.length = 0) : (⟨false, zs⟩ : ZI) = ZI.of (iv s zs) := by
  have : zs = [] := List.length_eq_zero_iff.1 h
  subst this
  rw [iv_nil]; rfl
theorem iv_of {s : Bool} {zs us : List Nat} (h : Go.Proofs.Ytekhnajfdaknnaa.val zs = Go.Proofs.Ytekhnajfdaknnaa.val us) : iv s zs = iv s us := by unfold iv; rw [h]
theorem from_true {zs n1 : List Nat} (e : n1 = lbs (Go.Proofs.Ytekhnajfdaknnaa.val zs)) : (⟨decide ((n1.length : Int) > 0), n1⟩ : ZI) = ZI.of (iv true zs) := by
  subst e
  refine ZI.of_eq ⟨lbs_canon _, fun h => by simp [h]⟩ ?_
  by_cases h : (lbs (Go.Proofs.Ytekhnajfdaknnaa.val zs)).length = 0
  · have h1 := List.length_eq_zero_iff.1 h
    have h2 := lbs_val (Go.Proofs.Ytekhnajfdaknnaa.val zs)
    rw [h1] at h2 ⊢
    rw [iv_nil]; unfold iv; rw [← h2]; rfl
  · have h1 : ((lbs (Go.Proofs.Ytekhnajfdaknnaa.val zs)).length : Int) > 0 := by omega
    simp only [h1, decide_true]
    exact iv_of (lbs_val _)
theorem from_false {zs n1 : List Nat} (e : n1 = lbs (Go.Proofs.Ytekhnajfdaknnaa.val zs)) : (⟨false, n1⟩ : ZI) = ZI.of (iv false zs) := by
  subst e
  exact ZI.of_eq ⟨lbs_canon _, fun _ => rfl⟩ (iv_of (lbs_val _))
theorem from_some {s : Bool} {zs n1 : List Nat} (e : n1 = lbs (Go.Proofs.Ytekhnajfdaknnaa.val zs)) (h : n1.length ≠ 0) : (⟨s, n1⟩ : ZI) = ZI.of (iv s zs) := by
  subst e
  exact ZI.of_eq ⟨lbs_canon _, fun h0 => absurd h0 h⟩ (iv_of (lbs_val _))
theorem from_none {s : Bool} {zs n1 : List Nat} (e : n1 = lbs (Go.Proofs.Ytekhnajfdaknnaa.val zs)) (h : n1.length = 0) : (⟨false, []⟩ : ZI) = ZI.of (iv s zs) := by
  subst e
  have h1 := List.length_eq_zero_iff.1 h
  have h2 := lbs_val (Go.Proofs.Ytekhnajfdaknnaa.val zs)
  rw [h1] at h2
  have : iv s zs = 0 := by unfold iv; rw [← h2]; cases s <;> rfl
  rw [this]; rfl
set_option maxRecDepth 100000 in
theorem SFrom (s : Bool) (zs : List Nat) (hz : Lb zs) (lz : zs.length ≤ 100000) : Fn Try.prog 55 [] [vb s, vn zs] (vz (ZI.of (iv s zs))) [] := by
  refine Fn.body Try.func55 rfl 15 rfl fun w H B a h => ?_
  refine rSeq ia_ok 0 [] [(0, vb s), (1, vn zs), (4, vp 0 0)] [(0, .box [.d (.raw (.bool false)), .d (nsl [])])] (by kernel_rfl) h ?_; clear h; intro a w h
  obtain ⟨n1, en1, vn1, on1, ln1⟩ := mkN (v := Go.Proofs.Ytekhnajfdaknnaa.val zs) (m := zs.length) (val_lt hz)
  refine rSeq ia_ok 1 [(1, .call (Fn.cast (SnTrim zs hz (by omega)) (congrArg vn en1.symm)) ia_0)] [(0, vb s), (1, vn n1), (4, vp 0 0)] [(0, .box [.d (.raw (.bool false)), .d (nsl [])])] (by kernel_rfl) h ?_; clear h; intro a w h
  rcases Bool.eq_false_or_eq_true s with hc | hc
  · have hc1 := hc; clear hc
    rw [hc1] at h
    refine rSeq ia_ok 1 [(3, .len (nsl_len n1))] [(4, vp 0 0)] [(0, .box [.d (.raw (.bool (decide ((n1.length : Int) > 0)))), .d (nsl n1)])] (by kernel_rfl) h ?_; clear h; intro a w h
    refine wp_ret ?_
    refine retS [.agg [.d (.raw (.bool (decide ((n1.length : Int) > 0)))), .d (nsl n1)]] h Exit.ret (.inl rfl)  rfl ⟨RV.agg _ 0 0 _ _ _ _ ia_1 rfl rfl rfl rfl, trivial⟩ ?_ (by kernel_rfl) (by kernel_rfl)
    rw [hc1, ← from_true en1]; first | done | rfl
  · have hc2 := hc; clear hc
    rw [hc2] at h
    refine rSeq ia_ok 1 [] [(4, vp 0 0)] [(0, .box [.d (.raw (.bool false)), .d (nsl n1)])] (by kernel_rfl) h ?_; clear h; intro a w h
    refine wp_ret ?_
    refine retS [.agg [.d (.raw (.bool false)), .d (nsl n1)]] h Exit.ret (.inl rfl)  rfl ⟨RV.agg _ 0 0 _ _ _ _ ia_1 rfl rfl rfl rfl, trivial⟩ ?_ (by kernel_rfl) (by kernel_rfl)
    rw [hc2, ← from_false en1]; first | done | rfl
set_option maxRecDepth 100000 in
theorem SRFrom (s : Bool) (zs : List Nat) (hz : Lb zs) (lz : zs.length ≤ 100000) : Fn Try.prog 47 [] [vb s, vn zs] (vz (ZI.of (iv s zs))) [] := by
  refine Fn.body Try.func47 rfl 15 rfl fun w H B a h => ?_
  refine rSeq ia_ok 0 [] [(0, vb s), (1, vn zs), (4, vp 0 0)] [(0, .box [.d (.raw (.bool false)), .d (nsl [])])] (by kernel_rfl) h ?_; clear h; intro a w h
  obtain ⟨n1, en1, vn1, on1, ln1⟩ := mkN (v := Go.Proofs.Ytekhnajfdaknnaa.val zs) (m := zs.length) (val_lt hz)
  refine rSeq ia_ok 1 [(1, .call (Fn.cast (SRnTrim zs hz (by omega)) (congrArg vn en1.symm)) ia_2)] [(0, vb s), (4, vp 0 0), (5, vn n1)] [(0, .box [.d (.raw (.bool false)), .d (nsl [])])] (by kernel_rfl) h ?_; clear h; intro a w h
  refine wp_seq ?_
  refine rSeq ia_ok 1 [(1, .len (nsl_len n1))] [(0, vb s), (4, vp 0 0), (5, vn n1), (10, vb ((n1.length : Int) == 0))] [(0, .box [.d (.raw (.bool false)), .d (nsl [])])] (by kernel_rfl) h ?_; clear h; intro a w h
  refine condS ((n1.length : Int) == 0) h rfl (fun hc => ?_) (fun hc => ?_)
  · have hc1 := hc; clear hc
    have hc1' := hc1; (try simp at hc1')
    refine rSeq ia_ok 1 [] [(0, vb s), (4, vp 0 0), (5, vn n1)] [(0, .box [.d (.raw (.bool false)), .d (nsl [])])] (by kernel_rfl) h ?_; clear h; intro a w h
    refine wp_ret ?_
    refine then_r ?_
    refine retS [.agg [.d (.raw (.bool false)), .d (nsl [])]] h Exit.ret (.inl rfl)  rfl ⟨RV.agg _ 0 0 _ _ _ _ ia_1 rfl rfl rfl rfl, trivial⟩ ?_ (by kernel_rfl) (by kernel_rfl)
    rw [← from_none en1 (by simpa using hc1)]; first | done | rfl
  · have hc2 := hc; clear hc
    have hc2' := hc2; (try simp at hc2')
    refine wp_skip ?_
    refine then_n ?_
    refine rSeq ia_ok 1 [] [(4, vp 0 0)] [(0, .box [.d (.raw (.bool s)), .d (nsl n1)])] (by kernel_rfl) h ?_; clear h; intro a w h
    refine wp_ret ?_
    refine retS [.agg [.d (.raw (.bool s)), .d (nsl n1)]] h Exit.ret (.inl rfl)  rfl ⟨RV.agg _ 0 0 _ _ _ _ ia_1 rfl rfl rfl rfl, trivial⟩ ?_ (by kernel_rfl) (by kernel_rfl)
    rw [← from_some en1 (by simpa using hc2)]; first | done | rfl
set_option maxRecDepth 100000 in
theorem SClean (x : ZI) (hx : Lb x.abs) (lx : x.abs.length ≤ 100000) : Fn Try.prog 59 [] [vz x] (vz (ZI.of (x.val))) [] := by
  refine Fn.body Try.func59 rfl 8 rfl fun w H B a h => ?_
  refine rSeq ia_ok 0 [] [(1, vp 0 0), (2, vp 1 0)] [(0, .box (zi x)), (1, .box [.d (.raw (.bool false)), .d (nsl [])])] (by kernel_rfl) h ?_; clear h; intro a w h
  obtain ⟨r1, er1, vr1, or1, lr1⟩ := mkZ (v := iv x.neg x.abs) (m := x.abs.length) (len_iv hx)
  refine rSeq ia_ok 2 [(4, .call (Fn.cast (SFrom x.neg x.abs hx (by omega)) (congrArg vz er1.symm)) ia_3)] [(2, vp 1 0)] [(1, .box (zi r1))] (by kernel_rfl) h ?_; clear h; intro a w h
  refine wp_ret ?_
  refine retS [.agg (zi r1)] h Exit.ret (.inl rfl)  rfl ⟨RV.agg _ 1 0 _ _ _ _ ia_1 rfl rfl rfl rfl, trivial⟩ ?_ (by kernel_rfl) (by kernel_rfl)
  rw [er1]; first | done | rfl
set_option maxRecDepth 100000 in
theorem SRClean (x : ZI) (hx : Lb x.abs) (lx : x.abs.length ≤ 100000) : Fn Try.prog 38 [] [vz x] (vz (ZI.of (x.val))) [] := by
  refine Fn.body Try.func38 rfl 8 rfl fun w H B a h => ?_
  refine rSeq ia_ok 0 [] [(1, vp 0 0), (2, vp 1 0)] [(0, .box (zi x)), (1, .box [.d (.raw (.bool false)), .d (nsl [])])] (by kernel_rfl) h ?_; clear h; intro a w h
  obtain ⟨r1, er1, vr1, or1, lr1⟩ := mkZ (v := iv x.neg x.abs) (m := x.abs.length) (len_iv hx)
  refine rSeq ia_ok 2 [(4, .call (Fn.cast (SRFrom x.neg x.abs hx (by omega)) (congrArg vz er1.symm)) ia_4)] [(2, vp 1 0)] [(1, .box (zi r1))] (by kernel_rfl) h ?_; clear h; intro a w h
  refine wp_ret ?_
  refine retS [.agg (zi r1)] h Exit.ret (.inl rfl)  rfl ⟨RV.agg _ 1 0 _ _ _ _ ia_1 rfl rfl rfl rfl, trivial⟩ ?_ (by kernel_rfl) (by kernel_rfl)
  rw [er1]; first | done | rfl
theorem sign_neg {x r : ZI} (e : r = ZI.of x.val) (h : r.neg = true) : (-1 : Int) = sgn x.val := by
  rw [e] at h; exact (sgn_neg (of_decide_eq_true h)).symm
theorem sign_pos {x r : ZI} (e : r = ZI.of x.val) (h : r.neg = false) (hl : (r.abs.length : Int) > 0) : (1 : Int) = sgn x.val := by
  rw [e] at h hl
  have h1 : ¬ x.val < 0 := of_decide_eq_false h
  have h2 : x.val ≠ 0 := fun h0 => by have := ZI.abs_nil.2 h0; omega
  exact (sgn_pos (by omega)).symm
theorem sign_zero {x r : ZI} (e : r = ZI.of x.val) (hl : ¬ (r.abs.length : Int) > 0) : (0 : Int) = sgn x.val := by
  rw [e] at hl
  exact (sgn_zero (ZI.abs_nil.1 (by omega))).symm
set_option maxRecDepth 100000 in
theorem SSign (x : ZI) (hx : Lb x.abs) (lx : x.abs.length ≤ 100000) : Fn Try.prog 37 [] [vz x] (vi .i64 (sgn x.val)) [] := by
  refine Fn.body Try.func37 rfl 13 rfl fun w H B a h => ?_
  refine rSeq ia_ok 0 [] [(1, vp 0 0), (2, vi .i64 0)] [(0, .box (zi x))] (by kernel_rfl) h ?_; clear h; intro a w h
  obtain ⟨r1, er1, vr1, or1, lr1⟩ := mkZ (v := x.val) (m := x.abs.length) (len_id hx)
  refine rSeq ia_ok 1 [(1, .call (Fn.cast (SClean x hx (by omega)) (congrArg vz er1.symm)) ia_5)] [(1, vp 0 0), (2, vi .i64 0)] [(0, .box (zi r1))] (by kernel_rfl) h ?_; clear h; intro a w h
  refine wp_seq ?_
  refine wp_block ?_
  refine rSeq ia_ok 1 [] [(1, vp 0 0), (2, vi .i64 0), (5, vb r1.neg)] [(0, .box (zi r1))] (by kernel_rfl) h ?_; clear h; intro a w h
  refine condS r1.neg h rfl (fun hc => ?_) (fun hc => ?_)
  · have hc1 := hc; clear hc
    refine rSeq ia_ok 1 [] [(2, vi .i64 (-1))] [] (by kernel_rfl) h ?_; clear h; intro a w h
    refine wp_ret ?_
    refine block_r ?_
    refine then_r ?_
    refine retS [.c (.d (.raw (.int .i64 (-1))))] h Exit.ret (.inl rfl)  rfl ⟨RV.tmp _ _ rfl, trivial⟩ ?_ (by kernel_rfl) (by kernel_rfl)
    rw [← sign_neg er1 hc1]; first | done | rfl
  · have hc2 := hc; clear hc
    refine rSeq ia_ok 1 [(2, .len (nsl_len r1.abs))] [(2, vi .i64 0), (8, vb (decide ((r1.abs.length : Int) > 0)))] [] (by kernel_rfl) h ?_; clear h; intro a w h
    refine condS (decide ((r1.abs.length : Int) > 0)) h rfl (fun hc => ?_) (fun hc => ?_)
    · have hc3 := hc; clear hc
      have hc3' := of_decide_eq_true hc3
      refine rSeq ia_ok 1 [] [(2, vi .i64 1)] [] (by kernel_rfl) h ?_; clear h; intro a w h
      refine wp_ret ?_
      refine block_r ?_
      refine then_r ?_
      refine retS [.c (.d (.raw (.int .i64 1)))] h Exit.ret (.inl rfl)  rfl ⟨RV.tmp _ _ rfl, trivial⟩ ?_ (by kernel_rfl) (by kernel_rfl)
      rw [← sign_pos er1 hc2 hc3']; first | done | rfl
    · have hc4 := hc; clear hc
      have hc4' := of_decide_eq_false hc4
      refine wp_skip ?_
      refine block_n ?_
      refine then_n ?_
      refine rSeq ia_ok 1 [] [(2, vi .i64 0)] [] (by kernel_rfl) h ?_; clear h; intro a w h
      refine wp_ret ?_
      refine retS [.c (.d (.raw (.int .i64 0)))] h Exit.ret (.inl rfl)  rfl ⟨RV.tmp _ _ rfl, trivial⟩ ?_ (by kernel_rfl) (by kernel_rfl)
      rw [← sign_zero er1 hc4']; first | done | rfl
theorem rsign {x : ZI} {n1 : List Nat} (e : n1 = lbs (Go.Proofs.Ytekhnajfdaknnaa.val x.abs)) : (n1.length = 0 → (0 : Int) = sgn x.val) ∧ (n1.length ≠ 0 → x.neg = true → (-1 : Int) = sgn x.val) ∧ (n1.length ≠ 0 → x.neg = false → (1 : Int) = sgn x.val) := by
  have hv := lbs_val (Go.Proofs.Ytekhnajfdaknnaa.val x.abs)
  have hz : n1.length = 0 ↔ Go.Proofs.Ytekhnajfdaknnaa.val x.abs = 0 := by
    subst e
    constructor
    · intro h; rw [List.length_eq_zero_iff.1 h] at hv; exact hv.symm
    · intro h; rw [h]; rfl
  unfold ZI.val
  refine ⟨fun h => ?_, fun h k => ?_, fun h k => ?_⟩
  · rw [sgn_zero (by unfold iv; rw [hz.1 h]; cases x.neg <;> rfl)]
  · rw [sgn_neg (by unfold iv; rw [k]; have := mt hz.2 h; simp; omega)]
  · rw [sgn_pos (by unfold iv; rw [k]; have := mt hz.2 h; simp; omega)]
set_option maxRecDepth 100000 in
theorem SRSign (x : ZI) (hx : Lb x.abs) (lx : x.abs.length ≤ 100000) : Fn Try.prog 60 [] [vz x] (vi .i64 (sgn x.val)) [] := by
  refine Fn.body Try.func60 rfl 10 rfl fun w H B a h => ?_
  refine rSeq ia_ok 0 [] [(1, vp 0 0), (2, vi .i64 0)] [(0, .box (zi x))] (by kernel_rfl) h ?_; clear h; intro a w h
  refine wp_seq ?_
  obtain ⟨n1, en1, vn1, on1, ln1⟩ := mkN (v := Go.Proofs.Ytekhnajfdaknnaa.val x.abs) (m := x.abs.length) (val_lt hx)
  refine rSeq ia_ok 1 [(2, .call (Fn.cast (SRnTrim x.abs hx (by omega)) (congrArg vn en1.symm)) ia_2), (3, .len (nsl_len n1))] [(1, vp 0 0), (2, vi .i64 0), (7, vb ((n1.length : Int) == 0))] [(0, .box (zi x))] (by kernel_rfl) h ?_; clear h; intro a w h
  refine condS ((n1.length : Int) == 0) h rfl (fun hc => ?_) (fun hc => ?_)
  · have hc1 := hc; clear hc
    have hc1' := hc1; (try simp at hc1')
    refine rSeq ia_ok 1 [] [(1, vp 0 0), (2, vi .i64 0)] [(0, .box (zi x))] (by kernel_rfl) h ?_; clear h; intro a w h
    refine wp_ret ?_
    refine then_r ?_
    refine retS [.c (.d (.raw (.int .i64 0)))] h Exit.ret (.inl rfl)  rfl ⟨RV.tmp _ _ rfl, trivial⟩ ?_ (by kernel_rfl) (by kernel_rfl)
    rw [← (rsign en1).1 (by simpa using hc1)]; first | done | rfl
  · have hc2 := hc; clear hc
    have hc2' := hc2; (try simp at hc2')
    refine wp_skip ?_
    refine then_n ?_
    refine wp_seq ?_
    refine rSeq ia_ok 1 [] [(2, vi .i64 0), (9, vb x.neg)] [] (by kernel_rfl) h ?_; clear h; intro a w h
    refine condS x.neg h rfl (fun hc => ?_) (fun hc => ?_)
    · have hc3 := hc; clear hc
      refine rSeq ia_ok 1 [] [(2, vi .i64 (-1))] [] (by kernel_rfl) h ?_; clear h; intro a w h
      refine wp_ret ?_
      refine then_r ?_
      refine retS [.c (.d (.raw (.int .i64 (-1))))] h Exit.ret (.inl rfl)  rfl ⟨RV.tmp _ _ rfl, trivial⟩ ?_ (by kernel_rfl) (by kernel_rfl)
      rw [← (rsign en1).2.1 (by simpa using hc2) hc3]; first | done | rfl
    · have hc4 := hc; clear hc
      refine wp_skip ?_
      refine then_n ?_
      refine rSeq ia_ok 1 [] [(2, vi .i64 1)] [] (by kernel_rfl) h ?_; clear h; intro a w h
      refine wp_ret ?_
      refine retS [.c (.d (.raw (.int .i64 1)))] h Exit.ret (.inl rfl)  rfl ⟨RV.tmp _ _ rfl, trivial⟩ ?_ (by kernel_rfl) (by kernel_rfl)
      rw [← (rsign en1).2.2 (by simpa using hc2) hc4]; first | done | rfl
theorem iv_same {s : Bool} {xs ys n : List Nat} (h : Go.Proofs.Ytekhnajfdaknnaa.val n = Go.Proofs.Ytekhnajfdaknnaa.val xs + Go.Proofs.Ytekhnajfdaknnaa.val ys) : iv s n = iv s xs + iv s ys := by unfold iv; rw [h]; cases s <;> simp <;> omega
theorem iv_ge {s t : Bool} {xs ys n : List Nat} (hne : s ≠ t) (hle : Go.Proofs.Ytekhnajfdaknnaa.val ys ≤ Go.Proofs.Ytekhnajfdaknnaa.val xs) (h : Go.Proofs.Ytekhnajfdaknnaa.val n = Go.Proofs.Ytekhnajfdaknnaa.val xs - Go.Proofs.Ytekhnajfdaknnaa.val ys) : iv s n = iv s xs + iv t ys := by unfold iv; rw [h]; cases s <;> cases t <;> simp_all <;> omega
theorem iv_lt {s t : Bool} {xs ys n : List Nat} (hne : s ≠ t) (hle : Go.Proofs.Ytekhnajfdaknnaa.val xs ≤ Go.Proofs.Ytekhnajfdaknnaa.val ys) (h : Go.Proofs.Ytekhnajfdaknnaa.val n = Go.Proofs.Ytekhnajfdaknnaa.val ys - Go.Proofs.Ytekhnajfdaknnaa.val xs) : iv t n = iv s xs + iv t ys := by unfold iv; rw [h]; cases s <;> cases t <;> simp_all <;> omega
theorem iv_times {s t : Bool} {xs ys n : List Nat} (h : Go.Proofs.Ytekhnajfdaknnaa.val n = Go.Proofs.Ytekhnajfdaknnaa.val xs * Go.Proofs.Ytekhnajfdaknnaa.val ys) : iv (s != t) n = iv s xs * iv t ys := by unfold iv; rw [h, Int.natCast_mul]; cases s <;> cases t <;> simp [Int.neg_mul, Int.mul_neg]
set_option maxRecDepth 100000 in
theorem SAdd (x y : ZI) (hx : Lb x.abs) (hy : Lb y.abs) (lx : x.abs.length ≤ 49000) (ly : y.abs.length ≤ 49000) : Fn Try.prog 34 [] [vz x, vz y] (vz (ZI.of (x.val + y.val))) [] := by
  refine Fn.body Try.func34 rfl 47 rfl fun w H B a h => ?_
  refine rSeq ia_ok 0 [] [(2, vp 0 0), (3, vp 1 0), (4, vp 2 0)] [(0, .box (zi x)), (1, .box (zi y)), (2, .box [.d (.raw (.bool false)), .d (nsl [])])] (by kernel_rfl) h ?_; clear h; intro a w h
  refine wp_seq ?_
  refine rSeq ia_ok 3 [] [(2, vp 0 0), (3, vp 1 0), (4, vp 2 0), (13, vb (x.neg == y.neg))] [(0, .box (zi x)), (1, .box (zi y)), (2, .box [.d (.raw (.bool false)), .d (nsl [])])] (by kernel_rfl) h ?_; clear h; intro a w h
  refine condS (x.neg == y.neg) h rfl (fun hc => ?_) (fun hc => ?_)
  · have hc1 := hc; clear hc
    have hc1' := hc1; (try simp at hc1')
    obtain ⟨n1, en1, vn1, on1, ln1⟩ := mkN (v := Go.Proofs.Ytekhnajfdaknnaa.val x.abs + Go.Proofs.Ytekhnajfdaknnaa.val y.abs) (m := x.abs.length + y.abs.length + 1) (nadd_lt hx hy)
    obtain ⟨r2, er2, vr2, or2, lr2⟩ := mkZ (v := iv x.neg n1) (m := n1.length) (len_iv on1)
    refine rSeq ia_ok 3 [(6, .call (Fn.cast (SnAdd x.abs y.abs hx hy (by omega) (by omega)) (congrArg vn en1.symm)) ia_6), (7, .call (Fn.cast (SFrom x.neg n1 on1 (by omega)) (congrArg vz er2.symm)) ia_3)] [(2, vp 0 0), (3, vp 1 0), (4, vp 2 0)] [(0, .box (zi x)), (1, .box (zi y)), (2, .box (zi r2))] (by kernel_rfl) h ?_; clear h; intro a w h
    refine wp_ret ?_
    refine then_r ?_
    refine retS [.agg (zi r2)] h Exit.ret (.inl rfl)  rfl ⟨RV.agg _ 2 0 _ _ _ _ ia_1 rfl rfl rfl rfl, trivial⟩ ?_ (by kernel_rfl) (by kernel_rfl)
    have e1 : x.neg = y.neg := by simpa using hc1
    rw [er2, iv_same vn1]; show vz (ZI.of (iv x.neg x.abs + iv x.neg y.abs)) = vz (ZI.of (iv x.neg x.abs + iv y.neg y.abs)); rw [e1]
  · have hc2 := hc; clear hc
    have hc2' := hc2; (try simp at hc2')
    refine wp_skip ?_
    refine then_n ?_
    refine wp_seq ?_
    obtain ⟨n3, en3, vn3, on3, ln3⟩ := mkN (v := Go.Proofs.Ytekhnajfdaknnaa.val x.abs - Go.Proofs.Ytekhnajfdaknnaa.val y.abs) (m := x.abs.length) (Nat.lt_of_le_of_lt (Nat.sub_le _ _) (val_lt hx))
    refine rSeq ia_ok 3 [(4, .call (Fn.cast (SnSub x.abs y.abs hx hy (by omega) (by omega)) (show _ = (.tup [.c (.d (nsl n3)), .c (.d (.raw (.bool (decide (Go.Proofs.Ytekhnajfdaknnaa.val y.abs ≤ Go.Proofs.Ytekhnajfdaknnaa.val x.abs)))))] : V) by rw [en3])) ia_7)] [(2, vp 0 0), (3, vp 1 0), (4, vp 2 0), (5, vn n3), (6, vb (decide (Go.Proofs.Ytekhnajfdaknnaa.val y.abs ≤ Go.Proofs.Ytekhnajfdaknnaa.val x.abs)))] [(0, .box (zi x)), (1, .box (zi y)), (2, .box [.d (.raw (.bool false)), .d (nsl [])])] (by kernel_rfl) h ?_; clear h; intro a w h
    refine rSeq ia_ok 3 [] [(2, vp 0 0), (3, vp 1 0), (4, vp 2 0), (5, vn n3), (30, vb (decide (Go.Proofs.Ytekhnajfdaknnaa.val y.abs ≤ Go.Proofs.Ytekhnajfdaknnaa.val x.abs)))] [(0, .box (zi x)), (1, .box (zi y)), (2, .box [.d (.raw (.bool false)), .d (nsl [])])] (by kernel_rfl) h ?_; clear h; intro a w h
    refine condS (decide (Go.Proofs.Ytekhnajfdaknnaa.val y.abs ≤ Go.Proofs.Ytekhnajfdaknnaa.val x.abs)) h rfl (fun hc => ?_) (fun hc => ?_)
    · have hc3 := hc; clear hc
      have hc3' := of_decide_eq_true hc3
      obtain ⟨r4, er4, vr4, or4, lr4⟩ := mkZ (v := iv x.neg n3) (m := n3.length) (len_iv on3)
      refine rSeq ia_ok 3 [(3, .call (Fn.cast (SFrom x.neg n3 on3 (by omega)) (congrArg vz er4.symm)) ia_3)] [(2, vp 0 0), (3, vp 1 0), (4, vp 2 0)] [(0, .box (zi x)), (1, .box (zi y)), (2, .box (zi r4))] (by kernel_rfl) h ?_; clear h; intro a w h
      refine wp_ret ?_
      refine then_r ?_
      refine retS [.agg (zi r4)] h Exit.ret (.inl rfl)  rfl ⟨RV.agg _ 2 0 _ _ _ _ ia_1 rfl rfl rfl rfl, trivial⟩ ?_ (by kernel_rfl) (by kernel_rfl)
      rw [er4, iv_ge (t := y.neg) (ys := y.abs) (by simpa using hc2) hc3' vn3]; first | done | rfl
    · have hc4 := hc; clear hc
      have hc4' := of_decide_eq_false hc4
      refine wp_skip ?_
      refine then_n ?_
      obtain ⟨n5, en5, vn5, on5, ln5⟩ := mkN (v := Go.Proofs.Ytekhnajfdaknnaa.val y.abs - Go.Proofs.Ytekhnajfdaknnaa.val x.abs) (m := y.abs.length) (Nat.lt_of_le_of_lt (Nat.sub_le _ _) (val_lt hy))
      refine rSeq ia_ok 3 [(4, .call (Fn.cast (SnSub y.abs x.abs hy hx (by omega) (by omega)) (show _ = (.tup [.c (.d (nsl n5)), .c (.d (.raw (.bool (decide (Go.Proofs.Ytekhnajfdaknnaa.val x.abs ≤ Go.Proofs.Ytekhnajfdaknnaa.val y.abs)))))] : V) by rw [en5])) ia_7)] [(3, vp 1 0), (4, vp 2 0), (7, vn n5)] [(1, .box (zi y)), (2, .box [.d (.raw (.bool false)), .d (nsl [])])] (by kernel_rfl) h ?_; clear h; intro a w h
      obtain ⟨r6, er6, vr6, or6, lr6⟩ := mkZ (v := iv y.neg n5) (m := n5.length) (len_iv on5)
      refine rSeq ia_ok 3 [(3, .call (Fn.cast (SFrom y.neg n5 on5 (by omega)) (congrArg vz er6.symm)) ia_3)] [(4, vp 2 0)] [(2, .box (zi r6))] (by kernel_rfl) h ?_; clear h; intro a w h
      refine wp_ret ?_
      refine retS [.agg (zi r6)] h Exit.ret (.inl rfl)  rfl ⟨RV.agg _ 2 0 _ _ _ _ ia_1 rfl rfl rfl rfl, trivial⟩ ?_ (by kernel_rfl) (by kernel_rfl)
      rw [er6, iv_lt (s := x.neg) (xs := x.abs) (by simpa using hc2) (by have := hc4'; omega) vn5]; first | done | rfl
set_option maxRecDepth 100000 in
theorem SMul (x y : ZI) (hx : Lb x.abs) (hy : Lb y.abs) (lx : x.abs.length ≤ 49000) (ly : y.abs.length ≤ 49000) : Fn Try.prog 44 [] [vz x, vz y] (vz (ZI.of (x.val * y.val))) [] := by
  refine Fn.body Try.func44 rfl 16 rfl fun w H B a h => ?_
  refine rSeq ia_ok 0 [] [(2, vp 0 0), (3, vp 1 0), (4, vp 2 0)] [(0, .box (zi x)), (1, .box (zi y)), (2, .box [.d (.raw (.bool false)), .d (nsl [])])] (by kernel_rfl) h ?_; clear h; intro a w h
  obtain ⟨n1, en1, vn1, on1, ln1⟩ := mkN (v := Go.Proofs.Ytekhnajfdaknnaa.val x.abs * Go.Proofs.Ytekhnajfdaknnaa.val y.abs) (m := x.abs.length + y.abs.length) (nmul_lt hx hy)
  obtain ⟨r2, er2, vr2, or2, lr2⟩ := mkZ (v := iv (x.neg != y.neg) n1) (m := n1.length) (len_iv on1)
  refine rSeq ia_ok 3 [(9, .call (Fn.cast (SnMul x.abs y.abs hx hy (by omega) (by omega)) (congrArg vn en1.symm)) ia_8), (10, .call (Fn.cast (SFrom (x.neg != y.neg) n1 on1 (by omega)) (congrArg vz er2.symm)) ia_3)] [(4, vp 2 0)] [(2, .box (zi r2))] (by kernel_rfl) h ?_; clear h; intro a w h
  refine wp_ret ?_
  refine retS [.agg (zi r2)] h Exit.ret (.inl rfl)  rfl ⟨RV.agg _ 2 0 _ _ _ _ ia_1 rfl rfl rfl rfl, trivial⟩ ?_ (by kernel_rfl) (by kernel_rfl)
  rw [er2, iv_times vn1]; first | done | rfl
end Go.Proofs.Ytekhnajfdaknnaa.S
