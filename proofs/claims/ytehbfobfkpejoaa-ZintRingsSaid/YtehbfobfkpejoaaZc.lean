/-
  Lcm and Bezout of both.
-/
import Derived.Test.YtehbfobfkpejoaaZb
namespace Go.Proofs.Ytehbfobfkpejoaa.S
open Go.RowKit

theorem zc_0 : Bodied Try.prog 57 := Bodied.mk' (by kernel_rfl)
theorem zc_1 : Bodied Try.prog 30 := Bodied.mk' (by kernel_rfl)
theorem zc_2 : Sz Try.prog 25 2 true := Sz.mk' (by kernel_rfl) Try.underlying25 _ rfl
theorem zc_3 : Bodied Try.prog 34 := Bodied.mk' (by kernel_rfl)
theorem zc_4 : Bodied Try.prog 46 := Bodied.mk' (by kernel_rfl)
theorem zc_5 : Bodied Try.prog 27 := Bodied.mk' (by kernel_rfl)
theorem zc_6 : Bodied Try.prog 31 := Bodied.mk' (by kernel_rfl)
theorem zc_7 : Bodied Try.prog 35 := Bodied.mk' (by kernel_rfl)
theorem zc_8 : Bodied Try.prog 28 := Bodied.mk' (by kernel_rfl)
theorem zc_9 : Bodied Try.prog 58 := Bodied.mk' (by kernel_rfl)
theorem zc_10 : Bodied Try.prog 47 := Bodied.mk' (by kernel_rfl)
theorem zc_11 : Bodied Try.prog 25 := Bodied.mk' (by kernel_rfl)
theorem zc_12 : Sz Try.prog 77 6 true := Sz.mk' (by kernel_rfl) Try.underlying77 _ rfl
theorem zc_13 : Bodied Try.prog 40 := Bodied.mk' (by kernel_rfl)
theorem zc_14 : Bodied Try.prog 82 := Bodied.mk' (by kernel_rfl)
theorem zc_15 : Bodied Try.prog 32 := Bodied.mk' (by kernel_rfl)
theorem zc_16 : Bodied Try.prog 41 := Bodied.mk' (by kernel_rfl)
theorem zc_17 : Bodied Try.prog 26 := Bodied.mk' (by kernel_rfl)
theorem zc_18 : Bodied Try.prog 33 := Bodied.mk' (by kernel_rfl)
def zc_tb : Tb := [(4, ⟨1, false, [], [.d (.raw (.bool false))], 3⟩), (23, ⟨1, false, [], [.d (nsl [])], 1⟩), (25, ⟨2, true, [(0, 1, false), (1, 1, false)], [.d (.raw (.bool false)), .d (nsl [])], 0⟩), (77, ⟨6, true, [(0, 2, true), (2, 2, true), (4, 2, true)], [.d (.raw (.bool false)), .d (nsl []), .d (.raw (.bool false)), .d (nsl []), .d (.raw (.bool false)), .d (nsl [])], 0⟩)]
theorem zc_ok : TbOk Try.prog zc_tb := ⟨TyOk.bl Try.underlying4 (by kernel_rfl) ⟨(.bool false : Value), [.bool false], by kernel_rfl, rfl, (fun _ _ => ⟨DR.raw _ rfl, trivial⟩)⟩,
  TyOk.slc Try.underlying23 (by kernel_rfl) ⟨(.slice none 0 0 : Value), [.slice none 0 0], by kernel_rfl, rfl, (fun _ _ => ⟨DR.nil _ _ _ (fun _ => rfl) (Nat.zero_le _), trivial⟩)⟩,
  TyOk.st Try.underlying25 (by kernel_rfl) ⟨⟨by decide, Fd.mk' _ _ Try.underlying25 rfl rfl (Sz.mk' (by kernel_rfl) Try.underlying4 _ rfl)⟩, ⟨by decide, Fd.mk' _ _ Try.underlying25 rfl rfl (Sz.mk' (by kernel_rfl) Try.underlying23 _ rfl)⟩, trivial⟩ ⟨(Value.agg #[.bool false, .slice none 0 0]), [.bool false, .slice none 0 0], by kernel_rfl, rfl, (fun _ _ => ⟨DR.raw _ rfl, DR.nil _ _ _ (fun _ => rfl) (Nat.zero_le _), trivial⟩)⟩ ⟨_, Try.underlying25, ⟨⟨rfl, by kernel_rfl⟩, ⟨rfl, by kernel_rfl⟩, trivial⟩⟩,
  TyOk.st Try.underlying77 (by kernel_rfl) ⟨⟨by decide, Fd.mk' _ _ Try.underlying77 rfl rfl (Sz.mk' (by kernel_rfl) Try.underlying25 _ rfl)⟩, ⟨by decide, Fd.mk' _ _ Try.underlying77 rfl rfl (Sz.mk' (by kernel_rfl) Try.underlying25 _ rfl)⟩, ⟨by decide, Fd.mk' _ _ Try.underlying77 rfl rfl (Sz.mk' (by kernel_rfl) Try.underlying25 _ rfl)⟩, trivial⟩ ⟨(Value.agg #[.bool false, .slice none 0 0, .bool false, .slice none 0 0, .bool false, .slice none 0 0]), [.bool false, .slice none 0 0, .bool false, .slice none 0 0, .bool false, .slice none 0 0], by kernel_rfl, rfl, (fun _ _ => ⟨DR.raw _ rfl, DR.nil _ _ _ (fun _ => rfl) (Nat.zero_le _), DR.raw _ rfl, DR.nil _ _ _ (fun _ => rfl) (Nat.zero_le _), DR.raw _ rfl, DR.nil _ _ _ (fun _ => rfl) (Nat.zero_le _), trivial⟩)⟩ ⟨_, Try.underlying77, ⟨⟨rfl, by kernel_rfl⟩, ⟨rfl, by kernel_rfl⟩, ⟨rfl, by kernel_rfl⟩, trivial⟩⟩,
  trivial⟩
theorem ne_of_sgn {z : Int} (h : (sgn z == 0) = false) : z ≠ 0 := fun e => by rw [sgn_zero e] at h; cases h
theorem eq_of_sgn {z : Int} (h : (sgn z == 0) = true) : z = 0 := sgn_eq0.1 (by simpa using h)
theorem ne_of_sgn' {z : Int} (h : (sgn z != 0) = true) : z ≠ 0 := fun e => by rw [sgn_zero e] at h; cases h
theorem eq_of_sgn' {z : Int} (h : (sgn z != 0) = false) : z = 0 := sgn_eq0.1 (by simpa using h)
theorem lcm_div (m n : Nat) (_h : Nat.gcd m n ≠ 0) : ((m : Int).fdiv (Nat.gcd m n : Int)) * (n : Int) = (Nat.lcm m n : Int) := by
  rw [← Int.ofNat_fdiv, ← Int.natCast_mul]
  congr 1
  unfold Nat.lcm
  rw [Nat.mul_comm m n, Nat.mul_div_assoc _ (Nat.gcd_dvd_left m n), Nat.mul_comm]
theorem lcm_div2 (m n : Nat) : (((m : Int) * (n : Int)).fdiv (Nat.gcd m n : Int)) = (Nat.lcm m n : Int) := by
  rw [← Int.natCast_mul, ← Int.ofNat_fdiv]; first | done | rfl
set_option maxRecDepth 100000 in
theorem SLcm (x y : ZI) (hx : Lb x.abs) (hy : Lb y.abs) (lx : x.abs.length ≤ 5000) (ly : y.abs.length ≤ 5000) : Fn Try.prog 59 [] [vz x, vz y] (vz (ZI.of (Nat.lcm x.val.natAbs y.val.natAbs : Int))) [] := by
  refine Fn.body Try.func59 rfl 28 rfl fun w H B a h => ?_
  refine rSeq zc_ok 0 [] [(2, vp 0 0), (3, vp 1 0), (4, vp 2 0)] [(0, .box (zi x)), (1, .box (zi y)), (2, .box [.d (.raw (.bool false)), .d (nsl [])])] (by kernel_rfl) h ?_; clear h; intro a w h
  obtain ⟨r1, er1, vr1, or1, lr1⟩ := mkZ (v := (Nat.gcd x.val.natAbs y.val.natAbs : Int)) (m := x.abs.length + y.abs.length) (len_gcd hx hy)
  refine rSeq zc_ok 3 [(2, .call (Fn.cast (SGcd x y hx hy (by omega) (by omega)) (congrArg vz er1.symm)) zc_0)] [(2, vp 0 0), (3, vp 1 0), (4, vp 2 0), (5, vp 3 0)] [(0, .box (zi x)), (1, .box (zi y)), (2, .box [.d (.raw (.bool false)), .d (nsl [])]), (3, .box (zi r1))] (by kernel_rfl) h ?_; clear h; intro a w h
  refine wp_seq ?_
  refine rSeq zc_ok 4 [(1, .call (SSign r1 or1 (by omega)) zc_1)] [(2, vp 0 0), (3, vp 1 0), (4, vp 2 0), (5, vp 3 0), (14, vb (sgn r1.val == 0))] [(0, .box (zi x)), (1, .box (zi y)), (2, .box [.d (.raw (.bool false)), .d (nsl [])]), (3, .box (zi r1))] (by kernel_rfl) h ?_; clear h; intro a w h
  refine condS (sgn r1.val == 0) h rfl (fun hc => ?_) (fun hc => ?_)
  · have hc1 := hc; clear hc
    have hc1' := hc1; (try simp at hc1')
    refine rSeq zc_ok 4 [] [(2, vp 0 0), (3, vp 1 0), (4, vp 2 0), (5, vp 3 0)] [(0, .box (zi x)), (1, .box (zi y)), (2, .box (zi r1)), (3, .box (zi r1))] (by kernel_rfl) h ?_; clear h; intro a w h
    refine wp_ret ?_
    refine then_r ?_
    refine retS [.agg (zi r1)] h Exit.ret (.inl rfl)  rfl ⟨RV.agg _ 2 0 _ _ _ _ zc_2 rfl rfl rfl rfl, trivial⟩ ?_ (by kernel_rfl) (by kernel_rfl)
    have h0 := eq_of_sgn hc1
    rw [vr1] at h0
    have h1 : Nat.gcd x.val.natAbs y.val.natAbs = 0 := by omega
    rw [er1, show Nat.lcm x.val.natAbs y.val.natAbs = 0 by unfold Nat.lcm; rw [h1, Nat.div_zero], h1]; first | done | rfl
  · have hc2 := hc; clear hc
    have hc2' := hc2; (try simp at hc2')
    refine wp_skip ?_
    refine then_n ?_
    obtain ⟨r3, er3, vr3, or3, lr3⟩ := mkZ (v := (x.val.natAbs : Int)) (m := x.abs.length) (len_abs hx)
    obtain ⟨r4q, er4q, vr4q, or4q, lr4q⟩ := mkZ (v := r3.val.fdiv r1.val) (m := r3.abs.length) (len_fdiv or3 (ne_of_sgn hc2))
    obtain ⟨r4r, er4r, vr4r, or4r, lr4r⟩ := mkZ (v := r3.val.fmod r1.val) (m := r1.abs.length) (len_fmod or1 (ne_of_sgn hc2))
    refine rSeq zc_ok 4 [(1, .call (Fn.cast (SAbs x hx (by omega)) (congrArg vz er3.symm)) zc_3), (3, .call (Fn.cast (SDiv r3 r1 or3 or1 (by omega) (by omega) (ne_of_sgn hc2)) (show _ = (.tup [.agg (zi r4q), .agg (zi r4r), .c (.d (.raw (.int .i64 0)))] : V) by rw [er4q, er4r]; first | done | rfl)) zc_4)] [(3, vp 1 0), (4, vp 2 0), (6, vp 4 0)] [(1, .box (zi y)), (2, .box [.d (.raw (.bool false)), .d (nsl [])]), (4, .box (zi r4q))] (by kernel_rfl) h ?_; clear h; intro a w h
    obtain ⟨r5, er5, vr5, or5, lr5⟩ := mkZ (v := (y.val.natAbs : Int)) (m := y.abs.length) (len_abs hy)
    obtain ⟨r6, er6, vr6, or6, lr6⟩ := mkZ (v := r4q.val * r5.val) (m := r4q.abs.length + r5.abs.length) (len_mul or4q or5)
    refine rSeq zc_ok 6 [(2, .call (Fn.cast (SAbs y hy (by omega)) (congrArg vz er5.symm)) zc_3), (3, .call (Fn.cast (SMul r4q r5 or4q or5 (by omega) (by omega)) (congrArg vz er6.symm)) zc_5)] [(4, vp 2 0)] [(2, .box (zi r6))] (by kernel_rfl) h ?_; clear h; intro a w h
    refine wp_ret ?_
    refine retS [.agg (zi r6)] h Exit.ret (.inl rfl)  rfl ⟨RV.agg _ 2 0 _ _ _ _ zc_2 rfl rfl rfl rfl, trivial⟩ ?_ (by kernel_rfl) (by kernel_rfl)
    have h0 := ne_of_sgn hc2
    rw [vr1] at h0
    have h1 := lcm_div x.val.natAbs y.val.natAbs (by omega)
    rw [er6, vr4q, vr3, vr1, vr5, h1]; first | done | rfl
set_option maxRecDepth 100000 in
theorem SRLcm (x y : ZI) (hx : Lb x.abs) (hy : Lb y.abs) (lx : x.abs.length ≤ 5000) (ly : y.abs.length ≤ 5000) : Fn Try.prog 60 [] [vz x, vz y] (vz (ZI.of (Nat.lcm x.val.natAbs y.val.natAbs : Int))) [] := by
  refine Fn.body Try.func60 rfl 31 rfl fun w H B a h => ?_
  refine rSeq zc_ok 0 [] [(2, vp 0 0), (3, vp 1 0), (4, vp 2 0)] [(0, .box (zi x)), (1, .box (zi y)), (2, .box [.d (.raw (.bool false)), .d (nsl [])])] (by kernel_rfl) h ?_; clear h; intro a w h
  refine wp_seq ?_
  rcases Bool.eq_false_or_eq_true (sgn x.val == 0) with hc | hc
  · have hc1 := hc; clear hc
    have hc1' := hc1; (try simp at hc1')
    refine rSeq zc_ok 3 [(1, .call (SRSign x hx (by omega)) zc_6), (2, .cmp (op := .eql) (m := (sgn x.val)) (n := 0) (b := true) .i64 hc1)] [(2, vp 0 0), (3, vp 1 0), (4, vp 2 0), (15, vb true)] [(0, .box (zi x)), (1, .box (zi y)), (2, .box [.d (.raw (.bool false)), .d (nsl [])])] (by kernel_rfl) h ?_; clear h; intro a w h
    refine condS true h rfl (fun hc => ?_) (fun hc => ?_)
    · clear hc
      refine rSeq zc_ok 3 [] [(2, vp 0 0), (3, vp 1 0), (4, vp 2 0)] [(0, .box (zi x)), (1, .box (zi y)), (2, .box [.d (.raw (.bool false)), .d (nsl [])])] (by kernel_rfl) h ?_; clear h; intro a w h
      refine wp_ret ?_
      refine then_r ?_
      refine retS [.agg [.d (.raw (.bool false)), .d (nsl [])]] h Exit.ret (.inl rfl)  rfl ⟨RV.agg _ 2 0 _ _ _ _ zc_2 rfl rfl rfl rfl, trivial⟩ ?_ (by kernel_rfl) (by kernel_rfl)
      have h0 : x.val = 0 ∨ y.val = 0 := by first | exact .inl (eq_of_sgn hc1) | exact .inr (eq_of_sgn hc1)
      have h1 : Nat.lcm x.val.natAbs y.val.natAbs = 0 := by rcases h0 with h | h <;> rw [h] <;> simp
      rw [h1]; first | done | rfl
    · cases hc
  · have hc2 := hc; clear hc
    have hc2' := hc2; (try simp at hc2')
    refine rSeq zc_ok 3 [(1, .call (SRSign x hx (by omega)) zc_6), (2, .cmp (op := .eql) (m := (sgn x.val)) (n := 0) (b := false) .i64 hc2), (5, .call (SRSign y hy (by omega)) zc_6)] [(2, vp 0 0), (3, vp 1 0), (4, vp 2 0), (15, vb (sgn y.val == 0))] [(0, .box (zi x)), (1, .box (zi y)), (2, .box [.d (.raw (.bool false)), .d (nsl [])])] (by kernel_rfl) h ?_; clear h; intro a w h
    refine condS (sgn y.val == 0) h rfl (fun hc => ?_) (fun hc => ?_)
    · have hc3 := hc; clear hc
      have hc3' := hc3; (try simp at hc3')
      refine rSeq zc_ok 3 [] [(2, vp 0 0), (3, vp 1 0), (4, vp 2 0)] [(0, .box (zi x)), (1, .box (zi y)), (2, .box [.d (.raw (.bool false)), .d (nsl [])])] (by kernel_rfl) h ?_; clear h; intro a w h
      refine wp_ret ?_
      refine then_r ?_
      refine retS [.agg [.d (.raw (.bool false)), .d (nsl [])]] h Exit.ret (.inl rfl)  rfl ⟨RV.agg _ 2 0 _ _ _ _ zc_2 rfl rfl rfl rfl, trivial⟩ ?_ (by kernel_rfl) (by kernel_rfl)
      have h0 : x.val = 0 ∨ y.val = 0 := by first | exact .inl (eq_of_sgn hc3) | exact .inr (eq_of_sgn hc3)
      have h1 : Nat.lcm x.val.natAbs y.val.natAbs = 0 := by rcases h0 with h | h <;> rw [h] <;> simp
      rw [h1]; first | done | rfl
    · have hc4 := hc; clear hc
      have hc4' := hc4; (try simp at hc4')
      refine wp_skip ?_
      refine then_n ?_
      obtain ⟨r4, er4, vr4, or4, lr4⟩ := mkZ (v := (x.val.natAbs : Int)) (m := x.abs.length) (len_abs hx)
      obtain ⟨r5, er5, vr5, or5, lr5⟩ := mkZ (v := (y.val.natAbs : Int)) (m := y.abs.length) (len_abs hy)
      obtain ⟨r6, er6, vr6, or6, lr6⟩ := mkZ (v := r4.val * r5.val) (m := r4.abs.length + r5.abs.length) (len_mul or4 or5)
      obtain ⟨r7, er7, vr7, or7, lr7⟩ := mkZ (v := (Nat.gcd x.val.natAbs y.val.natAbs : Int)) (m := x.abs.length + y.abs.length) (len_gcd hx hy)
      obtain ⟨r8q, er8q, vr8q, or8q, lr8q⟩ := mkZ (v := r6.val.fdiv r7.val) (m := r6.abs.length) (len_fdiv or6 (by have h1 := ne_of_sgn hc2; have h2 := ne_of_sgn hc4; have h3 : 0 < Nat.gcd x.val.natAbs y.val.natAbs := Nat.gcd_pos_of_pos_left _ (by omega); rw [vr7]; omega))
      obtain ⟨r8r, er8r, vr8r, or8r, lr8r⟩ := mkZ (v := r6.val.fmod r7.val) (m := r7.abs.length) (len_fmod or7 (by have h1 := ne_of_sgn hc2; have h2 := ne_of_sgn hc4; have h3 : 0 < Nat.gcd x.val.natAbs y.val.natAbs := Nat.gcd_pos_of_pos_left _ (by omega); rw [vr7]; omega))
      refine rSeq zc_ok 3 [(1, .call (Fn.cast (SRAbs x hx (by omega)) (congrArg vz er4.symm)) zc_7), (3, .call (Fn.cast (SRAbs y hy (by omega)) (congrArg vz er5.symm)) zc_7), (4, .call (Fn.cast (SRMul r4 r5 or4 or5 (by omega) (by omega)) (congrArg vz er6.symm)) zc_8), (7, .call (Fn.cast (SRGcd x y hx hy (by omega) (by omega)) (congrArg vz er7.symm)) zc_9), (8, .call (Fn.cast (SRDiv r6 r7 or6 or7 (by omega) (by omega) (by have h1 := ne_of_sgn hc2; have h2 := ne_of_sgn hc4; have h3 : 0 < Nat.gcd x.val.natAbs y.val.natAbs := Nat.gcd_pos_of_pos_left _ (by omega); rw [vr7]; omega)) (show _ = (.tup [.agg (zi r8q), .agg (zi r8r), .c (.d (.raw (.int .i64 0)))] : V) by rw [er8q, er8r]; first | done | rfl)) zc_10)] [(4, vp 2 0), (5, vp 3 0)] [(2, .box [.d (.raw (.bool false)), .d (nsl [])]), (3, .box (zi r8q))] (by kernel_rfl) h ?_; clear h; intro a w h
      refine rSeq zc_ok 5 [] [(4, vp 2 0)] [(2, .box (zi r8q))] (by kernel_rfl) h ?_; clear h; intro a w h
      refine wp_ret ?_
      refine retS [.agg (zi r8q)] h Exit.ret (.inl rfl)  rfl ⟨RV.agg _ 2 0 _ _ _ _ zc_2 rfl rfl rfl rfl, trivial⟩ ?_ (by kernel_rfl) (by kernel_rfl)
      rw [er8q, vr6, vr4, vr5, vr7, lcm_div2]; first | done | rfl
structure BzZ (x y r0 x0 y0 r1 x1 y1 : ZI) : Prop where
  c0 : r0 = ZI.of r0.val
  c1 : x0 = ZI.of x0.val
  c2 : y0 = ZI.of y0.val
  c3 : r1 = ZI.of r1.val
  c4 : x1 = ZI.of x1.val
  c5 : y1 = ZI.of y1.val
  i : BzI (x.val.natAbs : Int) (y.val.natAbs : Int) r0.val x0.val y0.val r1.val x1.val y1.val
  u0 : r0.val ≤ (x.val.natAbs : Int) + y.val.natAbs
  u1 : r1.val ≤ (x.val.natAbs : Int) + y.val.natAbs
  v0 : (x0.val.natAbs : Int) ≤ y.val.natAbs + 1
  v1 : (y0.val.natAbs : Int) ≤ x.val.natAbs + 1
theorem lb_can {x : ZI} (h : x = ZI.of x.val) : Lb x.abs := by rw [h]; exact ZI.lb_of _
theorem len_can {x : ZI} (h : x = ZI.of x.val) {L : Nat} (hl : x.val.natAbs < pw L) : x.abs.length ≤ L := by rw [h]; exact ZI.len_of hl
theorem len_can1 {x y : ZI} (h : x = ZI.of x.val) (hy : Lb y.abs) (hl : (x.val.natAbs : Int) ≤ y.val.natAbs + 1) : x.abs.length ≤ y.abs.length + 1 := by
  have := ZI.abs_lt hy
  have h1 := pw_pos y.abs.length
  refine len_can h ?_
  rw [pw_succ]; omega
theorem len_can2 {r x y : ZI} (h : r = ZI.of r.val) (hx : Lb x.abs) (hy : Lb y.abs) (h0 : 0 ≤ r.val) (hl : r.val ≤ (x.val.natAbs : Int) + y.val.natAbs) : r.abs.length ≤ x.abs.length + y.abs.length + 1 := by
  have h1 := ZI.abs_lt hx
  have h2 := ZI.abs_lt hy
  have e1 := pw_le (show x.abs.length ≤ x.abs.length + y.abs.length by omega)
  have e2 := pw_le (show y.abs.length ≤ x.abs.length + y.abs.length by omega)
  refine len_can h ?_
  rw [pw_succ]; omega
theorem can_of (z : Int) : ZI.of z = ZI.of (ZI.of z).val := by rw [ZI.val_of]
theorem BzZ.start (x y a b c d e f : ZI) (ha : a = ZI.of (x.val.natAbs : Int)) (hb : b = ZI.of 1) (hc : c = ZI.of 0) (hd : d = ZI.of (y.val.natAbs : Int)) (he : e = ZI.of 0) (hf : f = ZI.of 1) : BzZ x y a b c d e f := by
  subst ha hb hc hd he hf
  refine ⟨can_of _, can_of _, can_of _, can_of _, can_of _, can_of _, ?_, ?_, ?_, ?_, ?_⟩
  · simp only [ZI.val_of]; exact BzI.start (by omega) (by omega)
  · simp only [ZI.val_of]; omega
  · simp only [ZI.val_of]; omega
  · simp only [ZI.val_of]; omega
  · simp only [ZI.val_of]; omega
theorem BzZ.step {x y r0 x0 y0 r1 x1 y1 a b c : ZI} (h : BzZ x y r0 x0 y0 r1 x1 y1) (hr : r1.val ≠ 0) (ha : a = ZI.of (r0.val - r0.val.fdiv r1.val * r1.val)) (hb : b = ZI.of (x0.val - r0.val.fdiv r1.val * x1.val)) (hc : c = ZI.of (y0.val - r0.val.fdiv r1.val * y1.val)) :
    BzZ x y r1 x1 y1 a b c ∧ a.val.natAbs < r1.val.natAbs := by
  have e : r0.val - r0.val.fdiv r1.val * r1.val = r0.val.fmod r1.val := by have := fdiv_fmod r0.val r1.val; omega
  rw [e] at ha
  have i := h.i.step hr
  have p1 := i.p1
  have hm := fmod_natAbs_lt r0.val hr
  have p0 := i.p0
  have u1 := h.u1
  subst ha hb hc
  refine ⟨⟨h.c3, h.c4, h.c5, can_of _, can_of _, can_of _, ?_, u1, ?_, h.i.lx, h.i.ly⟩, ?_⟩
  · simp only [ZI.val_of]; exact i
  · simp only [ZI.val_of]; omega
  · simp only [ZI.val_of]; exact hm
def bezV (x y : ZI) : Int × Int × Int := bez (x.val.natAbs : Int) 1 0 (y.val.natAbs : Int) 0 1
def bezX (x y : ZI) : Int := if x.val < 0 then -(bezV x y).2.1 else (bezV x y).2.1
def bezY (x y : ZI) : Int := if y.val < 0 then -(bezV x y).2.2 else (bezV x y).2.2
theorem BzZ.done {x y r0 x0 y0 r1 x1 y1 : ZI} (h : BzZ x y r0 x0 y0 r1 x1 y1) (hr : r1.val = 0) : r0.val = (Nat.gcd x.val.natAbs y.val.natAbs : Int) ∧ (bezV x y).2.1 = x0.val ∧ (bezV x y).2.2 = y0.val := by
  obtain ⟨h1, h2⟩ := h.i.done hr
  unfold bezV
  rw [h1]
  exact ⟨by rw [h2]; simp, rfl, rfl⟩
theorem sgn_lt {z : Int} : sgn z < 0 ↔ z < 0 := by unfold sgn; split <;> (try split) <;> omega
set_option maxRecDepth 100000 in
theorem Sless (s0 s1 s2 q t0 t1 t2 : ZI) (hs0 : Lb s0.abs) (ls0 : s0.abs.length ≤ 20000) (hs1 : Lb s1.abs) (ls1 : s1.abs.length ≤ 20000) (hs2 : Lb s2.abs) (ls2 : s2.abs.length ≤ 20000) (hq : Lb q.abs) (lq : q.abs.length ≤ 20000) (ht0 : Lb t0.abs) (lt0 : t0.abs.length ≤ 20000) (ht1 : Lb t1.abs) (lt1 : t1.abs.length ≤ 20000) (ht2 : Lb t2.abs) (lt2 : t2.abs.length ≤ 20000) : Fn Try.prog 82 [] [.t (.agg (zi s0 ++ zi s1 ++ zi s2)), vz q, .t (.agg (zi t0 ++ zi t1 ++ zi t2))] (.t (.agg (zi (ZI.of (s0.val - q.val * t0.val)) ++ zi (ZI.of (s1.val - q.val * t1.val)) ++ zi (ZI.of (s2.val - q.val * t2.val))))) [] := by
  refine Fn.body Try.func82 rfl 29 rfl fun w H B a h => ?_
  refine rSeq zc_ok 0 [] [(3, vp 0 0), (4, vp 1 0), (5, vp 2 0), (6, vp 3 0)] [(0, .box (zi s0 ++ zi s1 ++ zi s2)), (1, .box (zi q)), (2, .box (zi t0 ++ zi t1 ++ zi t2)), (3, .box [.d (.raw (.bool false)), .d (nsl []), .d (.raw (.bool false)), .d (nsl []), .d (.raw (.bool false)), .d (nsl [])])] (by kernel_rfl) h ?_; clear h; intro a w h
  obtain ⟨r1, er1, vr1, or1, lr1⟩ := mkZ (v := q.val * t0.val) (m := q.abs.length + t0.abs.length) (len_mul hq ht0)
  obtain ⟨r2, er2, vr2, or2, lr2⟩ := mkZ (v := s0.val - r1.val) (m := s0.abs.length + r1.abs.length + 1) (len_sub hs0 or1)
  obtain ⟨r3, er3, vr3, or3, lr3⟩ := mkZ (v := q.val * t1.val) (m := q.abs.length + t1.abs.length) (len_mul hq ht1)
  obtain ⟨r4, er4, vr4, or4, lr4⟩ := mkZ (v := s1.val - r3.val) (m := s1.abs.length + r3.abs.length + 1) (len_sub hs1 or3)
  obtain ⟨r5, er5, vr5, or5, lr5⟩ := mkZ (v := q.val * t2.val) (m := q.abs.length + t2.abs.length) (len_mul hq ht2)
  obtain ⟨r6, er6, vr6, or6, lr6⟩ := mkZ (v := s2.val - r5.val) (m := s2.abs.length + r5.abs.length + 1) (len_sub hs2 or5)
  refine rSeq zc_ok 4 [(5, .call (Fn.cast (SMul q t0 hq ht0 (by omega) (by omega)) (congrArg vz er1.symm)) zc_5), (6, .call (Fn.cast (SSub s0 r1 hs0 or1 (by omega) (by omega)) (congrArg vz er2.symm)) zc_11), (12, .call (Fn.cast (SMul q t1 hq ht1 (by omega) (by omega)) (congrArg vz er3.symm)) zc_5), (13, .call (Fn.cast (SSub s1 r3 hs1 or3 (by omega) (by omega)) (congrArg vz er4.symm)) zc_11), (19, .call (Fn.cast (SMul q t2 hq ht2 (by omega) (by omega)) (congrArg vz er5.symm)) zc_5), (20, .call (Fn.cast (SSub s2 r5 hs2 or5 (by omega) (by omega)) (congrArg vz er6.symm)) zc_11)] [(6, vp 3 0)] [(3, .box (zi r2 ++ zi r4 ++ zi r6))] (by kernel_rfl) h ?_; clear h; intro a w h
  refine wp_ret ?_
  refine retS [.agg (zi r2 ++ zi r4 ++ zi r6)] h Exit.ret (.inl rfl)  rfl ⟨RV.agg _ 3 0 _ _ _ _ zc_12 rfl rfl rfl rfl, trivial⟩ ?_ (by kernel_rfl) (by kernel_rfl)
  rw [er2, er4, er6, vr1, vr3, vr5]; first | done | rfl
theorem len_x {x y r0 x0 y0 r1 x1 y1 : ZI} (h : BzZ x y r0 x0 y0 r1 x1 y1) (hx : Lb x.abs) (hy : Lb y.abs) : x0.abs.length ≤ x.abs.length + y.abs.length + 2 := by
  have h1 := ZI.abs_lt hx
  have h2 := ZI.abs_lt hy
  have e1 := pw_le (show x.abs.length ≤ x.abs.length + y.abs.length by omega)
  have e2 := pw_le (show y.abs.length ≤ x.abs.length + y.abs.length by omega)
  have e3 := pw_pos (x.abs.length + y.abs.length)
  refine len_can h.c1 ?_
  rw [show x.abs.length + y.abs.length + 2 = (x.abs.length + y.abs.length + 1) + 1 from rfl, pw_succ, pw_succ]
  have := h.v0
  omega
theorem len_y {x y r0 x0 y0 r1 x1 y1 : ZI} (h : BzZ x y r0 x0 y0 r1 x1 y1) (hx : Lb x.abs) (hy : Lb y.abs) : y0.abs.length ≤ x.abs.length + y.abs.length + 2 := by
  have h1 := ZI.abs_lt hx
  have h2 := ZI.abs_lt hy
  have e1 := pw_le (show x.abs.length ≤ x.abs.length + y.abs.length by omega)
  have e2 := pw_le (show y.abs.length ≤ x.abs.length + y.abs.length by omega)
  have e3 := pw_pos (x.abs.length + y.abs.length)
  refine len_can h.c2 ?_
  rw [show x.abs.length + y.abs.length + 2 = (x.abs.length + y.abs.length + 1) + 1 from rfl, pw_succ, pw_succ]
  have := h.v1
  omega
set_option maxRecDepth 100000 in
theorem SBezout (x y : ZI) (hx : Lb x.abs) (hy : Lb y.abs) (lx : x.abs.length ≤ 2000) (ly : y.abs.length ≤ 2000) : Fn Try.prog 55 [] [vz x, vz y] (.tup [.agg (zi (ZI.of (Nat.gcd x.val.natAbs y.val.natAbs : Int))), .agg (zi (ZI.of (bezX x y))), .agg (zi (ZI.of (bezY x y)))]) [] := by
  refine Fn.body Try.func55 rfl 58 rfl fun w H B a h => ?_
  refine rSeq zc_ok 0 [] [(2, vp 0 0), (3, vp 1 0), (4, vp 2 0), (5, vp 3 0), (6, vp 4 0)] [(0, .box (zi x)), (1, .box (zi y)), (2, .box [.d (.raw (.bool false)), .d (nsl [])]), (3, .box [.d (.raw (.bool false)), .d (nsl [])]), (4, .box [.d (.raw (.bool false)), .d (nsl [])])] (by kernel_rfl) h ?_; clear h; intro a w h
  obtain ⟨r1, er1, vr1, or1, lr1⟩ := mkZ (v := (x.val.natAbs : Int)) (m := x.abs.length) (len_abs hx)
  obtain ⟨r2, er2, vr2, or2, lr2⟩ := mkZ (v := 1) (m := 2) (ZI.len_of (by have := pw2; omega))
  obtain ⟨r3, er3, vr3, or3, lr3⟩ := mkZ (v := 0) (m := 2) (ZI.len_of (by have := pw2; omega))
  refine rSeq zc_ok 5 [(1, .call (Fn.cast (SAbs x hx (by omega)) (congrArg vz er1.symm)) zc_3), (2, .call (Fn.cast (SOf 1 ⟨by omega, by omega⟩) (congrArg vz er2.symm)) zc_13), (3, .call (Fn.cast (SOf 0 ⟨by omega, by omega⟩) (congrArg vz er3.symm)) zc_13)] [(2, vp 0 0), (3, vp 1 0), (4, vp 2 0), (5, vp 3 0), (6, vp 4 0), (7, vp 5 0)] [(0, .box (zi x)), (1, .box (zi y)), (2, .box [.d (.raw (.bool false)), .d (nsl [])]), (3, .box [.d (.raw (.bool false)), .d (nsl [])]), (4, .box [.d (.raw (.bool false)), .d (nsl [])]), (5, .box (zi r1 ++ zi r2 ++ zi r3))] (by kernel_rfl) h ?_; clear h; intro a w h
  obtain ⟨r4, er4, vr4, or4, lr4⟩ := mkZ (v := (y.val.natAbs : Int)) (m := y.abs.length) (len_abs hy)
  obtain ⟨r5, er5, vr5, or5, lr5⟩ := mkZ (v := 0) (m := 2) (ZI.len_of (by have := pw2; omega))
  obtain ⟨r6, er6, vr6, or6, lr6⟩ := mkZ (v := 1) (m := 2) (ZI.len_of (by have := pw2; omega))
  refine rSeq zc_ok 6 [(1, .call (Fn.cast (SAbs y hy (by omega)) (congrArg vz er4.symm)) zc_3), (2, .call (Fn.cast (SOf 0 ⟨by omega, by omega⟩) (congrArg vz er5.symm)) zc_13), (3, .call (Fn.cast (SOf 1 ⟨by omega, by omega⟩) (congrArg vz er6.symm)) zc_13)] [(2, vp 0 0), (3, vp 1 0), (4, vp 2 0), (5, vp 3 0), (6, vp 4 0), (7, vp 5 0), (8, vp 6 0)] [(0, .box (zi x)), (1, .box (zi y)), (2, .box [.d (.raw (.bool false)), .d (nsl [])]), (3, .box [.d (.raw (.bool false)), .d (nsl [])]), (4, .box [.d (.raw (.bool false)), .d (nsl [])]), (5, .box (zi r1 ++ zi r2 ++ zi r3)), (6, .box (zi r4 ++ zi r5 ++ zi r6))] (by kernel_rfl) h ?_; clear h; intro a w h
  refine wp_seq ?_
  refine wp_block ?_
  refine loopS (ι := (ZI) × (ZI) × (ZI) × (ZI) × (ZI) × (ZI)) (fun (z_ : (ZI) × (ZI) × (ZI) × (ZI) × (ZI) × (ZI)) => match z_ with | (a0, u0, v0, a1, u1, v1) => BzZ x y a0 u0 v0 a1 u1 v1)
      (fun (z_ : (ZI) × (ZI) × (ZI) × (ZI) × (ZI) × (ZI)) => match z_ with | (a0, u0, v0, a1, u1, v1) => [(2, vp 0 0), (3, vp 1 0), (4, vp 2 0), (5, vp 3 0), (6, vp 4 0), (7, vp 5 0), (8, vp 6 0)])
      (fun (z_ : (ZI) × (ZI) × (ZI) × (ZI) × (ZI) × (ZI)) => match z_ with | (a0, u0, v0, a1, u1, v1) => [(0, .box (zi x)), (1, .box (zi y)), (2, .box [.d (.raw (.bool false)), .d (nsl [])]), (3, .box [.d (.raw (.bool false)), .d (nsl [])]), (4, .box [.d (.raw (.bool false)), .d (nsl [])]), (5, .box (zi a0 ++ zi u0 ++ zi v0)), (6, .box (zi a1 ++ zi u1 ++ zi v1))])
      (fun (z_ : (ZI) × (ZI) × (ZI) × (ZI) × (ZI) × (ZI)) => match z_ with | (a0, u0, v0, a1, u1, v1) => a1.val.natAbs) (r1, r2, r3, r4, r5, r6) ?_ h (by kernel_rfl) (by kernel_rfl) ?_
  · exact BzZ.start x y _ _ _ _ _ _ er1 er2 er3 er4 er5 er6
  · clear h; rintro ⟨a0, u0, v0, a1, u1, v1⟩ a w hI h
    change St _ (F.of [(2, vp 0 0), (3, vp 1 0), (4, vp 2 0), (5, vp 3 0), (6, vp 4 0), (7, vp 5 0), (8, vp 6 0)] [(0, .box (zi x)), (1, .box (zi y)), (2, .box [.d (.raw (.bool false)), .d (nsl [])]), (3, .box [.d (.raw (.bool false)), .d (nsl [])]), (4, .box [.d (.raw (.bool false)), .d (nsl [])]), (5, .box (zi a0 ++ zi u0 ++ zi v0)), (6, .box (zi a1 ++ zi u1 ++ zi v1))]) a w at h
    have ox := hx; have oy := hy
    have o0 := lb_can hI.c0; have o1 := lb_can hI.c1; have o2 := lb_can hI.c2; have o3 := lb_can hI.c3; have o4 := lb_can hI.c4; have o5 := lb_can hI.c5
    have m0 := len_can2 hI.c0 hx hy hI.i.p0 hI.u0; have m3 := len_can2 hI.c3 hx hy hI.i.p1 hI.u1
    have m4 := len_can1 hI.c4 hy hI.i.lx; have m5 := len_can1 hI.c5 hx hI.i.ly
    refine wp_seq ?_
    refine rSeq zc_ok 7 [(2, .call (SSign a1 o3 (by omega)) zc_1)] [(2, vp 0 0), (3, vp 1 0), (4, vp 2 0), (5, vp 3 0), (6, vp 4 0), (7, vp 5 0), (8, vp 6 0), (25, vb (sgn a1.val != 0))] [(0, .box (zi x)), (1, .box (zi y)), (2, .box [.d (.raw (.bool false)), .d (nsl [])]), (3, .box [.d (.raw (.bool false)), .d (nsl [])]), (4, .box [.d (.raw (.bool false)), .d (nsl [])]), (5, .box (zi a0 ++ zi u0 ++ zi v0)), (6, .box (zi a1 ++ zi u1 ++ zi v1))] (by kernel_rfl) h ?_; clear h; intro a w h
    refine condS (sgn a1.val != 0) h rfl (fun hc => ?_) (fun hc => ?_)
    · have hc1 := hc; clear hc
      have hc1' := hc1; (try simp at hc1')
      have hr := ne_of_sgn' hc1
      obtain ⟨b0, b1⟩ := hI.i.x0 hr
      have m1 := len_can1 hI.c1 hy (by omega)
      have m2 := len_can1 hI.c2 hx (by omega)
      refine wp_skip ?_
      refine then_n ?_
      refine wp_block ?_
      obtain ⟨r8q, er8q, vr8q, or8q, lr8q⟩ := mkZ (v := a0.val.fdiv a1.val) (m := a0.abs.length) (len_fdiv o0 hr)
      obtain ⟨r8r, er8r, vr8r, or8r, lr8r⟩ := mkZ (v := a0.val.fmod a1.val) (m := a1.abs.length) (len_fmod o3 hr)
      refine rSeq zc_ok 7 [(4, .call (Fn.cast (SDiv a0 a1 o0 o3 (by omega) (by omega) hr) (show _ = (.tup [.agg (zi r8q), .agg (zi r8r), .c (.d (.raw (.int .i64 0)))] : V) by rw [er8q, er8r]; first | done | rfl)) zc_4)] [(2, vp 0 0), (3, vp 1 0), (4, vp 2 0), (5, vp 3 0), (6, vp 4 0), (7, vp 5 0), (8, vp 6 0), (9, vp 7 0)] [(0, .box (zi x)), (1, .box (zi y)), (2, .box [.d (.raw (.bool false)), .d (nsl [])]), (3, .box [.d (.raw (.bool false)), .d (nsl [])]), (4, .box [.d (.raw (.bool false)), .d (nsl [])]), (5, .box (zi a0 ++ zi u0 ++ zi v0)), (6, .box (zi a1 ++ zi u1 ++ zi v1)), (7, .box (zi r8q))] (by kernel_rfl) h ?_; clear h; intro a w h
      obtain ⟨r9a, er9a, vr9a, or9a, lr9a⟩ := mkZ (Nat.le_refl (ZI.of (a0.val - r8q.val * a1.val)).abs.length)
      obtain ⟨r9b, er9b, vr9b, or9b, lr9b⟩ := mkZ (Nat.le_refl (ZI.of (u0.val - r8q.val * u1.val)).abs.length)
      obtain ⟨r9c, er9c, vr9c, or9c, lr9c⟩ := mkZ (Nat.le_refl (ZI.of (v0.val - r8q.val * v1.val)).abs.length)
      refine rS zc_ok 9 [(4, .call (Fn.cast (Sless a0 u0 v0 r8q a1 u1 v1 o0 (by omega) o1 (by omega) o2 (by omega) or8q (by omega) o3 (by omega) o4 (by omega) o5 (by omega)) (show _ = (.t (.agg (zi r9a ++ zi r9b ++ zi r9c)) : V) by rw [er9a, er9b, er9c]; first | done | rfl)) zc_14)] [(2, vp 0 0), (3, vp 1 0), (4, vp 2 0), (5, vp 3 0), (6, vp 4 0), (7, vp 5 0), (8, vp 6 0)] [(0, .box (zi x)), (1, .box (zi y)), (2, .box [.d (.raw (.bool false)), .d (nsl [])]), (3, .box [.d (.raw (.bool false)), .d (nsl [])]), (4, .box [.d (.raw (.bool false)), .d (nsl [])]), (5, .box (zi a1 ++ zi u1 ++ zi v1)), (6, .box (zi r9a ++ zi r9b ++ zi r9c))] (by kernel_rfl) h ?_; clear h; intro a w h
      refine block_n ?_
      refine then_n ?_
      refine roundS (x := (a0, u0, v0, a1, u1, v1)) (y := (a1, u1, v1, r9a, r9b, r9c)) h ?_ ?_ (by kernel_rfl) (by kernel_rfl)
      · have hq := (hI.step hr (a := r9a) (b := r9b) (c := r9c) (by rw [er9a, vr8q]) (by rw [er9b, vr8q]) (by rw [er9c, vr8q])).1
        exact hq
      · have hq := (hI.step hr (a := r9a) (b := r9b) (c := r9c) (by rw [er9a, vr8q]) (by rw [er9b, vr8q]) (by rw [er9c, vr8q])).2
        exact hq
    · have hc2 := hc; clear hc
      have hc2' := hc2; (try simp at hc2')
      have hr := eq_of_sgn' hc2
      obtain ⟨d0, d1, d2⟩ := hI.done hr
      have m1 := len_x hI hx hy
      have m2 := len_y hI hx hy
      refine wp_exit ?_
      refine then_x ?_
      refine then_x ?_
      refine inBlock_exit ?_
      refine then_n ?_
      refine rSeq zc_ok 9 [] [(2, vp 0 0), (3, vp 1 0), (4, vp 2 0), (5, vp 3 0), (6, vp 4 0), (7, vp 5 0)] [(0, .box (zi x)), (1, .box (zi y)), (2, .box [.d (.raw (.bool false)), .d (nsl [])]), (3, .box (zi u0)), (4, .box (zi v0)), (5, .box (zi a0 ++ zi u0 ++ zi v0))] (by kernel_rfl) h ?_; clear h; intro a w h
      refine wp_seq ?_
      refine rSeq zc_ok 9 [(1, .call (SSign x hx (by omega)) zc_1)] [(3, vp 1 0), (4, vp 2 0), (5, vp 3 0), (6, vp 4 0), (7, vp 5 0), (46, vb (decide (sgn x.val < 0)))] [(1, .box (zi y)), (2, .box [.d (.raw (.bool false)), .d (nsl [])]), (3, .box (zi u0)), (4, .box (zi v0)), (5, .box (zi a0 ++ zi u0 ++ zi v0))] (by kernel_rfl) h ?_; clear h; intro a w h
      refine condS (decide (sgn x.val < 0)) h rfl (fun hc => ?_) (fun hc => ?_)
      · have hc3 := hc; clear hc
        have hc3' := of_decide_eq_true hc3
        obtain ⟨r11, er11, vr11, or11, lr11⟩ := mkZ (v := -u0.val) (m := u0.abs.length) (len_neg o1)
        refine rS zc_ok 9 [(1, .call (Fn.cast (SNeg u0 o1 (by omega)) (congrArg vz er11.symm)) zc_15)] [(3, vp 1 0), (4, vp 2 0), (5, vp 3 0), (6, vp 4 0), (7, vp 5 0)] [(1, .box (zi y)), (2, .box [.d (.raw (.bool false)), .d (nsl [])]), (3, .box (zi r11)), (4, .box (zi v0)), (5, .box (zi a0 ++ zi u0 ++ zi v0))] (by kernel_rfl) h ?_; clear h; intro a w h
        refine then_n ?_
        refine wp_seq ?_
        refine rSeq zc_ok 9 [(1, .call (SSign y hy (by omega)) zc_1)] [(4, vp 2 0), (5, vp 3 0), (6, vp 4 0), (7, vp 5 0), (51, vb (decide (sgn y.val < 0)))] [(2, .box [.d (.raw (.bool false)), .d (nsl [])]), (3, .box (zi r11)), (4, .box (zi v0)), (5, .box (zi a0 ++ zi u0 ++ zi v0))] (by kernel_rfl) h ?_; clear h; intro a w h
        refine condS (decide (sgn y.val < 0)) h rfl (fun hc => ?_) (fun hc => ?_)
        · have hc4 := hc; clear hc
          have hc4' := of_decide_eq_true hc4
          obtain ⟨r13, er13, vr13, or13, lr13⟩ := mkZ (v := -v0.val) (m := v0.abs.length) (len_neg o2)
          refine rS zc_ok 9 [(1, .call (Fn.cast (SNeg v0 o2 (by omega)) (congrArg vz er13.symm)) zc_15)] [(4, vp 2 0), (5, vp 3 0), (6, vp 4 0), (7, vp 5 0)] [(2, .box [.d (.raw (.bool false)), .d (nsl [])]), (3, .box (zi r11)), (4, .box (zi r13)), (5, .box (zi a0 ++ zi u0 ++ zi v0))] (by kernel_rfl) h ?_; clear h; intro a w h
          refine then_n ?_
          refine rSeq zc_ok 9 [] [(4, vp 2 0), (5, vp 3 0), (6, vp 4 0)] [(2, .box (zi a0)), (3, .box (zi r11)), (4, .box (zi r13))] (by kernel_rfl) h ?_; clear h; intro a w h
          refine wp_ret ?_
          refine retS [.agg (zi a0), .agg (zi r11), .agg (zi r13)] h Exit.ret (.inl rfl)  rfl ⟨RV.agg _ 2 0 _ _ _ _ zc_2 rfl rfl rfl rfl, RV.agg _ 3 0 _ _ _ _ zc_2 rfl rfl rfl rfl, RV.agg _ 4 0 _ _ _ _ zc_2 rfl rfl rfl rfl, trivial⟩ ?_ (by kernel_rfl) (by kernel_rfl)
          have g0 : a0 = ZI.of (Nat.gcd x.val.natAbs y.val.natAbs : Int) := by rw [← d0]; exact hI.c0
          have gx : r11 = ZI.of (bezX x y) := by unfold bezX; rw [if_pos (sgn_lt.1 hc3'), d1]; exact er11
          have gy : r13 = ZI.of (bezY x y) := by unfold bezY; rw [if_pos (sgn_lt.1 hc4'), d2]; exact er13
          rw [← g0, ← gx, ← gy]; first | done | rfl
        · have hc5 := hc; clear hc
          have hc5' := of_decide_eq_false hc5
          refine wp_skip ?_
          refine then_n ?_
          refine rSeq zc_ok 9 [] [(4, vp 2 0), (5, vp 3 0), (6, vp 4 0)] [(2, .box (zi a0)), (3, .box (zi r11)), (4, .box (zi v0))] (by kernel_rfl) h ?_; clear h; intro a w h
          refine wp_ret ?_
          refine retS [.agg (zi a0), .agg (zi r11), .agg (zi v0)] h Exit.ret (.inl rfl)  rfl ⟨RV.agg _ 2 0 _ _ _ _ zc_2 rfl rfl rfl rfl, RV.agg _ 3 0 _ _ _ _ zc_2 rfl rfl rfl rfl, RV.agg _ 4 0 _ _ _ _ zc_2 rfl rfl rfl rfl, trivial⟩ ?_ (by kernel_rfl) (by kernel_rfl)
          have g0 : a0 = ZI.of (Nat.gcd x.val.natAbs y.val.natAbs : Int) := by rw [← d0]; exact hI.c0
          have gx : r11 = ZI.of (bezX x y) := by unfold bezX; rw [if_pos (sgn_lt.1 hc3'), d1]; exact er11
          have gy : v0 = ZI.of (bezY x y) := by unfold bezY; rw [if_neg (fun e => hc5' (sgn_lt.2 e)), d2]; exact hI.c2
          rw [← g0, ← gx, ← gy]; first | done | rfl
      · have hc6 := hc; clear hc
        have hc6' := of_decide_eq_false hc6
        refine wp_skip ?_
        refine then_n ?_
        refine wp_seq ?_
        refine rSeq zc_ok 9 [(1, .call (SSign y hy (by omega)) zc_1)] [(4, vp 2 0), (5, vp 3 0), (6, vp 4 0), (7, vp 5 0), (51, vb (decide (sgn y.val < 0)))] [(2, .box [.d (.raw (.bool false)), .d (nsl [])]), (3, .box (zi u0)), (4, .box (zi v0)), (5, .box (zi a0 ++ zi u0 ++ zi v0))] (by kernel_rfl) h ?_; clear h; intro a w h
        refine condS (decide (sgn y.val < 0)) h rfl (fun hc => ?_) (fun hc => ?_)
        · have hc7 := hc; clear hc
          have hc7' := of_decide_eq_true hc7
          obtain ⟨r15, er15, vr15, or15, lr15⟩ := mkZ (v := -v0.val) (m := v0.abs.length) (len_neg o2)
          refine rS zc_ok 9 [(1, .call (Fn.cast (SNeg v0 o2 (by omega)) (congrArg vz er15.symm)) zc_15)] [(4, vp 2 0), (5, vp 3 0), (6, vp 4 0), (7, vp 5 0)] [(2, .box [.d (.raw (.bool false)), .d (nsl [])]), (3, .box (zi u0)), (4, .box (zi r15)), (5, .box (zi a0 ++ zi u0 ++ zi v0))] (by kernel_rfl) h ?_; clear h; intro a w h
          refine then_n ?_
          refine rSeq zc_ok 9 [] [(4, vp 2 0), (5, vp 3 0), (6, vp 4 0)] [(2, .box (zi a0)), (3, .box (zi u0)), (4, .box (zi r15))] (by kernel_rfl) h ?_; clear h; intro a w h
          refine wp_ret ?_
          refine retS [.agg (zi a0), .agg (zi u0), .agg (zi r15)] h Exit.ret (.inl rfl)  rfl ⟨RV.agg _ 2 0 _ _ _ _ zc_2 rfl rfl rfl rfl, RV.agg _ 3 0 _ _ _ _ zc_2 rfl rfl rfl rfl, RV.agg _ 4 0 _ _ _ _ zc_2 rfl rfl rfl rfl, trivial⟩ ?_ (by kernel_rfl) (by kernel_rfl)
          have g0 : a0 = ZI.of (Nat.gcd x.val.natAbs y.val.natAbs : Int) := by rw [← d0]; exact hI.c0
          have gx : u0 = ZI.of (bezX x y) := by unfold bezX; rw [if_neg (fun e => hc6' (sgn_lt.2 e)), d1]; exact hI.c1
          have gy : r15 = ZI.of (bezY x y) := by unfold bezY; rw [if_pos (sgn_lt.1 hc7'), d2]; exact er15
          rw [← g0, ← gx, ← gy]; first | done | rfl
        · have hc8 := hc; clear hc
          have hc8' := of_decide_eq_false hc8
          refine wp_skip ?_
          refine then_n ?_
          refine rSeq zc_ok 9 [] [(4, vp 2 0), (5, vp 3 0), (6, vp 4 0)] [(2, .box (zi a0)), (3, .box (zi u0)), (4, .box (zi v0))] (by kernel_rfl) h ?_; clear h; intro a w h
          refine wp_ret ?_
          refine retS [.agg (zi a0), .agg (zi u0), .agg (zi v0)] h Exit.ret (.inl rfl)  rfl ⟨RV.agg _ 2 0 _ _ _ _ zc_2 rfl rfl rfl rfl, RV.agg _ 3 0 _ _ _ _ zc_2 rfl rfl rfl rfl, RV.agg _ 4 0 _ _ _ _ zc_2 rfl rfl rfl rfl, trivial⟩ ?_ (by kernel_rfl) (by kernel_rfl)
          have g0 : a0 = ZI.of (Nat.gcd x.val.natAbs y.val.natAbs : Int) := by rw [← d0]; exact hI.c0
          have gx : u0 = ZI.of (bezX x y) := by unfold bezX; rw [if_neg (fun e => hc6' (sgn_lt.2 e)), d1]; exact hI.c1
          have gy : v0 = ZI.of (bezY x y) := by unfold bezY; rw [if_neg (fun e => hc8' (sgn_lt.2 e)), d2]; exact hI.c2
          rw [← g0, ← gx, ← gy]; first | done | rfl
set_option maxRecDepth 100000 in
theorem SRBezout (x y : ZI) (hx : Lb x.abs) (hy : Lb y.abs) (lx : x.abs.length ≤ 2000) (ly : y.abs.length ≤ 2000) : Fn Try.prog 56 [] [vz x, vz y] (.tup [.agg (zi (ZI.of (Nat.gcd x.val.natAbs y.val.natAbs : Int))), .agg (zi (ZI.of (bezX x y))), .agg (zi (ZI.of (bezY x y)))]) [] := by
  refine Fn.body Try.func56 rfl 71 rfl fun w H B a h => ?_
  refine rSeq zc_ok 0 [] [(2, vp 0 0), (3, vp 1 0), (4, vp 2 0), (5, vp 3 0), (6, vp 4 0)] [(0, .box (zi x)), (1, .box (zi y)), (2, .box [.d (.raw (.bool false)), .d (nsl [])]), (3, .box [.d (.raw (.bool false)), .d (nsl [])]), (4, .box [.d (.raw (.bool false)), .d (nsl [])])] (by kernel_rfl) h ?_; clear h; intro a w h
  obtain ⟨r1, er1, vr1, or1, lr1⟩ := mkZ (v := (x.val.natAbs : Int)) (m := x.abs.length) (len_abs hx)
  obtain ⟨r2, er2, vr2, or2, lr2⟩ := mkZ (v := 1) (m := 2) (ZI.len_of (by have := pw2; omega))
  obtain ⟨r3, er3, vr3, or3, lr3⟩ := mkZ (v := 0) (m := 2) (ZI.len_of (by have := pw2; omega))
  refine rSeq zc_ok 5 [(1, .call (Fn.cast (SRAbs x hx (by omega)) (congrArg vz er1.symm)) zc_7), (2, .call (Fn.cast (SROf 1 ⟨by omega, by omega⟩) (congrArg vz er2.symm)) zc_16), (3, .call (Fn.cast (SROf 0 ⟨by omega, by omega⟩) (congrArg vz er3.symm)) zc_16)] [(2, vp 0 0), (3, vp 1 0), (4, vp 2 0), (5, vp 3 0), (6, vp 4 0), (7, vp 5 0), (8, vp 6 0), (9, vp 7 0)] [(0, .box (zi x)), (1, .box (zi y)), (2, .box [.d (.raw (.bool false)), .d (nsl [])]), (3, .box [.d (.raw (.bool false)), .d (nsl [])]), (4, .box [.d (.raw (.bool false)), .d (nsl [])]), (5, .box (zi r1)), (6, .box (zi r2)), (7, .box (zi r3))] (by kernel_rfl) h ?_; clear h; intro a w h
  obtain ⟨r4, er4, vr4, or4, lr4⟩ := mkZ (v := (y.val.natAbs : Int)) (m := y.abs.length) (len_abs hy)
  obtain ⟨r5, er5, vr5, or5, lr5⟩ := mkZ (v := 0) (m := 2) (ZI.len_of (by have := pw2; omega))
  obtain ⟨r6, er6, vr6, or6, lr6⟩ := mkZ (v := 1) (m := 2) (ZI.len_of (by have := pw2; omega))
  refine rSeq zc_ok 8 [(1, .call (Fn.cast (SRAbs y hy (by omega)) (congrArg vz er4.symm)) zc_7), (2, .call (Fn.cast (SROf 0 ⟨by omega, by omega⟩) (congrArg vz er5.symm)) zc_16), (3, .call (Fn.cast (SROf 1 ⟨by omega, by omega⟩) (congrArg vz er6.symm)) zc_16)] [(2, vp 0 0), (3, vp 1 0), (4, vp 2 0), (5, vp 3 0), (6, vp 4 0), (7, vp 5 0), (8, vp 6 0), (9, vp 7 0), (10, vp 8 0), (11, vp 9 0), (12, vp 10 0)] [(0, .box (zi x)), (1, .box (zi y)), (2, .box [.d (.raw (.bool false)), .d (nsl [])]), (3, .box [.d (.raw (.bool false)), .d (nsl [])]), (4, .box [.d (.raw (.bool false)), .d (nsl [])]), (5, .box (zi r1)), (6, .box (zi r2)), (7, .box (zi r3)), (8, .box (zi r4)), (9, .box (zi r5)), (10, .box (zi r6))] (by kernel_rfl) h ?_; clear h; intro a w h
  refine wp_seq ?_
  refine wp_block ?_
  refine loopS (ι := (ZI) × (ZI) × (ZI) × (ZI) × (ZI) × (ZI)) (fun (z_ : (ZI) × (ZI) × (ZI) × (ZI) × (ZI) × (ZI)) => match z_ with | (a0, u0, v0, a1, u1, v1) => BzZ x y a0 u0 v0 a1 u1 v1)
      (fun (z_ : (ZI) × (ZI) × (ZI) × (ZI) × (ZI) × (ZI)) => match z_ with | (a0, u0, v0, a1, u1, v1) => [(2, vp 0 0), (3, vp 1 0), (4, vp 2 0), (5, vp 3 0), (6, vp 4 0), (7, vp 5 0), (8, vp 6 0), (9, vp 7 0), (10, vp 8 0), (11, vp 9 0), (12, vp 10 0)])
      (fun (z_ : (ZI) × (ZI) × (ZI) × (ZI) × (ZI) × (ZI)) => match z_ with | (a0, u0, v0, a1, u1, v1) => [(0, .box (zi x)), (1, .box (zi y)), (2, .box [.d (.raw (.bool false)), .d (nsl [])]), (3, .box [.d (.raw (.bool false)), .d (nsl [])]), (4, .box [.d (.raw (.bool false)), .d (nsl [])]), (5, .box (zi a0)), (6, .box (zi u0)), (7, .box (zi v0)), (8, .box (zi a1)), (9, .box (zi u1)), (10, .box (zi v1))])
      (fun (z_ : (ZI) × (ZI) × (ZI) × (ZI) × (ZI) × (ZI)) => match z_ with | (a0, u0, v0, a1, u1, v1) => a1.val.natAbs) (r1, r2, r3, r4, r5, r6) ?_ h (by kernel_rfl) (by kernel_rfl) ?_
  · exact BzZ.start x y _ _ _ _ _ _ er1 er2 er3 er4 er5 er6
  · clear h; rintro ⟨a0, u0, v0, a1, u1, v1⟩ a w hI h
    change St _ (F.of [(2, vp 0 0), (3, vp 1 0), (4, vp 2 0), (5, vp 3 0), (6, vp 4 0), (7, vp 5 0), (8, vp 6 0), (9, vp 7 0), (10, vp 8 0), (11, vp 9 0), (12, vp 10 0)] [(0, .box (zi x)), (1, .box (zi y)), (2, .box [.d (.raw (.bool false)), .d (nsl [])]), (3, .box [.d (.raw (.bool false)), .d (nsl [])]), (4, .box [.d (.raw (.bool false)), .d (nsl [])]), (5, .box (zi a0)), (6, .box (zi u0)), (7, .box (zi v0)), (8, .box (zi a1)), (9, .box (zi u1)), (10, .box (zi v1))]) a w at h
    have ox := hx; have oy := hy
    have o0 := lb_can hI.c0; have o1 := lb_can hI.c1; have o2 := lb_can hI.c2; have o3 := lb_can hI.c3; have o4 := lb_can hI.c4; have o5 := lb_can hI.c5
    have m0 := len_can2 hI.c0 hx hy hI.i.p0 hI.u0; have m3 := len_can2 hI.c3 hx hy hI.i.p1 hI.u1
    have m4 := len_can1 hI.c4 hy hI.i.lx; have m5 := len_can1 hI.c5 hx hI.i.ly
    refine wp_seq ?_
    refine rSeq zc_ok 11 [(1, .call (SRSign a1 o3 (by omega)) zc_6)] [(2, vp 0 0), (3, vp 1 0), (4, vp 2 0), (5, vp 3 0), (6, vp 4 0), (7, vp 5 0), (8, vp 6 0), (9, vp 7 0), (10, vp 8 0), (11, vp 9 0), (12, vp 10 0), (29, vb (sgn a1.val != 0))] [(0, .box (zi x)), (1, .box (zi y)), (2, .box [.d (.raw (.bool false)), .d (nsl [])]), (3, .box [.d (.raw (.bool false)), .d (nsl [])]), (4, .box [.d (.raw (.bool false)), .d (nsl [])]), (5, .box (zi a0)), (6, .box (zi u0)), (7, .box (zi v0)), (8, .box (zi a1)), (9, .box (zi u1)), (10, .box (zi v1))] (by kernel_rfl) h ?_; clear h; intro a w h
    refine condS (sgn a1.val != 0) h rfl (fun hc => ?_) (fun hc => ?_)
    · have hc1 := hc; clear hc
      have hc1' := hc1; (try simp at hc1')
      have hr := ne_of_sgn' hc1
      obtain ⟨b0, b1⟩ := hI.i.x0 hr
      have m1 := len_can1 hI.c1 hy (by omega)
      have m2 := len_can1 hI.c2 hx (by omega)
      refine wp_skip ?_
      refine then_n ?_
      refine wp_block ?_
      obtain ⟨r8q, er8q, vr8q, or8q, lr8q⟩ := mkZ (v := a0.val.fdiv a1.val) (m := a0.abs.length) (len_fdiv o0 hr)
      obtain ⟨r8r, er8r, vr8r, or8r, lr8r⟩ := mkZ (v := a0.val.fmod a1.val) (m := a1.abs.length) (len_fmod o3 hr)
      refine rSeq zc_ok 11 [(2, .call (Fn.cast (SRDiv a0 a1 o0 o3 (by omega) (by omega) hr) (show _ = (.tup [.agg (zi r8q), .agg (zi r8r), .c (.d (.raw (.int .i64 0)))] : V) by rw [er8q, er8r]; first | done | rfl)) zc_10)] [(2, vp 0 0), (3, vp 1 0), (4, vp 2 0), (5, vp 3 0), (6, vp 4 0), (7, vp 5 0), (8, vp 6 0), (9, vp 7 0), (10, vp 8 0), (11, vp 9 0), (12, vp 10 0), (13, vp 11 0)] [(0, .box (zi x)), (1, .box (zi y)), (2, .box [.d (.raw (.bool false)), .d (nsl [])]), (3, .box [.d (.raw (.bool false)), .d (nsl [])]), (4, .box [.d (.raw (.bool false)), .d (nsl [])]), (5, .box (zi a0)), (6, .box (zi u0)), (7, .box (zi v0)), (8, .box (zi a1)), (9, .box (zi u1)), (10, .box (zi v1)), (11, .box (zi r8q))] (by kernel_rfl) h ?_; clear h; intro a w h
      obtain ⟨r9, er9, vr9, or9, lr9⟩ := mkZ (v := r8q.val * a1.val) (m := r8q.abs.length + a1.abs.length) (len_mul or8q o3)
      obtain ⟨r10, er10, vr10, or10, lr10⟩ := mkZ (v := a0.val - r9.val) (m := a0.abs.length + r9.abs.length + 1) (len_sub o0 or9)
      obtain ⟨r11, er11, vr11, or11, lr11⟩ := mkZ (v := r8q.val * u1.val) (m := r8q.abs.length + u1.abs.length) (len_mul or8q o4)
      obtain ⟨r12, er12, vr12, or12, lr12⟩ := mkZ (v := u0.val - r11.val) (m := u0.abs.length + r11.abs.length + 1) (len_sub o1 or11)
      obtain ⟨r13, er13, vr13, or13, lr13⟩ := mkZ (v := r8q.val * v1.val) (m := r8q.abs.length + v1.abs.length) (len_mul or8q o5)
      obtain ⟨r14, er14, vr14, or14, lr14⟩ := mkZ (v := v0.val - r13.val) (m := v0.abs.length + r13.abs.length + 1) (len_sub o2 or13)
      refine rSeq zc_ok 13 [(3, .call (Fn.cast (SRMul r8q a1 or8q o3 (by omega) (by omega)) (congrArg vz er9.symm)) zc_8), (4, .call (Fn.cast (SRSub a0 r9 o0 or9 (by omega) (by omega)) (congrArg vz er10.symm)) zc_17), (8, .call (Fn.cast (SRMul r8q u1 or8q o4 (by omega) (by omega)) (congrArg vz er11.symm)) zc_8), (9, .call (Fn.cast (SRSub u0 r11 o1 or11 (by omega) (by omega)) (congrArg vz er12.symm)) zc_17), (13, .call (Fn.cast (SRMul r8q v1 or8q o5 (by omega) (by omega)) (congrArg vz er13.symm)) zc_8), (14, .call (Fn.cast (SRSub v0 r13 o2 or13 (by omega) (by omega)) (congrArg vz er14.symm)) zc_17)] [(2, vp 0 0), (3, vp 1 0), (4, vp 2 0), (5, vp 3 0), (6, vp 4 0), (7, vp 5 0), (8, vp 6 0), (9, vp 7 0), (10, vp 8 0), (11, vp 9 0), (12, vp 10 0), (16, vp 13 0), (17, vp 14 0), (18, vp 15 0)] [(0, .box (zi x)), (1, .box (zi y)), (2, .box [.d (.raw (.bool false)), .d (nsl [])]), (3, .box [.d (.raw (.bool false)), .d (nsl [])]), (4, .box [.d (.raw (.bool false)), .d (nsl [])]), (5, .box (zi a0)), (6, .box (zi u0)), (7, .box (zi v0)), (8, .box (zi a1)), (9, .box (zi u1)), (10, .box (zi v1)), (13, .box (zi r10)), (14, .box (zi r12)), (15, .box (zi r14))] (by kernel_rfl) h ?_; clear h; intro a w h
      refine rSeq zc_ok 16 [] [(2, vp 0 0), (3, vp 1 0), (4, vp 2 0), (5, vp 3 0), (6, vp 4 0), (7, vp 5 0), (8, vp 6 0), (9, vp 7 0), (10, vp 8 0), (11, vp 9 0), (12, vp 10 0), (16, vp 13 0), (17, vp 14 0), (18, vp 15 0)] [(0, .box (zi x)), (1, .box (zi y)), (2, .box [.d (.raw (.bool false)), .d (nsl [])]), (3, .box [.d (.raw (.bool false)), .d (nsl [])]), (4, .box [.d (.raw (.bool false)), .d (nsl [])]), (5, .box (zi a1)), (6, .box (zi u1)), (7, .box (zi v1)), (8, .box (zi a1)), (9, .box (zi u1)), (10, .box (zi v1)), (13, .box (zi r10)), (14, .box (zi r12)), (15, .box (zi r14))] (by kernel_rfl) h ?_; clear h; intro a w h
      refine rS zc_ok 16 [] [(2, vp 0 0), (3, vp 1 0), (4, vp 2 0), (5, vp 3 0), (6, vp 4 0), (7, vp 5 0), (8, vp 6 0), (9, vp 7 0), (10, vp 8 0), (11, vp 9 0), (12, vp 10 0)] [(0, .box (zi x)), (1, .box (zi y)), (2, .box [.d (.raw (.bool false)), .d (nsl [])]), (3, .box [.d (.raw (.bool false)), .d (nsl [])]), (4, .box [.d (.raw (.bool false)), .d (nsl [])]), (5, .box (zi a1)), (6, .box (zi u1)), (7, .box (zi v1)), (8, .box (zi r10)), (9, .box (zi r12)), (10, .box (zi r14))] (by kernel_rfl) h ?_; clear h; intro a w h
      refine block_n ?_
      refine then_n ?_
      refine roundS (x := (a0, u0, v0, a1, u1, v1)) (y := (a1, u1, v1, r10, r12, r14)) h ?_ ?_ (by kernel_rfl) (by kernel_rfl)
      · have hq := (hI.step hr (a := r10) (b := r12) (c := r14) (by rw [er10, vr9, vr8q]) (by rw [er12, vr11, vr8q]) (by rw [er14, vr13, vr8q])).1
        exact hq
      · have hq := (hI.step hr (a := r10) (b := r12) (c := r14) (by rw [er10, vr9, vr8q]) (by rw [er12, vr11, vr8q]) (by rw [er14, vr13, vr8q])).2
        exact hq
    · have hc2 := hc; clear hc
      have hc2' := hc2; (try simp at hc2')
      have hr := eq_of_sgn' hc2
      obtain ⟨d0, d1, d2⟩ := hI.done hr
      have m1 := len_x hI hx hy
      have m2 := len_y hI hx hy
      refine wp_exit ?_
      refine then_x ?_
      refine then_x ?_
      refine inBlock_exit ?_
      refine then_n ?_
      refine wp_seq ?_
      refine rSeq zc_ok 16 [(1, .call (SRSign x hx (by omega)) zc_6)] [(3, vp 1 0), (4, vp 2 0), (5, vp 3 0), (6, vp 4 0), (7, vp 5 0), (8, vp 6 0), (9, vp 7 0), (60, vb (decide (sgn x.val < 0)))] [(1, .box (zi y)), (2, .box [.d (.raw (.bool false)), .d (nsl [])]), (3, .box [.d (.raw (.bool false)), .d (nsl [])]), (4, .box [.d (.raw (.bool false)), .d (nsl [])]), (5, .box (zi a0)), (6, .box (zi u0)), (7, .box (zi v0))] (by kernel_rfl) h ?_; clear h; intro a w h
      refine condS (decide (sgn x.val < 0)) h rfl (fun hc => ?_) (fun hc => ?_)
      · have hc3 := hc; clear hc
        have hc3' := of_decide_eq_true hc3
        obtain ⟨r16, er16, vr16, or16, lr16⟩ := mkZ (v := -u0.val) (m := u0.abs.length) (len_neg o1)
        refine rS zc_ok 16 [(1, .call (Fn.cast (SRNeg u0 o1 (by omega)) (congrArg vz er16.symm)) zc_18)] [(3, vp 1 0), (4, vp 2 0), (5, vp 3 0), (6, vp 4 0), (7, vp 5 0), (8, vp 6 0), (9, vp 7 0)] [(1, .box (zi y)), (2, .box [.d (.raw (.bool false)), .d (nsl [])]), (3, .box [.d (.raw (.bool false)), .d (nsl [])]), (4, .box [.d (.raw (.bool false)), .d (nsl [])]), (5, .box (zi a0)), (6, .box (zi r16)), (7, .box (zi v0))] (by kernel_rfl) h ?_; clear h; intro a w h
        refine then_n ?_
        refine wp_seq ?_
        refine rSeq zc_ok 16 [(1, .call (SRSign y hy (by omega)) zc_6)] [(4, vp 2 0), (5, vp 3 0), (6, vp 4 0), (7, vp 5 0), (8, vp 6 0), (9, vp 7 0), (65, vb (decide (sgn y.val < 0)))] [(2, .box [.d (.raw (.bool false)), .d (nsl [])]), (3, .box [.d (.raw (.bool false)), .d (nsl [])]), (4, .box [.d (.raw (.bool false)), .d (nsl [])]), (5, .box (zi a0)), (6, .box (zi r16)), (7, .box (zi v0))] (by kernel_rfl) h ?_; clear h; intro a w h
        refine condS (decide (sgn y.val < 0)) h rfl (fun hc => ?_) (fun hc => ?_)
        · have hc4 := hc; clear hc
          have hc4' := of_decide_eq_true hc4
          obtain ⟨r18, er18, vr18, or18, lr18⟩ := mkZ (v := -v0.val) (m := v0.abs.length) (len_neg o2)
          refine rS zc_ok 16 [(1, .call (Fn.cast (SRNeg v0 o2 (by omega)) (congrArg vz er18.symm)) zc_18)] [(4, vp 2 0), (5, vp 3 0), (6, vp 4 0), (7, vp 5 0), (8, vp 6 0), (9, vp 7 0)] [(2, .box [.d (.raw (.bool false)), .d (nsl [])]), (3, .box [.d (.raw (.bool false)), .d (nsl [])]), (4, .box [.d (.raw (.bool false)), .d (nsl [])]), (5, .box (zi a0)), (6, .box (zi r16)), (7, .box (zi r18))] (by kernel_rfl) h ?_; clear h; intro a w h
          refine then_n ?_
          refine rSeq zc_ok 16 [] [(4, vp 2 0), (5, vp 3 0), (6, vp 4 0)] [(2, .box (zi a0)), (3, .box (zi r16)), (4, .box (zi r18))] (by kernel_rfl) h ?_; clear h; intro a w h
          refine wp_ret ?_
          refine retS [.agg (zi a0), .agg (zi r16), .agg (zi r18)] h Exit.ret (.inl rfl)  rfl ⟨RV.agg _ 2 0 _ _ _ _ zc_2 rfl rfl rfl rfl, RV.agg _ 3 0 _ _ _ _ zc_2 rfl rfl rfl rfl, RV.agg _ 4 0 _ _ _ _ zc_2 rfl rfl rfl rfl, trivial⟩ ?_ (by kernel_rfl) (by kernel_rfl)
          have g0 : a0 = ZI.of (Nat.gcd x.val.natAbs y.val.natAbs : Int) := by rw [← d0]; exact hI.c0
          have gx : r16 = ZI.of (bezX x y) := by unfold bezX; rw [if_pos (sgn_lt.1 hc3'), d1]; exact er16
          have gy : r18 = ZI.of (bezY x y) := by unfold bezY; rw [if_pos (sgn_lt.1 hc4'), d2]; exact er18
          rw [← g0, ← gx, ← gy]; first | done | rfl
        · have hc5 := hc; clear hc
          have hc5' := of_decide_eq_false hc5
          refine wp_skip ?_
          refine then_n ?_
          refine rSeq zc_ok 16 [] [(4, vp 2 0), (5, vp 3 0), (6, vp 4 0)] [(2, .box (zi a0)), (3, .box (zi r16)), (4, .box (zi v0))] (by kernel_rfl) h ?_; clear h; intro a w h
          refine wp_ret ?_
          refine retS [.agg (zi a0), .agg (zi r16), .agg (zi v0)] h Exit.ret (.inl rfl)  rfl ⟨RV.agg _ 2 0 _ _ _ _ zc_2 rfl rfl rfl rfl, RV.agg _ 3 0 _ _ _ _ zc_2 rfl rfl rfl rfl, RV.agg _ 4 0 _ _ _ _ zc_2 rfl rfl rfl rfl, trivial⟩ ?_ (by kernel_rfl) (by kernel_rfl)
          have g0 : a0 = ZI.of (Nat.gcd x.val.natAbs y.val.natAbs : Int) := by rw [← d0]; exact hI.c0
          have gx : r16 = ZI.of (bezX x y) := by unfold bezX; rw [if_pos (sgn_lt.1 hc3'), d1]; exact er16
          have gy : v0 = ZI.of (bezY x y) := by unfold bezY; rw [if_neg (fun e => hc5' (sgn_lt.2 e)), d2]; exact hI.c2
          rw [← g0, ← gx, ← gy]; first | done | rfl
      · have hc6 := hc; clear hc
        have hc6' := of_decide_eq_false hc6
        refine wp_skip ?_
        refine then_n ?_
        refine wp_seq ?_
        refine rSeq zc_ok 16 [(1, .call (SRSign y hy (by omega)) zc_6)] [(4, vp 2 0), (5, vp 3 0), (6, vp 4 0), (7, vp 5 0), (8, vp 6 0), (9, vp 7 0), (65, vb (decide (sgn y.val < 0)))] [(2, .box [.d (.raw (.bool false)), .d (nsl [])]), (3, .box [.d (.raw (.bool false)), .d (nsl [])]), (4, .box [.d (.raw (.bool false)), .d (nsl [])]), (5, .box (zi a0)), (6, .box (zi u0)), (7, .box (zi v0))] (by kernel_rfl) h ?_; clear h; intro a w h
        refine condS (decide (sgn y.val < 0)) h rfl (fun hc => ?_) (fun hc => ?_)
        · have hc7 := hc; clear hc
          have hc7' := of_decide_eq_true hc7
          obtain ⟨r20, er20, vr20, or20, lr20⟩ := mkZ (v := -v0.val) (m := v0.abs.length) (len_neg o2)
          refine rS zc_ok 16 [(1, .call (Fn.cast (SRNeg v0 o2 (by omega)) (congrArg vz er20.symm)) zc_18)] [(4, vp 2 0), (5, vp 3 0), (6, vp 4 0), (7, vp 5 0), (8, vp 6 0), (9, vp 7 0)] [(2, .box [.d (.raw (.bool false)), .d (nsl [])]), (3, .box [.d (.raw (.bool false)), .d (nsl [])]), (4, .box [.d (.raw (.bool false)), .d (nsl [])]), (5, .box (zi a0)), (6, .box (zi u0)), (7, .box (zi r20))] (by kernel_rfl) h ?_; clear h; intro a w h
          refine then_n ?_
          refine rSeq zc_ok 16 [] [(4, vp 2 0), (5, vp 3 0), (6, vp 4 0)] [(2, .box (zi a0)), (3, .box (zi u0)), (4, .box (zi r20))] (by kernel_rfl) h ?_; clear h; intro a w h
          refine wp_ret ?_
          refine retS [.agg (zi a0), .agg (zi u0), .agg (zi r20)] h Exit.ret (.inl rfl)  rfl ⟨RV.agg _ 2 0 _ _ _ _ zc_2 rfl rfl rfl rfl, RV.agg _ 3 0 _ _ _ _ zc_2 rfl rfl rfl rfl, RV.agg _ 4 0 _ _ _ _ zc_2 rfl rfl rfl rfl, trivial⟩ ?_ (by kernel_rfl) (by kernel_rfl)
          have g0 : a0 = ZI.of (Nat.gcd x.val.natAbs y.val.natAbs : Int) := by rw [← d0]; exact hI.c0
          have gx : u0 = ZI.of (bezX x y) := by unfold bezX; rw [if_neg (fun e => hc6' (sgn_lt.2 e)), d1]; exact hI.c1
          have gy : r20 = ZI.of (bezY x y) := by unfold bezY; rw [if_pos (sgn_lt.1 hc7'), d2]; exact er20
          rw [← g0, ← gx, ← gy]; first | done | rfl
        · have hc8 := hc; clear hc
          have hc8' := of_decide_eq_false hc8
          refine wp_skip ?_
          refine then_n ?_
          refine rSeq zc_ok 16 [] [(4, vp 2 0), (5, vp 3 0), (6, vp 4 0)] [(2, .box (zi a0)), (3, .box (zi u0)), (4, .box (zi v0))] (by kernel_rfl) h ?_; clear h; intro a w h
          refine wp_ret ?_
          refine retS [.agg (zi a0), .agg (zi u0), .agg (zi v0)] h Exit.ret (.inl rfl)  rfl ⟨RV.agg _ 2 0 _ _ _ _ zc_2 rfl rfl rfl rfl, RV.agg _ 3 0 _ _ _ _ zc_2 rfl rfl rfl rfl, RV.agg _ 4 0 _ _ _ _ zc_2 rfl rfl rfl rfl, trivial⟩ ?_ (by kernel_rfl) (by kernel_rfl)
          have g0 : a0 = ZI.of (Nat.gcd x.val.natAbs y.val.natAbs : Int) := by rw [← d0]; exact hI.c0
          have gx : u0 = ZI.of (bezX x y) := by unfold bezX; rw [if_neg (fun e => hc6' (sgn_lt.2 e)), d1]; exact hI.c1
          have gy : v0 = ZI.of (bezY x y) := by unfold bezY; rw [if_neg (fun e => hc8' (sgn_lt.2 e)), d2]; exact hI.c2
          rw [← g0, ← gx, ← gy]; first | done | rfl
end Go.Proofs.Ytehbfobfkpejoaa.S
