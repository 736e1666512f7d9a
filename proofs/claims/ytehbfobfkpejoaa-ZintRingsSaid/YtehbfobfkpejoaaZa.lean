/-
  Divisors and quotients of numbers with a sign, and of the reference.
-/
import Derived.Test.YtehbfobfkpejoaaZp
namespace Go.Proofs.Ytehbfobfkpejoaa.S
open Go.RowKit

theorem za_0 : Bodied Try.prog 83 := Bodied.mk' (by kernel_rfl)
theorem za_1 : Bodied Try.prog 42 := Bodied.mk' (by kernel_rfl)
theorem za_2 : Sz Try.prog 25 2 true := Sz.mk' (by kernel_rfl) Try.underlying25 _ rfl
theorem za_3 : Bodied Try.prog 84 := Bodied.mk' (by kernel_rfl)
theorem za_4 : Bodied Try.prog 65 := Bodied.mk' (by kernel_rfl)
theorem za_5 : Bodied Try.prog 75 := Bodied.mk' (by kernel_rfl)
theorem za_6 : Bodied Try.prog 80 := Bodied.mk' (by kernel_rfl)
theorem za_7 : Bodied Try.prog 40 := Bodied.mk' (by kernel_rfl)
theorem za_8 : Bodied Try.prog 25 := Bodied.mk' (by kernel_rfl)
theorem za_9 : Bodied Try.prog 23 := Bodied.mk' (by kernel_rfl)
def za_tb : Tb := [(4, ⟨1, false, [], [.d (.raw (.bool false))], 3⟩), (23, ⟨1, false, [], [.d (nsl [])], 1⟩), (25, ⟨2, true, [(0, 1, false), (1, 1, false)], [.d (.raw (.bool false)), .d (nsl [])], 0⟩)]
theorem za_ok : TbOk Try.prog za_tb := ⟨TyOk.bl Try.underlying4 (by kernel_rfl) ⟨(.bool false : Value), [.bool false], by kernel_rfl, rfl, (fun _ _ => ⟨DR.raw _ rfl, trivial⟩)⟩,
  TyOk.slc Try.underlying23 (by kernel_rfl) ⟨(.slice none 0 0 : Value), [.slice none 0 0], by kernel_rfl, rfl, (fun _ _ => ⟨DR.nil _ _ _ (fun _ => rfl) (Nat.zero_le _), trivial⟩)⟩,
  TyOk.st Try.underlying25 (by kernel_rfl) ⟨⟨by decide, Fd.mk' _ _ Try.underlying25 rfl rfl (Sz.mk' (by kernel_rfl) Try.underlying4 _ rfl)⟩, ⟨by decide, Fd.mk' _ _ Try.underlying25 rfl rfl (Sz.mk' (by kernel_rfl) Try.underlying23 _ rfl)⟩, trivial⟩ ⟨(Value.agg #[.bool false, .slice none 0 0]), [.bool false, .slice none 0 0], by kernel_rfl, rfl, (fun _ _ => ⟨DR.raw _ rfl, DR.nil _ _ _ (fun _ => rfl) (Nat.zero_le _), trivial⟩)⟩ ⟨_, Try.underlying25, ⟨⟨rfl, by kernel_rfl⟩, ⟨rfl, by kernel_rfl⟩, trivial⟩⟩,
  trivial⟩
theorem gcd_iv (m n : Nat) {zs : List Nat} (h : Go.Proofs.Ytehbfobfkpejoaa.val zs = Nat.gcd m n) : iv false zs = (Nat.gcd m n : Int) := by rw [iv_false, h]
theorem len_gcd {x y : ZI} (hx : Lb x.abs) (hy : Lb y.abs) : (ZI.of (Nat.gcd x.val.natAbs y.val.natAbs : Int)).abs.length ≤ x.abs.length + y.abs.length := ZI.len_of (by rw [Int.natAbs_natCast]; exact gcd_lt_pw (ZI.abs_lt hx) (ZI.abs_lt hy))
set_option maxRecDepth 100000 in
theorem SGcd (x y : ZI) (hx : Lb x.abs) (hy : Lb y.abs) (lx : x.abs.length ≤ 40000) (ly : y.abs.length ≤ 40000) : Fn Try.prog 57 [] [vz x, vz y] (vz (ZI.of (Nat.gcd x.val.natAbs y.val.natAbs : Int))) [] := by
  refine Fn.body Try.func57 rfl 11 rfl fun w H B a h => ?_
  refine rSeq za_ok 0 [] [(2, vp 0 0), (3, vp 1 0), (4, vp 2 0)] [(0, .box (zi x)), (1, .box (zi y)), (2, .box [.d (.raw (.bool false)), .d (nsl [])])] (by kernel_rfl) h ?_; clear h; intro a w h
  obtain ⟨n1, en1, vn1, on1, ln1⟩ := mkN (v := Nat.gcd (Go.Proofs.Ytehbfobfkpejoaa.val x.abs) (Go.Proofs.Ytehbfobfkpejoaa.val y.abs)) (m := x.abs.length + y.abs.length) (gcd_lt_pw (val_lt hx) (val_lt hy))
  obtain ⟨r2, er2, vr2, or2, lr2⟩ := mkZ (v := iv false n1) (m := n1.length) (len_iv on1)
  refine rSeq za_ok 3 [(4, .call (Fn.cast (SnGcd x.abs y.abs hx hy (by omega) (by omega)) (congrArg vn en1.symm)) za_0), (5, .call (Fn.cast (SFrom false n1 on1 (by omega)) (congrArg vz er2.symm)) za_1)] [(4, vp 2 0)] [(2, .box (zi r2))] (by kernel_rfl) h ?_; clear h; intro a w h
  refine wp_ret ?_
  refine retS [.agg (zi r2)] h Exit.ret (.inl rfl)  rfl ⟨RV.agg _ 2 0 _ _ _ _ za_2 rfl rfl rfl rfl, trivial⟩ ?_ (by kernel_rfl) (by kernel_rfl)
  rw [er2]; unfold ZI.val; rw [iv_abs, iv_abs, ← gcd_iv _ _ vn1]; first | done | rfl
set_option maxRecDepth 100000 in
theorem SRGcd (x y : ZI) (hx : Lb x.abs) (hy : Lb y.abs) (lx : x.abs.length ≤ 40000) (ly : y.abs.length ≤ 40000) : Fn Try.prog 58 [] [vz x, vz y] (vz (ZI.of (Nat.gcd x.val.natAbs y.val.natAbs : Int))) [] := by
  refine Fn.body Try.func58 rfl 11 rfl fun w H B a h => ?_
  refine rSeq za_ok 0 [] [(2, vp 0 0), (3, vp 1 0), (4, vp 2 0)] [(0, .box (zi x)), (1, .box (zi y)), (2, .box [.d (.raw (.bool false)), .d (nsl [])])] (by kernel_rfl) h ?_; clear h; intro a w h
  obtain ⟨n1, en1, vn1, on1, ln1⟩ := mkN (v := Nat.gcd (Go.Proofs.Ytehbfobfkpejoaa.val x.abs) (Go.Proofs.Ytehbfobfkpejoaa.val y.abs)) (m := x.abs.length + y.abs.length) (gcd_lt_pw (val_lt hx) (val_lt hy))
  obtain ⟨r2, er2, vr2, or2, lr2⟩ := mkZ (v := iv false n1) (m := n1.length) (len_iv on1)
  refine rSeq za_ok 3 [(4, .call (Fn.cast (SRnGcd x.abs y.abs hx hy (by omega) (by omega)) (congrArg vn en1.symm)) za_3), (5, .call (Fn.cast (SRFrom false n1 on1 (by omega)) (congrArg vz er2.symm)) za_4)] [(4, vp 2 0)] [(2, .box (zi r2))] (by kernel_rfl) h ?_; clear h; intro a w h
  refine wp_ret ?_
  refine retS [.agg (zi r2)] h Exit.ret (.inl rfl)  rfl ⟨RV.agg _ 2 0 _ _ _ _ za_2 rfl rfl rfl rfl, trivial⟩ ?_ (by kernel_rfl) (by kernel_rfl)
  rw [er2]; unfold ZI.val; rw [iv_abs, iv_abs, ← gcd_iv _ _ vn1]; first | done | rfl
set_option maxRecDepth 100000 in
theorem SDiv (x y : ZI) (hx : Lb x.abs) (hy : Lb y.abs) (lx : x.abs.length ≤ 40000) (ly : y.abs.length ≤ 40000) (h0 : y.val ≠ 0) : Fn Try.prog 46 [] [vz x, vz y] (.tup [.agg (zi (ZI.of (x.val.fdiv y.val))), .agg (zi (ZI.of (x.val.fmod y.val))), .c (.d (.raw (.int .i64 0)))]) [] := by
  refine Fn.body Try.func46 rfl 56 rfl fun w H B a h => ?_
  refine rSeq za_ok 0 [] [(2, vp 0 0), (3, vp 1 0), (4, vp 2 0), (5, vp 3 0), (6, vi .i64 0)] [(0, .box (zi x)), (1, .box (zi y)), (2, .box [.d (.raw (.bool false)), .d (nsl [])]), (3, .box [.d (.raw (.bool false)), .d (nsl [])])] (by kernel_rfl) h ?_; clear h; intro a w h
  obtain ⟨r1, er1, vr1, or1, lr1⟩ := mkZ (v := x.val) (m := x.abs.length) (len_id hx)
  obtain ⟨r2, er2, vr2, or2, lr2⟩ := mkZ (v := y.val) (m := y.abs.length) (len_id hy)
  refine rSeq za_ok 4 [(1, .call (Fn.cast (SClean x hx (by omega)) (congrArg vz er1.symm)) za_5), (3, .call (Fn.cast (SClean y hy (by omega)) (congrArg vz er2.symm)) za_5)] [(2, vp 0 0), (3, vp 1 0), (4, vp 2 0), (5, vp 3 0), (6, vi .i64 0)] [(0, .box (zi r1)), (1, .box (zi r2)), (2, .box [.d (.raw (.bool false)), .d (nsl [])]), (3, .box [.d (.raw (.bool false)), .d (nsl [])])] (by kernel_rfl) h ?_; clear h; intro a w h
  obtain ⟨n3q, en3q, vn3q, on3q, ln3q⟩ := mkN (v := Go.Proofs.Ytehbfobfkpejoaa.val r1.abs / Go.Proofs.Ytehbfobfkpejoaa.val r2.abs) (m := r1.abs.length) (Nat.lt_of_le_of_lt (Nat.div_le_self _ _) (val_lt or1))
  obtain ⟨n3r, en3r, vn3r, on3r, ln3r⟩ := mkN (v := Go.Proofs.Ytehbfobfkpejoaa.val r1.abs % Go.Proofs.Ytehbfobfkpejoaa.val r2.abs) (m := r2.abs.length) (Nat.lt_trans (Nat.mod_lt _ (Nat.pos_of_ne_zero (by rw [ZI.val_abs, vr2]; omega))) (val_lt or2))
  refine rSeq za_ok 4 [(4, .call (Fn.cast (SnDiv r1.abs r2.abs or1 or2 (by omega) (by omega) (by rw [ZI.val_abs, vr2]; omega)) (show _ = (.tup [.c (.d (nsl n3q)), .c (.d (nsl n3r)), .c (.d (.raw (.int .i64 0)))] : V) by rw [en3q, en3r]; first | done | rfl)) za_6)] [(2, vp 0 0), (3, vp 1 0), (4, vp 2 0), (5, vp 3 0), (6, vi .i64 0), (7, vn n3q), (8, vn n3r)] [(0, .box (zi r1)), (1, .box (zi r2)), (2, .box [.d (.raw (.bool false)), .d (nsl [])]), (3, .box [.d (.raw (.bool false)), .d (nsl [])])] (by kernel_rfl) h ?_; clear h; intro a w h
  refine wp_seq ?_
  refine rSeq za_ok 4 [(1, .cmp (op := .neq) (m := 0) (n := 0) (b := false) .i64 rfl)] [(2, vp 0 0), (3, vp 1 0), (4, vp 2 0), (5, vp 3 0), (6, vi .i64 0), (7, vn n3q), (8, vn n3r), (23, vb false)] [(0, .box (zi r1)), (1, .box (zi r2)), (2, .box [.d (.raw (.bool false)), .d (nsl [])]), (3, .box [.d (.raw (.bool false)), .d (nsl [])])] (by kernel_rfl) h ?_; clear h; intro a w h
  refine condS false h rfl (fun hc => ?_) (fun hc => ?_)
  · cases hc
  · clear hc
    refine wp_skip ?_
    refine then_n ?_
    obtain ⟨r4, er4, vr4, or4, lr4⟩ := mkZ (v := iv (r1.neg != r2.neg) n3q) (m := n3q.length) (len_iv on3q)
    obtain ⟨r5, er5, vr5, or5, lr5⟩ := mkZ (v := iv r1.neg n3r) (m := n3r.length) (len_iv on3r)
    refine rSeq za_ok 4 [(6, .call (Fn.cast (SFrom (r1.neg != r2.neg) n3q on3q (by omega)) (congrArg vz er4.symm)) za_1), (10, .call (Fn.cast (SFrom r1.neg n3r on3r (by omega)) (congrArg vz er5.symm)) za_1)] [(2, vp 0 0), (3, vp 1 0), (4, vp 2 0), (5, vp 3 0), (6, vi .i64 0), (8, vn n3r)] [(0, .box (zi r1)), (1, .box (zi r2)), (2, .box (zi r4)), (3, .box (zi r5))] (by kernel_rfl) h ?_; clear h; intro a w h
    refine wp_seq ?_
    rcases Bool.eq_false_or_eq_true (r1.neg != r2.neg) with hc | hc
    · have hc1 := hc; clear hc
      have hc1' := hc1; (try simp at hc1')
      refine rSeq za_ok 4 [(4, .cmpb .neq (m := r1.neg) (n := r2.neg) (b := true) (.inr ⟨rfl, hc1.symm⟩)), (7, .len (nsl_len n3r))] [(3, vp 1 0), (4, vp 2 0), (5, vp 3 0), (6, vi .i64 0), (47, vb (decide ((n3r.length : Int) > 0)))] [(1, .box (zi r2)), (2, .box (zi r4)), (3, .box (zi r5))] (by kernel_rfl) h ?_; clear h; intro a w h
      refine condS (decide ((n3r.length : Int) > 0)) h rfl (fun hc => ?_) (fun hc => ?_)
      · have hc2 := hc; clear hc
        have hc2' := of_decide_eq_true hc2
        obtain ⟨r6, er6, vr6, or6, lr6⟩ := mkZ (v := 1) (m := 2) (ZI.len_of (by have := pw2; omega))
        obtain ⟨r7, er7, vr7, or7, lr7⟩ := mkZ (v := r4.val - r6.val) (m := r4.abs.length + r6.abs.length + 1) (len_sub or4 or6)
        obtain ⟨r8, er8, vr8, or8, lr8⟩ := mkZ (v := r5.val + r2.val) (m := r5.abs.length + r2.abs.length + 1) (len_add or5 or2)
        refine rS za_ok 4 [(1, .call (Fn.cast (SOf 1 ⟨by omega, by omega⟩) (congrArg vz er6.symm)) za_7), (2, .call (Fn.cast (SSub r4 r6 or4 or6 (by omega) (by omega)) (congrArg vz er7.symm)) za_8), (5, .call (Fn.cast (SAdd r5 r2 or5 or2 (by omega) (by omega)) (congrArg vz er8.symm)) za_9)] [(4, vp 2 0), (5, vp 3 0), (6, vi .i64 0)] [(2, .box (zi r7)), (3, .box (zi r8))] (by kernel_rfl) h ?_; clear h; intro a w h
        refine then_n ?_
        refine rSeq za_ok 4 [] [(4, vp 2 0), (5, vp 3 0), (6, vi .i64 0)] [(2, .box (zi r7)), (3, .box (zi r8))] (by kernel_rfl) h ?_; clear h; intro a w h
        refine wp_ret ?_
        refine retS [.agg (zi r7), .agg (zi r8), .c (.d (.raw (.int .i64 0)))] h Exit.ret (.inl rfl)  rfl ⟨RV.agg _ 2 0 _ _ _ _ za_2 rfl rfl rfl rfl, RV.agg _ 3 0 _ _ _ _ za_2 rfl rfl rfl rfl, RV.tmp _ _ rfl, trivial⟩ ?_ (by kernel_rfl) (by kernel_rfl)
        have f1 : r1.neg = decide (x.val < 0) := by rw [er1]; rfl
        have f2 : r2.neg = decide (y.val < 0) := by rw [er2]; rfl
        have f3 : Go.Proofs.Ytehbfobfkpejoaa.val n3q = x.val.natAbs / y.val.natAbs := by rw [vn3q, ZI.val_abs, ZI.val_abs, vr1, vr2]
        have f4 : Go.Proofs.Ytehbfobfkpejoaa.val n3r = x.val.natAbs % y.val.natAbs := by rw [vn3r, ZI.val_abs, ZI.val_abs, vr1, vr2]
        have f5 : Go.Proofs.Ytehbfobfkpejoaa.val n3r = 0 ↔ n3r.length = 0 := by rw [en3r]; exact val_zero (lbs_canon _)
        obtain ⟨e1, e2⟩ := fdiv_other h0 f1 f2 f3 f4 hc1 (fun h => by have := f5.1 h; omega)
        rw [er7, er8, vr4, vr5, vr6, vr2, e1, e2]; first | done | rfl
      · have hc3 := hc; clear hc
        have hc3' := of_decide_eq_false hc3
        refine wp_skip ?_
        refine then_n ?_
        refine rSeq za_ok 4 [] [(4, vp 2 0), (5, vp 3 0), (6, vi .i64 0)] [(2, .box (zi r4)), (3, .box (zi r5))] (by kernel_rfl) h ?_; clear h; intro a w h
        refine wp_ret ?_
        refine retS [.agg (zi r4), .agg (zi r5), .c (.d (.raw (.int .i64 0)))] h Exit.ret (.inl rfl)  rfl ⟨RV.agg _ 2 0 _ _ _ _ za_2 rfl rfl rfl rfl, RV.agg _ 3 0 _ _ _ _ za_2 rfl rfl rfl rfl, RV.tmp _ _ rfl, trivial⟩ ?_ (by kernel_rfl) (by kernel_rfl)
        have f1 : r1.neg = decide (x.val < 0) := by rw [er1]; rfl
        have f2 : r2.neg = decide (y.val < 0) := by rw [er2]; rfl
        have f3 : Go.Proofs.Ytehbfobfkpejoaa.val n3q = x.val.natAbs / y.val.natAbs := by rw [vn3q, ZI.val_abs, ZI.val_abs, vr1, vr2]
        have f4 : Go.Proofs.Ytehbfobfkpejoaa.val n3r = x.val.natAbs % y.val.natAbs := by rw [vn3r, ZI.val_abs, ZI.val_abs, vr1, vr2]
        have f5 : Go.Proofs.Ytehbfobfkpejoaa.val n3r = 0 ↔ n3r.length = 0 := by rw [en3r]; exact val_zero (lbs_canon _)
        obtain ⟨e1, e2⟩ := fdiv_same h0 f1 f2 f3 f4 (fun _ => f5.2 (by omega))
        rw [er4, er5, e1, e2]; first | done | rfl
    · have hc4 := hc; clear hc
      have hc4' := hc4; (try simp at hc4')
      refine rSeq za_ok 4 [(4, .cmpb .neq (m := r1.neg) (n := r2.neg) (b := false) (.inr ⟨rfl, hc4.symm⟩))] [(3, vp 1 0), (4, vp 2 0), (5, vp 3 0), (6, vi .i64 0), (47, vb false)] [(1, .box (zi r2)), (2, .box (zi r4)), (3, .box (zi r5))] (by kernel_rfl) h ?_; clear h; intro a w h
      refine condS false h rfl (fun hc => ?_) (fun hc => ?_)
      · cases hc
      · clear hc
        refine wp_skip ?_
        refine then_n ?_
        refine rSeq za_ok 4 [] [(4, vp 2 0), (5, vp 3 0), (6, vi .i64 0)] [(2, .box (zi r4)), (3, .box (zi r5))] (by kernel_rfl) h ?_; clear h; intro a w h
        refine wp_ret ?_
        refine retS [.agg (zi r4), .agg (zi r5), .c (.d (.raw (.int .i64 0)))] h Exit.ret (.inl rfl)  rfl ⟨RV.agg _ 2 0 _ _ _ _ za_2 rfl rfl rfl rfl, RV.agg _ 3 0 _ _ _ _ za_2 rfl rfl rfl rfl, RV.tmp _ _ rfl, trivial⟩ ?_ (by kernel_rfl) (by kernel_rfl)
        have f1 : r1.neg = decide (x.val < 0) := by rw [er1]; rfl
        have f2 : r2.neg = decide (y.val < 0) := by rw [er2]; rfl
        have f3 : Go.Proofs.Ytehbfobfkpejoaa.val n3q = x.val.natAbs / y.val.natAbs := by rw [vn3q, ZI.val_abs, ZI.val_abs, vr1, vr2]
        have f4 : Go.Proofs.Ytehbfobfkpejoaa.val n3r = x.val.natAbs % y.val.natAbs := by rw [vn3r, ZI.val_abs, ZI.val_abs, vr1, vr2]
        have f5 : Go.Proofs.Ytehbfobfkpejoaa.val n3r = 0 ↔ n3r.length = 0 := by rw [en3r]; exact val_zero (lbs_canon _)
        obtain ⟨e1, e2⟩ := fdiv_same h0 f1 f2 f3 f4 (fun h => by rw [hc4] at h; cases h)
        rw [er4, er5, e1, e2]; first | done | rfl
set_option maxRecDepth 100000 in
theorem SDiv0 (x y : ZI) (hx : Lb x.abs) (hy : Lb y.abs) (lx : x.abs.length ≤ 40000) (ly : y.abs.length ≤ 40000) (h0 : y.val = 0) : Fn Try.prog 46 [] [vz x, vz y] (.tup [.agg (zi (ZI.of 0)), .agg (zi (ZI.of 0)), .c (.d (.raw (.int .i64 10)))]) [] := by
  refine Fn.body Try.func46 rfl 56 rfl fun w H B a h => ?_
  refine rSeq za_ok 0 [] [(2, vp 0 0), (3, vp 1 0), (4, vp 2 0), (5, vp 3 0), (6, vi .i64 0)] [(0, .box (zi x)), (1, .box (zi y)), (2, .box [.d (.raw (.bool false)), .d (nsl [])]), (3, .box [.d (.raw (.bool false)), .d (nsl [])])] (by kernel_rfl) h ?_; clear h; intro a w h
  obtain ⟨r1, er1, vr1, or1, lr1⟩ := mkZ (v := x.val) (m := x.abs.length) (len_id hx)
  obtain ⟨r2, er2, vr2, or2, lr2⟩ := mkZ (v := y.val) (m := y.abs.length) (len_id hy)
  refine rSeq za_ok 4 [(1, .call (Fn.cast (SClean x hx (by omega)) (congrArg vz er1.symm)) za_5), (3, .call (Fn.cast (SClean y hy (by omega)) (congrArg vz er2.symm)) za_5)] [(2, vp 0 0), (3, vp 1 0), (4, vp 2 0), (5, vp 3 0), (6, vi .i64 0)] [(0, .box (zi r1)), (1, .box (zi r2)), (2, .box [.d (.raw (.bool false)), .d (nsl [])]), (3, .box [.d (.raw (.bool false)), .d (nsl [])])] (by kernel_rfl) h ?_; clear h; intro a w h
  refine rSeq za_ok 4 [(4, .call (SnDiv0 r1.abs r2.abs or1 or2 (by omega) (by omega) (by rw [ZI.val_abs, vr2]; omega)) za_6)] [(2, vp 0 0), (3, vp 1 0), (4, vp 2 0), (5, vp 3 0), (6, vi .i64 10), (7, vn (lbs 0)), (8, vn (lbs 0))] [(0, .box (zi r1)), (1, .box (zi r2)), (2, .box [.d (.raw (.bool false)), .d (nsl [])]), (3, .box [.d (.raw (.bool false)), .d (nsl [])])] (by kernel_rfl) h ?_; clear h; intro a w h
  refine wp_seq ?_
  refine rSeq za_ok 4 [(1, .cmp (op := .neq) (m := 10) (n := 0) (b := true) .i64 rfl)] [(2, vp 0 0), (3, vp 1 0), (4, vp 2 0), (5, vp 3 0), (6, vi .i64 10), (7, vn (lbs 0)), (8, vn (lbs 0)), (23, vb true)] [(0, .box (zi r1)), (1, .box (zi r2)), (2, .box [.d (.raw (.bool false)), .d (nsl [])]), (3, .box [.d (.raw (.bool false)), .d (nsl [])])] (by kernel_rfl) h ?_; clear h; intro a w h
  refine condS true h rfl (fun hc => ?_) (fun hc => ?_)
  · clear hc
    refine rSeq za_ok 4 [] [(2, vp 0 0), (3, vp 1 0), (4, vp 2 0), (5, vp 3 0), (6, vi .i64 10), (7, vn (lbs 0)), (8, vn (lbs 0))] [(0, .box (zi r1)), (1, .box (zi r2)), (2, .box [.d (.raw (.bool false)), .d (nsl [])]), (3, .box [.d (.raw (.bool false)), .d (nsl [])])] (by kernel_rfl) h ?_; clear h; intro a w h
    refine wp_ret ?_
    refine then_r ?_
    refine retS [.agg [.d (.raw (.bool false)), .d (nsl [])], .agg [.d (.raw (.bool false)), .d (nsl [])], .c (.d (.raw (.int .i64 10)))] h Exit.ret (.inl rfl)  rfl ⟨RV.agg _ 2 0 _ _ _ _ za_2 rfl rfl rfl rfl, RV.agg _ 3 0 _ _ _ _ za_2 rfl rfl rfl rfl, RV.tmp _ _ rfl, trivial⟩ ?_ (by kernel_rfl) (by kernel_rfl)
    rfl
  · cases hc
end Go.Proofs.Ytehbfobfkpejoaa.S
