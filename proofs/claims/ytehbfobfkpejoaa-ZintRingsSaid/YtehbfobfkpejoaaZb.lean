/-
  Div of the reference; Ceil, Exact, Hat, Lcm of both.
-/
import Derived.Test.YtehbfobfkpejoaaZa
import Derived.Test.YtehbfobfkpejoaaZq
namespace Go.Proofs.Ytehbfobfkpejoaa.S
open Go.RowKit

theorem zb_0 : Bodied Try.prog 81 := Bodied.mk' (by kernel_rfl)
theorem zb_1 : Bodied Try.prog 31 := Bodied.mk' (by kernel_rfl)
theorem zb_2 : Bodied Try.prog 65 := Bodied.mk' (by kernel_rfl)
theorem zb_3 : Bodied Try.prog 28 := Bodied.mk' (by kernel_rfl)
theorem zb_4 : Bodied Try.prog 26 := Bodied.mk' (by kernel_rfl)
theorem zb_5 : Bodied Try.prog 41 := Bodied.mk' (by kernel_rfl)
theorem zb_6 : Bodied Try.prog 24 := Bodied.mk' (by kernel_rfl)
theorem zb_7 : Sz Try.prog 25 2 true := Sz.mk' (by kernel_rfl) Try.underlying25 _ rfl
theorem zb_8 : Bodied Try.prog 46 := Bodied.mk' (by kernel_rfl)
theorem zb_9 : Bodied Try.prog 30 := Bodied.mk' (by kernel_rfl)
theorem zb_10 : Bodied Try.prog 40 := Bodied.mk' (by kernel_rfl)
theorem zb_11 : Bodied Try.prog 23 := Bodied.mk' (by kernel_rfl)
theorem zb_12 : Bodied Try.prog 33 := Bodied.mk' (by kernel_rfl)
theorem zb_13 : Bodied Try.prog 47 := Bodied.mk' (by kernel_rfl)
theorem zb_14 : Bodied Try.prog 27 := Bodied.mk' (by kernel_rfl)
theorem zb_15 : Bodied Try.prog 25 := Bodied.mk' (by kernel_rfl)
theorem zb_16 : Bodied Try.prog 22 := Bodied.mk' (by kernel_rfl)
def zb_tb : Tb := [(4, ⟨1, false, [], [.d (.raw (.bool false))], 3⟩), (23, ⟨1, false, [], [.d (nsl [])], 1⟩), (25, ⟨2, true, [(0, 1, false), (1, 1, false)], [.d (.raw (.bool false)), .d (nsl [])], 0⟩)]
theorem zb_ok : TbOk Try.prog zb_tb := ⟨TyOk.bl Try.underlying4 (by kernel_rfl) ⟨(.bool false : Value), [.bool false], by kernel_rfl, rfl, (fun _ _ => ⟨DR.raw _ rfl, trivial⟩)⟩,
  TyOk.slc Try.underlying23 (by kernel_rfl) ⟨(.slice none 0 0 : Value), [.slice none 0 0], by kernel_rfl, rfl, (fun _ _ => ⟨DR.nil _ _ _ (fun _ => rfl) (Nat.zero_le _), trivial⟩)⟩,
  TyOk.st Try.underlying25 (by kernel_rfl) ⟨⟨by decide, Fd.mk' _ _ Try.underlying25 rfl rfl (Sz.mk' (by kernel_rfl) Try.underlying4 _ rfl)⟩, ⟨by decide, Fd.mk' _ _ Try.underlying25 rfl rfl (Sz.mk' (by kernel_rfl) Try.underlying23 _ rfl)⟩, trivial⟩ ⟨(Value.agg #[.bool false, .slice none 0 0]), [.bool false, .slice none 0 0], by kernel_rfl, rfl, (fun _ _ => ⟨DR.raw _ rfl, DR.nil _ _ _ (fun _ => rfl) (Nat.zero_le _), trivial⟩)⟩ ⟨_, Try.underlying25, ⟨⟨rfl, by kernel_rfl⟩, ⟨rfl, by kernel_rfl⟩, trivial⟩⟩,
  trivial⟩
set_option maxRecDepth 100000 in
theorem SRDiv (x y : ZI) (hx : Lb x.abs) (hy : Lb y.abs) (lx : x.abs.length ≤ 20000) (ly : y.abs.length ≤ 20000) (h0 : y.val ≠ 0) : Fn Try.prog 47 [] [vz x, vz y] (.tup [.agg (zi (ZI.of (x.val.fdiv y.val))), .agg (zi (ZI.of (x.val.fmod y.val))), .c (.d (.raw (.int .i64 0)))]) [] := by
  have sm := sgn_mul_range x.val y.val
  refine Fn.body Try.func47 rfl 53 rfl fun w H B a h => ?_
  refine rSeq zb_ok 0 [] [(2, vp 0 0), (3, vp 1 0), (4, vp 2 0), (5, vp 3 0), (6, vi .i64 0)] [(0, .box (zi x)), (1, .box (zi y)), (2, .box [.d (.raw (.bool false)), .d (nsl [])]), (3, .box [.d (.raw (.bool false)), .d (nsl [])])] (by kernel_rfl) h ?_; clear h; intro a w h
  obtain ⟨n1q, en1q, vn1q, on1q, ln1q⟩ := mkN (v := Go.Proofs.Ytehbfobfkpejoaa.val x.abs / Go.Proofs.Ytehbfobfkpejoaa.val y.abs) (m := x.abs.length) (Nat.lt_of_le_of_lt (Nat.div_le_self _ _) (val_lt hx))
  obtain ⟨n1r, en1r, vn1r, on1r, ln1r⟩ := mkN (v := Go.Proofs.Ytehbfobfkpejoaa.val x.abs % Go.Proofs.Ytehbfobfkpejoaa.val y.abs) (m := y.abs.length) (Nat.lt_trans (Nat.mod_lt _ (Nat.pos_of_ne_zero (by rw [ZI.val_abs]; omega))) (val_lt hy))
  refine rSeq zb_ok 4 [(4, .call (Fn.cast (SRnDiv x.abs y.abs hx hy (by omega) (by omega) (by rw [ZI.val_abs]; omega)) (show _ = (.tup [.c (.d (nsl n1q)), .c (.d (nsl n1r)), .c (.d (.raw (.int .i64 0)))] : V) by rw [en1q, en1r]; first | done | rfl)) zb_0)] [(2, vp 0 0), (3, vp 1 0), (4, vp 2 0), (5, vp 3 0), (6, vi .i64 0), (7, vn n1q), (9, vi .i64 0)] [(0, .box (zi x)), (1, .box (zi y)), (2, .box [.d (.raw (.bool false)), .d (nsl [])]), (3, .box [.d (.raw (.bool false)), .d (nsl [])])] (by kernel_rfl) h ?_; clear h; intro a w h
  refine wp_seq ?_
  refine rSeq zb_ok 4 [(1, .cmp (op := .neq) (m := 0) (n := 0) (b := false) .i64 rfl)] [(2, vp 0 0), (3, vp 1 0), (4, vp 2 0), (5, vp 3 0), (6, vi .i64 0), (7, vn n1q), (9, vi .i64 0), (22, vb false)] [(0, .box (zi x)), (1, .box (zi y)), (2, .box [.d (.raw (.bool false)), .d (nsl [])]), (3, .box [.d (.raw (.bool false)), .d (nsl [])])] (by kernel_rfl) h ?_; clear h; intro a w h
  refine condS false h rfl (fun hc => ?_) (fun hc => ?_)
  · cases hc
  · clear hc
    refine wp_skip ?_
    refine then_n ?_
    obtain ⟨r4, er4, vr4, or4, lr4⟩ := mkZ (v := iv (decide ((sgn x.val * sgn y.val) < 0)) n1q) (m := n1q.length) (len_iv on1q)
    refine rSeq zb_ok 4 [(1, .call (SRSign x hx (by omega)) zb_1), (3, .call (SRSign y hy (by omega)) zb_1), (4, .mul .i64 (m := (sgn x.val)) (n := (sgn y.val)) (i64_id (by have := sgn_mul_range x.val y.val; omega) (by have := sgn_mul_range x.val y.val; omega))), (7, .call (Fn.cast (SRFrom (decide ((sgn x.val * sgn y.val) < 0)) n1q on1q (by omega)) (congrArg vz er4.symm)) zb_2)] [(2, vp 0 0), (3, vp 1 0), (4, vp 2 0), (5, vp 3 0), (6, vi .i64 0), (10, vp 4 0)] [(0, .box (zi x)), (1, .box (zi y)), (2, .box [.d (.raw (.bool false)), .d (nsl [])]), (3, .box [.d (.raw (.bool false)), .d (nsl [])]), (4, .box (zi r4))] (by kernel_rfl) h ?_; clear h; intro a w h
    obtain ⟨r5, er5, vr5, or5, lr5⟩ := mkZ (v := r4.val * y.val) (m := r4.abs.length + y.abs.length) (len_mul or4 hy)
    obtain ⟨r6, er6, vr6, or6, lr6⟩ := mkZ (v := x.val - r5.val) (m := x.abs.length + r5.abs.length + 1) (len_sub hx or5)
    refine rSeq zb_ok 5 [(3, .call (Fn.cast (SRMul r4 y or4 hy (by omega) (by omega)) (congrArg vz er5.symm)) zb_3), (4, .call (Fn.cast (SRSub x r5 hx or5 (by omega) (by omega)) (congrArg vz er6.symm)) zb_4)] [(3, vp 1 0), (4, vp 2 0), (5, vp 3 0), (6, vi .i64 0), (10, vp 4 0), (11, vp 5 0)] [(1, .box (zi y)), (2, .box [.d (.raw (.bool false)), .d (nsl [])]), (3, .box [.d (.raw (.bool false)), .d (nsl [])]), (4, .box (zi r4)), (5, .box (zi r6))] (by kernel_rfl) h ?_; clear h; intro a w h
    refine wp_seq ?_
    refine rSeq zb_ok 6 [(1, .call (SRSign r6 or6 (by omega)) zb_1), (3, .call (SRSign y hy (by omega)) zb_1), (4, .mul .i64 (m := (sgn r6.val)) (n := (sgn y.val)) (i64_id (by have := sgn_mul_range r6.val y.val; omega) (by have := sgn_mul_range r6.val y.val; omega)))] [(3, vp 1 0), (4, vp 2 0), (5, vp 3 0), (6, vi .i64 0), (10, vp 4 0), (11, vp 5 0), (44, vb (decide ((sgn r6.val * sgn y.val) < 0)))] [(1, .box (zi y)), (2, .box [.d (.raw (.bool false)), .d (nsl [])]), (3, .box [.d (.raw (.bool false)), .d (nsl [])]), (4, .box (zi r4)), (5, .box (zi r6))] (by kernel_rfl) h ?_; clear h; intro a w h
    refine condS (decide ((sgn r6.val * sgn y.val) < 0)) h rfl (fun hc => ?_) (fun hc => ?_)
    · have hc1 := hc; clear hc
      have hc1' := of_decide_eq_true hc1
      obtain ⟨r9, er9, vr9, or9, lr9⟩ := mkZ (v := 1) (m := 2) (ZI.len_of (by have := pw2; omega))
      obtain ⟨r10, er10, vr10, or10, lr10⟩ := mkZ (v := r4.val - r9.val) (m := r4.abs.length + r9.abs.length + 1) (len_sub or4 or9)
      refine rSeq zb_ok 6 [(1, .call (Fn.cast (SROf 1 ⟨by omega, by omega⟩) (congrArg vz er9.symm)) zb_5), (2, .call (Fn.cast (SRSub r4 r9 or4 or9 (by omega) (by omega)) (congrArg vz er10.symm)) zb_4)] [(3, vp 1 0), (4, vp 2 0), (5, vp 3 0), (6, vi .i64 0), (10, vp 4 0), (11, vp 5 0)] [(1, .box (zi y)), (2, .box [.d (.raw (.bool false)), .d (nsl [])]), (3, .box [.d (.raw (.bool false)), .d (nsl [])]), (4, .box (zi r10)), (5, .box (zi r6))] (by kernel_rfl) h ?_; clear h; intro a w h
      obtain ⟨r11, er11, vr11, or11, lr11⟩ := mkZ (v := r6.val + y.val) (m := r6.abs.length + y.abs.length + 1) (len_add or6 hy)
      refine rS zb_ok 6 [(2, .call (Fn.cast (SRAdd r6 y or6 hy (by omega) (by omega)) (congrArg vz er11.symm)) zb_6)] [(4, vp 2 0), (5, vp 3 0), (6, vi .i64 0), (10, vp 4 0), (11, vp 5 0)] [(2, .box [.d (.raw (.bool false)), .d (nsl [])]), (3, .box [.d (.raw (.bool false)), .d (nsl [])]), (4, .box (zi r10)), (5, .box (zi r11))] (by kernel_rfl) h ?_; clear h; intro a w h
      refine then_n ?_
      refine rSeq zb_ok 6 [] [(4, vp 2 0), (5, vp 3 0), (6, vi .i64 0)] [(2, .box (zi r10)), (3, .box (zi r11))] (by kernel_rfl) h ?_; clear h; intro a w h
      refine wp_ret ?_
      refine retS [.agg (zi r10), .agg (zi r11), .c (.d (.raw (.int .i64 0)))] h Exit.ret (.inl rfl)  rfl ⟨RV.agg _ 2 0 _ _ _ _ zb_7 rfl rfl rfl rfl, RV.agg _ 3 0 _ _ _ _ zb_7 rfl rfl rfl rfl, RV.tmp _ _ rfl, trivial⟩ ?_ (by kernel_rfl) (by kernel_rfl)
      have f1 := (tdiv_leaf h0 (b := decide (sgn x.val * sgn y.val < 0)) rfl (zq := n1q) (by rw [vn1q, ZI.val_abs, ZI.val_abs])).1
      obtain ⟨e1, e2⟩ := rdiv_turn h0 f1 (by rw [← vr4, ← vr5, ← vr6]; exact hc1')
      rw [er10, er11, vr4, vr9, vr6, vr5, vr4, e1, e2]; first | done | rfl
    · have hc2 := hc; clear hc
      have hc2' := of_decide_eq_false hc2
      refine wp_skip ?_
      refine then_n ?_
      refine rSeq zb_ok 6 [] [(4, vp 2 0), (5, vp 3 0), (6, vi .i64 0)] [(2, .box (zi r4)), (3, .box (zi r6))] (by kernel_rfl) h ?_; clear h; intro a w h
      refine wp_ret ?_
      refine retS [.agg (zi r4), .agg (zi r6), .c (.d (.raw (.int .i64 0)))] h Exit.ret (.inl rfl)  rfl ⟨RV.agg _ 2 0 _ _ _ _ zb_7 rfl rfl rfl rfl, RV.agg _ 3 0 _ _ _ _ zb_7 rfl rfl rfl rfl, RV.tmp _ _ rfl, trivial⟩ ?_ (by kernel_rfl) (by kernel_rfl)
      have f1 := (tdiv_leaf h0 (b := decide (sgn x.val * sgn y.val < 0)) rfl (zq := n1q) (by rw [vn1q, ZI.val_abs, ZI.val_abs])).1
      obtain ⟨e1, e2⟩ := rdiv_stay h0 f1 (by rw [← vr4, ← vr5, ← vr6]; exact hc2')
      rw [er4, er6, vr5, vr4, e2, e1]; first | done | rfl
set_option maxRecDepth 100000 in
theorem SRDiv0 (x y : ZI) (hx : Lb x.abs) (hy : Lb y.abs) (lx : x.abs.length ≤ 20000) (ly : y.abs.length ≤ 20000) (h0 : y.val = 0) : Fn Try.prog 47 [] [vz x, vz y] (.tup [.agg (zi (ZI.of 0)), .agg (zi (ZI.of 0)), .c (.d (.raw (.int .i64 10)))]) [] := by
  refine Fn.body Try.func47 rfl 53 rfl fun w H B a h => ?_
  refine rSeq zb_ok 0 [] [(2, vp 0 0), (3, vp 1 0), (4, vp 2 0), (5, vp 3 0), (6, vi .i64 0)] [(0, .box (zi x)), (1, .box (zi y)), (2, .box [.d (.raw (.bool false)), .d (nsl [])]), (3, .box [.d (.raw (.bool false)), .d (nsl [])])] (by kernel_rfl) h ?_; clear h; intro a w h
  refine rSeq zb_ok 4 [(4, .call (SRnDiv0 x.abs y.abs hx hy (by omega) (by omega) (by rw [ZI.val_abs]; omega)) zb_0)] [(2, vp 0 0), (3, vp 1 0), (4, vp 2 0), (5, vp 3 0), (6, vi .i64 0), (7, vn (lbs 0)), (9, vi .i64 10)] [(0, .box (zi x)), (1, .box (zi y)), (2, .box [.d (.raw (.bool false)), .d (nsl [])]), (3, .box [.d (.raw (.bool false)), .d (nsl [])])] (by kernel_rfl) h ?_; clear h; intro a w h
  refine wp_seq ?_
  refine rSeq zb_ok 4 [(1, .cmp (op := .neq) (m := 10) (n := 0) (b := true) .i64 rfl)] [(2, vp 0 0), (3, vp 1 0), (4, vp 2 0), (5, vp 3 0), (6, vi .i64 0), (7, vn (lbs 0)), (9, vi .i64 10), (22, vb true)] [(0, .box (zi x)), (1, .box (zi y)), (2, .box [.d (.raw (.bool false)), .d (nsl [])]), (3, .box [.d (.raw (.bool false)), .d (nsl [])])] (by kernel_rfl) h ?_; clear h; intro a w h
  refine condS true h rfl (fun hc => ?_) (fun hc => ?_)
  · clear hc
    refine rSeq zb_ok 4 [] [(2, vp 0 0), (3, vp 1 0), (4, vp 2 0), (5, vp 3 0), (6, vi .i64 10), (7, vn (lbs 0))] [(0, .box (zi x)), (1, .box (zi y)), (2, .box [.d (.raw (.bool false)), .d (nsl [])]), (3, .box [.d (.raw (.bool false)), .d (nsl [])])] (by kernel_rfl) h ?_; clear h; intro a w h
    refine wp_ret ?_
    refine then_r ?_
    refine retS [.agg [.d (.raw (.bool false)), .d (nsl [])], .agg [.d (.raw (.bool false)), .d (nsl [])], .c (.d (.raw (.int .i64 10)))] h Exit.ret (.inl rfl)  rfl ⟨RV.agg _ 2 0 _ _ _ _ zb_7 rfl rfl rfl rfl, RV.agg _ 3 0 _ _ _ _ zb_7 rfl rfl rfl rfl, RV.tmp _ _ rfl, trivial⟩ ?_ (by kernel_rfl) (by kernel_rfl)
    rfl
  · cases hc
theorem sgn_eq0 {z : Int} : sgn z = 0 ↔ z = 0 := by unfold sgn; split <;> (try split) <;> omega
set_option maxRecDepth 100000 in
theorem SCeil (x y : ZI) (hx : Lb x.abs) (hy : Lb y.abs) (lx : x.abs.length ≤ 20000) (ly : y.abs.length ≤ 20000) (h0 : y.val ≠ 0) : Fn Try.prog 48 [] [vz x, vz y] (.tup [.agg (zi (ZI.of (-((-x.val).fdiv y.val)))), .c (.d (.raw (.int .i64 0)))]) [] := by
  refine Fn.body Try.func48 rfl 28 rfl fun w H B a h => ?_
  refine rSeq zb_ok 0 [] [(2, vp 0 0), (3, vp 1 0), (4, vp 2 0), (5, vi .i64 0)] [(0, .box (zi x)), (1, .box (zi y)), (2, .box [.d (.raw (.bool false)), .d (nsl [])])] (by kernel_rfl) h ?_; clear h; intro a w h
  obtain ⟨r1q, er1q, vr1q, or1q, lr1q⟩ := mkZ (v := x.val.fdiv y.val) (m := x.abs.length) (len_fdiv hx h0)
  obtain ⟨r1r, er1r, vr1r, or1r, lr1r⟩ := mkZ (v := x.val.fmod y.val) (m := y.abs.length) (len_fmod hy h0)
  refine rSeq zb_ok 3 [(2, .call (Fn.cast (SDiv x y hx hy (by omega) (by omega) h0) (show _ = (.tup [.agg (zi r1q), .agg (zi r1r), .c (.d (.raw (.int .i64 0)))] : V) by rw [er1q, er1r]; first | done | rfl)) zb_8)] [(4, vp 2 0), (5, vi .i64 0), (6, vp 3 0), (7, vp 4 0), (8, vi .i64 0)] [(2, .box [.d (.raw (.bool false)), .d (nsl [])]), (3, .box (zi r1q)), (4, .box (zi r1r))] (by kernel_rfl) h ?_; clear h; intro a w h
  refine wp_seq ?_
  refine rSeq zb_ok 5 [(1, .cmp (op := .eql) (m := 0) (n := 0) (b := true) .i64 rfl), (4, .call (SSign r1r or1r (by omega)) zb_9)] [(4, vp 2 0), (5, vi .i64 0), (6, vp 3 0), (8, vi .i64 0), (22, vb (sgn r1r.val != 0))] [(2, .box [.d (.raw (.bool false)), .d (nsl [])]), (3, .box (zi r1q))] (by kernel_rfl) h ?_; clear h; intro a w h
  refine condS (sgn r1r.val != 0) h rfl (fun hc => ?_) (fun hc => ?_)
  · have hc1 := hc; clear hc
    have hc1' := hc1; (try simp at hc1')
    obtain ⟨r3, er3, vr3, or3, lr3⟩ := mkZ (v := 1) (m := 2) (ZI.len_of (by have := pw2; omega))
    obtain ⟨r4, er4, vr4, or4, lr4⟩ := mkZ (v := r1q.val + r3.val) (m := r1q.abs.length + r3.abs.length + 1) (len_add or1q or3)
    refine rS zb_ok 5 [(1, .call (Fn.cast (SOf 1 ⟨by omega, by omega⟩) (congrArg vz er3.symm)) zb_10), (2, .call (Fn.cast (SAdd r1q r3 or1q or3 (by omega) (by omega)) (congrArg vz er4.symm)) zb_11)] [(4, vp 2 0), (5, vi .i64 0), (6, vp 3 0), (8, vi .i64 0)] [(2, .box [.d (.raw (.bool false)), .d (nsl [])]), (3, .box (zi r4))] (by kernel_rfl) h ?_; clear h; intro a w h
    refine then_n ?_
    refine rSeq zb_ok 5 [] [(4, vp 2 0), (5, vi .i64 0)] [(2, .box (zi r4))] (by kernel_rfl) h ?_; clear h; intro a w h
    refine wp_ret ?_
    refine retS [.agg (zi r4), .c (.d (.raw (.int .i64 0)))] h Exit.ret (.inl rfl)  rfl ⟨RV.agg _ 2 0 _ _ _ _ zb_7 rfl rfl rfl rfl, RV.tmp _ _ rfl, trivial⟩ ?_ (by kernel_rfl) (by kernel_rfl)
    have k := ceil_turn h0 (by rw [← vr1r]; exact fun e => by rw [sgn_zero e] at hc1; simp at hc1)
    rw [er4, vr1q, vr3, k]; first | done | rfl
  · have hc2 := hc; clear hc
    have hc2' := hc2; (try simp at hc2')
    refine wp_skip ?_
    refine then_n ?_
    refine rSeq zb_ok 5 [] [(4, vp 2 0), (5, vi .i64 0)] [(2, .box (zi r1q))] (by kernel_rfl) h ?_; clear h; intro a w h
    refine wp_ret ?_
    refine retS [.agg (zi r1q), .c (.d (.raw (.int .i64 0)))] h Exit.ret (.inl rfl)  rfl ⟨RV.agg _ 2 0 _ _ _ _ zb_7 rfl rfl rfl rfl, RV.tmp _ _ rfl, trivial⟩ ?_ (by kernel_rfl) (by kernel_rfl)
    have k := ceil_stay h0 (by rw [← vr1r]; exact sgn_eq0.1 (by simpa using hc2))
    rw [er1q, k]; first | done | rfl
set_option maxRecDepth 100000 in
theorem SCeil0 (x y : ZI) (hx : Lb x.abs) (hy : Lb y.abs) (lx : x.abs.length ≤ 20000) (ly : y.abs.length ≤ 20000) (h0 : y.val = 0) : Fn Try.prog 48 [] [vz x, vz y] (.tup [.agg (zi (ZI.of (0))), .c (.d (.raw (.int .i64 10)))]) [] := by
  refine Fn.body Try.func48 rfl 28 rfl fun w H B a h => ?_
  refine rSeq zb_ok 0 [] [(2, vp 0 0), (3, vp 1 0), (4, vp 2 0), (5, vi .i64 0)] [(0, .box (zi x)), (1, .box (zi y)), (2, .box [.d (.raw (.bool false)), .d (nsl [])])] (by kernel_rfl) h ?_; clear h; intro a w h
  have l00 : (ZI.of 0).abs.length = 0 := rfl
  refine rSeq zb_ok 3 [(2, .call (SDiv0 x y hx hy (by omega) (by omega) h0) zb_8)] [(4, vp 2 0), (5, vi .i64 0), (6, vp 3 0), (7, vp 4 0), (8, vi .i64 10)] [(2, .box [.d (.raw (.bool false)), .d (nsl [])]), (3, .box (zi (ZI.of 0))), (4, .box (zi (ZI.of 0)))] (by kernel_rfl) h ?_; clear h; intro a w h
  refine wp_seq ?_
  refine rSeq zb_ok 5 [(1, .cmp (op := .eql) (m := 10) (n := 0) (b := false) .i64 rfl)] [(4, vp 2 0), (5, vi .i64 0), (6, vp 3 0), (8, vi .i64 10), (22, vb false)] [(2, .box [.d (.raw (.bool false)), .d (nsl [])]), (3, .box (zi (ZI.of 0)))] (by kernel_rfl) h ?_; clear h; intro a w h
  refine condS false h rfl (fun hc => ?_) (fun hc => ?_)
  · cases hc
  · clear hc
    refine wp_skip ?_
    refine then_n ?_
    refine rSeq zb_ok 5 [] [(4, vp 2 0), (5, vi .i64 10)] [(2, .box (zi (ZI.of 0)))] (by kernel_rfl) h ?_; clear h; intro a w h
    refine wp_ret ?_
    refine retS [.agg (zi (ZI.of 0)), .c (.d (.raw (.int .i64 10)))] h Exit.ret (.inl rfl)  rfl ⟨RV.agg _ 2 0 _ _ _ _ zb_7 rfl rfl rfl rfl, RV.tmp _ _ rfl, trivial⟩ ?_ (by kernel_rfl) (by kernel_rfl)
    rfl
set_option maxRecDepth 100000 in
theorem SRCeil (x y : ZI) (hx : Lb x.abs) (hy : Lb y.abs) (lx : x.abs.length ≤ 20000) (ly : y.abs.length ≤ 20000) (h0 : y.val ≠ 0) : Fn Try.prog 49 [] [vz x, vz y] (.tup [.agg (zi (ZI.of (-((-x.val).fdiv y.val)))), .c (.d (.raw (.int .i64 0)))]) [] := by
  refine Fn.body Try.func49 rfl 20 rfl fun w H B a h => ?_
  refine rSeq zb_ok 0 [] [(2, vp 0 0), (3, vp 1 0), (4, vp 2 0), (5, vi .i64 0)] [(0, .box (zi x)), (1, .box (zi y)), (2, .box [.d (.raw (.bool false)), .d (nsl [])])] (by kernel_rfl) h ?_; clear h; intro a w h
  obtain ⟨r1, er1, vr1, or1, lr1⟩ := mkZ (v := -x.val) (m := x.abs.length) (len_neg hx)
  obtain ⟨r2q, er2q, vr2q, or2q, lr2q⟩ := mkZ (v := r1.val.fdiv y.val) (m := r1.abs.length) (len_fdiv or1 h0)
  obtain ⟨r2r, er2r, vr2r, or2r, lr2r⟩ := mkZ (v := r1.val.fmod y.val) (m := y.abs.length) (len_fmod hy h0)
  refine rSeq zb_ok 3 [(1, .call (Fn.cast (SRNeg x hx (by omega)) (congrArg vz er1.symm)) zb_12), (3, .call (Fn.cast (SRDiv r1 y or1 hy (by omega) (by omega) h0) (show _ = (.tup [.agg (zi r2q), .agg (zi r2r), .c (.d (.raw (.int .i64 0)))] : V) by rw [er2q, er2r]; first | done | rfl)) zb_13)] [(4, vp 2 0), (5, vi .i64 0), (6, vp 3 0), (8, vi .i64 0)] [(2, .box [.d (.raw (.bool false)), .d (nsl [])]), (3, .box (zi r2q))] (by kernel_rfl) h ?_; clear h; intro a w h
  obtain ⟨r3, er3, vr3, or3, lr3⟩ := mkZ (v := -r2q.val) (m := r2q.abs.length) (len_neg or2q)
  refine rSeq zb_ok 5 [(1, .call (Fn.cast (SRNeg r2q or2q (by omega)) (congrArg vz er3.symm)) zb_12)] [(4, vp 2 0), (5, vi .i64 0)] [(2, .box (zi r3))] (by kernel_rfl) h ?_; clear h; intro a w h
  refine wp_ret ?_
  refine retS [.agg (zi r3), .c (.d (.raw (.int .i64 0)))] h Exit.ret (.inl rfl)  rfl ⟨RV.agg _ 2 0 _ _ _ _ zb_7 rfl rfl rfl rfl, RV.tmp _ _ rfl, trivial⟩ ?_ (by kernel_rfl) (by kernel_rfl)
  rw [er3, vr2q, vr1]; first | done | rfl
set_option maxRecDepth 100000 in
theorem SRCeil0 (x y : ZI) (hx : Lb x.abs) (hy : Lb y.abs) (lx : x.abs.length ≤ 20000) (ly : y.abs.length ≤ 20000) (h0 : y.val = 0) : Fn Try.prog 49 [] [vz x, vz y] (.tup [.agg (zi (ZI.of (0))), .c (.d (.raw (.int .i64 10)))]) [] := by
  refine Fn.body Try.func49 rfl 20 rfl fun w H B a h => ?_
  refine rSeq zb_ok 0 [] [(2, vp 0 0), (3, vp 1 0), (4, vp 2 0), (5, vi .i64 0)] [(0, .box (zi x)), (1, .box (zi y)), (2, .box [.d (.raw (.bool false)), .d (nsl [])])] (by kernel_rfl) h ?_; clear h; intro a w h
  obtain ⟨r1, er1, vr1, or1, lr1⟩ := mkZ (v := -x.val) (m := x.abs.length) (len_neg hx)
  have l00 : (ZI.of 0).abs.length = 0 := rfl
  refine rSeq zb_ok 3 [(1, .call (Fn.cast (SRNeg x hx (by omega)) (congrArg vz er1.symm)) zb_12), (3, .call (SRDiv0 r1 y or1 hy (by omega) (by omega) h0) zb_13)] [(4, vp 2 0), (5, vi .i64 0), (6, vp 3 0), (8, vi .i64 10)] [(2, .box [.d (.raw (.bool false)), .d (nsl [])]), (3, .box (zi (ZI.of 0)))] (by kernel_rfl) h ?_; clear h; intro a w h
  obtain ⟨r3, er3, vr3, or3, lr3⟩ := mkZ (v := -(ZI.of 0).val) (m := (ZI.of 0).abs.length) (len_neg (ZI.lb_of _))
  refine rSeq zb_ok 5 [(1, .call (Fn.cast (SRNeg (ZI.of 0) (ZI.lb_of _) (by omega)) (congrArg vz er3.symm)) zb_12)] [(4, vp 2 0), (5, vi .i64 10)] [(2, .box (zi r3))] (by kernel_rfl) h ?_; clear h; intro a w h
  refine wp_ret ?_
  refine retS [.agg (zi r3), .c (.d (.raw (.int .i64 10)))] h Exit.ret (.inl rfl)  rfl ⟨RV.agg _ 2 0 _ _ _ _ zb_7 rfl rfl rfl rfl, RV.tmp _ _ rfl, trivial⟩ ?_ (by kernel_rfl) (by kernel_rfl)
  rw [er3, ZI.val_of]; first | done | rfl
set_option maxRecDepth 100000 in
theorem SExact (x y : ZI) (hx : Lb x.abs) (hy : Lb y.abs) (lx : x.abs.length ≤ 20000) (ly : y.abs.length ≤ 20000) (h0 : y.val ≠ 0) (hr : x.val.fmod y.val = 0) : Fn Try.prog 50 [] [vz x, vz y] (.tup [.agg (zi (ZI.of (x.val.fdiv y.val))), .c (.d (.raw (.int .i64 0)))]) [] := by
  refine Fn.body Try.func50 rfl 27 rfl fun w H B a h => ?_
  refine rSeq zb_ok 0 [] [(2, vp 0 0), (3, vp 1 0), (4, vp 2 0), (5, vi .i64 0)] [(0, .box (zi x)), (1, .box (zi y)), (2, .box [.d (.raw (.bool false)), .d (nsl [])])] (by kernel_rfl) h ?_; clear h; intro a w h
  obtain ⟨r1q, er1q, vr1q, or1q, lr1q⟩ := mkZ (v := x.val.fdiv y.val) (m := x.abs.length) (len_fdiv hx h0)
  obtain ⟨r1r, er1r, vr1r, or1r, lr1r⟩ := mkZ (v := x.val.fmod y.val) (m := y.abs.length) (len_fmod hy h0)
  refine rSeq zb_ok 3 [(2, .call (Fn.cast (SDiv x y hx hy (by omega) (by omega) h0) (show _ = (.tup [.agg (zi r1q), .agg (zi r1r), .c (.d (.raw (.int .i64 0)))] : V) by rw [er1q, er1r]; first | done | rfl)) zb_8)] [(4, vp 2 0), (5, vi .i64 0), (6, vp 3 0), (7, vp 4 0), (8, vi .i64 0)] [(2, .box [.d (.raw (.bool false)), .d (nsl [])]), (3, .box (zi r1q)), (4, .box (zi r1r))] (by kernel_rfl) h ?_; clear h; intro a w h
  refine wp_seq ?_
  refine wp_block ?_
  refine rSeq zb_ok 5 [(1, .cmp (op := .neq) (m := 0) (n := 0) (b := false) .i64 rfl)] [(4, vp 2 0), (5, vi .i64 0), (6, vp 3 0), (7, vp 4 0), (8, vi .i64 0), (16, vb false)] [(2, .box [.d (.raw (.bool false)), .d (nsl [])]), (3, .box (zi r1q)), (4, .box (zi r1r))] (by kernel_rfl) h ?_; clear h; intro a w h
  refine condS false h rfl (fun hc => ?_) (fun hc => ?_)
  · cases hc
  · clear hc
    refine rSeq zb_ok 5 [(1, .call (Fn.cast (SSign r1r or1r (by omega)) (congrArg (vi .i64) (sgn_zero (by rw [vr1r]; exact hr)))) zb_9), (2, .cmp (op := .neq) (m := 0) (n := 0) (b := false) .i64 rfl)] [(4, vp 2 0), (5, vi .i64 0), (6, vp 3 0), (21, vb false)] [(2, .box [.d (.raw (.bool false)), .d (nsl [])]), (3, .box (zi r1q))] (by kernel_rfl) h ?_; clear h; intro a w h
    refine condS false h rfl (fun hc => ?_) (fun hc => ?_)
    · cases hc
    · clear hc
      refine wp_skip ?_
      refine block_n ?_
      refine then_n ?_
      refine rSeq zb_ok 5 [] [(4, vp 2 0), (5, vi .i64 0)] [(2, .box (zi r1q))] (by kernel_rfl) h ?_; clear h; intro a w h
      refine wp_ret ?_
      refine retS [.agg (zi r1q), .c (.d (.raw (.int .i64 0)))] h Exit.ret (.inl rfl)  rfl ⟨RV.agg _ 2 0 _ _ _ _ zb_7 rfl rfl rfl rfl, RV.tmp _ _ rfl, trivial⟩ ?_ (by kernel_rfl) (by kernel_rfl)
      rw [er1q]; first | done | rfl
set_option maxRecDepth 100000 in
theorem SExactN (x y : ZI) (hx : Lb x.abs) (hy : Lb y.abs) (lx : x.abs.length ≤ 20000) (ly : y.abs.length ≤ 20000) (h0 : y.val ≠ 0) (hr : x.val.fmod y.val ≠ 0) : Fn Try.prog 50 [] [vz x, vz y] (.tup [.agg (zi (ZI.of (0))), .c (.d (.raw (.int .i64 1)))]) [] := by
  have hs : (sgn (x.val.fmod y.val) != 0) = true := by simpa [sgn_eq0] using hr
  refine Fn.body Try.func50 rfl 27 rfl fun w H B a h => ?_
  refine rSeq zb_ok 0 [] [(2, vp 0 0), (3, vp 1 0), (4, vp 2 0), (5, vi .i64 0)] [(0, .box (zi x)), (1, .box (zi y)), (2, .box [.d (.raw (.bool false)), .d (nsl [])])] (by kernel_rfl) h ?_; clear h; intro a w h
  obtain ⟨r1q, er1q, vr1q, or1q, lr1q⟩ := mkZ (v := x.val.fdiv y.val) (m := x.abs.length) (len_fdiv hx h0)
  obtain ⟨r1r, er1r, vr1r, or1r, lr1r⟩ := mkZ (v := x.val.fmod y.val) (m := y.abs.length) (len_fmod hy h0)
  refine rSeq zb_ok 3 [(2, .call (Fn.cast (SDiv x y hx hy (by omega) (by omega) h0) (show _ = (.tup [.agg (zi r1q), .agg (zi r1r), .c (.d (.raw (.int .i64 0)))] : V) by rw [er1q, er1r]; first | done | rfl)) zb_8)] [(4, vp 2 0), (5, vi .i64 0), (6, vp 3 0), (7, vp 4 0), (8, vi .i64 0)] [(2, .box [.d (.raw (.bool false)), .d (nsl [])]), (3, .box (zi r1q)), (4, .box (zi r1r))] (by kernel_rfl) h ?_; clear h; intro a w h
  refine wp_seq ?_
  refine wp_block ?_
  refine rSeq zb_ok 5 [(1, .cmp (op := .neq) (m := 0) (n := 0) (b := false) .i64 rfl)] [(4, vp 2 0), (5, vi .i64 0), (6, vp 3 0), (7, vp 4 0), (8, vi .i64 0), (16, vb false)] [(2, .box [.d (.raw (.bool false)), .d (nsl [])]), (3, .box (zi r1q)), (4, .box (zi r1r))] (by kernel_rfl) h ?_; clear h; intro a w h
  refine condS false h rfl (fun hc => ?_) (fun hc => ?_)
  · cases hc
  · clear hc
    refine rSeq zb_ok 5 [(1, .call (SSign r1r or1r (by omega)) zb_9), (2, .cmp (op := .neq) (m := (sgn r1r.val)) (n := 0) (b := true) .i64 (by rw [vr1r]; exact hs))] [(4, vp 2 0), (5, vi .i64 0), (6, vp 3 0), (21, vb true)] [(2, .box [.d (.raw (.bool false)), .d (nsl [])]), (3, .box (zi r1q))] (by kernel_rfl) h ?_; clear h; intro a w h
    refine condS true h rfl (fun hc => ?_) (fun hc => ?_)
    · clear hc
      refine rSeq zb_ok 5 [] [(4, vp 2 0), (5, vi .i64 1), (6, vp 3 0)] [(2, .box [.d (.raw (.bool false)), .d (nsl [])]), (3, .box (zi r1q))] (by kernel_rfl) h ?_; clear h; intro a w h
      refine wp_ret ?_
      refine block_r ?_
      refine then_r ?_
      refine retS [.agg [.d (.raw (.bool false)), .d (nsl [])], .c (.d (.raw (.int .i64 1)))] h Exit.ret (.inl rfl)  rfl ⟨RV.agg _ 2 0 _ _ _ _ zb_7 rfl rfl rfl rfl, RV.tmp _ _ rfl, trivial⟩ ?_ (by kernel_rfl) (by kernel_rfl)
      rfl
    · cases hc
set_option maxRecDepth 100000 in
theorem SExact0 (x y : ZI) (hx : Lb x.abs) (hy : Lb y.abs) (lx : x.abs.length ≤ 20000) (ly : y.abs.length ≤ 20000) (h0 : y.val = 0) : Fn Try.prog 50 [] [vz x, vz y] (.tup [.agg (zi (ZI.of (0))), .c (.d (.raw (.int .i64 10)))]) [] := by
  refine Fn.body Try.func50 rfl 27 rfl fun w H B a h => ?_
  refine rSeq zb_ok 0 [] [(2, vp 0 0), (3, vp 1 0), (4, vp 2 0), (5, vi .i64 0)] [(0, .box (zi x)), (1, .box (zi y)), (2, .box [.d (.raw (.bool false)), .d (nsl [])])] (by kernel_rfl) h ?_; clear h; intro a w h
  have l00 : (ZI.of 0).abs.length = 0 := rfl
  refine rSeq zb_ok 3 [(2, .call (SDiv0 x y hx hy (by omega) (by omega) h0) zb_8)] [(4, vp 2 0), (5, vi .i64 0), (6, vp 3 0), (7, vp 4 0), (8, vi .i64 10)] [(2, .box [.d (.raw (.bool false)), .d (nsl [])]), (3, .box (zi (ZI.of 0))), (4, .box (zi (ZI.of 0)))] (by kernel_rfl) h ?_; clear h; intro a w h
  refine wp_seq ?_
  refine wp_block ?_
  refine rSeq zb_ok 5 [(1, .cmp (op := .neq) (m := 10) (n := 0) (b := true) .i64 rfl)] [(4, vp 2 0), (5, vi .i64 0), (6, vp 3 0), (7, vp 4 0), (8, vi .i64 10), (16, vb true)] [(2, .box [.d (.raw (.bool false)), .d (nsl [])]), (3, .box (zi (ZI.of 0))), (4, .box (zi (ZI.of 0)))] (by kernel_rfl) h ?_; clear h; intro a w h
  refine condS true h rfl (fun hc => ?_) (fun hc => ?_)
  · clear hc
    refine rSeq zb_ok 5 [] [(4, vp 2 0), (5, vi .i64 10), (6, vp 3 0)] [(2, .box [.d (.raw (.bool false)), .d (nsl [])]), (3, .box (zi (ZI.of 0)))] (by kernel_rfl) h ?_; clear h; intro a w h
    refine wp_ret ?_
    refine block_r ?_
    refine then_r ?_
    refine retS [.agg [.d (.raw (.bool false)), .d (nsl [])], .c (.d (.raw (.int .i64 10)))] h Exit.ret (.inl rfl)  rfl ⟨RV.agg _ 2 0 _ _ _ _ zb_7 rfl rfl rfl rfl, RV.tmp _ _ rfl, trivial⟩ ?_ (by kernel_rfl) (by kernel_rfl)
    rfl
  · cases hc
set_option maxRecDepth 100000 in
theorem SRExact (x y : ZI) (hx : Lb x.abs) (hy : Lb y.abs) (lx : x.abs.length ≤ 20000) (ly : y.abs.length ≤ 20000) (h0 : y.val ≠ 0) (hr : x.val.fmod y.val = 0) : Fn Try.prog 51 [] [vz x, vz y] (.tup [.agg (zi (ZI.of (x.val.fdiv y.val))), .c (.d (.raw (.int .i64 0)))]) [] := by
  refine Fn.body Try.func51 rfl 25 rfl fun w H B a h => ?_
  refine rSeq zb_ok 0 [] [(2, vp 0 0), (3, vp 1 0), (4, vp 2 0), (5, vi .i64 0)] [(0, .box (zi x)), (1, .box (zi y)), (2, .box [.d (.raw (.bool false)), .d (nsl [])])] (by kernel_rfl) h ?_; clear h; intro a w h
  obtain ⟨r1q, er1q, vr1q, or1q, lr1q⟩ := mkZ (v := x.val.fdiv y.val) (m := x.abs.length) (len_fdiv hx h0)
  obtain ⟨r1r, er1r, vr1r, or1r, lr1r⟩ := mkZ (v := x.val.fmod y.val) (m := y.abs.length) (len_fmod hy h0)
  refine rSeq zb_ok 3 [(2, .call (Fn.cast (SRDiv x y hx hy (by omega) (by omega) h0) (show _ = (.tup [.agg (zi r1q), .agg (zi r1r), .c (.d (.raw (.int .i64 0)))] : V) by rw [er1q, er1r]; first | done | rfl)) zb_13)] [(4, vp 2 0), (5, vi .i64 0), (6, vp 3 0), (7, vp 4 0), (8, vi .i64 0)] [(2, .box [.d (.raw (.bool false)), .d (nsl [])]), (3, .box (zi r1q)), (4, .box (zi r1r))] (by kernel_rfl) h ?_; clear h; intro a w h
  refine wp_seq ?_
  refine rSeq zb_ok 5 [(1, .cmp (op := .neq) (m := 0) (n := 0) (b := false) .i64 rfl)] [(4, vp 2 0), (5, vi .i64 0), (6, vp 3 0), (7, vp 4 0), (8, vi .i64 0), (17, vb false)] [(2, .box [.d (.raw (.bool false)), .d (nsl [])]), (3, .box (zi r1q)), (4, .box (zi r1r))] (by kernel_rfl) h ?_; clear h; intro a w h
  refine condS false h rfl (fun hc => ?_) (fun hc => ?_)
  · cases hc
  · clear hc
    refine wp_skip ?_
    refine then_n ?_
    refine wp_seq ?_
    refine rSeq zb_ok 5 [(1, .call (Fn.cast (SRSign r1r or1r (by omega)) (congrArg (vi .i64) (sgn_zero (by rw [vr1r]; exact hr)))) zb_1), (2, .cmp (op := .neq) (m := 0) (n := 0) (b := false) .i64 rfl)] [(4, vp 2 0), (5, vi .i64 0), (6, vp 3 0), (22, vb false)] [(2, .box [.d (.raw (.bool false)), .d (nsl [])]), (3, .box (zi r1q))] (by kernel_rfl) h ?_; clear h; intro a w h
    refine condS false h rfl (fun hc => ?_) (fun hc => ?_)
    · cases hc
    · clear hc
      refine wp_skip ?_
      refine then_n ?_
      refine rSeq zb_ok 5 [] [(4, vp 2 0), (5, vi .i64 0)] [(2, .box (zi r1q))] (by kernel_rfl) h ?_; clear h; intro a w h
      refine wp_ret ?_
      refine retS [.agg (zi r1q), .c (.d (.raw (.int .i64 0)))] h Exit.ret (.inl rfl)  rfl ⟨RV.agg _ 2 0 _ _ _ _ zb_7 rfl rfl rfl rfl, RV.tmp _ _ rfl, trivial⟩ ?_ (by kernel_rfl) (by kernel_rfl)
      rw [er1q]; first | done | rfl
set_option maxRecDepth 100000 in
theorem SRExactN (x y : ZI) (hx : Lb x.abs) (hy : Lb y.abs) (lx : x.abs.length ≤ 20000) (ly : y.abs.length ≤ 20000) (h0 : y.val ≠ 0) (hr : x.val.fmod y.val ≠ 0) : Fn Try.prog 51 [] [vz x, vz y] (.tup [.agg (zi (ZI.of (0))), .c (.d (.raw (.int .i64 1)))]) [] := by
  have hs : (sgn (x.val.fmod y.val) != 0) = true := by simpa [sgn_eq0] using hr
  refine Fn.body Try.func51 rfl 25 rfl fun w H B a h => ?_
  refine rSeq zb_ok 0 [] [(2, vp 0 0), (3, vp 1 0), (4, vp 2 0), (5, vi .i64 0)] [(0, .box (zi x)), (1, .box (zi y)), (2, .box [.d (.raw (.bool false)), .d (nsl [])])] (by kernel_rfl) h ?_; clear h; intro a w h
  obtain ⟨r1q, er1q, vr1q, or1q, lr1q⟩ := mkZ (v := x.val.fdiv y.val) (m := x.abs.length) (len_fdiv hx h0)
  obtain ⟨r1r, er1r, vr1r, or1r, lr1r⟩ := mkZ (v := x.val.fmod y.val) (m := y.abs.length) (len_fmod hy h0)
  refine rSeq zb_ok 3 [(2, .call (Fn.cast (SRDiv x y hx hy (by omega) (by omega) h0) (show _ = (.tup [.agg (zi r1q), .agg (zi r1r), .c (.d (.raw (.int .i64 0)))] : V) by rw [er1q, er1r]; first | done | rfl)) zb_13)] [(4, vp 2 0), (5, vi .i64 0), (6, vp 3 0), (7, vp 4 0), (8, vi .i64 0)] [(2, .box [.d (.raw (.bool false)), .d (nsl [])]), (3, .box (zi r1q)), (4, .box (zi r1r))] (by kernel_rfl) h ?_; clear h; intro a w h
  refine wp_seq ?_
  refine rSeq zb_ok 5 [(1, .cmp (op := .neq) (m := 0) (n := 0) (b := false) .i64 rfl)] [(4, vp 2 0), (5, vi .i64 0), (6, vp 3 0), (7, vp 4 0), (8, vi .i64 0), (17, vb false)] [(2, .box [.d (.raw (.bool false)), .d (nsl [])]), (3, .box (zi r1q)), (4, .box (zi r1r))] (by kernel_rfl) h ?_; clear h; intro a w h
  refine condS false h rfl (fun hc => ?_) (fun hc => ?_)
  · cases hc
  · clear hc
    refine wp_skip ?_
    refine then_n ?_
    refine wp_seq ?_
    refine rSeq zb_ok 5 [(1, .call (SRSign r1r or1r (by omega)) zb_1), (2, .cmp (op := .neq) (m := (sgn r1r.val)) (n := 0) (b := true) .i64 (by rw [vr1r]; exact hs))] [(4, vp 2 0), (5, vi .i64 0), (6, vp 3 0), (22, vb true)] [(2, .box [.d (.raw (.bool false)), .d (nsl [])]), (3, .box (zi r1q))] (by kernel_rfl) h ?_; clear h; intro a w h
    refine condS true h rfl (fun hc => ?_) (fun hc => ?_)
    · clear hc
      refine rSeq zb_ok 5 [] [(4, vp 2 0), (5, vi .i64 1), (6, vp 3 0)] [(2, .box [.d (.raw (.bool false)), .d (nsl [])]), (3, .box (zi r1q))] (by kernel_rfl) h ?_; clear h; intro a w h
      refine wp_ret ?_
      refine then_r ?_
      refine retS [.agg [.d (.raw (.bool false)), .d (nsl [])], .c (.d (.raw (.int .i64 1)))] h Exit.ret (.inl rfl)  rfl ⟨RV.agg _ 2 0 _ _ _ _ zb_7 rfl rfl rfl rfl, RV.tmp _ _ rfl, trivial⟩ ?_ (by kernel_rfl) (by kernel_rfl)
      rfl
    · cases hc
set_option maxRecDepth 100000 in
theorem SRExact0 (x y : ZI) (hx : Lb x.abs) (hy : Lb y.abs) (lx : x.abs.length ≤ 20000) (ly : y.abs.length ≤ 20000) (h0 : y.val = 0) : Fn Try.prog 51 [] [vz x, vz y] (.tup [.agg (zi (ZI.of (0))), .c (.d (.raw (.int .i64 10)))]) [] := by
  refine Fn.body Try.func51 rfl 25 rfl fun w H B a h => ?_
  refine rSeq zb_ok 0 [] [(2, vp 0 0), (3, vp 1 0), (4, vp 2 0), (5, vi .i64 0)] [(0, .box (zi x)), (1, .box (zi y)), (2, .box [.d (.raw (.bool false)), .d (nsl [])])] (by kernel_rfl) h ?_; clear h; intro a w h
  have l00 : (ZI.of 0).abs.length = 0 := rfl
  refine rSeq zb_ok 3 [(2, .call (SRDiv0 x y hx hy (by omega) (by omega) h0) zb_13)] [(4, vp 2 0), (5, vi .i64 0), (6, vp 3 0), (7, vp 4 0), (8, vi .i64 10)] [(2, .box [.d (.raw (.bool false)), .d (nsl [])]), (3, .box (zi (ZI.of 0))), (4, .box (zi (ZI.of 0)))] (by kernel_rfl) h ?_; clear h; intro a w h
  refine wp_seq ?_
  refine rSeq zb_ok 5 [(1, .cmp (op := .neq) (m := 10) (n := 0) (b := true) .i64 rfl)] [(4, vp 2 0), (5, vi .i64 0), (6, vp 3 0), (7, vp 4 0), (8, vi .i64 10), (17, vb true)] [(2, .box [.d (.raw (.bool false)), .d (nsl [])]), (3, .box (zi (ZI.of 0))), (4, .box (zi (ZI.of 0)))] (by kernel_rfl) h ?_; clear h; intro a w h
  refine condS true h rfl (fun hc => ?_) (fun hc => ?_)
  · clear hc
    refine rSeq zb_ok 5 [] [(4, vp 2 0), (5, vi .i64 10), (6, vp 3 0), (7, vp 4 0)] [(2, .box [.d (.raw (.bool false)), .d (nsl [])]), (3, .box (zi (ZI.of 0))), (4, .box (zi (ZI.of 0)))] (by kernel_rfl) h ?_; clear h; intro a w h
    refine wp_ret ?_
    refine then_r ?_
    refine retS [.agg [.d (.raw (.bool false)), .d (nsl [])], .c (.d (.raw (.int .i64 10)))] h Exit.ret (.inl rfl)  rfl ⟨RV.agg _ 2 0 _ _ _ _ zb_7 rfl rfl rfl rfl, RV.tmp _ _ rfl, trivial⟩ ?_ (by kernel_rfl) (by kernel_rfl)
    rfl
  · cases hc
theorem cmpZ_ge {a b : Int} : cmpZ a b ≥ 0 ↔ b ≤ a := by unfold cmpZ; split <;> (try split) <;> omega
set_option maxRecDepth 100000 in
theorem SHat (x y : ZI) (hx : Lb x.abs) (hy : Lb y.abs) (lx : x.abs.length ≤ 5000) (ly : y.abs.length ≤ 5000) (h0 : 0 < y.val) : Fn Try.prog 52 [] [vz x, vz y] (.tup [.agg (zi (ZI.of (hatZ x.val y.val))), .c (.d (.raw (.int .i64 0)))]) [] := by
  refine Fn.body Try.func52 rfl 33 rfl fun w H B a h => ?_
  refine rSeq zb_ok 0 [] [(2, vp 0 0), (3, vp 1 0), (4, vp 2 0), (5, vi .i64 0)] [(0, .box (zi x)), (1, .box (zi y)), (2, .box [.d (.raw (.bool false)), .d (nsl [])])] (by kernel_rfl) h ?_; clear h; intro a w h
  refine wp_seq ?_
  refine rSeq zb_ok 3 [(1, .call (Fn.cast (SSign y hy (by omega)) (congrArg (vi .i64) (sgn_pos h0))) zb_9), (2, .cmp (op := .leq) (m := 1) (n := 0) (b := false) .i64 rfl)] [(2, vp 0 0), (3, vp 1 0), (4, vp 2 0), (5, vi .i64 0), (12, vb false)] [(0, .box (zi x)), (1, .box (zi y)), (2, .box [.d (.raw (.bool false)), .d (nsl [])])] (by kernel_rfl) h ?_; clear h; intro a w h
  refine condS false h rfl (fun hc => ?_) (fun hc => ?_)
  · cases hc
  · clear hc
    refine wp_skip ?_
    refine then_n ?_
    obtain ⟨r2, er2, vr2, or2, lr2⟩ := mkZ (v := 2) (m := 2) (ZI.len_of (by have := pw2; omega))
    refine rSeq zb_ok 3 [(0, .call (Fn.cast (SOf 2 ⟨by omega, by omega⟩) (congrArg vz er2.symm)) zb_10)] [(2, vp 0 0), (3, vp 1 0), (4, vp 2 0), (5, vi .i64 0), (6, vp 3 0)] [(0, .box (zi x)), (1, .box (zi y)), (2, .box [.d (.raw (.bool false)), .d (nsl [])]), (3, .box (zi r2))] (by kernel_rfl) h ?_; clear h; intro a w h
    obtain ⟨r3, er3, vr3, or3, lr3⟩ := mkZ (v := x.val * r2.val) (m := x.abs.length + r2.abs.length) (len_mul hx or2)
    obtain ⟨r4, er4, vr4, or4, lr4⟩ := mkZ (v := r3.val + y.val) (m := r3.abs.length + y.abs.length + 1) (len_add or3 hy)
    obtain ⟨r5, er5, vr5, or5, lr5⟩ := mkZ (v := y.val * r2.val) (m := y.abs.length + r2.abs.length) (len_mul hy or2)
    obtain ⟨r6q, er6q, vr6q, or6q, lr6q⟩ := mkZ (v := r4.val.fdiv r5.val) (m := r4.abs.length) (len_fdiv or4 (by rw [vr5, vr2]; omega))
    obtain ⟨r6r, er6r, vr6r, or6r, lr6r⟩ := mkZ (v := r4.val.fmod r5.val) (m := r5.abs.length) (len_fmod or5 (by rw [vr5, vr2]; omega))
    refine rSeq zb_ok 4 [(2, .call (Fn.cast (SMul x r2 hx or2 (by omega) (by omega)) (congrArg vz er3.symm)) zb_14), (4, .call (Fn.cast (SAdd r3 y or3 hy (by omega) (by omega)) (congrArg vz er4.symm)) zb_11), (7, .call (Fn.cast (SMul y r2 hy or2 (by omega) (by omega)) (congrArg vz er5.symm)) zb_14), (8, .call (Fn.cast (SDiv r4 r5 or4 or5 (by omega) (by omega) (by rw [vr5, vr2]; omega)) (show _ = (.tup [.agg (zi r6q), .agg (zi r6r), .c (.d (.raw (.int .i64 0)))] : V) by rw [er6q, er6r]; first | done | rfl)) zb_8)] [(2, vp 0 0), (3, vp 1 0), (4, vp 2 0), (5, vi .i64 0), (7, vp 4 0)] [(0, .box (zi x)), (1, .box (zi y)), (2, .box [.d (.raw (.bool false)), .d (nsl [])]), (4, .box (zi r6q))] (by kernel_rfl) h ?_; clear h; intro a w h
    obtain ⟨r7, er7, vr7, or7, lr7⟩ := mkZ (v := y.val * r6q.val) (m := y.abs.length + r6q.abs.length) (len_mul hy or6q)
    obtain ⟨r8, er8, vr8, or8, lr8⟩ := mkZ (v := x.val - r7.val) (m := x.abs.length + r7.abs.length + 1) (len_sub hx or7)
    refine rSeq zb_ok 6 [(3, .call (Fn.cast (SMul y r6q hy or6q (by omega) (by omega)) (congrArg vz er7.symm)) zb_14), (4, .call (Fn.cast (SSub x r7 hx or7 (by omega) (by omega)) (congrArg vz er8.symm)) zb_15)] [(4, vp 2 0), (5, vi .i64 0)] [(2, .box (zi r8))] (by kernel_rfl) h ?_; clear h; intro a w h
    refine wp_ret ?_
    refine retS [.agg (zi r8), .c (.d (.raw (.int .i64 0)))] h Exit.ret (.inl rfl)  rfl ⟨RV.agg _ 2 0 _ _ _ _ zb_7 rfl rfl rfl rfl, RV.tmp _ _ rfl, trivial⟩ ?_ (by kernel_rfl) (by kernel_rfl)
    rw [er8, vr7, vr6q, vr4, vr3, vr5, vr2]; first | done | rfl
set_option maxRecDepth 100000 in
theorem SRHat (x y : ZI) (hx : Lb x.abs) (hy : Lb y.abs) (lx : x.abs.length ≤ 5000) (ly : y.abs.length ≤ 5000) (h0 : 0 < y.val) : Fn Try.prog 53 [] [vz x, vz y] (.tup [.agg (zi (ZI.of (hatZ x.val y.val))), .c (.d (.raw (.int .i64 0)))]) [] := by
  refine Fn.body Try.func53 rfl 30 rfl fun w H B a h => ?_
  refine rSeq zb_ok 0 [] [(2, vp 0 0), (3, vp 1 0), (4, vp 2 0), (5, vi .i64 0)] [(0, .box (zi x)), (1, .box (zi y)), (2, .box [.d (.raw (.bool false)), .d (nsl [])])] (by kernel_rfl) h ?_; clear h; intro a w h
  refine wp_seq ?_
  refine rSeq zb_ok 3 [(1, .call (Fn.cast (SRSign y hy (by omega)) (congrArg (vi .i64) (sgn_pos h0))) zb_1), (2, .cmp (op := .leq) (m := 1) (n := 0) (b := false) .i64 rfl)] [(2, vp 0 0), (3, vp 1 0), (4, vp 2 0), (5, vi .i64 0), (11, vb false)] [(0, .box (zi x)), (1, .box (zi y)), (2, .box [.d (.raw (.bool false)), .d (nsl [])])] (by kernel_rfl) h ?_; clear h; intro a w h
  refine condS false h rfl (fun hc => ?_) (fun hc => ?_)
  · cases hc
  · clear hc
    refine wp_skip ?_
    refine then_n ?_
    obtain ⟨r2q, er2q, vr2q, or2q, lr2q⟩ := mkZ (v := x.val.fdiv y.val) (m := x.abs.length) (len_fdiv hx (by omega))
    obtain ⟨r2r, er2r, vr2r, or2r, lr2r⟩ := mkZ (v := x.val.fmod y.val) (m := y.abs.length) (len_fmod hy (by omega))
    refine rSeq zb_ok 3 [(2, .call (Fn.cast (SRDiv x y hx hy (by omega) (by omega) (by omega)) (show _ = (.tup [.agg (zi r2q), .agg (zi r2r), .c (.d (.raw (.int .i64 0)))] : V) by rw [er2q, er2r]; first | done | rfl)) zb_13)] [(3, vp 1 0), (4, vp 2 0), (5, vi .i64 0), (7, vp 4 0)] [(1, .box (zi y)), (2, .box [.d (.raw (.bool false)), .d (nsl [])]), (4, .box (zi r2r))] (by kernel_rfl) h ?_; clear h; intro a w h
    refine wp_seq ?_
    obtain ⟨r3, er3, vr3, or3, lr3⟩ := mkZ (v := 2) (m := 2) (ZI.len_of (by have := pw2; omega))
    obtain ⟨r4, er4, vr4, or4, lr4⟩ := mkZ (v := r2r.val * r3.val) (m := r2r.abs.length + r3.abs.length) (len_mul or2r or3)
    refine rSeq zb_ok 5 [(1, .call (Fn.cast (SROf 2 ⟨by omega, by omega⟩) (congrArg vz er3.symm)) zb_5), (2, .call (Fn.cast (SRMul r2r r3 or2r or3 (by omega) (by omega)) (congrArg vz er4.symm)) zb_3), (4, .call (SRCmp r4 y or4 hy (by omega) (by omega)) zb_16)] [(3, vp 1 0), (4, vp 2 0), (5, vi .i64 0), (7, vp 4 0), (25, vb (decide (cmpZ r4.val y.val ≥ 0)))] [(1, .box (zi y)), (2, .box [.d (.raw (.bool false)), .d (nsl [])]), (4, .box (zi r2r))] (by kernel_rfl) h ?_; clear h; intro a w h
    refine condS (decide (cmpZ r4.val y.val ≥ 0)) h rfl (fun hc => ?_) (fun hc => ?_)
    · have hc1 := hc; clear hc
      have hc1' := of_decide_eq_true hc1
      obtain ⟨r6, er6, vr6, or6, lr6⟩ := mkZ (v := r2r.val - y.val) (m := r2r.abs.length + y.abs.length + 1) (len_sub or2r hy)
      refine rSeq zb_ok 5 [(2, .call (Fn.cast (SRSub r2r y or2r hy (by omega) (by omega)) (congrArg vz er6.symm)) zb_4)] [(4, vp 2 0), (5, vi .i64 0), (7, vp 4 0)] [(2, .box (zi r6)), (4, .box (zi r2r))] (by kernel_rfl) h ?_; clear h; intro a w h
      refine wp_ret ?_
      refine then_r ?_
      refine retS [.agg (zi r6), .c (.d (.raw (.int .i64 0)))] h Exit.ret (.inl rfl)  rfl ⟨RV.agg _ 2 0 _ _ _ _ zb_7 rfl rfl rfl rfl, RV.tmp _ _ rfl, trivial⟩ ?_ (by kernel_rfl) (by kernel_rfl)
      have k := hat_ref (X := x.val) h0
      rw [if_pos (by rw [← vr2r]; have := cmpZ_ge.1 hc1'; rw [vr4, vr3] at this; exact this)] at k
      rw [er6, vr2r, ← k]; first | done | rfl
    · have hc2 := hc; clear hc
      have hc2' := of_decide_eq_false hc2
      refine wp_skip ?_
      refine then_n ?_
      refine rSeq zb_ok 5 [] [(4, vp 2 0), (5, vi .i64 0)] [(2, .box (zi r2r))] (by kernel_rfl) h ?_; clear h; intro a w h
      refine wp_ret ?_
      refine retS [.agg (zi r2r), .c (.d (.raw (.int .i64 0)))] h Exit.ret (.inl rfl)  rfl ⟨RV.agg _ 2 0 _ _ _ _ zb_7 rfl rfl rfl rfl, RV.tmp _ _ rfl, trivial⟩ ?_ (by kernel_rfl) (by kernel_rfl)
      have k := hat_ref (X := x.val) h0
      rw [if_neg (by rw [← vr2r]; have := mt cmpZ_ge.2 hc2'; rw [vr4, vr3] at this; exact this)] at k
      rw [er2r, ← k]; first | done | rfl
set_option maxRecDepth 100000 in
theorem SHat0 (x y : ZI) (_hx : Lb x.abs) (hy : Lb y.abs) (_lx : x.abs.length ≤ 5000) (ly : y.abs.length ≤ 5000) (h0 : y.val ≤ 0) : Fn Try.prog 52 [] [vz x, vz y] (.tup [.agg (zi (ZI.of (0))), .c (.d (.raw (.int .i64 1)))]) [] := by
  have hs : decide (sgn y.val ≤ 0) = true := decide_eq_true (by unfold sgn; split <;> (try split) <;> omega)
  refine Fn.body Try.func52 rfl 33 rfl fun w H B a h => ?_
  refine rSeq zb_ok 0 [] [(2, vp 0 0), (3, vp 1 0), (4, vp 2 0), (5, vi .i64 0)] [(0, .box (zi x)), (1, .box (zi y)), (2, .box [.d (.raw (.bool false)), .d (nsl [])])] (by kernel_rfl) h ?_; clear h; intro a w h
  refine wp_seq ?_
  refine rSeq zb_ok 3 [(1, .call (SSign y hy (by omega)) zb_9), (2, .cmp (op := .leq) (m := (sgn y.val)) (n := 0) (b := true) .i64 hs)] [(2, vp 0 0), (3, vp 1 0), (4, vp 2 0), (5, vi .i64 0), (12, vb true)] [(0, .box (zi x)), (1, .box (zi y)), (2, .box [.d (.raw (.bool false)), .d (nsl [])])] (by kernel_rfl) h ?_; clear h; intro a w h
  refine condS true h rfl (fun hc => ?_) (fun hc => ?_)
  · clear hc
    refine rSeq zb_ok 3 [] [(2, vp 0 0), (3, vp 1 0), (4, vp 2 0), (5, vi .i64 1)] [(0, .box (zi x)), (1, .box (zi y)), (2, .box [.d (.raw (.bool false)), .d (nsl [])])] (by kernel_rfl) h ?_; clear h; intro a w h
    refine wp_ret ?_
    refine then_r ?_
    refine retS [.agg [.d (.raw (.bool false)), .d (nsl [])], .c (.d (.raw (.int .i64 1)))] h Exit.ret (.inl rfl)  rfl ⟨RV.agg _ 2 0 _ _ _ _ zb_7 rfl rfl rfl rfl, RV.tmp _ _ rfl, trivial⟩ ?_ (by kernel_rfl) (by kernel_rfl)
    rfl
  · cases hc
set_option maxRecDepth 100000 in
theorem SRHat0 (x y : ZI) (_hx : Lb x.abs) (hy : Lb y.abs) (_lx : x.abs.length ≤ 5000) (ly : y.abs.length ≤ 5000) (h0 : y.val ≤ 0) : Fn Try.prog 53 [] [vz x, vz y] (.tup [.agg (zi (ZI.of (0))), .c (.d (.raw (.int .i64 1)))]) [] := by
  have hs : decide (sgn y.val ≤ 0) = true := decide_eq_true (by unfold sgn; split <;> (try split) <;> omega)
  refine Fn.body Try.func53 rfl 30 rfl fun w H B a h => ?_
  refine rSeq zb_ok 0 [] [(2, vp 0 0), (3, vp 1 0), (4, vp 2 0), (5, vi .i64 0)] [(0, .box (zi x)), (1, .box (zi y)), (2, .box [.d (.raw (.bool false)), .d (nsl [])])] (by kernel_rfl) h ?_; clear h; intro a w h
  refine wp_seq ?_
  refine rSeq zb_ok 3 [(1, .call (SRSign y hy (by omega)) zb_1), (2, .cmp (op := .leq) (m := (sgn y.val)) (n := 0) (b := true) .i64 hs)] [(2, vp 0 0), (3, vp 1 0), (4, vp 2 0), (5, vi .i64 0), (11, vb true)] [(0, .box (zi x)), (1, .box (zi y)), (2, .box [.d (.raw (.bool false)), .d (nsl [])])] (by kernel_rfl) h ?_; clear h; intro a w h
  refine condS true h rfl (fun hc => ?_) (fun hc => ?_)
  · clear hc
    refine rSeq zb_ok 3 [] [(2, vp 0 0), (3, vp 1 0), (4, vp 2 0), (5, vi .i64 1)] [(0, .box (zi x)), (1, .box (zi y)), (2, .box [.d (.raw (.bool false)), .d (nsl [])])] (by kernel_rfl) h ?_; clear h; intro a w h
    refine wp_ret ?_
    refine then_r ?_
    refine retS [.agg [.d (.raw (.bool false)), .d (nsl [])], .c (.d (.raw (.int .i64 1)))] h Exit.ret (.inl rfl)  rfl ⟨RV.agg _ 2 0 _ _ _ _ zb_7 rfl rfl rfl rfl, RV.tmp _ _ rfl, trivial⟩ ?_ (by kernel_rfl) (by kernel_rfl)
    rfl
  · cases hc
end Go.Proofs.Ytehbfobfkpejoaa.S
