/-
  The walk of the statement ZintEuclid.
-/
import Derived.Test.YtehbfobfkpejoaaZf
namespace Go.Proofs.Ytehbfobfkpejoaa.S
open Go.RowKit

theorem zintEuclid_0 : Bodied Try.prog 19 := Bodied.mk' (by kernel_rfl)
theorem zintEuclid_1 : Bodied Try.prog 45 := Bodied.mk' (by kernel_rfl)
theorem zintEuclid_2 : Bodied Try.prog 54 := Bodied.mk' (by kernel_rfl)
theorem zintEuclid_3 : Bodied Try.prog 20 := Bodied.mk' (by kernel_rfl)
theorem zintEuclid_4 : Bodied Try.prog 55 := Bodied.mk' (by kernel_rfl)
theorem zintEuclid_5 : Bodied Try.prog 27 := Bodied.mk' (by kernel_rfl)
theorem zintEuclid_6 : Bodied Try.prog 23 := Bodied.mk' (by kernel_rfl)
theorem zintEuclid_7 : Bodied Try.prog 29 := Bodied.mk' (by kernel_rfl)
theorem zintEuclid_8 : Bodied Try.prog 30 := Bodied.mk' (by kernel_rfl)
theorem zintEuclid_9 : Bodied Try.prog 57 := Bodied.mk' (by kernel_rfl)
theorem zintEuclid_10 : Bodied Try.prog 59 := Bodied.mk' (by kernel_rfl)
theorem zintEuclid_11 : Bodied Try.prog 34 := Bodied.mk' (by kernel_rfl)
theorem zintEuclid_12 : Bodied Try.prog 50 := Bodied.mk' (by kernel_rfl)
def zintEuclid_tb : Tb := [(4, ⟨1, false, [], [.d (.raw (.bool false))], 3⟩), (23, ⟨1, false, [], [.d (nsl [])], 1⟩), (25, ⟨2, true, [(0, 1, false), (1, 1, false)], [.d (.raw (.bool false)), .d (nsl [])], 0⟩)]
theorem zintEuclid_ok : TbOk Try.prog zintEuclid_tb := ⟨TyOk.bl Try.underlying4 (by kernel_rfl) ⟨(.bool false : Value), [.bool false], by kernel_rfl, rfl, (fun _ _ => ⟨DR.raw _ rfl, trivial⟩)⟩,
  TyOk.slc Try.underlying23 (by kernel_rfl) ⟨(.slice none 0 0 : Value), [.slice none 0 0], by kernel_rfl, rfl, (fun _ _ => ⟨DR.nil _ _ _ (fun _ => rfl) (Nat.zero_le _), trivial⟩)⟩,
  TyOk.st Try.underlying25 (by kernel_rfl) ⟨⟨by decide, Fd.mk' _ _ Try.underlying25 rfl rfl (Sz.mk' (by kernel_rfl) Try.underlying4 _ rfl)⟩, ⟨by decide, Fd.mk' _ _ Try.underlying25 rfl rfl (Sz.mk' (by kernel_rfl) Try.underlying23 _ rfl)⟩, trivial⟩ ⟨(Value.agg #[.bool false, .slice none 0 0]), [.bool false, .slice none 0 0], by kernel_rfl, rfl, (fun _ _ => ⟨DR.raw _ rfl, DR.nil _ _ _ (fun _ => rfl) (Nat.zero_le _), trivial⟩)⟩ ⟨_, Try.underlying25, ⟨⟨rfl, by kernel_rfl⟩, ⟨rfl, by kernel_rfl⟩, trivial⟩⟩,
  trivial⟩
set_option maxRecDepth 100000 in
theorem SzintEuclid0 (x y : ZI) (hx : Lb x.abs) (hy : Lb y.abs) (hm : ((x.abs.length : Int) ≤ 30 ∧ (y.abs.length : Int) ≤ 30)) (hg : x.val = 0 ∧ y.val = 0) : Fn Try.prog 12 [] [vz x, vz y] (vb true) [] := by
  obtain ⟨lx, ly⟩ := hm
  have hms := decide_eq_true (show ((x.abs.length : Int) ≤ 30 ∧ (y.abs.length : Int) ≤ 30) from ⟨lx, ly⟩)
  refine Fn.body Try.func12 rfl 96 rfl fun w H B a h => ?_
  refine rSeq zintEuclid_ok 0 [] [(2, vp 0 0), (3, vp 1 0), (4, vb false)] [(0, .box (zi x)), (1, .box (zi y))] (by kernel_rfl) h ?_; clear h; intro a w h
  refine wp_seq ?_
  refine rSeq zintEuclid_ok 2 [(0, .call (Scounting) zintEuclid_0), (3, .call (Sdividing) zintEuclid_1), (7, .call (Ssharing) zintEuclid_2)] [(2, vp 0 0), (3, vp 1 0), (4, vb false), (21, vb false)] [(0, .box (zi x)), (1, .box (zi y))] (by kernel_rfl) h ?_; clear h; intro a w h
  refine condS false h rfl (fun hc => ?_) (fun hc => ?_)
  · cases hc
  · clear hc
    refine wp_skip ?_
    refine then_n ?_
    refine wp_seq ?_
    refine rSeq zintEuclid_ok 2 [(2, .call (Fn.cast (Sshort x y 30 hx hy) (congrArg vb hms)) zintEuclid_3)] [(2, vp 0 0), (3, vp 1 0), (4, vb false), (25, vb false)] [(0, .box (zi x)), (1, .box (zi y))] (by kernel_rfl) h ?_; clear h; intro a w h
    refine condS false h rfl (fun hc => ?_) (fun hc => ?_)
    · cases hc
    · clear hc
      refine wp_skip ?_
      refine then_n ?_
      obtain ⟨r5g, er5g, vr5g, or5g, lr5g⟩ := mkZ (v := (Nat.gcd x.val.natAbs y.val.natAbs : Int)) (m := x.abs.length + y.abs.length) (len_gcd hx hy)
      obtain ⟨r5x, er5x, vr5x, or5x, lr5x⟩ := mkZ (v := bezX x y) (m := x.abs.length + y.abs.length + 2) (len_bezX hx hy)
      obtain ⟨r5y, er5y, vr5y, or5y, lr5y⟩ := mkZ (v := bezY x y) (m := x.abs.length + y.abs.length + 2) (len_bezY hx hy)
      refine rSeq zintEuclid_ok 2 [(2, .call (Fn.cast (SBezout x y hx hy (by omega) (by omega)) (show _ = (.tup [.agg (zi r5g), .agg (zi r5x), .agg (zi r5y)] : V) by rw [er5g, er5x, er5y]; first | done | rfl)) zintEuclid_4)] [(2, vp 0 0), (3, vp 1 0), (4, vb false), (5, vp 2 0), (6, vp 3 0), (7, vp 4 0)] [(0, .box (zi x)), (1, .box (zi y)), (2, .box (zi r5g)), (3, .box (zi r5x)), (4, .box (zi r5y))] (by kernel_rfl) h ?_; clear h; intro a w h
      refine wp_seq ?_
      obtain ⟨r6, er6, vr6, or6, lr6⟩ := mkZ (v := x.val * r5x.val) (m := x.abs.length + r5x.abs.length) (len_mul hx or5x)
      obtain ⟨r7, er7, vr7, or7, lr7⟩ := mkZ (v := y.val * r5y.val) (m := y.abs.length + r5y.abs.length) (len_mul hy or5y)
      obtain ⟨r8, er8, vr8, or8, lr8⟩ := mkZ (v := r6.val + r7.val) (m := r6.abs.length + r7.abs.length + 1) (len_add or6 or7)
      obtain ⟨r11, er11, vr11, or11, lr11⟩ := mkZ (v := (Nat.gcd y.val.natAbs x.val.natAbs : Int)) (m := y.abs.length + x.abs.length) (len_gcd hy hx)
      refine rSeq zintEuclid_ok 5 [(2, .call (Fn.cast (SMul x r5x hx or5x (by omega) (by omega)) (congrArg vz er6.symm)) zintEuclid_5), (5, .call (Fn.cast (SMul y r5y hy or5y (by omega) (by omega)) (congrArg vz er7.symm)) zintEuclid_5), (6, .call (Fn.cast (SAdd r6 r7 or6 or7 (by omega) (by omega)) (congrArg vz er8.symm)) zintEuclid_6), (8, .call (Fn.cast (SCmp r8 r5g or8 or5g (by omega) (by omega)) (congrArg (vi .i64) (cmpZ_self (by rw [vr8, vr6, vr7, vr5x, vr5y, vr5g]; exact bez_law x y)))) zintEuclid_7), (9, .cmp (op := .neq) (m := 0) (n := 0) (b := false) .i64 rfl), (12, .call (SSign r5g or5g (by omega)) zintEuclid_8), (13, .cmp (op := .lss) (m := (sgn r5g.val)) (n := 0) (b := false) .i64 (decide_eq_false (fun e => by have := sgn_lt.1 e; rw [vr5g] at this; omega))), (19, .call (Fn.cast (SGcd y x hy hx (by omega) (by omega)) (congrArg vz er11.symm)) zintEuclid_9), (20, .call (Fn.cast (SCmp r5g r11 or5g or11 (by omega) (by omega)) (congrArg (vi .i64) (cmpZ_self (by rw [vr5g, vr11, Nat.gcd_comm])))) zintEuclid_7), (21, .cmp (op := .neq) (m := 0) (n := 0) (b := false) .i64 rfl)] [(2, vp 0 0), (3, vp 1 0), (4, vb false), (5, vp 2 0), (55, vb false)] [(0, .box (zi x)), (1, .box (zi y)), (2, .box (zi r5g))] (by kernel_rfl) h ?_; clear h; intro a w h
      refine condS false h rfl (fun hc => ?_) (fun hc => ?_)
      · cases hc
      · clear hc
        refine wp_skip ?_
        refine then_n ?_
        refine wp_seq ?_
        obtain ⟨r13, er13, vr13, or13, lr13⟩ := mkZ (v := (Nat.lcm x.val.natAbs y.val.natAbs : Int)) (m := x.abs.length + y.abs.length) (len_lcm hx hy)
        obtain ⟨r14, er14, vr14, or14, lr14⟩ := mkZ (v := r13.val * r5g.val) (m := r13.abs.length + r5g.abs.length) (len_mul or13 or5g)
        obtain ⟨r15, er15, vr15, or15, lr15⟩ := mkZ (v := x.val * y.val) (m := x.abs.length + y.abs.length) (len_mul hx hy)
        obtain ⟨r16, er16, vr16, or16, lr16⟩ := mkZ (v := (r15.val.natAbs : Int)) (m := r15.abs.length) (len_abs or15)
        refine rSeq zintEuclid_ok 5 [(2, .call (Fn.cast (SLcm x y hx hy (by omega) (by omega)) (congrArg vz er13.symm)) zintEuclid_10), (4, .call (Fn.cast (SMul r13 r5g or13 or5g (by omega) (by omega)) (congrArg vz er14.symm)) zintEuclid_5), (7, .call (Fn.cast (SMul x y hx hy (by omega) (by omega)) (congrArg vz er15.symm)) zintEuclid_5), (8, .call (Fn.cast (SAbs r15 or15 (by omega)) (congrArg vz er16.symm)) zintEuclid_11), (9, .call (Fn.cast (SCmp r14 r16 or14 or16 (by omega) (by omega)) (congrArg (vi .i64) (cmpZ_self (by rw [vr14, vr13, vr5g, vr16, vr15]; exact lcm_gcd _ _)))) zintEuclid_7), (10, .cmp (op := .neq) (m := 0) (n := 0) (b := false) .i64 rfl)] [(2, vp 0 0), (3, vp 1 0), (4, vb false), (5, vp 2 0), (66, vb false)] [(0, .box (zi x)), (1, .box (zi y)), (2, .box (zi r5g))] (by kernel_rfl) h ?_; clear h; intro a w h
        refine condS false h rfl (fun hc => ?_) (fun hc => ?_)
        · cases hc
        · clear hc
          refine wp_skip ?_
          refine then_n ?_
          refine wp_seq ?_
          refine rSeq zintEuclid_ok 5 [(1, .call (SSign r5g or5g (by omega)) zintEuclid_8), (2, .cmp (op := .eql) (m := (sgn r5g.val)) (n := 0) (b := true) .i64 (by rw [vr5g, hg.1, hg.2]; rfl))] [(2, vp 0 0), (3, vp 1 0), (4, vb false), (5, vp 2 0), (69, vb true)] [(0, .box (zi x)), (1, .box (zi y)), (2, .box (zi r5g))] (by kernel_rfl) h ?_; clear h; intro a w h
          refine condS true h rfl (fun hc => ?_) (fun hc => ?_)
          · clear hc
            refine rSeq zintEuclid_ok 5 [(1, .call (Fn.cast (SSign x hx (by omega)) (congrArg (vi .i64) (sgn_zero hg.1))) zintEuclid_8), (2, .cmp (op := .eql) (m := 0) (n := 0) (b := true) .i64 rfl), (5, .call (Fn.cast (SSign y hy (by omega)) (congrArg (vi .i64) (sgn_zero hg.2))) zintEuclid_8), (6, .cmp (op := .eql) (m := 0) (n := 0) (b := true) .i64 rfl)] [(2, vp 0 0), (3, vp 1 0), (4, vb true), (5, vp 2 0)] [(0, .box (zi x)), (1, .box (zi y)), (2, .box (zi r5g))] (by kernel_rfl) h ?_; clear h; intro a w h
            refine wp_ret ?_
            refine then_r ?_
            refine retS [.c (.d (.raw (.bool true)))] h Exit.ret (.inl rfl)  rfl ⟨RV.tmp _ _ rfl, trivial⟩ ?_ (by kernel_rfl) (by kernel_rfl)
            rfl
          · cases hc
set_option maxRecDepth 100000 in
theorem SzintEuclidA (x y : ZI) (hx : Lb x.abs) (hy : Lb y.abs) (hm : ((x.abs.length : Int) ≤ 30 ∧ (y.abs.length : Int) ≤ 30)) (hg0 : (Nat.gcd x.val.natAbs y.val.natAbs : Int) ≠ 0) : Fn Try.prog 12 [] [vz x, vz y] (vb true) [] := by
  obtain ⟨lx, ly⟩ := hm
  have hms := decide_eq_true (show ((x.abs.length : Int) ≤ 30 ∧ (y.abs.length : Int) ≤ 30) from ⟨lx, ly⟩)
  refine Fn.body Try.func12 rfl 96 rfl fun w H B a h => ?_
  refine rSeq zintEuclid_ok 0 [] [(2, vp 0 0), (3, vp 1 0), (4, vb false)] [(0, .box (zi x)), (1, .box (zi y))] (by kernel_rfl) h ?_; clear h; intro a w h
  refine wp_seq ?_
  refine rSeq zintEuclid_ok 2 [(0, .call (Scounting) zintEuclid_0), (3, .call (Sdividing) zintEuclid_1), (7, .call (Ssharing) zintEuclid_2)] [(2, vp 0 0), (3, vp 1 0), (4, vb false), (21, vb false)] [(0, .box (zi x)), (1, .box (zi y))] (by kernel_rfl) h ?_; clear h; intro a w h
  refine condS false h rfl (fun hc => ?_) (fun hc => ?_)
  · cases hc
  · clear hc
    refine wp_skip ?_
    refine then_n ?_
    refine wp_seq ?_
    refine rSeq zintEuclid_ok 2 [(2, .call (Fn.cast (Sshort x y 30 hx hy) (congrArg vb hms)) zintEuclid_3)] [(2, vp 0 0), (3, vp 1 0), (4, vb false), (25, vb false)] [(0, .box (zi x)), (1, .box (zi y))] (by kernel_rfl) h ?_; clear h; intro a w h
    refine condS false h rfl (fun hc => ?_) (fun hc => ?_)
    · cases hc
    · clear hc
      refine wp_skip ?_
      refine then_n ?_
      obtain ⟨r5g, er5g, vr5g, or5g, lr5g⟩ := mkZ (v := (Nat.gcd x.val.natAbs y.val.natAbs : Int)) (m := x.abs.length + y.abs.length) (len_gcd hx hy)
      obtain ⟨r5x, er5x, vr5x, or5x, lr5x⟩ := mkZ (v := bezX x y) (m := x.abs.length + y.abs.length + 2) (len_bezX hx hy)
      obtain ⟨r5y, er5y, vr5y, or5y, lr5y⟩ := mkZ (v := bezY x y) (m := x.abs.length + y.abs.length + 2) (len_bezY hx hy)
      refine rSeq zintEuclid_ok 2 [(2, .call (Fn.cast (SBezout x y hx hy (by omega) (by omega)) (show _ = (.tup [.agg (zi r5g), .agg (zi r5x), .agg (zi r5y)] : V) by rw [er5g, er5x, er5y]; first | done | rfl)) zintEuclid_4)] [(2, vp 0 0), (3, vp 1 0), (4, vb false), (5, vp 2 0), (6, vp 3 0), (7, vp 4 0)] [(0, .box (zi x)), (1, .box (zi y)), (2, .box (zi r5g)), (3, .box (zi r5x)), (4, .box (zi r5y))] (by kernel_rfl) h ?_; clear h; intro a w h
      refine wp_seq ?_
      obtain ⟨r6, er6, vr6, or6, lr6⟩ := mkZ (v := x.val * r5x.val) (m := x.abs.length + r5x.abs.length) (len_mul hx or5x)
      obtain ⟨r7, er7, vr7, or7, lr7⟩ := mkZ (v := y.val * r5y.val) (m := y.abs.length + r5y.abs.length) (len_mul hy or5y)
      obtain ⟨r8, er8, vr8, or8, lr8⟩ := mkZ (v := r6.val + r7.val) (m := r6.abs.length + r7.abs.length + 1) (len_add or6 or7)
      obtain ⟨r11, er11, vr11, or11, lr11⟩ := mkZ (v := (Nat.gcd y.val.natAbs x.val.natAbs : Int)) (m := y.abs.length + x.abs.length) (len_gcd hy hx)
      refine rSeq zintEuclid_ok 5 [(2, .call (Fn.cast (SMul x r5x hx or5x (by omega) (by omega)) (congrArg vz er6.symm)) zintEuclid_5), (5, .call (Fn.cast (SMul y r5y hy or5y (by omega) (by omega)) (congrArg vz er7.symm)) zintEuclid_5), (6, .call (Fn.cast (SAdd r6 r7 or6 or7 (by omega) (by omega)) (congrArg vz er8.symm)) zintEuclid_6), (8, .call (Fn.cast (SCmp r8 r5g or8 or5g (by omega) (by omega)) (congrArg (vi .i64) (cmpZ_self (by rw [vr8, vr6, vr7, vr5x, vr5y, vr5g]; exact bez_law x y)))) zintEuclid_7), (9, .cmp (op := .neq) (m := 0) (n := 0) (b := false) .i64 rfl), (12, .call (SSign r5g or5g (by omega)) zintEuclid_8), (13, .cmp (op := .lss) (m := (sgn r5g.val)) (n := 0) (b := false) .i64 (decide_eq_false (fun e => by have := sgn_lt.1 e; rw [vr5g] at this; omega))), (19, .call (Fn.cast (SGcd y x hy hx (by omega) (by omega)) (congrArg vz er11.symm)) zintEuclid_9), (20, .call (Fn.cast (SCmp r5g r11 or5g or11 (by omega) (by omega)) (congrArg (vi .i64) (cmpZ_self (by rw [vr5g, vr11, Nat.gcd_comm])))) zintEuclid_7), (21, .cmp (op := .neq) (m := 0) (n := 0) (b := false) .i64 rfl)] [(2, vp 0 0), (3, vp 1 0), (4, vb false), (5, vp 2 0), (55, vb false)] [(0, .box (zi x)), (1, .box (zi y)), (2, .box (zi r5g))] (by kernel_rfl) h ?_; clear h; intro a w h
      refine condS false h rfl (fun hc => ?_) (fun hc => ?_)
      · cases hc
      · clear hc
        refine wp_skip ?_
        refine then_n ?_
        refine wp_seq ?_
        obtain ⟨r13, er13, vr13, or13, lr13⟩ := mkZ (v := (Nat.lcm x.val.natAbs y.val.natAbs : Int)) (m := x.abs.length + y.abs.length) (len_lcm hx hy)
        obtain ⟨r14, er14, vr14, or14, lr14⟩ := mkZ (v := r13.val * r5g.val) (m := r13.abs.length + r5g.abs.length) (len_mul or13 or5g)
        obtain ⟨r15, er15, vr15, or15, lr15⟩ := mkZ (v := x.val * y.val) (m := x.abs.length + y.abs.length) (len_mul hx hy)
        obtain ⟨r16, er16, vr16, or16, lr16⟩ := mkZ (v := (r15.val.natAbs : Int)) (m := r15.abs.length) (len_abs or15)
        refine rSeq zintEuclid_ok 5 [(2, .call (Fn.cast (SLcm x y hx hy (by omega) (by omega)) (congrArg vz er13.symm)) zintEuclid_10), (4, .call (Fn.cast (SMul r13 r5g or13 or5g (by omega) (by omega)) (congrArg vz er14.symm)) zintEuclid_5), (7, .call (Fn.cast (SMul x y hx hy (by omega) (by omega)) (congrArg vz er15.symm)) zintEuclid_5), (8, .call (Fn.cast (SAbs r15 or15 (by omega)) (congrArg vz er16.symm)) zintEuclid_11), (9, .call (Fn.cast (SCmp r14 r16 or14 or16 (by omega) (by omega)) (congrArg (vi .i64) (cmpZ_self (by rw [vr14, vr13, vr5g, vr16, vr15]; exact lcm_gcd _ _)))) zintEuclid_7), (10, .cmp (op := .neq) (m := 0) (n := 0) (b := false) .i64 rfl)] [(2, vp 0 0), (3, vp 1 0), (4, vb false), (5, vp 2 0), (66, vb false)] [(0, .box (zi x)), (1, .box (zi y)), (2, .box (zi r5g))] (by kernel_rfl) h ?_; clear h; intro a w h
        refine condS false h rfl (fun hc => ?_) (fun hc => ?_)
        · cases hc
        · clear hc
          refine wp_skip ?_
          refine then_n ?_
          refine wp_seq ?_
          refine rSeq zintEuclid_ok 5 [(1, .call (SSign r5g or5g (by omega)) zintEuclid_8), (2, .cmp (op := .eql) (m := (sgn r5g.val)) (n := 0) (b := false) .i64 (by rw [vr5g]; exact sgn_ne hg0))] [(2, vp 0 0), (3, vp 1 0), (4, vb false), (5, vp 2 0), (69, vb false)] [(0, .box (zi x)), (1, .box (zi y)), (2, .box (zi r5g))] (by kernel_rfl) h ?_; clear h; intro a w h
          refine condS false h rfl (fun hc => ?_) (fun hc => ?_)
          · cases hc
          · clear hc
            refine wp_skip ?_
            refine then_n ?_
            obtain ⟨r19, er19, vr19, or19, lr19⟩ := mkZ (v := x.val.fdiv r5g.val) (m := x.abs.length) (len_fdiv hx (by rw [vr5g]; exact hg0))
            refine rSeq zintEuclid_ok 5 [(2, .call (Fn.cast (SExact x r5g hx or5g (by omega) (by omega) (by rw [vr5g]; exact hg0) (by rw [vr5g]; exact gcd_fmod_l _ _)) (show _ = (.tup [.agg (zi r19), .c (.d (.raw (.int .i64 0)))] : V) by rw [er19]; first | done | rfl)) zintEuclid_12)] [(3, vp 1 0), (4, vb false), (5, vp 2 0), (9, vi .i64 0)] [(1, .box (zi y)), (2, .box (zi r5g))] (by kernel_rfl) h ?_; clear h; intro a w h
            obtain ⟨r20, er20, vr20, or20, lr20⟩ := mkZ (v := y.val.fdiv r5g.val) (m := y.abs.length) (len_fdiv hy (by rw [vr5g]; exact hg0))
            refine rSeq zintEuclid_ok 6 [(2, .call (Fn.cast (SExact y r5g hy or5g (by omega) (by omega) (by rw [vr5g]; exact hg0) (by rw [vr5g]; exact gcd_fmod_r _ _)) (show _ = (.tup [.agg (zi r20), .c (.d (.raw (.int .i64 0)))] : V) by rw [er20]; first | done | rfl)) zintEuclid_12)] [(4, vb false), (9, vi .i64 0), (11, vi .i64 0)] [] (by kernel_rfl) h ?_; clear h; intro a w h
            refine rSeq zintEuclid_ok 7 [(1, .cmp (op := .eql) (m := 0) (n := 0) (b := true) .i64 rfl), (4, .cmp (op := .eql) (m := 0) (n := 0) (b := true) .i64 rfl)] [(4, vb true)] [] (by kernel_rfl) h ?_; clear h; intro a w h
            refine wp_ret ?_
            refine retS [.c (.d (.raw (.bool true)))] h Exit.ret (.inl rfl)  rfl ⟨RV.tmp _ _ rfl, trivial⟩ ?_ (by kernel_rfl) (by kernel_rfl)
            rfl
set_option maxRecDepth 100000 in
theorem SzintEuclidFar (x y : ZI) (hx : Lb x.abs) (hy : Lb y.abs) (hm : ¬ ((x.abs.length : Int) ≤ 30 ∧ (y.abs.length : Int) ≤ 30)) : Fn Try.prog 12 [] [vz x, vz y] (vb true) [] := by
  refine Fn.body Try.func12 rfl 96 rfl fun w H B a h => ?_
  refine rSeq zintEuclid_ok 0 [] [(2, vp 0 0), (3, vp 1 0), (4, vb false)] [(0, .box (zi x)), (1, .box (zi y))] (by kernel_rfl) h ?_; clear h; intro a w h
  refine wp_seq ?_
  refine rSeq zintEuclid_ok 2 [(0, .call (Scounting) zintEuclid_0), (3, .call (Sdividing) zintEuclid_1), (7, .call (Ssharing) zintEuclid_2)] [(2, vp 0 0), (3, vp 1 0), (4, vb false), (21, vb false)] [(0, .box (zi x)), (1, .box (zi y))] (by kernel_rfl) h ?_; clear h; intro a w h
  refine condS false h rfl (fun hc => ?_) (fun hc => ?_)
  · cases hc
  · clear hc
    refine wp_skip ?_
    refine then_n ?_
    refine wp_seq ?_
    refine rSeq zintEuclid_ok 2 [(2, .call (Fn.cast (Sshort x y 30 hx hy) (congrArg vb (decide_eq_false hm))) zintEuclid_3)] [(2, vp 0 0), (3, vp 1 0), (4, vb false), (25, vb true)] [(0, .box (zi x)), (1, .box (zi y))] (by kernel_rfl) h ?_; clear h; intro a w h
    refine condS true h rfl (fun hc => ?_) (fun hc => ?_)
    · clear hc
      refine rSeq zintEuclid_ok 2 [] [(2, vp 0 0), (3, vp 1 0), (4, vb true)] [(0, .box (zi x)), (1, .box (zi y))] (by kernel_rfl) h ?_; clear h; intro a w h
      refine wp_ret ?_
      refine then_r ?_
      refine retS [.c (.d (.raw (.bool true)))] h Exit.ret (.inl rfl)  rfl ⟨RV.tmp _ _ rfl, trivial⟩ ?_ (by kernel_rfl) (by kernel_rfl)
      rfl
    · cases hc
theorem SzintEuclid (x y : ZI) (hx : Lb x.abs) (hy : Lb y.abs) : Fn Try.prog 12 [] [vz x, vz y] (vb true) [] := by
  by_cases hm : (x.abs.length : Int) ≤ 30 ∧ (y.abs.length : Int) ≤ 30
  · by_cases hg : x.val = 0 ∧ y.val = 0
    · exact SzintEuclid0 x y hx hy hm hg
    · refine SzintEuclidA x y hx hy hm ?_
      intro e
      have e2 : Nat.gcd x.val.natAbs y.val.natAbs = 0 := by omega
      have := Nat.gcd_eq_zero_iff.1 e2
      omega
  · exact SzintEuclidFar x y hx hy hm
end Go.Proofs.Ytehbfobfkpejoaa.S
namespace Go.Proofs.Ytehbfobfkpejoaa
open Go.RowKit S
theorem zintEuclid_walk (s : Bool) (ao : Option Addr) (c : Nat) (zs : List Nat) (t : Bool) (bo : Option Addr) (d : Nat) (us : List Nat) (w : World) (h : Rd w ao c zs) (k : Rd w bo d us) :
    Calls Try.prog 12 #[.agg #[.bool s, .slice ao zs.length c], .agg #[.bool t, .slice bo us.length d]] w (GotP (.bool true) w) :=
  (SzintEuclid ⟨s, zs⟩ ⟨t, us⟩ h.lb k.lb).calls fun B => ⟨rd_vz h B, rd_vz k B, trivial⟩
end Go.Proofs.Ytehbfobfkpejoaa
