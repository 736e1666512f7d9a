/-
  The walk of the statement ZintDivides.
-/
import Derived.Test.YtehbfobfkpejoaaZf
namespace Go.Proofs.Ytehbfobfkpejoaa.S
open Go.RowKit

theorem zintDivides_0 : Bodied Try.prog 19 := Bodied.mk' (by kernel_rfl)
theorem zintDivides_1 : Bodied Try.prog 45 := Bodied.mk' (by kernel_rfl)
theorem zintDivides_2 : Bodied Try.prog 20 := Bodied.mk' (by kernel_rfl)
theorem zintDivides_3 : Bodied Try.prog 46 := Bodied.mk' (by kernel_rfl)
theorem zintDivides_4 : Bodied Try.prog 30 := Bodied.mk' (by kernel_rfl)
theorem zintDivides_5 : Bodied Try.prog 27 := Bodied.mk' (by kernel_rfl)
theorem zintDivides_6 : Bodied Try.prog 23 := Bodied.mk' (by kernel_rfl)
theorem zintDivides_7 : Bodied Try.prog 29 := Bodied.mk' (by kernel_rfl)
theorem zintDivides_8 : Bodied Try.prog 34 := Bodied.mk' (by kernel_rfl)
theorem zintDivides_9 : Bodied Try.prog 48 := Bodied.mk' (by kernel_rfl)
theorem zintDivides_10 : Bodied Try.prog 25 := Bodied.mk' (by kernel_rfl)
theorem zintDivides_11 : Bodied Try.prog 50 := Bodied.mk' (by kernel_rfl)
theorem zintDivides_12 : Bodied Try.prog 61 := Bodied.mk' (by kernel_rfl)
def zintDivides_tb : Tb := [(4, ⟨1, false, [], [.d (.raw (.bool false))], 3⟩), (23, ⟨1, false, [], [.d (nsl [])], 1⟩), (25, ⟨2, true, [(0, 1, false), (1, 1, false)], [.d (.raw (.bool false)), .d (nsl [])], 0⟩)]
theorem zintDivides_ok : TbOk Try.prog zintDivides_tb := ⟨TyOk.bl Try.underlying4 (by kernel_rfl) ⟨(.bool false : Value), [.bool false], by kernel_rfl, rfl, (fun _ _ => ⟨DR.raw _ rfl, trivial⟩)⟩,
  TyOk.slc Try.underlying23 (by kernel_rfl) ⟨(.slice none 0 0 : Value), [.slice none 0 0], by kernel_rfl, rfl, (fun _ _ => ⟨DR.nil _ _ _ (fun _ => rfl) (Nat.zero_le _), trivial⟩)⟩,
  TyOk.st Try.underlying25 (by kernel_rfl) ⟨⟨by decide, Fd.mk' _ _ Try.underlying25 rfl rfl (Sz.mk' (by kernel_rfl) Try.underlying4 _ rfl)⟩, ⟨by decide, Fd.mk' _ _ Try.underlying25 rfl rfl (Sz.mk' (by kernel_rfl) Try.underlying23 _ rfl)⟩, trivial⟩ ⟨(Value.agg #[.bool false, .slice none 0 0]), [.bool false, .slice none 0 0], by kernel_rfl, rfl, (fun _ _ => ⟨DR.raw _ rfl, DR.nil _ _ _ (fun _ => rfl) (Nat.zero_le _), trivial⟩)⟩ ⟨_, Try.underlying25, ⟨⟨rfl, by kernel_rfl⟩, ⟨rfl, by kernel_rfl⟩, trivial⟩⟩,
  trivial⟩
set_option maxRecDepth 100000 in
theorem SzintDivides0 (x y : ZI) (hx : Lb x.abs) (hy : Lb y.abs) (hm : ((x.abs.length : Int) ≤ 60 ∧ (y.abs.length : Int) ≤ 60)) (h0 : y.val = 0) : Fn Try.prog 10 [] [vz x, vz y] (vb true) [] := by
  obtain ⟨lx, ly⟩ := hm
  have hms := decide_eq_true (show ((x.abs.length : Int) ≤ 60 ∧ (y.abs.length : Int) ≤ 60) from ⟨lx, ly⟩)
  refine Fn.body Try.func10 rfl 119 rfl fun w H B a h => ?_
  refine rSeq zintDivides_ok 0 [] [(2, vp 0 0), (3, vp 1 0), (4, vb false)] [(0, .box (zi x)), (1, .box (zi y))] (by kernel_rfl) h ?_; clear h; intro a w h
  refine wp_seq ?_
  refine rSeq zintDivides_ok 2 [(0, .call (Scounting) zintDivides_0), (3, .call (Sdividing) zintDivides_1)] [(2, vp 0 0), (3, vp 1 0), (4, vb false), (18, vb false)] [(0, .box (zi x)), (1, .box (zi y))] (by kernel_rfl) h ?_; clear h; intro a w h
  refine condS false h rfl (fun hc => ?_) (fun hc => ?_)
  · cases hc
  · clear hc
    refine wp_skip ?_
    refine then_n ?_
    refine wp_seq ?_
    refine rSeq zintDivides_ok 2 [(2, .call (Fn.cast (Sshort x y 60 hx hy) (congrArg vb hms)) zintDivides_2)] [(2, vp 0 0), (3, vp 1 0), (4, vb false), (22, vb false)] [(0, .box (zi x)), (1, .box (zi y))] (by kernel_rfl) h ?_; clear h; intro a w h
    refine condS false h rfl (fun hc => ?_) (fun hc => ?_)
    · cases hc
    · clear hc
      refine wp_skip ?_
      refine then_n ?_
      have l00 : (ZI.of 0).abs.length = 0 := rfl
      refine rSeq zintDivides_ok 2 [(2, .call (SDiv0 x y hx hy (by omega) (by omega) h0) zintDivides_3)] [(2, vp 0 0), (3, vp 1 0), (4, vb false), (5, vp 2 0), (6, vp 3 0), (7, vi .i64 10)] [(0, .box (zi x)), (1, .box (zi y)), (2, .box (zi (ZI.of 0))), (3, .box (zi (ZI.of 0)))] (by kernel_rfl) h ?_; clear h; intro a w h
      refine wp_seq ?_
      refine rSeq zintDivides_ok 4 [(1, .call (Fn.cast (SSign y hy (by omega)) (congrArg (vi .i64) (sgn_zero h0))) zintDivides_4), (2, .cmp (op := .eql) (m := 0) (n := 0) (b := true) .i64 rfl)] [(2, vp 0 0), (3, vp 1 0), (4, vb false), (5, vp 2 0), (6, vp 3 0), (7, vi .i64 10), (32, vb true)] [(0, .box (zi x)), (1, .box (zi y)), (2, .box (zi (ZI.of 0))), (3, .box (zi (ZI.of 0)))] (by kernel_rfl) h ?_; clear h; intro a w h
      refine condS true h rfl (fun hc => ?_) (fun hc => ?_)
      · clear hc
        refine rSeq zintDivides_ok 4 [(1, .cmp (op := .eql) (m := 10) (n := 10) (b := true) .i64 rfl), (4, .call (Fn.cast (SSign (ZI.of 0) (ZI.lb_of _) (by omega)) (congrArg (vi .i64) (show sgn (ZI.of 0).val = 0 from rfl))) zintDivides_4), (5, .cmp (op := .eql) (m := 0) (n := 0) (b := true) .i64 rfl), (9, .call (Fn.cast (SSign (ZI.of 0) (ZI.lb_of _) (by omega)) (congrArg (vi .i64) (show sgn (ZI.of 0).val = 0 from rfl))) zintDivides_4), (10, .cmp (op := .eql) (m := 0) (n := 0) (b := true) .i64 rfl)] [(2, vp 0 0), (3, vp 1 0), (4, vb true), (5, vp 2 0), (6, vp 3 0), (7, vi .i64 10)] [(0, .box (zi x)), (1, .box (zi y)), (2, .box (zi (ZI.of 0))), (3, .box (zi (ZI.of 0)))] (by kernel_rfl) h ?_; clear h; intro a w h
        refine wp_ret ?_
        refine then_r ?_
        refine retS [.c (.d (.raw (.bool true)))] h Exit.ret (.inl rfl)  rfl ⟨RV.tmp _ _ rfl, trivial⟩ ?_ (by kernel_rfl) (by kernel_rfl)
        rfl
      · cases hc
set_option maxRecDepth 100000 in
theorem SzintDividesA (x y : ZI) (hx : Lb x.abs) (hy : Lb y.abs) (hm : ((x.abs.length : Int) ≤ 60 ∧ (y.abs.length : Int) ≤ 60)) (h0 : y.val ≠ 0) (hr : x.val.fmod y.val = 0) : Fn Try.prog 10 [] [vz x, vz y] (vb true) [] := by
  obtain ⟨lx, ly⟩ := hm
  have hms := decide_eq_true (show ((x.abs.length : Int) ≤ 60 ∧ (y.abs.length : Int) ≤ 60) from ⟨lx, ly⟩)
  refine Fn.body Try.func10 rfl 119 rfl fun w H B a h => ?_
  refine rSeq zintDivides_ok 0 [] [(2, vp 0 0), (3, vp 1 0), (4, vb false)] [(0, .box (zi x)), (1, .box (zi y))] (by kernel_rfl) h ?_; clear h; intro a w h
  refine wp_seq ?_
  refine rSeq zintDivides_ok 2 [(0, .call (Scounting) zintDivides_0), (3, .call (Sdividing) zintDivides_1)] [(2, vp 0 0), (3, vp 1 0), (4, vb false), (18, vb false)] [(0, .box (zi x)), (1, .box (zi y))] (by kernel_rfl) h ?_; clear h; intro a w h
  refine condS false h rfl (fun hc => ?_) (fun hc => ?_)
  · cases hc
  · clear hc
    refine wp_skip ?_
    refine then_n ?_
    refine wp_seq ?_
    refine rSeq zintDivides_ok 2 [(2, .call (Fn.cast (Sshort x y 60 hx hy) (congrArg vb hms)) zintDivides_2)] [(2, vp 0 0), (3, vp 1 0), (4, vb false), (22, vb false)] [(0, .box (zi x)), (1, .box (zi y))] (by kernel_rfl) h ?_; clear h; intro a w h
    refine condS false h rfl (fun hc => ?_) (fun hc => ?_)
    · cases hc
    · clear hc
      refine wp_skip ?_
      refine then_n ?_
      obtain ⟨r4q, er4q, vr4q, or4q, lr4q⟩ := mkZ (v := x.val.fdiv y.val) (m := x.abs.length) (len_fdiv hx h0)
      obtain ⟨r4r, er4r, vr4r, or4r, lr4r⟩ := mkZ (v := x.val.fmod y.val) (m := y.abs.length) (len_fmod hy h0)
      refine rSeq zintDivides_ok 2 [(2, .call (Fn.cast (SDiv x y hx hy (by omega) (by omega) h0) (show _ = (.tup [.agg (zi r4q), .agg (zi r4r), .c (.d (.raw (.int .i64 0)))] : V) by rw [er4q, er4r]; first | done | rfl)) zintDivides_3)] [(2, vp 0 0), (3, vp 1 0), (4, vb false), (5, vp 2 0), (6, vp 3 0), (7, vi .i64 0)] [(0, .box (zi x)), (1, .box (zi y)), (2, .box (zi r4q)), (3, .box (zi r4r))] (by kernel_rfl) h ?_; clear h; intro a w h
      refine wp_seq ?_
      refine rSeq zintDivides_ok 4 [(1, .call (SSign y hy (by omega)) zintDivides_4), (2, .cmp (op := .eql) (m := (sgn y.val)) (n := 0) (b := false) .i64 (sgn_ne h0))] [(2, vp 0 0), (3, vp 1 0), (4, vb false), (5, vp 2 0), (6, vp 3 0), (7, vi .i64 0), (32, vb false)] [(0, .box (zi x)), (1, .box (zi y)), (2, .box (zi r4q)), (3, .box (zi r4r))] (by kernel_rfl) h ?_; clear h; intro a w h
      refine condS false h rfl (fun hc => ?_) (fun hc => ?_)
      · cases hc
      · clear hc
        refine wp_skip ?_
        refine then_n ?_
        refine wp_seq ?_
        obtain ⟨r6, er6, vr6, or6, lr6⟩ := mkZ (v := r4q.val * y.val) (m := r4q.abs.length + y.abs.length) (len_mul or4q hy)
        obtain ⟨r7, er7, vr7, or7, lr7⟩ := mkZ (v := r6.val + r4r.val) (m := r6.abs.length + r4r.abs.length + 1) (len_add or6 or4r)
        obtain ⟨r10, er10, vr10, or10, lr10⟩ := mkZ (v := (r4r.val.natAbs : Int)) (m := r4r.abs.length) (len_abs or4r)
        obtain ⟨r11, er11, vr11, or11, lr11⟩ := mkZ (v := (y.val.natAbs : Int)) (m := y.abs.length) (len_abs hy)
        refine rSeq zintDivides_ok 4 [(1, .cmp (op := .neq) (m := 0) (n := 0) (b := false) .i64 rfl), (5, .call (Fn.cast (SMul r4q y or4q hy (by omega) (by omega)) (congrArg vz er6.symm)) zintDivides_5), (7, .call (Fn.cast (SAdd r6 r4r or6 or4r (by omega) (by omega)) (congrArg vz er7.symm)) zintDivides_6), (9, .call (Fn.cast (SCmp r7 x or7 hx (by omega) (by omega)) (congrArg (vi .i64) (cmpZ_self (by rw [vr7, vr6, vr4q, vr4r]; exact (fdiv_fmod _ _).symm)))) zintDivides_7), (10, .cmp (op := .neq) (m := 0) (n := 0) (b := false) .i64 rfl), (14, .call (Fn.cast (SSign r4r or4r (by omega)) (congrArg (vi .i64) (sgn_zero (by rw [vr4r]; exact hr)))) zintDivides_4), (15, .cmp (op := .neq) (m := 0) (n := 0) (b := false) .i64 rfl), (26, .call (Fn.cast (SAbs r4r or4r (by omega)) (congrArg vz er10.symm)) zintDivides_8), (28, .call (Fn.cast (SAbs y hy (by omega)) (congrArg vz er11.symm)) zintDivides_8), (29, .call (Fn.cast (SCmp r10 r11 or10 or11 (by omega) (by omega)) (congrArg (vi .i64) (cmpZ_less (by rw [vr10, vr11, vr4r]; have := fmod_natAbs_lt x.val h0; omega)))) zintDivides_7), (30, .cmp (op := .geq) (m := (-1)) (n := 0) (b := false) .i64 rfl)] [(2, vp 0 0), (3, vp 1 0), (4, vb false), (5, vp 2 0), (6, vp 3 0), (76, vb false)] [(0, .box (zi x)), (1, .box (zi y)), (2, .box (zi r4q)), (3, .box (zi r4r))] (by kernel_rfl) h ?_; clear h; intro a w h
        refine condS false h rfl (fun hc => ?_) (fun hc => ?_)
        · cases hc
        · clear hc
          refine wp_skip ?_
          refine then_n ?_
          obtain ⟨r13, er13, vr13, or13, lr13⟩ := mkZ (v := -((-x.val).fdiv y.val)) (m := x.abs.length) (len_ceil hx h0)
          refine rSeq zintDivides_ok 4 [(2, .call (Fn.cast (SCeil x y hx hy (by omega) (by omega) h0) (show _ = (.tup [.agg (zi r13), .c (.d (.raw (.int .i64 0)))] : V) by rw [er13]; first | done | rfl)) zintDivides_9)] [(2, vp 0 0), (3, vp 1 0), (4, vb false), (5, vp 2 0), (6, vp 3 0), (8, vp 4 0)] [(0, .box (zi x)), (1, .box (zi y)), (2, .box (zi r4q)), (3, .box (zi r4r)), (4, .box (zi r13))] (by kernel_rfl) h ?_; clear h; intro a w h
          obtain ⟨r14, er14, vr14, or14, lr14⟩ := mkZ (v := r13.val - r4q.val) (m := r13.abs.length + r4q.abs.length + 1) (len_sub or13 or4q)
          refine rSeq zintDivides_ok 5 [(2, .call (Fn.cast (SSub r13 r4q or13 or4q (by omega) (by omega)) (congrArg vz er14.symm)) zintDivides_10)] [(2, vp 0 0), (3, vp 1 0), (4, vb false), (5, vp 2 0), (6, vp 3 0), (10, vp 5 0)] [(0, .box (zi x)), (1, .box (zi y)), (2, .box (zi r4q)), (3, .box (zi r4r)), (5, .box (zi r14))] (by kernel_rfl) h ?_; clear h; intro a w h
          obtain ⟨r15, er15, vr15, or15, lr15⟩ := mkZ (v := x.val.fdiv y.val) (m := x.abs.length) (len_fdiv hx h0)
          refine rSeq zintDivides_ok 6 [(2, .call (Fn.cast (SExact x y hx hy (by omega) (by omega) h0 hr) (show _ = (.tup [.agg (zi r15), .c (.d (.raw (.int .i64 0)))] : V) by rw [er15]; first | done | rfl)) zintDivides_11)] [(4, vb false), (5, vp 2 0), (6, vp 3 0), (10, vp 5 0), (11, vp 6 0), (12, vi .i64 0)] [(2, .box (zi r4q)), (3, .box (zi r4r)), (5, .box (zi r14)), (6, .box (zi r15))] (by kernel_rfl) h ?_; clear h; intro a w h
          refine wp_seq ?_
          refine rSeq zintDivides_ok 7 [(1, .call (Fn.cast (SSign r4r or4r (by omega)) (congrArg (vi .i64) (sgn_zero (by rw [vr4r]; exact hr)))) zintDivides_4), (2, .cmp (op := .eql) (m := 0) (n := 0) (b := true) .i64 rfl)] [(4, vb false), (5, vp 2 0), (10, vp 5 0), (11, vp 6 0), (12, vi .i64 0), (94, vb true)] [(2, .box (zi r4q)), (5, .box (zi r14)), (6, .box (zi r15))] (by kernel_rfl) h ?_; clear h; intro a w h
          refine condS true h rfl (fun hc => ?_) (fun hc => ?_)
          · clear hc
            refine rSeq zintDivides_ok 7 [(1, .call (Fn.cast (SSign r14 or14 (by omega)) (congrArg (vi .i64) (sgn_zero (by rw [vr14, vr13, vr4q, ceil_stay h0 hr]; omega)))) zintDivides_4), (2, .cmp (op := .eql) (m := 0) (n := 0) (b := true) .i64 rfl), (5, .cmp (op := .eql) (m := 0) (n := 0) (b := true) .i64 rfl), (10, .call (Fn.cast (SCmp r15 r4q or15 or4q (by omega) (by omega)) (congrArg (vi .i64) (cmpZ_self (by rw [vr15, vr4q])))) zintDivides_7), (11, .cmp (op := .eql) (m := 0) (n := 0) (b := true) .i64 rfl)] [(4, vb true), (10, vp 5 0), (11, vp 6 0), (12, vi .i64 0)] [(5, .box (zi r14)), (6, .box (zi r15))] (by kernel_rfl) h ?_; clear h; intro a w h
            refine wp_ret ?_
            refine then_r ?_
            refine retS [.c (.d (.raw (.bool true)))] h Exit.ret (.inl rfl)  rfl ⟨RV.tmp _ _ rfl, trivial⟩ ?_ (by kernel_rfl) (by kernel_rfl)
            rfl
          · cases hc
set_option maxRecDepth 100000 in
theorem SzintDividesB (x y : ZI) (hx : Lb x.abs) (hy : Lb y.abs) (hm : ((x.abs.length : Int) ≤ 60 ∧ (y.abs.length : Int) ≤ 60)) (h0 : y.val ≠ 0) (hr : x.val.fmod y.val ≠ 0) : Fn Try.prog 10 [] [vz x, vz y] (vb true) [] := by
  obtain ⟨lx, ly⟩ := hm
  have hms := decide_eq_true (show ((x.abs.length : Int) ≤ 60 ∧ (y.abs.length : Int) ≤ 60) from ⟨lx, ly⟩)
  refine Fn.body Try.func10 rfl 119 rfl fun w H B a h => ?_
  refine rSeq zintDivides_ok 0 [] [(2, vp 0 0), (3, vp 1 0), (4, vb false)] [(0, .box (zi x)), (1, .box (zi y))] (by kernel_rfl) h ?_; clear h; intro a w h
  refine wp_seq ?_
  refine rSeq zintDivides_ok 2 [(0, .call (Scounting) zintDivides_0), (3, .call (Sdividing) zintDivides_1)] [(2, vp 0 0), (3, vp 1 0), (4, vb false), (18, vb false)] [(0, .box (zi x)), (1, .box (zi y))] (by kernel_rfl) h ?_; clear h; intro a w h
  refine condS false h rfl (fun hc => ?_) (fun hc => ?_)
  · cases hc
  · clear hc
    refine wp_skip ?_
    refine then_n ?_
    refine wp_seq ?_
    refine rSeq zintDivides_ok 2 [(2, .call (Fn.cast (Sshort x y 60 hx hy) (congrArg vb hms)) zintDivides_2)] [(2, vp 0 0), (3, vp 1 0), (4, vb false), (22, vb false)] [(0, .box (zi x)), (1, .box (zi y))] (by kernel_rfl) h ?_; clear h; intro a w h
    refine condS false h rfl (fun hc => ?_) (fun hc => ?_)
    · cases hc
    · clear hc
      refine wp_skip ?_
      refine then_n ?_
      obtain ⟨r4q, er4q, vr4q, or4q, lr4q⟩ := mkZ (v := x.val.fdiv y.val) (m := x.abs.length) (len_fdiv hx h0)
      obtain ⟨r4r, er4r, vr4r, or4r, lr4r⟩ := mkZ (v := x.val.fmod y.val) (m := y.abs.length) (len_fmod hy h0)
      refine rSeq zintDivides_ok 2 [(2, .call (Fn.cast (SDiv x y hx hy (by omega) (by omega) h0) (show _ = (.tup [.agg (zi r4q), .agg (zi r4r), .c (.d (.raw (.int .i64 0)))] : V) by rw [er4q, er4r]; first | done | rfl)) zintDivides_3)] [(2, vp 0 0), (3, vp 1 0), (4, vb false), (5, vp 2 0), (6, vp 3 0), (7, vi .i64 0)] [(0, .box (zi x)), (1, .box (zi y)), (2, .box (zi r4q)), (3, .box (zi r4r))] (by kernel_rfl) h ?_; clear h; intro a w h
      refine wp_seq ?_
      refine rSeq zintDivides_ok 4 [(1, .call (SSign y hy (by omega)) zintDivides_4), (2, .cmp (op := .eql) (m := (sgn y.val)) (n := 0) (b := false) .i64 (sgn_ne h0))] [(2, vp 0 0), (3, vp 1 0), (4, vb false), (5, vp 2 0), (6, vp 3 0), (7, vi .i64 0), (32, vb false)] [(0, .box (zi x)), (1, .box (zi y)), (2, .box (zi r4q)), (3, .box (zi r4r))] (by kernel_rfl) h ?_; clear h; intro a w h
      refine condS false h rfl (fun hc => ?_) (fun hc => ?_)
      · cases hc
      · clear hc
        refine wp_skip ?_
        refine then_n ?_
        refine wp_seq ?_
        obtain ⟨r6, er6, vr6, or6, lr6⟩ := mkZ (v := r4q.val * y.val) (m := r4q.abs.length + y.abs.length) (len_mul or4q hy)
        obtain ⟨r7, er7, vr7, or7, lr7⟩ := mkZ (v := r6.val + r4r.val) (m := r6.abs.length + r4r.abs.length + 1) (len_add or6 or4r)
        obtain ⟨r12, er12, vr12, or12, lr12⟩ := mkZ (v := (r4r.val.natAbs : Int)) (m := r4r.abs.length) (len_abs or4r)
        obtain ⟨r13, er13, vr13, or13, lr13⟩ := mkZ (v := (y.val.natAbs : Int)) (m := y.abs.length) (len_abs hy)
        refine rSeq zintDivides_ok 4 [(1, .cmp (op := .neq) (m := 0) (n := 0) (b := false) .i64 rfl), (5, .call (Fn.cast (SMul r4q y or4q hy (by omega) (by omega)) (congrArg vz er6.symm)) zintDivides_5), (7, .call (Fn.cast (SAdd r6 r4r or6 or4r (by omega) (by omega)) (congrArg vz er7.symm)) zintDivides_6), (9, .call (Fn.cast (SCmp r7 x or7 hx (by omega) (by omega)) (congrArg (vi .i64) (cmpZ_self (by rw [vr7, vr6, vr4q, vr4r]; exact (fdiv_fmod _ _).symm)))) zintDivides_7), (10, .cmp (op := .neq) (m := 0) (n := 0) (b := false) .i64 rfl), (14, .call (SSign r4r or4r (by omega)) zintDivides_4), (15, .cmp (op := .neq) (m := (sgn r4r.val)) (n := 0) (b := true) .i64 (by rw [vr4r]; exact sgn_ne' hr)), (18, .call (SSign r4r or4r (by omega)) zintDivides_4), (20, .call (SSign y hy (by omega)) zintDivides_4), (21, .cmp (op := .neq) (m := (sgn r4r.val)) (n := (sgn y.val)) (b := false) .i64 (by rw [vr4r, sgn_fmod h0 hr]; exact bne_self_eq_false _)), (26, .call (Fn.cast (SAbs r4r or4r (by omega)) (congrArg vz er12.symm)) zintDivides_8), (28, .call (Fn.cast (SAbs y hy (by omega)) (congrArg vz er13.symm)) zintDivides_8), (29, .call (Fn.cast (SCmp r12 r13 or12 or13 (by omega) (by omega)) (congrArg (vi .i64) (cmpZ_less (by rw [vr12, vr13, vr4r]; have := fmod_natAbs_lt x.val h0; omega)))) zintDivides_7), (30, .cmp (op := .geq) (m := (-1)) (n := 0) (b := false) .i64 rfl)] [(2, vp 0 0), (3, vp 1 0), (4, vb false), (5, vp 2 0), (6, vp 3 0), (76, vb false)] [(0, .box (zi x)), (1, .box (zi y)), (2, .box (zi r4q)), (3, .box (zi r4r))] (by kernel_rfl) h ?_; clear h; intro a w h
        refine condS false h rfl (fun hc => ?_) (fun hc => ?_)
        · cases hc
        · clear hc
          refine wp_skip ?_
          refine then_n ?_
          obtain ⟨r15, er15, vr15, or15, lr15⟩ := mkZ (v := -((-x.val).fdiv y.val)) (m := x.abs.length) (len_ceil hx h0)
          refine rSeq zintDivides_ok 4 [(2, .call (Fn.cast (SCeil x y hx hy (by omega) (by omega) h0) (show _ = (.tup [.agg (zi r15), .c (.d (.raw (.int .i64 0)))] : V) by rw [er15]; first | done | rfl)) zintDivides_9)] [(2, vp 0 0), (3, vp 1 0), (4, vb false), (5, vp 2 0), (6, vp 3 0), (8, vp 4 0)] [(0, .box (zi x)), (1, .box (zi y)), (2, .box (zi r4q)), (3, .box (zi r4r)), (4, .box (zi r15))] (by kernel_rfl) h ?_; clear h; intro a w h
          obtain ⟨r16, er16, vr16, or16, lr16⟩ := mkZ (v := r15.val - r4q.val) (m := r15.abs.length + r4q.abs.length + 1) (len_sub or15 or4q)
          refine rSeq zintDivides_ok 5 [(2, .call (Fn.cast (SSub r15 r4q or15 or4q (by omega) (by omega)) (congrArg vz er16.symm)) zintDivides_10)] [(2, vp 0 0), (3, vp 1 0), (4, vb false), (5, vp 2 0), (6, vp 3 0), (10, vp 5 0)] [(0, .box (zi x)), (1, .box (zi y)), (2, .box (zi r4q)), (3, .box (zi r4r)), (5, .box (zi r16))] (by kernel_rfl) h ?_; clear h; intro a w h
          have l00 : (ZI.of 0).abs.length = 0 := rfl
          refine rSeq zintDivides_ok 6 [(2, .call (SExactN x y hx hy (by omega) (by omega) h0 hr) zintDivides_11)] [(4, vb false), (5, vp 2 0), (6, vp 3 0), (10, vp 5 0), (11, vp 6 0), (12, vi .i64 1)] [(2, .box (zi r4q)), (3, .box (zi r4r)), (5, .box (zi r16)), (6, .box (zi (ZI.of 0)))] (by kernel_rfl) h ?_; clear h; intro a w h
          refine wp_seq ?_
          refine rSeq zintDivides_ok 7 [(1, .call (SSign r4r or4r (by omega)) zintDivides_4), (2, .cmp (op := .eql) (m := (sgn r4r.val)) (n := 0) (b := false) .i64 (by rw [vr4r]; exact sgn_ne hr))] [(4, vb false), (5, vp 2 0), (10, vp 5 0), (11, vp 6 0), (12, vi .i64 1), (94, vb false)] [(2, .box (zi r4q)), (5, .box (zi r16)), (6, .box (zi (ZI.of 0)))] (by kernel_rfl) h ?_; clear h; intro a w h
          refine condS false h rfl (fun hc => ?_) (fun hc => ?_)
          · cases hc
          · clear hc
            refine wp_skip ?_
            refine then_n ?_
            refine rSeq zintDivides_ok 7 [(1, .call (Sis2 r16 1 (by rw [er16]; congr 1; rw [vr15, vr4q, ← ceil_turn h0 hr]; omega) (by omega) ⟨by omega, by omega⟩) zintDivides_12), (4, .cmp (op := .eql) (m := 1) (n := 1) (b := true) .i64 rfl), (8, .call (Fn.cast (SSign (ZI.of 0) (ZI.lb_of _) (by omega)) (congrArg (vi .i64) (show sgn (ZI.of 0).val = 0 from rfl))) zintDivides_4), (9, .cmp (op := .eql) (m := 0) (n := 0) (b := true) .i64 rfl)] [(4, vb true)] [] (by kernel_rfl) h ?_; clear h; intro a w h
            refine wp_ret ?_
            refine retS [.c (.d (.raw (.bool true)))] h Exit.ret (.inl rfl)  rfl ⟨RV.tmp _ _ rfl, trivial⟩ ?_ (by kernel_rfl) (by kernel_rfl)
            rfl
set_option maxRecDepth 100000 in
theorem SzintDividesFar (x y : ZI) (hx : Lb x.abs) (hy : Lb y.abs) (hm : ¬ ((x.abs.length : Int) ≤ 60 ∧ (y.abs.length : Int) ≤ 60)) : Fn Try.prog 10 [] [vz x, vz y] (vb true) [] := by
  refine Fn.body Try.func10 rfl 119 rfl fun w H B a h => ?_
  refine rSeq zintDivides_ok 0 [] [(2, vp 0 0), (3, vp 1 0), (4, vb false)] [(0, .box (zi x)), (1, .box (zi y))] (by kernel_rfl) h ?_; clear h; intro a w h
  refine wp_seq ?_
  refine rSeq zintDivides_ok 2 [(0, .call (Scounting) zintDivides_0), (3, .call (Sdividing) zintDivides_1)] [(2, vp 0 0), (3, vp 1 0), (4, vb false), (18, vb false)] [(0, .box (zi x)), (1, .box (zi y))] (by kernel_rfl) h ?_; clear h; intro a w h
  refine condS false h rfl (fun hc => ?_) (fun hc => ?_)
  · cases hc
  · clear hc
    refine wp_skip ?_
    refine then_n ?_
    refine wp_seq ?_
    refine rSeq zintDivides_ok 2 [(2, .call (Fn.cast (Sshort x y 60 hx hy) (congrArg vb (decide_eq_false hm))) zintDivides_2)] [(2, vp 0 0), (3, vp 1 0), (4, vb false), (22, vb true)] [(0, .box (zi x)), (1, .box (zi y))] (by kernel_rfl) h ?_; clear h; intro a w h
    refine condS true h rfl (fun hc => ?_) (fun hc => ?_)
    · clear hc
      refine rSeq zintDivides_ok 2 [] [(2, vp 0 0), (3, vp 1 0), (4, vb true)] [(0, .box (zi x)), (1, .box (zi y))] (by kernel_rfl) h ?_; clear h; intro a w h
      refine wp_ret ?_
      refine then_r ?_
      refine retS [.c (.d (.raw (.bool true)))] h Exit.ret (.inl rfl)  rfl ⟨RV.tmp _ _ rfl, trivial⟩ ?_ (by kernel_rfl) (by kernel_rfl)
      rfl
    · cases hc
theorem SzintDivides (x y : ZI) (hx : Lb x.abs) (hy : Lb y.abs) : Fn Try.prog 10 [] [vz x, vz y] (vb true) [] := by
  by_cases hm : (x.abs.length : Int) ≤ 60 ∧ (y.abs.length : Int) ≤ 60
  · by_cases h0 : y.val = 0
    · exact SzintDivides0 x y hx hy hm h0
    · by_cases hr : x.val.fmod y.val = 0
      · exact SzintDividesA x y hx hy hm h0 hr
      · exact SzintDividesB x y hx hy hm h0 hr
  · exact SzintDividesFar x y hx hy hm
end Go.Proofs.Ytehbfobfkpejoaa.S
namespace Go.Proofs.Ytehbfobfkpejoaa
open Go.RowKit S
theorem zintDivides_walk (s : Bool) (ao : Option Addr) (c : Nat) (zs : List Nat) (t : Bool) (bo : Option Addr) (d : Nat) (us : List Nat) (w : World) (h : Rd w ao c zs) (k : Rd w bo d us) :
    Calls Try.prog 10 #[.agg #[.bool s, .slice ao zs.length c], .agg #[.bool t, .slice bo us.length d]] w (GotP (.bool true) w) :=
  (SzintDivides ⟨s, zs⟩ ⟨t, us⟩ h.lb k.lb).calls fun B => ⟨rd_vz h B, rd_vz k B, trivial⟩
end Go.Proofs.Ytehbfobfkpejoaa
