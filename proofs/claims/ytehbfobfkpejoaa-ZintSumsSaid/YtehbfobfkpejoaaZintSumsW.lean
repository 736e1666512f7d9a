/-
  The walk of the statement ZintSums.
-/
import Derived.Test.YtehbfobfkpejoaaZf
namespace Go.Proofs.Ytehbfobfkpejoaa.S
open Go.RowKit

theorem zintSums_0 : Bodied Try.prog 19 := Bodied.mk' (by kernel_rfl)
theorem zintSums_1 : Bodied Try.prog 20 := Bodied.mk' (by kernel_rfl)
theorem zintSums_2 : Bodied Try.prog 21 := Bodied.mk' (by kernel_rfl)
theorem zintSums_3 : Bodied Try.prog 22 := Bodied.mk' (by kernel_rfl)
theorem zintSums_4 : Bodied Try.prog 23 := Bodied.mk' (by kernel_rfl)
theorem zintSums_5 : Bodied Try.prog 24 := Bodied.mk' (by kernel_rfl)
theorem zintSums_6 : Bodied Try.prog 16 := Bodied.mk' (by kernel_rfl)
theorem zintSums_7 : Bodied Try.prog 25 := Bodied.mk' (by kernel_rfl)
theorem zintSums_8 : Bodied Try.prog 26 := Bodied.mk' (by kernel_rfl)
theorem zintSums_9 : Bodied Try.prog 27 := Bodied.mk' (by kernel_rfl)
theorem zintSums_10 : Bodied Try.prog 28 := Bodied.mk' (by kernel_rfl)
theorem zintSums_11 : Bodied Try.prog 29 := Bodied.mk' (by kernel_rfl)
theorem zintSums_12 : Bodied Try.prog 30 := Bodied.mk' (by kernel_rfl)
theorem zintSums_13 : Bodied Try.prog 31 := Bodied.mk' (by kernel_rfl)
theorem zintSums_14 : Bodied Try.prog 32 := Bodied.mk' (by kernel_rfl)
theorem zintSums_15 : Bodied Try.prog 33 := Bodied.mk' (by kernel_rfl)
theorem zintSums_16 : Bodied Try.prog 34 := Bodied.mk' (by kernel_rfl)
theorem zintSums_17 : Bodied Try.prog 35 := Bodied.mk' (by kernel_rfl)
theorem zintSums_18 : Bodied Try.prog 36 := Bodied.mk' (by kernel_rfl)
theorem zintSums_19 : Bodied Try.prog 37 := Bodied.mk' (by kernel_rfl)
def zintSums_tb : Tb := [(4, ⟨1, false, [], [.d (.raw (.bool false))], 3⟩), (23, ⟨1, false, [], [.d (nsl [])], 1⟩), (25, ⟨2, true, [(0, 1, false), (1, 1, false)], [.d (.raw (.bool false)), .d (nsl [])], 0⟩)]
theorem zintSums_ok : TbOk Try.prog zintSums_tb := ⟨TyOk.bl Try.underlying4 (by kernel_rfl) ⟨(.bool false : Value), [.bool false], by kernel_rfl, rfl, (fun _ _ => ⟨DR.raw _ rfl, trivial⟩)⟩,
  TyOk.slc Try.underlying23 (by kernel_rfl) ⟨(.slice none 0 0 : Value), [.slice none 0 0], by kernel_rfl, rfl, (fun _ _ => ⟨DR.nil _ _ _ (fun _ => rfl) (Nat.zero_le _), trivial⟩)⟩,
  TyOk.st Try.underlying25 (by kernel_rfl) ⟨⟨by decide, Fd.mk' _ _ Try.underlying25 rfl rfl (Sz.mk' (by kernel_rfl) Try.underlying4 _ rfl)⟩, ⟨by decide, Fd.mk' _ _ Try.underlying25 rfl rfl (Sz.mk' (by kernel_rfl) Try.underlying23 _ rfl)⟩, trivial⟩ ⟨(Value.agg #[.bool false, .slice none 0 0]), [.bool false, .slice none 0 0], by kernel_rfl, rfl, (fun _ _ => ⟨DR.raw _ rfl, DR.nil _ _ _ (fun _ => rfl) (Nat.zero_le _), trivial⟩)⟩ ⟨_, Try.underlying25, ⟨⟨rfl, by kernel_rfl⟩, ⟨rfl, by kernel_rfl⟩, trivial⟩⟩,
  trivial⟩
set_option maxRecDepth 100000 in
theorem SzintSumsA (x y : ZI) (hx : Lb x.abs) (hy : Lb y.abs) (hm : ((x.abs.length : Int) ≤ 60 ∧ (y.abs.length : Int) ≤ 60)) (hc : cmpZ x.val y.val > 0) : Fn Try.prog 4 [] [vz x, vz y] (vb true) [] := by
  obtain ⟨lx, ly⟩ := hm
  have hms := decide_eq_true (show ((x.abs.length : Int) ≤ 60 ∧ (y.abs.length : Int) ≤ 60) from ⟨lx, ly⟩)
  refine Fn.body Try.func4 rfl 92 rfl fun w H B a h => ?_
  refine rSeq zintSums_ok 0 [] [(2, vp 0 0), (3, vp 1 0), (4, vb false)] [(0, .box (zi x)), (1, .box (zi y))] (by kernel_rfl) h ?_; clear h; intro a w h
  refine wp_seq ?_
  refine rSeq zintSums_ok 2 [(0, .call (Scounting) zintSums_0)] [(2, vp 0 0), (3, vp 1 0), (4, vb false), (9, vb false)] [(0, .box (zi x)), (1, .box (zi y))] (by kernel_rfl) h ?_; clear h; intro a w h
  refine condS false h rfl (fun hc => ?_) (fun hc => ?_)
  · cases hc
  · clear hc
    refine wp_skip ?_
    refine then_n ?_
    refine wp_seq ?_
    refine rSeq zintSums_ok 2 [(2, .call (Fn.cast (Sshort x y 60 hx hy) (congrArg vb hms)) zintSums_1)] [(2, vp 0 0), (3, vp 1 0), (4, vb false), (13, vb false)] [(0, .box (zi x)), (1, .box (zi y))] (by kernel_rfl) h ?_; clear h; intro a w h
    refine condS false h rfl (fun hc => ?_) (fun hc => ?_)
    · cases hc
    · clear hc
      refine wp_skip ?_
      refine then_n ?_
      obtain ⟨r3, er3, vr3, or3, lr3⟩ := mkZ (v := x.val) (m := x.abs.length) (len_id hx)
      obtain ⟨r4, er4, vr4, or4, lr4⟩ := mkZ (v := y.val) (m := y.abs.length) (len_id hy)
      refine rSeq zintSums_ok 2 [(1, .call (Fn.cast (SRClean x hx (by omega)) (congrArg vz er3.symm)) zintSums_2), (3, .call (Fn.cast (SRClean y hy (by omega)) (congrArg vz er4.symm)) zintSums_2)] [(2, vp 0 0), (3, vp 1 0), (4, vb false), (5, vp 2 0), (6, vp 3 0)] [(0, .box (zi x)), (1, .box (zi y)), (2, .box (zi r3)), (3, .box (zi r4))] (by kernel_rfl) h ?_; clear h; intro a w h
      refine rSeq zintSums_ok 4 [(2, .call (SRCmp x y hx hy (by omega) (by omega)) zintSums_3)] [(2, vp 0 0), (3, vp 1 0), (4, vb false), (5, vp 2 0), (6, vp 3 0), (7, vi .i64 (cmpZ x.val y.val))] [(0, .box (zi x)), (1, .box (zi y)), (2, .box (zi r3)), (3, .box (zi r4))] (by kernel_rfl) h ?_; clear h; intro a w h
      refine wp_seq ?_
      refine rSeq zintSums_ok 4 [(1, .cmp (op := .gtr) (m := (cmpZ x.val y.val)) (n := 0) (b := true) .i64 (decide_eq_true hc))] [(2, vp 0 0), (3, vp 1 0), (4, vb false), (5, vp 2 0), (6, vp 3 0), (7, vi .i64 (cmpZ x.val y.val)), (22, vb true)] [(0, .box (zi x)), (1, .box (zi y)), (2, .box (zi r3)), (3, .box (zi r4))] (by kernel_rfl) h ?_; clear h; intro a w h
      refine condS true h rfl (fun hc => ?_) (fun hc => ?_)
      · clear hc
        refine rS zintSums_ok 4 [] [(2, vp 0 0), (3, vp 1 0), (4, vb false), (5, vp 2 0), (6, vp 3 0), (7, vi .i64 (cmpZ x.val y.val))] [(0, .box (zi x)), (1, .box (zi y)), (2, .box (zi r4)), (3, .box (zi r3))] (by kernel_rfl) h ?_; clear h; intro a w h
        refine then_n ?_
        obtain ⟨r6, er6, vr6, or6, lr6⟩ := mkZ (v := x.val + y.val) (m := x.abs.length + y.abs.length + 1) (len_add hx hy)
        obtain ⟨r7, er7, vr7, or7, lr7⟩ := mkZ (v := x.val + y.val) (m := x.abs.length + y.abs.length + 1) (len_add hx hy)
        obtain ⟨r9, er9, vr9, or9, lr9⟩ := mkZ (v := x.val - y.val) (m := x.abs.length + y.abs.length + 1) (len_sub hx hy)
        obtain ⟨r10, er10, vr10, or10, lr10⟩ := mkZ (v := x.val - y.val) (m := x.abs.length + y.abs.length + 1) (len_sub hx hy)
        obtain ⟨r12, er12, vr12, or12, lr12⟩ := mkZ (v := x.val * y.val) (m := x.abs.length + y.abs.length) (len_mul hx hy)
        obtain ⟨r13, er13, vr13, or13, lr13⟩ := mkZ (v := x.val * y.val) (m := x.abs.length + y.abs.length) (len_mul hx hy)
        obtain ⟨r18, er18, vr18, or18, lr18⟩ := mkZ (v := -x.val) (m := x.abs.length) (len_neg hx)
        obtain ⟨r19, er19, vr19, or19, lr19⟩ := mkZ (v := -x.val) (m := x.abs.length) (len_neg hx)
        obtain ⟨r21, er21, vr21, or21, lr21⟩ := mkZ (v := (x.val.natAbs : Int)) (m := x.abs.length) (len_abs hx)
        obtain ⟨r22, er22, vr22, or22, lr22⟩ := mkZ (v := (x.val.natAbs : Int)) (m := x.abs.length) (len_abs hx)
        obtain ⟨r24, er24, vr24, or24, lr24⟩ := mkZ (v := min x.val y.val) (m := x.abs.length + y.abs.length) (len_min hx hy)
        obtain ⟨r26, er26, vr26, or26, lr26⟩ := mkZ (v := max x.val y.val) (m := x.abs.length + y.abs.length) (len_max hx hy)
        refine rSeq zintSums_ok 4 [(2, .call (Fn.cast (SAdd x y hx hy (by omega) (by omega)) (congrArg vz er6.symm)) zintSums_4), (5, .call (Fn.cast (SRAdd x y hx hy (by omega) (by omega)) (congrArg vz er7.symm)) zintSums_5), (6, .call (Ssame2 r6 r7 (by rw [er6]; rw [er7]) (x.val + y.val) er6 (by omega)) zintSums_6), (10, .call (Fn.cast (SSub x y hx hy (by omega) (by omega)) (congrArg vz er9.symm)) zintSums_7), (13, .call (Fn.cast (SRSub x y hx hy (by omega) (by omega)) (congrArg vz er10.symm)) zintSums_8), (14, .call (Ssame2 r9 r10 (by rw [er9]; rw [er10]) (x.val - y.val) er9 (by omega)) zintSums_6), (19, .call (Fn.cast (SMul x y hx hy (by omega) (by omega)) (congrArg vz er12.symm)) zintSums_9), (22, .call (Fn.cast (SRMul x y hx hy (by omega) (by omega)) (congrArg vz er13.symm)) zintSums_10), (23, .call (Ssame2 r12 r13 (by rw [er12]; rw [er13]) (x.val * y.val) er12 (by omega)) zintSums_6), (28, .call (SCmp x y hx hy (by omega) (by omega)) zintSums_11), (30, .cmp (op := .eql) (m := (cmpZ x.val y.val)) (n := (cmpZ x.val y.val)) (b := true) .i64 (beq_self_eq_true _)), (34, .call (SSign x hx (by omega)) zintSums_12), (36, .call (SRSign x hx (by omega)) zintSums_13), (37, .cmp (op := .eql) (m := (sgn x.val)) (n := (sgn x.val)) (b := true) .i64 (beq_self_eq_true _)), (41, .call (Fn.cast (SNeg x hx (by omega)) (congrArg vz er18.symm)) zintSums_14), (43, .call (Fn.cast (SRNeg x hx (by omega)) (congrArg vz er19.symm)) zintSums_15), (44, .call (Ssame2 r18 r19 (by rw [er18]; rw [er19]) (-x.val) er18 (by omega)) zintSums_6), (48, .call (Fn.cast (SAbs x hx (by omega)) (congrArg vz er21.symm)) zintSums_16), (50, .call (Fn.cast (SRAbs x hx (by omega)) (congrArg vz er22.symm)) zintSums_17), (51, .call (Ssame2 r21 r22 (by rw [er21]; rw [er22]) (x.val.natAbs : Int) er21 (by omega)) zintSums_6), (56, .call (Fn.cast (SMin x y hx hy (by omega) (by omega)) (congrArg vz er24.symm)) zintSums_18), (58, .call (Ssame2 r24 r4 (by rw [er24, er4]; congr 1; have a := hc; unfold cmpZ at a; split at a <;> (try split at a) <;> omega) (min x.val y.val) er24 (by omega)) zintSums_6), (63, .call (Fn.cast (SMax x y hx hy (by omega) (by omega)) (congrArg vz er26.symm)) zintSums_19), (65, .call (Ssame2 r26 r3 (by rw [er26, er3]; congr 1; have a := hc; unfold cmpZ at a; split at a <;> (try split at a) <;> omega) (max x.val y.val) er26 (by omega)) zintSums_6)] [(4, vb true)] [] (by kernel_rfl) h ?_; clear h; intro a w h
        refine wp_ret ?_
        refine retS [.c (.d (.raw (.bool true)))] h Exit.ret (.inl rfl)  rfl ⟨RV.tmp _ _ rfl, trivial⟩ ?_ (by kernel_rfl) (by kernel_rfl)
        rfl
      · cases hc
set_option maxRecDepth 100000 in
theorem SzintSumsB (x y : ZI) (hx : Lb x.abs) (hy : Lb y.abs) (hm : ((x.abs.length : Int) ≤ 60 ∧ (y.abs.length : Int) ≤ 60)) (hc : ¬ cmpZ x.val y.val > 0) : Fn Try.prog 4 [] [vz x, vz y] (vb true) [] := by
  obtain ⟨lx, ly⟩ := hm
  have hms := decide_eq_true (show ((x.abs.length : Int) ≤ 60 ∧ (y.abs.length : Int) ≤ 60) from ⟨lx, ly⟩)
  refine Fn.body Try.func4 rfl 92 rfl fun w H B a h => ?_
  refine rSeq zintSums_ok 0 [] [(2, vp 0 0), (3, vp 1 0), (4, vb false)] [(0, .box (zi x)), (1, .box (zi y))] (by kernel_rfl) h ?_; clear h; intro a w h
  refine wp_seq ?_
  refine rSeq zintSums_ok 2 [(0, .call (Scounting) zintSums_0)] [(2, vp 0 0), (3, vp 1 0), (4, vb false), (9, vb false)] [(0, .box (zi x)), (1, .box (zi y))] (by kernel_rfl) h ?_; clear h; intro a w h
  refine condS false h rfl (fun hc => ?_) (fun hc => ?_)
  · cases hc
  · clear hc
    refine wp_skip ?_
    refine then_n ?_
    refine wp_seq ?_
    refine rSeq zintSums_ok 2 [(2, .call (Fn.cast (Sshort x y 60 hx hy) (congrArg vb hms)) zintSums_1)] [(2, vp 0 0), (3, vp 1 0), (4, vb false), (13, vb false)] [(0, .box (zi x)), (1, .box (zi y))] (by kernel_rfl) h ?_; clear h; intro a w h
    refine condS false h rfl (fun hc => ?_) (fun hc => ?_)
    · cases hc
    · clear hc
      refine wp_skip ?_
      refine then_n ?_
      obtain ⟨r3, er3, vr3, or3, lr3⟩ := mkZ (v := x.val) (m := x.abs.length) (len_id hx)
      obtain ⟨r4, er4, vr4, or4, lr4⟩ := mkZ (v := y.val) (m := y.abs.length) (len_id hy)
      refine rSeq zintSums_ok 2 [(1, .call (Fn.cast (SRClean x hx (by omega)) (congrArg vz er3.symm)) zintSums_2), (3, .call (Fn.cast (SRClean y hy (by omega)) (congrArg vz er4.symm)) zintSums_2)] [(2, vp 0 0), (3, vp 1 0), (4, vb false), (5, vp 2 0), (6, vp 3 0)] [(0, .box (zi x)), (1, .box (zi y)), (2, .box (zi r3)), (3, .box (zi r4))] (by kernel_rfl) h ?_; clear h; intro a w h
      refine rSeq zintSums_ok 4 [(2, .call (SRCmp x y hx hy (by omega) (by omega)) zintSums_3)] [(2, vp 0 0), (3, vp 1 0), (4, vb false), (5, vp 2 0), (6, vp 3 0), (7, vi .i64 (cmpZ x.val y.val))] [(0, .box (zi x)), (1, .box (zi y)), (2, .box (zi r3)), (3, .box (zi r4))] (by kernel_rfl) h ?_; clear h; intro a w h
      refine wp_seq ?_
      refine rSeq zintSums_ok 4 [(1, .cmp (op := .gtr) (m := (cmpZ x.val y.val)) (n := 0) (b := false) .i64 (decide_eq_false hc))] [(2, vp 0 0), (3, vp 1 0), (4, vb false), (5, vp 2 0), (6, vp 3 0), (7, vi .i64 (cmpZ x.val y.val)), (22, vb false)] [(0, .box (zi x)), (1, .box (zi y)), (2, .box (zi r3)), (3, .box (zi r4))] (by kernel_rfl) h ?_; clear h; intro a w h
      refine condS false h rfl (fun hc => ?_) (fun hc => ?_)
      · cases hc
      · clear hc
        refine wp_skip ?_
        refine then_n ?_
        obtain ⟨r6, er6, vr6, or6, lr6⟩ := mkZ (v := x.val + y.val) (m := x.abs.length + y.abs.length + 1) (len_add hx hy)
        obtain ⟨r7, er7, vr7, or7, lr7⟩ := mkZ (v := x.val + y.val) (m := x.abs.length + y.abs.length + 1) (len_add hx hy)
        obtain ⟨r9, er9, vr9, or9, lr9⟩ := mkZ (v := x.val - y.val) (m := x.abs.length + y.abs.length + 1) (len_sub hx hy)
        obtain ⟨r10, er10, vr10, or10, lr10⟩ := mkZ (v := x.val - y.val) (m := x.abs.length + y.abs.length + 1) (len_sub hx hy)
        obtain ⟨r12, er12, vr12, or12, lr12⟩ := mkZ (v := x.val * y.val) (m := x.abs.length + y.abs.length) (len_mul hx hy)
        obtain ⟨r13, er13, vr13, or13, lr13⟩ := mkZ (v := x.val * y.val) (m := x.abs.length + y.abs.length) (len_mul hx hy)
        obtain ⟨r18, er18, vr18, or18, lr18⟩ := mkZ (v := -x.val) (m := x.abs.length) (len_neg hx)
        obtain ⟨r19, er19, vr19, or19, lr19⟩ := mkZ (v := -x.val) (m := x.abs.length) (len_neg hx)
        obtain ⟨r21, er21, vr21, or21, lr21⟩ := mkZ (v := (x.val.natAbs : Int)) (m := x.abs.length) (len_abs hx)
        obtain ⟨r22, er22, vr22, or22, lr22⟩ := mkZ (v := (x.val.natAbs : Int)) (m := x.abs.length) (len_abs hx)
        obtain ⟨r24, er24, vr24, or24, lr24⟩ := mkZ (v := min x.val y.val) (m := x.abs.length + y.abs.length) (len_min hx hy)
        obtain ⟨r26, er26, vr26, or26, lr26⟩ := mkZ (v := max x.val y.val) (m := x.abs.length + y.abs.length) (len_max hx hy)
        refine rSeq zintSums_ok 4 [(2, .call (Fn.cast (SAdd x y hx hy (by omega) (by omega)) (congrArg vz er6.symm)) zintSums_4), (5, .call (Fn.cast (SRAdd x y hx hy (by omega) (by omega)) (congrArg vz er7.symm)) zintSums_5), (6, .call (Ssame2 r6 r7 (by rw [er6]; rw [er7]) (x.val + y.val) er6 (by omega)) zintSums_6), (10, .call (Fn.cast (SSub x y hx hy (by omega) (by omega)) (congrArg vz er9.symm)) zintSums_7), (13, .call (Fn.cast (SRSub x y hx hy (by omega) (by omega)) (congrArg vz er10.symm)) zintSums_8), (14, .call (Ssame2 r9 r10 (by rw [er9]; rw [er10]) (x.val - y.val) er9 (by omega)) zintSums_6), (19, .call (Fn.cast (SMul x y hx hy (by omega) (by omega)) (congrArg vz er12.symm)) zintSums_9), (22, .call (Fn.cast (SRMul x y hx hy (by omega) (by omega)) (congrArg vz er13.symm)) zintSums_10), (23, .call (Ssame2 r12 r13 (by rw [er12]; rw [er13]) (x.val * y.val) er12 (by omega)) zintSums_6), (28, .call (SCmp x y hx hy (by omega) (by omega)) zintSums_11), (30, .cmp (op := .eql) (m := (cmpZ x.val y.val)) (n := (cmpZ x.val y.val)) (b := true) .i64 (beq_self_eq_true _)), (34, .call (SSign x hx (by omega)) zintSums_12), (36, .call (SRSign x hx (by omega)) zintSums_13), (37, .cmp (op := .eql) (m := (sgn x.val)) (n := (sgn x.val)) (b := true) .i64 (beq_self_eq_true _)), (41, .call (Fn.cast (SNeg x hx (by omega)) (congrArg vz er18.symm)) zintSums_14), (43, .call (Fn.cast (SRNeg x hx (by omega)) (congrArg vz er19.symm)) zintSums_15), (44, .call (Ssame2 r18 r19 (by rw [er18]; rw [er19]) (-x.val) er18 (by omega)) zintSums_6), (48, .call (Fn.cast (SAbs x hx (by omega)) (congrArg vz er21.symm)) zintSums_16), (50, .call (Fn.cast (SRAbs x hx (by omega)) (congrArg vz er22.symm)) zintSums_17), (51, .call (Ssame2 r21 r22 (by rw [er21]; rw [er22]) (x.val.natAbs : Int) er21 (by omega)) zintSums_6), (56, .call (Fn.cast (SMin x y hx hy (by omega) (by omega)) (congrArg vz er24.symm)) zintSums_18), (58, .call (Ssame2 r24 r3 (by rw [er24, er3]; congr 1; have a := hc; unfold cmpZ at a; split at a <;> (try split at a) <;> omega) (min x.val y.val) er24 (by omega)) zintSums_6), (63, .call (Fn.cast (SMax x y hx hy (by omega) (by omega)) (congrArg vz er26.symm)) zintSums_19), (65, .call (Ssame2 r26 r4 (by rw [er26, er4]; congr 1; have a := hc; unfold cmpZ at a; split at a <;> (try split at a) <;> omega) (max x.val y.val) er26 (by omega)) zintSums_6)] [(4, vb true)] [] (by kernel_rfl) h ?_; clear h; intro a w h
        refine wp_ret ?_
        refine retS [.c (.d (.raw (.bool true)))] h Exit.ret (.inl rfl)  rfl ⟨RV.tmp _ _ rfl, trivial⟩ ?_ (by kernel_rfl) (by kernel_rfl)
        rfl
set_option maxRecDepth 100000 in
theorem SzintSumsFar (x y : ZI) (hx : Lb x.abs) (hy : Lb y.abs) (hm : ¬ ((x.abs.length : Int) ≤ 60 ∧ (y.abs.length : Int) ≤ 60)) : Fn Try.prog 4 [] [vz x, vz y] (vb true) [] := by
  refine Fn.body Try.func4 rfl 92 rfl fun w H B a h => ?_
  refine rSeq zintSums_ok 0 [] [(2, vp 0 0), (3, vp 1 0), (4, vb false)] [(0, .box (zi x)), (1, .box (zi y))] (by kernel_rfl) h ?_; clear h; intro a w h
  refine wp_seq ?_
  refine rSeq zintSums_ok 2 [(0, .call (Scounting) zintSums_0)] [(2, vp 0 0), (3, vp 1 0), (4, vb false), (9, vb false)] [(0, .box (zi x)), (1, .box (zi y))] (by kernel_rfl) h ?_; clear h; intro a w h
  refine condS false h rfl (fun hc => ?_) (fun hc => ?_)
  · cases hc
  · clear hc
    refine wp_skip ?_
    refine then_n ?_
    refine wp_seq ?_
    refine rSeq zintSums_ok 2 [(2, .call (Fn.cast (Sshort x y 60 hx hy) (congrArg vb (decide_eq_false hm))) zintSums_1)] [(2, vp 0 0), (3, vp 1 0), (4, vb false), (13, vb true)] [(0, .box (zi x)), (1, .box (zi y))] (by kernel_rfl) h ?_; clear h; intro a w h
    refine condS true h rfl (fun hc => ?_) (fun hc => ?_)
    · clear hc
      refine rSeq zintSums_ok 2 [] [(2, vp 0 0), (3, vp 1 0), (4, vb true)] [(0, .box (zi x)), (1, .box (zi y))] (by kernel_rfl) h ?_; clear h; intro a w h
      refine wp_ret ?_
      refine then_r ?_
      refine retS [.c (.d (.raw (.bool true)))] h Exit.ret (.inl rfl)  rfl ⟨RV.tmp _ _ rfl, trivial⟩ ?_ (by kernel_rfl) (by kernel_rfl)
      rfl
    · cases hc
theorem SzintSums (x y : ZI) (hx : Lb x.abs) (hy : Lb y.abs) : Fn Try.prog 4 [] [vz x, vz y] (vb true) [] := by
  by_cases hm : (x.abs.length : Int) ≤ 60 ∧ (y.abs.length : Int) ≤ 60
  · by_cases hc : cmpZ x.val y.val > 0
    · exact SzintSumsA x y hx hy hm hc
    · exact SzintSumsB x y hx hy hm hc
  · exact SzintSumsFar x y hx hy hm
end Go.Proofs.Ytehbfobfkpejoaa.S
namespace Go.Proofs.Ytehbfobfkpejoaa
open Go.RowKit S
theorem zintSums_walk (s : Bool) (ao : Option Addr) (c : Nat) (zs : List Nat) (t : Bool) (bo : Option Addr) (d : Nat) (us : List Nat) (w : World) (h : Rd w ao c zs) (k : Rd w bo d us) :
    Calls Try.prog 4 #[.agg #[.bool s, .slice ao zs.length c], .agg #[.bool t, .slice bo us.length d]] w (GotP (.bool true) w) :=
  (SzintSums ⟨s, zs⟩ ⟨t, us⟩ h.lb k.lb).calls fun B => ⟨rd_vz h B, rd_vz k B, trivial⟩
end Go.Proofs.Ytehbfobfkpejoaa
