/-
  The walk of the statement ZintDivs.
-/
import Derived.Test.YtehbfobfkpejoaaZe
namespace Go.Proofs.Ytehbfobfkpejoaa.S
open Go.RowKit

theorem zintDivs_0 : Bodied Try.prog 45 := Bodied.mk' (by kernel_rfl)
theorem zintDivs_1 : Bodied Try.prog 20 := Bodied.mk' (by kernel_rfl)
theorem zintDivs_2 : Bodied Try.prog 46 := Bodied.mk' (by kernel_rfl)
theorem zintDivs_3 : Bodied Try.prog 47 := Bodied.mk' (by kernel_rfl)
theorem zintDivs_4 : Bodied Try.prog 48 := Bodied.mk' (by kernel_rfl)
theorem zintDivs_5 : Bodied Try.prog 49 := Bodied.mk' (by kernel_rfl)
theorem zintDivs_6 : Bodied Try.prog 50 := Bodied.mk' (by kernel_rfl)
theorem zintDivs_7 : Bodied Try.prog 51 := Bodied.mk' (by kernel_rfl)
theorem zintDivs_8 : Bodied Try.prog 52 := Bodied.mk' (by kernel_rfl)
theorem zintDivs_9 : Bodied Try.prog 53 := Bodied.mk' (by kernel_rfl)
theorem zintDivs_10 : Bodied Try.prog 16 := Bodied.mk' (by kernel_rfl)
def zintDivs_tb : Tb := [(4, ⟨1, false, [], [.d (.raw (.bool false))], 3⟩), (23, ⟨1, false, [], [.d (nsl [])], 1⟩), (25, ⟨2, true, [(0, 1, false), (1, 1, false)], [.d (.raw (.bool false)), .d (nsl [])], 0⟩)]
theorem zintDivs_ok : TbOk Try.prog zintDivs_tb := ⟨TyOk.bl Try.underlying4 (by kernel_rfl) ⟨(.bool false : Value), [.bool false], by kernel_rfl, rfl, (fun _ _ => ⟨DR.raw _ rfl, trivial⟩)⟩,
  TyOk.slc Try.underlying23 (by kernel_rfl) ⟨(.slice none 0 0 : Value), [.slice none 0 0], by kernel_rfl, rfl, (fun _ _ => ⟨DR.nil _ _ _ (fun _ => rfl) (Nat.zero_le _), trivial⟩)⟩,
  TyOk.st Try.underlying25 (by kernel_rfl) ⟨⟨by decide, Fd.mk' _ _ Try.underlying25 rfl rfl (Sz.mk' (by kernel_rfl) Try.underlying4 _ rfl)⟩, ⟨by decide, Fd.mk' _ _ Try.underlying25 rfl rfl (Sz.mk' (by kernel_rfl) Try.underlying23 _ rfl)⟩, trivial⟩ ⟨(Value.agg #[.bool false, .slice none 0 0]), [.bool false, .slice none 0 0], by kernel_rfl, rfl, (fun _ _ => ⟨DR.raw _ rfl, DR.nil _ _ _ (fun _ => rfl) (Nat.zero_le _), trivial⟩)⟩ ⟨_, Try.underlying25, ⟨⟨rfl, by kernel_rfl⟩, ⟨rfl, by kernel_rfl⟩, trivial⟩⟩,
  trivial⟩
set_option maxRecDepth 100000 in
theorem SzintDivs0 (x y : ZI) (hx : Lb x.abs) (hy : Lb y.abs) (hm : ((x.abs.length : Int) ≤ 12 ∧ (y.abs.length : Int) ≤ 12)) (h0 : y.val = 0) : Fn Try.prog 8 [] [vz x, vz y] (vb true) [] := by
  obtain ⟨lx, ly⟩ := hm
  have hms := decide_eq_true (show ((x.abs.length : Int) ≤ 12 ∧ (y.abs.length : Int) ≤ 12) from ⟨lx, ly⟩)
  refine Fn.body Try.func8 rfl 122 rfl fun w H B a h => ?_
  refine rSeq zintDivs_ok 0 [] [(2, vp 0 0), (3, vp 1 0), (4, vb false)] [(0, .box (zi x)), (1, .box (zi y))] (by kernel_rfl) h ?_; clear h; intro a w h
  refine wp_seq ?_
  refine rSeq zintDivs_ok 2 [(0, .call (Sdividing) zintDivs_0)] [(2, vp 0 0), (3, vp 1 0), (4, vb false), (24, vb false)] [(0, .box (zi x)), (1, .box (zi y))] (by kernel_rfl) h ?_; clear h; intro a w h
  refine condS false h rfl (fun hc => ?_) (fun hc => ?_)
  · cases hc
  · clear hc
    refine wp_skip ?_
    refine then_n ?_
    refine wp_seq ?_
    refine rSeq zintDivs_ok 2 [(2, .call (Fn.cast (Sshort x y 12 hx hy) (congrArg vb hms)) zintDivs_1)] [(2, vp 0 0), (3, vp 1 0), (4, vb false), (28, vb false)] [(0, .box (zi x)), (1, .box (zi y))] (by kernel_rfl) h ?_; clear h; intro a w h
    refine condS false h rfl (fun hc => ?_) (fun hc => ?_)
    · cases hc
    · clear hc
      refine wp_skip ?_
      refine then_n ?_
      have l00 : (ZI.of 0).abs.length = 0 := rfl
      refine rSeq zintDivs_ok 2 [(2, .call (SDiv0 x y hx hy (by omega) (by omega) h0) zintDivs_2)] [(2, vp 0 0), (3, vp 1 0), (4, vb false), (5, vp 2 0), (6, vp 3 0), (7, vi .i64 10)] [(0, .box (zi x)), (1, .box (zi y)), (2, .box (zi (ZI.of 0))), (3, .box (zi (ZI.of 0)))] (by kernel_rfl) h ?_; clear h; intro a w h
      have l00 : (ZI.of 0).abs.length = 0 := rfl
      refine rSeq zintDivs_ok 4 [(2, .call (SRDiv0 x y hx hy (by omega) (by omega) h0) zintDivs_3)] [(2, vp 0 0), (3, vp 1 0), (4, vb false), (5, vp 2 0), (6, vp 3 0), (7, vi .i64 10), (8, vp 4 0), (9, vp 5 0), (10, vi .i64 10)] [(0, .box (zi x)), (1, .box (zi y)), (2, .box (zi (ZI.of 0))), (3, .box (zi (ZI.of 0))), (4, .box (zi (ZI.of 0))), (5, .box (zi (ZI.of 0)))] (by kernel_rfl) h ?_; clear h; intro a w h
      have l00 : (ZI.of 0).abs.length = 0 := rfl
      refine rSeq zintDivs_ok 6 [(2, .call (SCeil0 x y hx hy (by omega) (by omega) h0) zintDivs_4)] [(2, vp 0 0), (3, vp 1 0), (4, vb false), (5, vp 2 0), (6, vp 3 0), (7, vi .i64 10), (8, vp 4 0), (9, vp 5 0), (10, vi .i64 10), (11, vp 6 0), (12, vi .i64 10)] [(0, .box (zi x)), (1, .box (zi y)), (2, .box (zi (ZI.of 0))), (3, .box (zi (ZI.of 0))), (4, .box (zi (ZI.of 0))), (5, .box (zi (ZI.of 0))), (6, .box (zi (ZI.of 0)))] (by kernel_rfl) h ?_; clear h; intro a w h
      have l00 : (ZI.of 0).abs.length = 0 := rfl
      refine rSeq zintDivs_ok 7 [(2, .call (SRCeil0 x y hx hy (by omega) (by omega) h0) zintDivs_5)] [(2, vp 0 0), (3, vp 1 0), (4, vb false), (5, vp 2 0), (6, vp 3 0), (7, vi .i64 10), (8, vp 4 0), (9, vp 5 0), (10, vi .i64 10), (11, vp 6 0), (12, vi .i64 10), (13, vp 7 0), (14, vi .i64 10)] [(0, .box (zi x)), (1, .box (zi y)), (2, .box (zi (ZI.of 0))), (3, .box (zi (ZI.of 0))), (4, .box (zi (ZI.of 0))), (5, .box (zi (ZI.of 0))), (6, .box (zi (ZI.of 0))), (7, .box (zi (ZI.of 0)))] (by kernel_rfl) h ?_; clear h; intro a w h
      have l00 : (ZI.of 0).abs.length = 0 := rfl
      refine rSeq zintDivs_ok 8 [(2, .call (SExact0 x y hx hy (by omega) (by omega) h0) zintDivs_6)] [(2, vp 0 0), (3, vp 1 0), (4, vb false), (5, vp 2 0), (6, vp 3 0), (7, vi .i64 10), (8, vp 4 0), (9, vp 5 0), (10, vi .i64 10), (11, vp 6 0), (12, vi .i64 10), (13, vp 7 0), (14, vi .i64 10), (15, vp 8 0), (16, vi .i64 10)] [(0, .box (zi x)), (1, .box (zi y)), (2, .box (zi (ZI.of 0))), (3, .box (zi (ZI.of 0))), (4, .box (zi (ZI.of 0))), (5, .box (zi (ZI.of 0))), (6, .box (zi (ZI.of 0))), (7, .box (zi (ZI.of 0))), (8, .box (zi (ZI.of 0)))] (by kernel_rfl) h ?_; clear h; intro a w h
      have l00 : (ZI.of 0).abs.length = 0 := rfl
      refine rSeq zintDivs_ok 9 [(2, .call (SRExact0 x y hx hy (by omega) (by omega) h0) zintDivs_7)] [(2, vp 0 0), (3, vp 1 0), (4, vb false), (5, vp 2 0), (6, vp 3 0), (7, vi .i64 10), (8, vp 4 0), (9, vp 5 0), (10, vi .i64 10), (11, vp 6 0), (12, vi .i64 10), (13, vp 7 0), (14, vi .i64 10), (15, vp 8 0), (16, vi .i64 10), (17, vp 9 0), (18, vi .i64 10)] [(0, .box (zi x)), (1, .box (zi y)), (2, .box (zi (ZI.of 0))), (3, .box (zi (ZI.of 0))), (4, .box (zi (ZI.of 0))), (5, .box (zi (ZI.of 0))), (6, .box (zi (ZI.of 0))), (7, .box (zi (ZI.of 0))), (8, .box (zi (ZI.of 0))), (9, .box (zi (ZI.of 0)))] (by kernel_rfl) h ?_; clear h; intro a w h
      have l00 : (ZI.of 0).abs.length = 0 := rfl
      refine rSeq zintDivs_ok 10 [(2, .call (SHat0 x y hx hy (by omega) (by omega) (by omega)) zintDivs_8)] [(2, vp 0 0), (3, vp 1 0), (4, vb false), (5, vp 2 0), (6, vp 3 0), (7, vi .i64 10), (8, vp 4 0), (9, vp 5 0), (10, vi .i64 10), (11, vp 6 0), (12, vi .i64 10), (13, vp 7 0), (14, vi .i64 10), (15, vp 8 0), (16, vi .i64 10), (17, vp 9 0), (18, vi .i64 10), (19, vp 10 0), (20, vi .i64 1)] [(0, .box (zi x)), (1, .box (zi y)), (2, .box (zi (ZI.of 0))), (3, .box (zi (ZI.of 0))), (4, .box (zi (ZI.of 0))), (5, .box (zi (ZI.of 0))), (6, .box (zi (ZI.of 0))), (7, .box (zi (ZI.of 0))), (8, .box (zi (ZI.of 0))), (9, .box (zi (ZI.of 0))), (10, .box (zi (ZI.of 0)))] (by kernel_rfl) h ?_; clear h; intro a w h
      have l00 : (ZI.of 0).abs.length = 0 := rfl
      refine rSeq zintDivs_ok 11 [(2, .call (SRHat0 x y hx hy (by omega) (by omega) (by omega)) zintDivs_9)] [(4, vb false), (5, vp 2 0), (6, vp 3 0), (7, vi .i64 10), (8, vp 4 0), (9, vp 5 0), (10, vi .i64 10), (11, vp 6 0), (12, vi .i64 10), (13, vp 7 0), (14, vi .i64 10), (15, vp 8 0), (16, vi .i64 10), (17, vp 9 0), (18, vi .i64 10), (19, vp 10 0), (20, vi .i64 1), (21, vp 11 0), (22, vi .i64 1)] [(2, .box (zi (ZI.of 0))), (3, .box (zi (ZI.of 0))), (4, .box (zi (ZI.of 0))), (5, .box (zi (ZI.of 0))), (6, .box (zi (ZI.of 0))), (7, .box (zi (ZI.of 0))), (8, .box (zi (ZI.of 0))), (9, .box (zi (ZI.of 0))), (10, .box (zi (ZI.of 0))), (11, .box (zi (ZI.of 0)))] (by kernel_rfl) h ?_; clear h; intro a w h
      refine rSeq zintDivs_ok 12 [(2, .cmp (op := .eql) (m := 10) (n := 10) (b := true) .i64 rfl), (6, .call (Ssame2 (ZI.of 0) (ZI.of 0) (by rfl) 0 rfl (by omega)) zintDivs_10), (11, .call (Ssame2 (ZI.of 0) (ZI.of 0) (by rfl) 0 rfl (by omega)) zintDivs_10), (16, .cmp (op := .eql) (m := 10) (n := 10) (b := true) .i64 rfl), (21, .call (Ssame2 (ZI.of 0) (ZI.of 0) (by rfl) 0 rfl (by omega)) zintDivs_10), (26, .cmp (op := .eql) (m := 10) (n := 10) (b := true) .i64 rfl), (31, .call (Ssame2 (ZI.of 0) (ZI.of 0) (by rfl) 0 rfl (by omega)) zintDivs_10), (36, .cmp (op := .eql) (m := 1) (n := 1) (b := true) .i64 rfl), (41, .call (Ssame2 (ZI.of 0) (ZI.of 0) (by rfl) 0 rfl (by omega)) zintDivs_10)] [(4, vb true)] [] (by kernel_rfl) h ?_; clear h; intro a w h
      refine wp_ret ?_
      refine retS [.c (.d (.raw (.bool true)))] h Exit.ret (.inl rfl)  rfl ⟨RV.tmp _ _ rfl, trivial⟩ ?_ (by kernel_rfl) (by kernel_rfl)
      rfl
set_option maxRecDepth 100000 in
theorem SzintDivsA (x y : ZI) (hx : Lb x.abs) (hy : Lb y.abs) (hm : ((x.abs.length : Int) ≤ 12 ∧ (y.abs.length : Int) ≤ 12)) (h0 : y.val ≠ 0) (hr : x.val.fmod y.val = 0) (h1 : 0 < y.val) : Fn Try.prog 8 [] [vz x, vz y] (vb true) [] := by
  obtain ⟨lx, ly⟩ := hm
  have hms := decide_eq_true (show ((x.abs.length : Int) ≤ 12 ∧ (y.abs.length : Int) ≤ 12) from ⟨lx, ly⟩)
  refine Fn.body Try.func8 rfl 122 rfl fun w H B a h => ?_
  refine rSeq zintDivs_ok 0 [] [(2, vp 0 0), (3, vp 1 0), (4, vb false)] [(0, .box (zi x)), (1, .box (zi y))] (by kernel_rfl) h ?_; clear h; intro a w h
  refine wp_seq ?_
  refine rSeq zintDivs_ok 2 [(0, .call (Sdividing) zintDivs_0)] [(2, vp 0 0), (3, vp 1 0), (4, vb false), (24, vb false)] [(0, .box (zi x)), (1, .box (zi y))] (by kernel_rfl) h ?_; clear h; intro a w h
  refine condS false h rfl (fun hc => ?_) (fun hc => ?_)
  · cases hc
  · clear hc
    refine wp_skip ?_
    refine then_n ?_
    refine wp_seq ?_
    refine rSeq zintDivs_ok 2 [(2, .call (Fn.cast (Sshort x y 12 hx hy) (congrArg vb hms)) zintDivs_1)] [(2, vp 0 0), (3, vp 1 0), (4, vb false), (28, vb false)] [(0, .box (zi x)), (1, .box (zi y))] (by kernel_rfl) h ?_; clear h; intro a w h
    refine condS false h rfl (fun hc => ?_) (fun hc => ?_)
    · cases hc
    · clear hc
      refine wp_skip ?_
      refine then_n ?_
      obtain ⟨r3q, er3q, vr3q, or3q, lr3q⟩ := mkZ (v := x.val.fdiv y.val) (m := x.abs.length) (len_fdiv hx h0)
      obtain ⟨r3r, er3r, vr3r, or3r, lr3r⟩ := mkZ (v := x.val.fmod y.val) (m := y.abs.length) (len_fmod hy h0)
      refine rSeq zintDivs_ok 2 [(2, .call (Fn.cast (SDiv x y hx hy (by omega) (by omega) h0) (show _ = (.tup [.agg (zi r3q), .agg (zi r3r), .c (.d (.raw (.int .i64 0)))] : V) by rw [er3q, er3r]; first | done | rfl)) zintDivs_2)] [(2, vp 0 0), (3, vp 1 0), (4, vb false), (5, vp 2 0), (6, vp 3 0), (7, vi .i64 0)] [(0, .box (zi x)), (1, .box (zi y)), (2, .box (zi r3q)), (3, .box (zi r3r))] (by kernel_rfl) h ?_; clear h; intro a w h
      obtain ⟨r4q, er4q, vr4q, or4q, lr4q⟩ := mkZ (v := x.val.fdiv y.val) (m := x.abs.length) (len_fdiv hx h0)
      obtain ⟨r4r, er4r, vr4r, or4r, lr4r⟩ := mkZ (v := x.val.fmod y.val) (m := y.abs.length) (len_fmod hy h0)
      refine rSeq zintDivs_ok 4 [(2, .call (Fn.cast (SRDiv x y hx hy (by omega) (by omega) h0) (show _ = (.tup [.agg (zi r4q), .agg (zi r4r), .c (.d (.raw (.int .i64 0)))] : V) by rw [er4q, er4r]; first | done | rfl)) zintDivs_3)] [(2, vp 0 0), (3, vp 1 0), (4, vb false), (5, vp 2 0), (6, vp 3 0), (7, vi .i64 0), (8, vp 4 0), (9, vp 5 0), (10, vi .i64 0)] [(0, .box (zi x)), (1, .box (zi y)), (2, .box (zi r3q)), (3, .box (zi r3r)), (4, .box (zi r4q)), (5, .box (zi r4r))] (by kernel_rfl) h ?_; clear h; intro a w h
      obtain ⟨r5, er5, vr5, or5, lr5⟩ := mkZ (v := -((-x.val).fdiv y.val)) (m := x.abs.length) (len_ceil hx h0)
      refine rSeq zintDivs_ok 6 [(2, .call (Fn.cast (SCeil x y hx hy (by omega) (by omega) h0) (show _ = (.tup [.agg (zi r5), .c (.d (.raw (.int .i64 0)))] : V) by rw [er5]; first | done | rfl)) zintDivs_4)] [(2, vp 0 0), (3, vp 1 0), (4, vb false), (5, vp 2 0), (6, vp 3 0), (7, vi .i64 0), (8, vp 4 0), (9, vp 5 0), (10, vi .i64 0), (11, vp 6 0), (12, vi .i64 0)] [(0, .box (zi x)), (1, .box (zi y)), (2, .box (zi r3q)), (3, .box (zi r3r)), (4, .box (zi r4q)), (5, .box (zi r4r)), (6, .box (zi r5))] (by kernel_rfl) h ?_; clear h; intro a w h
      obtain ⟨r6, er6, vr6, or6, lr6⟩ := mkZ (v := -((-x.val).fdiv y.val)) (m := x.abs.length) (len_ceil hx h0)
      refine rSeq zintDivs_ok 7 [(2, .call (Fn.cast (SRCeil x y hx hy (by omega) (by omega) h0) (show _ = (.tup [.agg (zi r6), .c (.d (.raw (.int .i64 0)))] : V) by rw [er6]; first | done | rfl)) zintDivs_5)] [(2, vp 0 0), (3, vp 1 0), (4, vb false), (5, vp 2 0), (6, vp 3 0), (7, vi .i64 0), (8, vp 4 0), (9, vp 5 0), (10, vi .i64 0), (11, vp 6 0), (12, vi .i64 0), (13, vp 7 0), (14, vi .i64 0)] [(0, .box (zi x)), (1, .box (zi y)), (2, .box (zi r3q)), (3, .box (zi r3r)), (4, .box (zi r4q)), (5, .box (zi r4r)), (6, .box (zi r5)), (7, .box (zi r6))] (by kernel_rfl) h ?_; clear h; intro a w h
      obtain ⟨r7, er7, vr7, or7, lr7⟩ := mkZ (v := x.val.fdiv y.val) (m := x.abs.length) (len_fdiv hx h0)
      refine rSeq zintDivs_ok 8 [(2, .call (Fn.cast (SExact x y hx hy (by omega) (by omega) h0 hr) (show _ = (.tup [.agg (zi r7), .c (.d (.raw (.int .i64 0)))] : V) by rw [er7]; first | done | rfl)) zintDivs_6)] [(2, vp 0 0), (3, vp 1 0), (4, vb false), (5, vp 2 0), (6, vp 3 0), (7, vi .i64 0), (8, vp 4 0), (9, vp 5 0), (10, vi .i64 0), (11, vp 6 0), (12, vi .i64 0), (13, vp 7 0), (14, vi .i64 0), (15, vp 8 0), (16, vi .i64 0)] [(0, .box (zi x)), (1, .box (zi y)), (2, .box (zi r3q)), (3, .box (zi r3r)), (4, .box (zi r4q)), (5, .box (zi r4r)), (6, .box (zi r5)), (7, .box (zi r6)), (8, .box (zi r7))] (by kernel_rfl) h ?_; clear h; intro a w h
      obtain ⟨r8, er8, vr8, or8, lr8⟩ := mkZ (v := x.val.fdiv y.val) (m := x.abs.length) (len_fdiv hx h0)
      refine rSeq zintDivs_ok 9 [(2, .call (Fn.cast (SRExact x y hx hy (by omega) (by omega) h0 hr) (show _ = (.tup [.agg (zi r8), .c (.d (.raw (.int .i64 0)))] : V) by rw [er8]; first | done | rfl)) zintDivs_7)] [(2, vp 0 0), (3, vp 1 0), (4, vb false), (5, vp 2 0), (6, vp 3 0), (7, vi .i64 0), (8, vp 4 0), (9, vp 5 0), (10, vi .i64 0), (11, vp 6 0), (12, vi .i64 0), (13, vp 7 0), (14, vi .i64 0), (15, vp 8 0), (16, vi .i64 0), (17, vp 9 0), (18, vi .i64 0)] [(0, .box (zi x)), (1, .box (zi y)), (2, .box (zi r3q)), (3, .box (zi r3r)), (4, .box (zi r4q)), (5, .box (zi r4r)), (6, .box (zi r5)), (7, .box (zi r6)), (8, .box (zi r7)), (9, .box (zi r8))] (by kernel_rfl) h ?_; clear h; intro a w h
      obtain ⟨r9, er9, vr9, or9, lr9⟩ := mkZ (v := hatZ x.val y.val) (m := y.abs.length) (len_hat hy h1)
      refine rSeq zintDivs_ok 10 [(2, .call (Fn.cast (SHat x y hx hy (by omega) (by omega) h1) (show _ = (.tup [.agg (zi r9), .c (.d (.raw (.int .i64 0)))] : V) by rw [er9]; first | done | rfl)) zintDivs_8)] [(2, vp 0 0), (3, vp 1 0), (4, vb false), (5, vp 2 0), (6, vp 3 0), (7, vi .i64 0), (8, vp 4 0), (9, vp 5 0), (10, vi .i64 0), (11, vp 6 0), (12, vi .i64 0), (13, vp 7 0), (14, vi .i64 0), (15, vp 8 0), (16, vi .i64 0), (17, vp 9 0), (18, vi .i64 0), (19, vp 10 0), (20, vi .i64 0)] [(0, .box (zi x)), (1, .box (zi y)), (2, .box (zi r3q)), (3, .box (zi r3r)), (4, .box (zi r4q)), (5, .box (zi r4r)), (6, .box (zi r5)), (7, .box (zi r6)), (8, .box (zi r7)), (9, .box (zi r8)), (10, .box (zi r9))] (by kernel_rfl) h ?_; clear h; intro a w h
      obtain ⟨r10, er10, vr10, or10, lr10⟩ := mkZ (v := hatZ x.val y.val) (m := y.abs.length) (len_hat hy h1)
      refine rSeq zintDivs_ok 11 [(2, .call (Fn.cast (SRHat x y hx hy (by omega) (by omega) h1) (show _ = (.tup [.agg (zi r10), .c (.d (.raw (.int .i64 0)))] : V) by rw [er10]; first | done | rfl)) zintDivs_9)] [(4, vb false), (5, vp 2 0), (6, vp 3 0), (7, vi .i64 0), (8, vp 4 0), (9, vp 5 0), (10, vi .i64 0), (11, vp 6 0), (12, vi .i64 0), (13, vp 7 0), (14, vi .i64 0), (15, vp 8 0), (16, vi .i64 0), (17, vp 9 0), (18, vi .i64 0), (19, vp 10 0), (20, vi .i64 0), (21, vp 11 0), (22, vi .i64 0)] [(2, .box (zi r3q)), (3, .box (zi r3r)), (4, .box (zi r4q)), (5, .box (zi r4r)), (6, .box (zi r5)), (7, .box (zi r6)), (8, .box (zi r7)), (9, .box (zi r8)), (10, .box (zi r9)), (11, .box (zi r10))] (by kernel_rfl) h ?_; clear h; intro a w h
      refine rSeq zintDivs_ok 12 [(2, .cmp (op := .eql) (m := 0) (n := 0) (b := true) .i64 rfl), (6, .call (Ssame2 r3q r4q (by rw [er3q]; rw [er4q]) (x.val.fdiv y.val) er3q (by omega)) zintDivs_10), (11, .call (Ssame2 r3r r4r (by rw [er3r]; rw [er4r]) (x.val.fmod y.val) er3r (by omega)) zintDivs_10), (16, .cmp (op := .eql) (m := 0) (n := 0) (b := true) .i64 rfl), (21, .call (Ssame2 r5 r6 (by rw [er5]; rw [er6]) (-((-x.val).fdiv y.val)) er5 (by omega)) zintDivs_10), (26, .cmp (op := .eql) (m := 0) (n := 0) (b := true) .i64 rfl), (31, .call (Ssame2 r7 r8 (by rw [er7]; rw [er8]) (x.val.fdiv y.val) er7 (by omega)) zintDivs_10), (36, .cmp (op := .eql) (m := 0) (n := 0) (b := true) .i64 rfl), (41, .call (Ssame2 r9 r10 (by rw [er9]; rw [er10]) (hatZ x.val y.val) er9 (by omega)) zintDivs_10)] [(4, vb true)] [] (by kernel_rfl) h ?_; clear h; intro a w h
      refine wp_ret ?_
      refine retS [.c (.d (.raw (.bool true)))] h Exit.ret (.inl rfl)  rfl ⟨RV.tmp _ _ rfl, trivial⟩ ?_ (by kernel_rfl) (by kernel_rfl)
      rfl
set_option maxRecDepth 100000 in
theorem SzintDivsB (x y : ZI) (hx : Lb x.abs) (hy : Lb y.abs) (hm : ((x.abs.length : Int) ≤ 12 ∧ (y.abs.length : Int) ≤ 12)) (h0 : y.val ≠ 0) (hr : x.val.fmod y.val = 0) (h1 : ¬ 0 < y.val) : Fn Try.prog 8 [] [vz x, vz y] (vb true) [] := by
  obtain ⟨lx, ly⟩ := hm
  have hms := decide_eq_true (show ((x.abs.length : Int) ≤ 12 ∧ (y.abs.length : Int) ≤ 12) from ⟨lx, ly⟩)
  refine Fn.body Try.func8 rfl 122 rfl fun w H B a h => ?_
  refine rSeq zintDivs_ok 0 [] [(2, vp 0 0), (3, vp 1 0), (4, vb false)] [(0, .box (zi x)), (1, .box (zi y))] (by kernel_rfl) h ?_; clear h; intro a w h
  refine wp_seq ?_
  refine rSeq zintDivs_ok 2 [(0, .call (Sdividing) zintDivs_0)] [(2, vp 0 0), (3, vp 1 0), (4, vb false), (24, vb false)] [(0, .box (zi x)), (1, .box (zi y))] (by kernel_rfl) h ?_; clear h; intro a w h
  refine condS false h rfl (fun hc => ?_) (fun hc => ?_)
  · cases hc
  · clear hc
    refine wp_skip ?_
    refine then_n ?_
    refine wp_seq ?_
    refine rSeq zintDivs_ok 2 [(2, .call (Fn.cast (Sshort x y 12 hx hy) (congrArg vb hms)) zintDivs_1)] [(2, vp 0 0), (3, vp 1 0), (4, vb false), (28, vb false)] [(0, .box (zi x)), (1, .box (zi y))] (by kernel_rfl) h ?_; clear h; intro a w h
    refine condS false h rfl (fun hc => ?_) (fun hc => ?_)
    · cases hc
    · clear hc
      refine wp_skip ?_
      refine then_n ?_
      obtain ⟨r3q, er3q, vr3q, or3q, lr3q⟩ := mkZ (v := x.val.fdiv y.val) (m := x.abs.length) (len_fdiv hx h0)
      obtain ⟨r3r, er3r, vr3r, or3r, lr3r⟩ := mkZ (v := x.val.fmod y.val) (m := y.abs.length) (len_fmod hy h0)
      refine rSeq zintDivs_ok 2 [(2, .call (Fn.cast (SDiv x y hx hy (by omega) (by omega) h0) (show _ = (.tup [.agg (zi r3q), .agg (zi r3r), .c (.d (.raw (.int .i64 0)))] : V) by rw [er3q, er3r]; first | done | rfl)) zintDivs_2)] [(2, vp 0 0), (3, vp 1 0), (4, vb false), (5, vp 2 0), (6, vp 3 0), (7, vi .i64 0)] [(0, .box (zi x)), (1, .box (zi y)), (2, .box (zi r3q)), (3, .box (zi r3r))] (by kernel_rfl) h ?_; clear h; intro a w h
      obtain ⟨r4q, er4q, vr4q, or4q, lr4q⟩ := mkZ (v := x.val.fdiv y.val) (m := x.abs.length) (len_fdiv hx h0)
      obtain ⟨r4r, er4r, vr4r, or4r, lr4r⟩ := mkZ (v := x.val.fmod y.val) (m := y.abs.length) (len_fmod hy h0)
      refine rSeq zintDivs_ok 4 [(2, .call (Fn.cast (SRDiv x y hx hy (by omega) (by omega) h0) (show _ = (.tup [.agg (zi r4q), .agg (zi r4r), .c (.d (.raw (.int .i64 0)))] : V) by rw [er4q, er4r]; first | done | rfl)) zintDivs_3)] [(2, vp 0 0), (3, vp 1 0), (4, vb false), (5, vp 2 0), (6, vp 3 0), (7, vi .i64 0), (8, vp 4 0), (9, vp 5 0), (10, vi .i64 0)] [(0, .box (zi x)), (1, .box (zi y)), (2, .box (zi r3q)), (3, .box (zi r3r)), (4, .box (zi r4q)), (5, .box (zi r4r))] (by kernel_rfl) h ?_; clear h; intro a w h
      obtain ⟨r5, er5, vr5, or5, lr5⟩ := mkZ (v := -((-x.val).fdiv y.val)) (m := x.abs.length) (len_ceil hx h0)
      refine rSeq zintDivs_ok 6 [(2, .call (Fn.cast (SCeil x y hx hy (by omega) (by omega) h0) (show _ = (.tup [.agg (zi r5), .c (.d (.raw (.int .i64 0)))] : V) by rw [er5]; first | done | rfl)) zintDivs_4)] [(2, vp 0 0), (3, vp 1 0), (4, vb false), (5, vp 2 0), (6, vp 3 0), (7, vi .i64 0), (8, vp 4 0), (9, vp 5 0), (10, vi .i64 0), (11, vp 6 0), (12, vi .i64 0)] [(0, .box (zi x)), (1, .box (zi y)), (2, .box (zi r3q)), (3, .box (zi r3r)), (4, .box (zi r4q)), (5, .box (zi r4r)), (6, .box (zi r5))] (by kernel_rfl) h ?_; clear h; intro a w h
      obtain ⟨r6, er6, vr6, or6, lr6⟩ := mkZ (v := -((-x.val).fdiv y.val)) (m := x.abs.length) (len_ceil hx h0)
      refine rSeq zintDivs_ok 7 [(2, .call (Fn.cast (SRCeil x y hx hy (by omega) (by omega) h0) (show _ = (.tup [.agg (zi r6), .c (.d (.raw (.int .i64 0)))] : V) by rw [er6]; first | done | rfl)) zintDivs_5)] [(2, vp 0 0), (3, vp 1 0), (4, vb false), (5, vp 2 0), (6, vp 3 0), (7, vi .i64 0), (8, vp 4 0), (9, vp 5 0), (10, vi .i64 0), (11, vp 6 0), (12, vi .i64 0), (13, vp 7 0), (14, vi .i64 0)] [(0, .box (zi x)), (1, .box (zi y)), (2, .box (zi r3q)), (3, .box (zi r3r)), (4, .box (zi r4q)), (5, .box (zi r4r)), (6, .box (zi r5)), (7, .box (zi r6))] (by kernel_rfl) h ?_; clear h; intro a w h
      obtain ⟨r7, er7, vr7, or7, lr7⟩ := mkZ (v := x.val.fdiv y.val) (m := x.abs.length) (len_fdiv hx h0)
      refine rSeq zintDivs_ok 8 [(2, .call (Fn.cast (SExact x y hx hy (by omega) (by omega) h0 hr) (show _ = (.tup [.agg (zi r7), .c (.d (.raw (.int .i64 0)))] : V) by rw [er7]; first | done | rfl)) zintDivs_6)] [(2, vp 0 0), (3, vp 1 0), (4, vb false), (5, vp 2 0), (6, vp 3 0), (7, vi .i64 0), (8, vp 4 0), (9, vp 5 0), (10, vi .i64 0), (11, vp 6 0), (12, vi .i64 0), (13, vp 7 0), (14, vi .i64 0), (15, vp 8 0), (16, vi .i64 0)] [(0, .box (zi x)), (1, .box (zi y)), (2, .box (zi r3q)), (3, .box (zi r3r)), (4, .box (zi r4q)), (5, .box (zi r4r)), (6, .box (zi r5)), (7, .box (zi r6)), (8, .box (zi r7))] (by kernel_rfl) h ?_; clear h; intro a w h
      obtain ⟨r8, er8, vr8, or8, lr8⟩ := mkZ (v := x.val.fdiv y.val) (m := x.abs.length) (len_fdiv hx h0)
      refine rSeq zintDivs_ok 9 [(2, .call (Fn.cast (SRExact x y hx hy (by omega) (by omega) h0 hr) (show _ = (.tup [.agg (zi r8), .c (.d (.raw (.int .i64 0)))] : V) by rw [er8]; first | done | rfl)) zintDivs_7)] [(2, vp 0 0), (3, vp 1 0), (4, vb false), (5, vp 2 0), (6, vp 3 0), (7, vi .i64 0), (8, vp 4 0), (9, vp 5 0), (10, vi .i64 0), (11, vp 6 0), (12, vi .i64 0), (13, vp 7 0), (14, vi .i64 0), (15, vp 8 0), (16, vi .i64 0), (17, vp 9 0), (18, vi .i64 0)] [(0, .box (zi x)), (1, .box (zi y)), (2, .box (zi r3q)), (3, .box (zi r3r)), (4, .box (zi r4q)), (5, .box (zi r4r)), (6, .box (zi r5)), (7, .box (zi r6)), (8, .box (zi r7)), (9, .box (zi r8))] (by kernel_rfl) h ?_; clear h; intro a w h
      have l00 : (ZI.of 0).abs.length = 0 := rfl
      refine rSeq zintDivs_ok 10 [(2, .call (SHat0 x y hx hy (by omega) (by omega) (by omega)) zintDivs_8)] [(2, vp 0 0), (3, vp 1 0), (4, vb false), (5, vp 2 0), (6, vp 3 0), (7, vi .i64 0), (8, vp 4 0), (9, vp 5 0), (10, vi .i64 0), (11, vp 6 0), (12, vi .i64 0), (13, vp 7 0), (14, vi .i64 0), (15, vp 8 0), (16, vi .i64 0), (17, vp 9 0), (18, vi .i64 0), (19, vp 10 0), (20, vi .i64 1)] [(0, .box (zi x)), (1, .box (zi y)), (2, .box (zi r3q)), (3, .box (zi r3r)), (4, .box (zi r4q)), (5, .box (zi r4r)), (6, .box (zi r5)), (7, .box (zi r6)), (8, .box (zi r7)), (9, .box (zi r8)), (10, .box (zi (ZI.of 0)))] (by kernel_rfl) h ?_; clear h; intro a w h
      have l00 : (ZI.of 0).abs.length = 0 := rfl
      refine rSeq zintDivs_ok 11 [(2, .call (SRHat0 x y hx hy (by omega) (by omega) (by omega)) zintDivs_9)] [(4, vb false), (5, vp 2 0), (6, vp 3 0), (7, vi .i64 0), (8, vp 4 0), (9, vp 5 0), (10, vi .i64 0), (11, vp 6 0), (12, vi .i64 0), (13, vp 7 0), (14, vi .i64 0), (15, vp 8 0), (16, vi .i64 0), (17, vp 9 0), (18, vi .i64 0), (19, vp 10 0), (20, vi .i64 1), (21, vp 11 0), (22, vi .i64 1)] [(2, .box (zi r3q)), (3, .box (zi r3r)), (4, .box (zi r4q)), (5, .box (zi r4r)), (6, .box (zi r5)), (7, .box (zi r6)), (8, .box (zi r7)), (9, .box (zi r8)), (10, .box (zi (ZI.of 0))), (11, .box (zi (ZI.of 0)))] (by kernel_rfl) h ?_; clear h; intro a w h
      refine rSeq zintDivs_ok 12 [(2, .cmp (op := .eql) (m := 0) (n := 0) (b := true) .i64 rfl), (6, .call (Ssame2 r3q r4q (by rw [er3q]; rw [er4q]) (x.val.fdiv y.val) er3q (by omega)) zintDivs_10), (11, .call (Ssame2 r3r r4r (by rw [er3r]; rw [er4r]) (x.val.fmod y.val) er3r (by omega)) zintDivs_10), (16, .cmp (op := .eql) (m := 0) (n := 0) (b := true) .i64 rfl), (21, .call (Ssame2 r5 r6 (by rw [er5]; rw [er6]) (-((-x.val).fdiv y.val)) er5 (by omega)) zintDivs_10), (26, .cmp (op := .eql) (m := 0) (n := 0) (b := true) .i64 rfl), (31, .call (Ssame2 r7 r8 (by rw [er7]; rw [er8]) (x.val.fdiv y.val) er7 (by omega)) zintDivs_10), (36, .cmp (op := .eql) (m := 1) (n := 1) (b := true) .i64 rfl), (41, .call (Ssame2 (ZI.of 0) (ZI.of 0) (by rfl) 0 rfl (by omega)) zintDivs_10)] [(4, vb true)] [] (by kernel_rfl) h ?_; clear h; intro a w h
      refine wp_ret ?_
      refine retS [.c (.d (.raw (.bool true)))] h Exit.ret (.inl rfl)  rfl ⟨RV.tmp _ _ rfl, trivial⟩ ?_ (by kernel_rfl) (by kernel_rfl)
      rfl
set_option maxRecDepth 100000 in
theorem SzintDivsC (x y : ZI) (hx : Lb x.abs) (hy : Lb y.abs) (hm : ((x.abs.length : Int) ≤ 12 ∧ (y.abs.length : Int) ≤ 12)) (h0 : y.val ≠ 0) (hr : x.val.fmod y.val ≠ 0) (h1 : 0 < y.val) : Fn Try.prog 8 [] [vz x, vz y] (vb true) [] := by
  obtain ⟨lx, ly⟩ := hm
  have hms := decide_eq_true (show ((x.abs.length : Int) ≤ 12 ∧ (y.abs.length : Int) ≤ 12) from ⟨lx, ly⟩)
  refine Fn.body Try.func8 rfl 122 rfl fun w H B a h => ?_
  refine rSeq zintDivs_ok 0 [] [(2, vp 0 0), (3, vp 1 0), (4, vb false)] [(0, .box (zi x)), (1, .box (zi y))] (by kernel_rfl) h ?_; clear h; intro a w h
  refine wp_seq ?_
  refine rSeq zintDivs_ok 2 [(0, .call (Sdividing) zintDivs_0)] [(2, vp 0 0), (3, vp 1 0), (4, vb false), (24, vb false)] [(0, .box (zi x)), (1, .box (zi y))] (by kernel_rfl) h ?_; clear h; intro a w h
  refine condS false h rfl (fun hc => ?_) (fun hc => ?_)
  · cases hc
  · clear hc
    refine wp_skip ?_
    refine then_n ?_
    refine wp_seq ?_
    refine rSeq zintDivs_ok 2 [(2, .call (Fn.cast (Sshort x y 12 hx hy) (congrArg vb hms)) zintDivs_1)] [(2, vp 0 0), (3, vp 1 0), (4, vb false), (28, vb false)] [(0, .box (zi x)), (1, .box (zi y))] (by kernel_rfl) h ?_; clear h; intro a w h
    refine condS false h rfl (fun hc => ?_) (fun hc => ?_)
    · cases hc
    · clear hc
      refine wp_skip ?_
      refine then_n ?_
      obtain ⟨r3q, er3q, vr3q, or3q, lr3q⟩ := mkZ (v := x.val.fdiv y.val) (m := x.abs.length) (len_fdiv hx h0)
      obtain ⟨r3r, er3r, vr3r, or3r, lr3r⟩ := mkZ (v := x.val.fmod y.val) (m := y.abs.length) (len_fmod hy h0)
      refine rSeq zintDivs_ok 2 [(2, .call (Fn.cast (SDiv x y hx hy (by omega) (by omega) h0) (show _ = (.tup [.agg (zi r3q), .agg (zi r3r), .c (.d (.raw (.int .i64 0)))] : V) by rw [er3q, er3r]; first | done | rfl)) zintDivs_2)] [(2, vp 0 0), (3, vp 1 0), (4, vb false), (5, vp 2 0), (6, vp 3 0), (7, vi .i64 0)] [(0, .box (zi x)), (1, .box (zi y)), (2, .box (zi r3q)), (3, .box (zi r3r))] (by kernel_rfl) h ?_; clear h; intro a w h
      obtain ⟨r4q, er4q, vr4q, or4q, lr4q⟩ := mkZ (v := x.val.fdiv y.val) (m := x.abs.length) (len_fdiv hx h0)
      obtain ⟨r4r, er4r, vr4r, or4r, lr4r⟩ := mkZ (v := x.val.fmod y.val) (m := y.abs.length) (len_fmod hy h0)
      refine rSeq zintDivs_ok 4 [(2, .call (Fn.cast (SRDiv x y hx hy (by omega) (by omega) h0) (show _ = (.tup [.agg (zi r4q), .agg (zi r4r), .c (.d (.raw (.int .i64 0)))] : V) by rw [er4q, er4r]; first | done | rfl)) zintDivs_3)] [(2, vp 0 0), (3, vp 1 0), (4, vb false), (5, vp 2 0), (6, vp 3 0), (7, vi .i64 0), (8, vp 4 0), (9, vp 5 0), (10, vi .i64 0)] [(0, .box (zi x)), (1, .box (zi y)), (2, .box (zi r3q)), (3, .box (zi r3r)), (4, .box (zi r4q)), (5, .box (zi r4r))] (by kernel_rfl) h ?_; clear h; intro a w h
      obtain ⟨r5, er5, vr5, or5, lr5⟩ := mkZ (v := -((-x.val).fdiv y.val)) (m := x.abs.length) (len_ceil hx h0)
      refine rSeq zintDivs_ok 6 [(2, .call (Fn.cast (SCeil x y hx hy (by omega) (by omega) h0) (show _ = (.tup [.agg (zi r5), .c (.d (.raw (.int .i64 0)))] : V) by rw [er5]; first | done | rfl)) zintDivs_4)] [(2, vp 0 0), (3, vp 1 0), (4, vb false), (5, vp 2 0), (6, vp 3 0), (7, vi .i64 0), (8, vp 4 0), (9, vp 5 0), (10, vi .i64 0), (11, vp 6 0), (12, vi .i64 0)] [(0, .box (zi x)), (1, .box (zi y)), (2, .box (zi r3q)), (3, .box (zi r3r)), (4, .box (zi r4q)), (5, .box (zi r4r)), (6, .box (zi r5))] (by kernel_rfl) h ?_; clear h; intro a w h
      obtain ⟨r6, er6, vr6, or6, lr6⟩ := mkZ (v := -((-x.val).fdiv y.val)) (m := x.abs.length) (len_ceil hx h0)
      refine rSeq zintDivs_ok 7 [(2, .call (Fn.cast (SRCeil x y hx hy (by omega) (by omega) h0) (show _ = (.tup [.agg (zi r6), .c (.d (.raw (.int .i64 0)))] : V) by rw [er6]; first | done | rfl)) zintDivs_5)] [(2, vp 0 0), (3, vp 1 0), (4, vb false), (5, vp 2 0), (6, vp 3 0), (7, vi .i64 0), (8, vp 4 0), (9, vp 5 0), (10, vi .i64 0), (11, vp 6 0), (12, vi .i64 0), (13, vp 7 0), (14, vi .i64 0)] [(0, .box (zi x)), (1, .box (zi y)), (2, .box (zi r3q)), (3, .box (zi r3r)), (4, .box (zi r4q)), (5, .box (zi r4r)), (6, .box (zi r5)), (7, .box (zi r6))] (by kernel_rfl) h ?_; clear h; intro a w h
      have l00 : (ZI.of 0).abs.length = 0 := rfl
      refine rSeq zintDivs_ok 8 [(2, .call (SExactN x y hx hy (by omega) (by omega) h0 hr) zintDivs_6)] [(2, vp 0 0), (3, vp 1 0), (4, vb false), (5, vp 2 0), (6, vp 3 0), (7, vi .i64 0), (8, vp 4 0), (9, vp 5 0), (10, vi .i64 0), (11, vp 6 0), (12, vi .i64 0), (13, vp 7 0), (14, vi .i64 0), (15, vp 8 0), (16, vi .i64 1)] [(0, .box (zi x)), (1, .box (zi y)), (2, .box (zi r3q)), (3, .box (zi r3r)), (4, .box (zi r4q)), (5, .box (zi r4r)), (6, .box (zi r5)), (7, .box (zi r6)), (8, .box (zi (ZI.of 0)))] (by kernel_rfl) h ?_; clear h; intro a w h
      have l00 : (ZI.of 0).abs.length = 0 := rfl
      refine rSeq zintDivs_ok 9 [(2, .call (SRExactN x y hx hy (by omega) (by omega) h0 hr) zintDivs_7)] [(2, vp 0 0), (3, vp 1 0), (4, vb false), (5, vp 2 0), (6, vp 3 0), (7, vi .i64 0), (8, vp 4 0), (9, vp 5 0), (10, vi .i64 0), (11, vp 6 0), (12, vi .i64 0), (13, vp 7 0), (14, vi .i64 0), (15, vp 8 0), (16, vi .i64 1), (17, vp 9 0), (18, vi .i64 1)] [(0, .box (zi x)), (1, .box (zi y)), (2, .box (zi r3q)), (3, .box (zi r3r)), (4, .box (zi r4q)), (5, .box (zi r4r)), (6, .box (zi r5)), (7, .box (zi r6)), (8, .box (zi (ZI.of 0))), (9, .box (zi (ZI.of 0)))] (by kernel_rfl) h ?_; clear h; intro a w h
      obtain ⟨r9, er9, vr9, or9, lr9⟩ := mkZ (v := hatZ x.val y.val) (m := y.abs.length) (len_hat hy h1)
      refine rSeq zintDivs_ok 10 [(2, .call (Fn.cast (SHat x y hx hy (by omega) (by omega) h1) (show _ = (.tup [.agg (zi r9), .c (.d (.raw (.int .i64 0)))] : V) by rw [er9]; first | done | rfl)) zintDivs_8)] [(2, vp 0 0), (3, vp 1 0), (4, vb false), (5, vp 2 0), (6, vp 3 0), (7, vi .i64 0), (8, vp 4 0), (9, vp 5 0), (10, vi .i64 0), (11, vp 6 0), (12, vi .i64 0), (13, vp 7 0), (14, vi .i64 0), (15, vp 8 0), (16, vi .i64 1), (17, vp 9 0), (18, vi .i64 1), (19, vp 10 0), (20, vi .i64 0)] [(0, .box (zi x)), (1, .box (zi y)), (2, .box (zi r3q)), (3, .box (zi r3r)), (4, .box (zi r4q)), (5, .box (zi r4r)), (6, .box (zi r5)), (7, .box (zi r6)), (8, .box (zi (ZI.of 0))), (9, .box (zi (ZI.of 0))), (10, .box (zi r9))] (by kernel_rfl) h ?_; clear h; intro a w h
      obtain ⟨r10, er10, vr10, or10, lr10⟩ := mkZ (v := hatZ x.val y.val) (m := y.abs.length) (len_hat hy h1)
      refine rSeq zintDivs_ok 11 [(2, .call (Fn.cast (SRHat x y hx hy (by omega) (by omega) h1) (show _ = (.tup [.agg (zi r10), .c (.d (.raw (.int .i64 0)))] : V) by rw [er10]; first | done | rfl)) zintDivs_9)] [(4, vb false), (5, vp 2 0), (6, vp 3 0), (7, vi .i64 0), (8, vp 4 0), (9, vp 5 0), (10, vi .i64 0), (11, vp 6 0), (12, vi .i64 0), (13, vp 7 0), (14, vi .i64 0), (15, vp 8 0), (16, vi .i64 1), (17, vp 9 0), (18, vi .i64 1), (19, vp 10 0), (20, vi .i64 0), (21, vp 11 0), (22, vi .i64 0)] [(2, .box (zi r3q)), (3, .box (zi r3r)), (4, .box (zi r4q)), (5, .box (zi r4r)), (6, .box (zi r5)), (7, .box (zi r6)), (8, .box (zi (ZI.of 0))), (9, .box (zi (ZI.of 0))), (10, .box (zi r9)), (11, .box (zi r10))] (by kernel_rfl) h ?_; clear h; intro a w h
      refine rSeq zintDivs_ok 12 [(2, .cmp (op := .eql) (m := 0) (n := 0) (b := true) .i64 rfl), (6, .call (Ssame2 r3q r4q (by rw [er3q]; rw [er4q]) (x.val.fdiv y.val) er3q (by omega)) zintDivs_10), (11, .call (Ssame2 r3r r4r (by rw [er3r]; rw [er4r]) (x.val.fmod y.val) er3r (by omega)) zintDivs_10), (16, .cmp (op := .eql) (m := 0) (n := 0) (b := true) .i64 rfl), (21, .call (Ssame2 r5 r6 (by rw [er5]; rw [er6]) (-((-x.val).fdiv y.val)) er5 (by omega)) zintDivs_10), (26, .cmp (op := .eql) (m := 1) (n := 1) (b := true) .i64 rfl), (31, .call (Ssame2 (ZI.of 0) (ZI.of 0) (by rfl) 0 rfl (by omega)) zintDivs_10), (36, .cmp (op := .eql) (m := 0) (n := 0) (b := true) .i64 rfl), (41, .call (Ssame2 r9 r10 (by rw [er9]; rw [er10]) (hatZ x.val y.val) er9 (by omega)) zintDivs_10)] [(4, vb true)] [] (by kernel_rfl) h ?_; clear h; intro a w h
      refine wp_ret ?_
      refine retS [.c (.d (.raw (.bool true)))] h Exit.ret (.inl rfl)  rfl ⟨RV.tmp _ _ rfl, trivial⟩ ?_ (by kernel_rfl) (by kernel_rfl)
      rfl
set_option maxRecDepth 100000 in
theorem SzintDivsD (x y : ZI) (hx : Lb x.abs) (hy : Lb y.abs) (hm : ((x.abs.length : Int) ≤ 12 ∧ (y.abs.length : Int) ≤ 12)) (h0 : y.val ≠ 0) (hr : x.val.fmod y.val ≠ 0) (h1 : ¬ 0 < y.val) : Fn Try.prog 8 [] [vz x, vz y] (vb true) [] := by
  obtain ⟨lx, ly⟩ := hm
  have hms := decide_eq_true (show ((x.abs.length : Int) ≤ 12 ∧ (y.abs.length : Int) ≤ 12) from ⟨lx, ly⟩)
  refine Fn.body Try.func8 rfl 122 rfl fun w H B a h => ?_
  refine rSeq zintDivs_ok 0 [] [(2, vp 0 0), (3, vp 1 0), (4, vb false)] [(0, .box (zi x)), (1, .box (zi y))] (by kernel_rfl) h ?_; clear h; intro a w h
  refine wp_seq ?_
  refine rSeq zintDivs_ok 2 [(0, .call (Sdividing) zintDivs_0)] [(2, vp 0 0), (3, vp 1 0), (4, vb false), (24, vb false)] [(0, .box (zi x)), (1, .box (zi y))] (by kernel_rfl) h ?_; clear h; intro a w h
  refine condS false h rfl (fun hc => ?_) (fun hc => ?_)
  · cases hc
  · clear hc
    refine wp_skip ?_
    refine then_n ?_
    refine wp_seq ?_
    refine rSeq zintDivs_ok 2 [(2, .call (Fn.cast (Sshort x y 12 hx hy) (congrArg vb hms)) zintDivs_1)] [(2, vp 0 0), (3, vp 1 0), (4, vb false), (28, vb false)] [(0, .box (zi x)), (1, .box (zi y))] (by kernel_rfl) h ?_; clear h; intro a w h
    refine condS false h rfl (fun hc => ?_) (fun hc => ?_)
    · cases hc
    · clear hc
      refine wp_skip ?_
      refine then_n ?_
      obtain ⟨r3q, er3q, vr3q, or3q, lr3q⟩ := mkZ (v := x.val.fdiv y.val) (m := x.abs.length) (len_fdiv hx h0)
      obtain ⟨r3r, er3r, vr3r, or3r, lr3r⟩ := mkZ (v := x.val.fmod y.val) (m := y.abs.length) (len_fmod hy h0)
      refine rSeq zintDivs_ok 2 [(2, .call (Fn.cast (SDiv x y hx hy (by omega) (by omega) h0) (show _ = (.tup [.agg (zi r3q), .agg (zi r3r), .c (.d (.raw (.int .i64 0)))] : V) by rw [er3q, er3r]; first | done | rfl)) zintDivs_2)] [(2, vp 0 0), (3, vp 1 0), (4, vb false), (5, vp 2 0), (6, vp 3 0), (7, vi .i64 0)] [(0, .box (zi x)), (1, .box (zi y)), (2, .box (zi r3q)), (3, .box (zi r3r))] (by kernel_rfl) h ?_; clear h; intro a w h
      obtain ⟨r4q, er4q, vr4q, or4q, lr4q⟩ := mkZ (v := x.val.fdiv y.val) (m := x.abs.length) (len_fdiv hx h0)
      obtain ⟨r4r, er4r, vr4r, or4r, lr4r⟩ := mkZ (v := x.val.fmod y.val) (m := y.abs.length) (len_fmod hy h0)
      refine rSeq zintDivs_ok 4 [(2, .call (Fn.cast (SRDiv x y hx hy (by omega) (by omega) h0) (show _ = (.tup [.agg (zi r4q), .agg (zi r4r), .c (.d (.raw (.int .i64 0)))] : V) by rw [er4q, er4r]; first | done | rfl)) zintDivs_3)] [(2, vp 0 0), (3, vp 1 0), (4, vb false), (5, vp 2 0), (6, vp 3 0), (7, vi .i64 0), (8, vp 4 0), (9, vp 5 0), (10, vi .i64 0)] [(0, .box (zi x)), (1, .box (zi y)), (2, .box (zi r3q)), (3, .box (zi r3r)), (4, .box (zi r4q)), (5, .box (zi r4r))] (by kernel_rfl) h ?_; clear h; intro a w h
      obtain ⟨r5, er5, vr5, or5, lr5⟩ := mkZ (v := -((-x.val).fdiv y.val)) (m := x.abs.length) (len_ceil hx h0)
      refine rSeq zintDivs_ok 6 [(2, .call (Fn.cast (SCeil x y hx hy (by omega) (by omega) h0) (show _ = (.tup [.agg (zi r5), .c (.d (.raw (.int .i64 0)))] : V) by rw [er5]; first | done | rfl)) zintDivs_4)] [(2, vp 0 0), (3, vp 1 0), (4, vb false), (5, vp 2 0), (6, vp 3 0), (7, vi .i64 0), (8, vp 4 0), (9, vp 5 0), (10, vi .i64 0), (11, vp 6 0), (12, vi .i64 0)] [(0, .box (zi x)), (1, .box (zi y)), (2, .box (zi r3q)), (3, .box (zi r3r)), (4, .box (zi r4q)), (5, .box (zi r4r)), (6, .box (zi r5))] (by kernel_rfl) h ?_; clear h; intro a w h
      obtain ⟨r6, er6, vr6, or6, lr6⟩ := mkZ (v := -((-x.val).fdiv y.val)) (m := x.abs.length) (len_ceil hx h0)
      refine rSeq zintDivs_ok 7 [(2, .call (Fn.cast (SRCeil x y hx hy (by omega) (by omega) h0) (show _ = (.tup [.agg (zi r6), .c (.d (.raw (.int .i64 0)))] : V) by rw [er6]; first | done | rfl)) zintDivs_5)] [(2, vp 0 0), (3, vp 1 0), (4, vb false), (5, vp 2 0), (6, vp 3 0), (7, vi .i64 0), (8, vp 4 0), (9, vp 5 0), (10, vi .i64 0), (11, vp 6 0), (12, vi .i64 0), (13, vp 7 0), (14, vi .i64 0)] [(0, .box (zi x)), (1, .box (zi y)), (2, .box (zi r3q)), (3, .box (zi r3r)), (4, .box (zi r4q)), (5, .box (zi r4r)), (6, .box (zi r5)), (7, .box (zi r6))] (by kernel_rfl) h ?_; clear h; intro a w h
      have l00 : (ZI.of 0).abs.length = 0 := rfl
      refine rSeq zintDivs_ok 8 [(2, .call (SExactN x y hx hy (by omega) (by omega) h0 hr) zintDivs_6)] [(2, vp 0 0), (3, vp 1 0), (4, vb false), (5, vp 2 0), (6, vp 3 0), (7, vi .i64 0), (8, vp 4 0), (9, vp 5 0), (10, vi .i64 0), (11, vp 6 0), (12, vi .i64 0), (13, vp 7 0), (14, vi .i64 0), (15, vp 8 0), (16, vi .i64 1)] [(0, .box (zi x)), (1, .box (zi y)), (2, .box (zi r3q)), (3, .box (zi r3r)), (4, .box (zi r4q)), (5, .box (zi r4r)), (6, .box (zi r5)), (7, .box (zi r6)), (8, .box (zi (ZI.of 0)))] (by kernel_rfl) h ?_; clear h; intro a w h
      have l00 : (ZI.of 0).abs.length = 0 := rfl
      refine rSeq zintDivs_ok 9 [(2, .call (SRExactN x y hx hy (by omega) (by omega) h0 hr) zintDivs_7)] [(2, vp 0 0), (3, vp 1 0), (4, vb false), (5, vp 2 0), (6, vp 3 0), (7, vi .i64 0), (8, vp 4 0), (9, vp 5 0), (10, vi .i64 0), (11, vp 6 0), (12, vi .i64 0), (13, vp 7 0), (14, vi .i64 0), (15, vp 8 0), (16, vi .i64 1), (17, vp 9 0), (18, vi .i64 1)] [(0, .box (zi x)), (1, .box (zi y)), (2, .box (zi r3q)), (3, .box (zi r3r)), (4, .box (zi r4q)), (5, .box (zi r4r)), (6, .box (zi r5)), (7, .box (zi r6)), (8, .box (zi (ZI.of 0))), (9, .box (zi (ZI.of 0)))] (by kernel_rfl) h ?_; clear h; intro a w h
      have l00 : (ZI.of 0).abs.length = 0 := rfl
      refine rSeq zintDivs_ok 10 [(2, .call (SHat0 x y hx hy (by omega) (by omega) (by omega)) zintDivs_8)] [(2, vp 0 0), (3, vp 1 0), (4, vb false), (5, vp 2 0), (6, vp 3 0), (7, vi .i64 0), (8, vp 4 0), (9, vp 5 0), (10, vi .i64 0), (11, vp 6 0), (12, vi .i64 0), (13, vp 7 0), (14, vi .i64 0), (15, vp 8 0), (16, vi .i64 1), (17, vp 9 0), (18, vi .i64 1), (19, vp 10 0), (20, vi .i64 1)] [(0, .box (zi x)), (1, .box (zi y)), (2, .box (zi r3q)), (3, .box (zi r3r)), (4, .box (zi r4q)), (5, .box (zi r4r)), (6, .box (zi r5)), (7, .box (zi r6)), (8, .box (zi (ZI.of 0))), (9, .box (zi (ZI.of 0))), (10, .box (zi (ZI.of 0)))] (by kernel_rfl) h ?_; clear h; intro a w h
      have l00 : (ZI.of 0).abs.length = 0 := rfl
      refine rSeq zintDivs_ok 11 [(2, .call (SRHat0 x y hx hy (by omega) (by omega) (by omega)) zintDivs_9)] [(4, vb false), (5, vp 2 0), (6, vp 3 0), (7, vi .i64 0), (8, vp 4 0), (9, vp 5 0), (10, vi .i64 0), (11, vp 6 0), (12, vi .i64 0), (13, vp 7 0), (14, vi .i64 0), (15, vp 8 0), (16, vi .i64 1), (17, vp 9 0), (18, vi .i64 1), (19, vp 10 0), (20, vi .i64 1), (21, vp 11 0), (22, vi .i64 1)] [(2, .box (zi r3q)), (3, .box (zi r3r)), (4, .box (zi r4q)), (5, .box (zi r4r)), (6, .box (zi r5)), (7, .box (zi r6)), (8, .box (zi (ZI.of 0))), (9, .box (zi (ZI.of 0))), (10, .box (zi (ZI.of 0))), (11, .box (zi (ZI.of 0)))] (by kernel_rfl) h ?_; clear h; intro a w h
      refine rSeq zintDivs_ok 12 [(2, .cmp (op := .eql) (m := 0) (n := 0) (b := true) .i64 rfl), (6, .call (Ssame2 r3q r4q (by rw [er3q]; rw [er4q]) (x.val.fdiv y.val) er3q (by omega)) zintDivs_10), (11, .call (Ssame2 r3r r4r (by rw [er3r]; rw [er4r]) (x.val.fmod y.val) er3r (by omega)) zintDivs_10), (16, .cmp (op := .eql) (m := 0) (n := 0) (b := true) .i64 rfl), (21, .call (Ssame2 r5 r6 (by rw [er5]; rw [er6]) (-((-x.val).fdiv y.val)) er5 (by omega)) zintDivs_10), (26, .cmp (op := .eql) (m := 1) (n := 1) (b := true) .i64 rfl), (31, .call (Ssame2 (ZI.of 0) (ZI.of 0) (by rfl) 0 rfl (by omega)) zintDivs_10), (36, .cmp (op := .eql) (m := 1) (n := 1) (b := true) .i64 rfl), (41, .call (Ssame2 (ZI.of 0) (ZI.of 0) (by rfl) 0 rfl (by omega)) zintDivs_10)] [(4, vb true)] [] (by kernel_rfl) h ?_; clear h; intro a w h
      refine wp_ret ?_
      refine retS [.c (.d (.raw (.bool true)))] h Exit.ret (.inl rfl)  rfl ⟨RV.tmp _ _ rfl, trivial⟩ ?_ (by kernel_rfl) (by kernel_rfl)
      rfl
set_option maxRecDepth 100000 in
theorem SzintDivsFar (x y : ZI) (hx : Lb x.abs) (hy : Lb y.abs) (hm : ¬ ((x.abs.length : Int) ≤ 12 ∧ (y.abs.length : Int) ≤ 12)) : Fn Try.prog 8 [] [vz x, vz y] (vb true) [] := by
  refine Fn.body Try.func8 rfl 122 rfl fun w H B a h => ?_
  refine rSeq zintDivs_ok 0 [] [(2, vp 0 0), (3, vp 1 0), (4, vb false)] [(0, .box (zi x)), (1, .box (zi y))] (by kernel_rfl) h ?_; clear h; intro a w h
  refine wp_seq ?_
  refine rSeq zintDivs_ok 2 [(0, .call (Sdividing) zintDivs_0)] [(2, vp 0 0), (3, vp 1 0), (4, vb false), (24, vb false)] [(0, .box (zi x)), (1, .box (zi y))] (by kernel_rfl) h ?_; clear h; intro a w h
  refine condS false h rfl (fun hc => ?_) (fun hc => ?_)
  · cases hc
  · clear hc
    refine wp_skip ?_
    refine then_n ?_
    refine wp_seq ?_
    refine rSeq zintDivs_ok 2 [(2, .call (Fn.cast (Sshort x y 12 hx hy) (congrArg vb (decide_eq_false hm))) zintDivs_1)] [(2, vp 0 0), (3, vp 1 0), (4, vb false), (28, vb true)] [(0, .box (zi x)), (1, .box (zi y))] (by kernel_rfl) h ?_; clear h; intro a w h
    refine condS true h rfl (fun hc => ?_) (fun hc => ?_)
    · clear hc
      refine rSeq zintDivs_ok 2 [] [(2, vp 0 0), (3, vp 1 0), (4, vb true)] [(0, .box (zi x)), (1, .box (zi y))] (by kernel_rfl) h ?_; clear h; intro a w h
      refine wp_ret ?_
      refine then_r ?_
      refine retS [.c (.d (.raw (.bool true)))] h Exit.ret (.inl rfl)  rfl ⟨RV.tmp _ _ rfl, trivial⟩ ?_ (by kernel_rfl) (by kernel_rfl)
      rfl
    · cases hc
theorem SzintDivs (x y : ZI) (hx : Lb x.abs) (hy : Lb y.abs) : Fn Try.prog 8 [] [vz x, vz y] (vb true) [] := by
  by_cases hm : (x.abs.length : Int) ≤ 12 ∧ (y.abs.length : Int) ≤ 12
  · by_cases h0 : y.val = 0
    · exact SzintDivs0 x y hx hy hm h0
    · by_cases hr : x.val.fmod y.val = 0 <;> by_cases h1 : 0 < y.val
      · exact SzintDivsA x y hx hy hm h0 hr h1
      · exact SzintDivsB x y hx hy hm h0 hr h1
      · exact SzintDivsC x y hx hy hm h0 hr h1
      · exact SzintDivsD x y hx hy hm h0 hr h1
  · exact SzintDivsFar x y hx hy hm
end Go.Proofs.Ytehbfobfkpejoaa.S
namespace Go.Proofs.Ytehbfobfkpejoaa
open Go.RowKit S
theorem zintDivs_walk (s : Bool) (ao : Option Addr) (c : Nat) (zs : List Nat) (t : Bool) (bo : Option Addr) (d : Nat) (us : List Nat) (w : World) (h : Rd w ao c zs) (k : Rd w bo d us) :
    Calls Try.prog 8 #[.agg #[.bool s, .slice ao zs.length c], .agg #[.bool t, .slice bo us.length d]] w (GotP (.bool true) w) :=
  (SzintDivs ⟨s, zs⟩ ⟨t, us⟩ h.lb k.lb).calls fun B => ⟨rd_vz h B, rd_vz k B, trivial⟩
end Go.Proofs.Ytehbfobfkpejoaa
