/-
  The constants that the statements look at.
-/
import Derived.Test.YtehbfobfkpejoaaZd
namespace Go.Proofs.Ytehbfobfkpejoaa.S
open Go.RowKit

theorem ze_0 : Bodied Try.prog 40 := Bodied.mk' (by kernel_rfl)
theorem ze_1 : Bodied Try.prog 46 := Bodied.mk' (by kernel_rfl)
theorem ze_2 : Bodied Try.prog 48 := Bodied.mk' (by kernel_rfl)
theorem ze_3 : Bodied Try.prog 50 := Bodied.mk' (by kernel_rfl)
theorem ze_4 : Bodied Try.prog 52 := Bodied.mk' (by kernel_rfl)
theorem ze_5 : Bodied Try.prog 61 := Bodied.mk' (by kernel_rfl)
theorem ze_6 : Bodied Try.prog 55 := Bodied.mk' (by kernel_rfl)
theorem ze_7 : Bodied Try.prog 57 := Bodied.mk' (by kernel_rfl)
theorem ze_8 : Bodied Try.prog 59 := Bodied.mk' (by kernel_rfl)
def ze_tb : Tb := [(4, ⟨1, false, [], [.d (.raw (.bool false))], 3⟩), (23, ⟨1, false, [], [.d (nsl [])], 1⟩), (25, ⟨2, true, [(0, 1, false), (1, 1, false)], [.d (.raw (.bool false)), .d (nsl [])], 0⟩)]
theorem ze_ok : TbOk Try.prog ze_tb := ⟨TyOk.bl Try.underlying4 (by kernel_rfl) ⟨(.bool false : Value), [.bool false], by kernel_rfl, rfl, (fun _ _ => ⟨DR.raw _ rfl, trivial⟩)⟩,
  TyOk.slc Try.underlying23 (by kernel_rfl) ⟨(.slice none 0 0 : Value), [.slice none 0 0], by kernel_rfl, rfl, (fun _ _ => ⟨DR.nil _ _ _ (fun _ => rfl) (Nat.zero_le _), trivial⟩)⟩,
  TyOk.st Try.underlying25 (by kernel_rfl) ⟨⟨by decide, Fd.mk' _ _ Try.underlying25 rfl rfl (Sz.mk' (by kernel_rfl) Try.underlying4 _ rfl)⟩, ⟨by decide, Fd.mk' _ _ Try.underlying25 rfl rfl (Sz.mk' (by kernel_rfl) Try.underlying23 _ rfl)⟩, trivial⟩ ⟨(Value.agg #[.bool false, .slice none 0 0]), [.bool false, .slice none 0 0], by kernel_rfl, rfl, (fun _ _ => ⟨DR.raw _ rfl, DR.nil _ _ _ (fun _ => rfl) (Nat.zero_le _), trivial⟩)⟩ ⟨_, Try.underlying25, ⟨⟨rfl, by kernel_rfl⟩, ⟨rfl, by kernel_rfl⟩, trivial⟩⟩,
  trivial⟩
set_option maxRecDepth 100000 in
theorem Sdividing  : Fn Try.prog 45 [] [] (vb true) [] := by
  refine Fn.body Try.func45 rfl 113 rfl fun w H B a h => ?_
  refine rSeq ze_ok 0 [] [(0, vb false)] [] (by kernel_rfl) h ?_; clear h; intro a w h
  obtain ⟨r1, er1, vr1, or1, lr1⟩ := mkZ (v := (-7)) (m := 2) (ZI.len_of (by have := pw2; omega))
  obtain ⟨r2, er2, vr2, or2, lr2⟩ := mkZ (v := 2) (m := 2) (ZI.len_of (by have := pw2; omega))
  obtain ⟨r3q, er3q, vr3q, or3q, lr3q⟩ := mkZ (v := r1.val.fdiv r2.val) (m := r1.abs.length) (len_fdiv or1 (by rw [vr2]; decide))
  obtain ⟨r3r, er3r, vr3r, or3r, lr3r⟩ := mkZ (v := r1.val.fmod r2.val) (m := r2.abs.length) (len_fmod or2 (by rw [vr2]; decide))
  refine rSeq ze_ok 0 [(0, .call (Fn.cast (SOf (-7) ⟨by omega, by omega⟩) (congrArg vz er1.symm)) ze_0), (1, .call (Fn.cast (SOf 2 ⟨by omega, by omega⟩) (congrArg vz er2.symm)) ze_0), (2, .call (Fn.cast (SDiv r1 r2 or1 or2 (by omega) (by omega) (by rw [vr2]; decide)) (show _ = (.tup [.agg (zi r3q), .agg (zi r3r), .c (.d (.raw (.int .i64 0)))] : V) by rw [er3q, er3r]; first | done | rfl)) ze_1)] [(0, vb false), (1, vp 0 0), (2, vp 1 0), (3, vi .i64 0)] [(0, .box (zi r3q)), (1, .box (zi r3r))] (by kernel_rfl) h ?_; clear h; intro a w h
  obtain ⟨r4, er4, vr4, or4, lr4⟩ := mkZ (v := (-7)) (m := 2) (ZI.len_of (by have := pw2; omega))
  obtain ⟨r5, er5, vr5, or5, lr5⟩ := mkZ (v := (-2)) (m := 2) (ZI.len_of (by have := pw2; omega))
  obtain ⟨r6q, er6q, vr6q, or6q, lr6q⟩ := mkZ (v := r4.val.fdiv r5.val) (m := r4.abs.length) (len_fdiv or4 (by rw [vr5]; decide))
  obtain ⟨r6r, er6r, vr6r, or6r, lr6r⟩ := mkZ (v := r4.val.fmod r5.val) (m := r5.abs.length) (len_fmod or5 (by rw [vr5]; decide))
  refine rSeq ze_ok 2 [(0, .call (Fn.cast (SOf (-7) ⟨by omega, by omega⟩) (congrArg vz er4.symm)) ze_0), (1, .call (Fn.cast (SOf (-2) ⟨by omega, by omega⟩) (congrArg vz er5.symm)) ze_0), (2, .call (Fn.cast (SDiv r4 r5 or4 or5 (by omega) (by omega) (by rw [vr5]; decide)) (show _ = (.tup [.agg (zi r6q), .agg (zi r6r), .c (.d (.raw (.int .i64 0)))] : V) by rw [er6q, er6r]; first | done | rfl)) ze_1)] [(0, vb false), (1, vp 0 0), (2, vp 1 0), (3, vi .i64 0), (4, vp 2 0), (5, vp 3 0)] [(0, .box (zi r3q)), (1, .box (zi r3r)), (2, .box (zi r6q)), (3, .box (zi r6r))] (by kernel_rfl) h ?_; clear h; intro a w h
  obtain ⟨r7, er7, vr7, or7, lr7⟩ := mkZ (v := 1) (m := 2) (ZI.len_of (by have := pw2; omega))
  obtain ⟨r8, er8, vr8, or8, lr8⟩ := mkZ (v := 0) (m := 2) (ZI.len_of (by have := pw2; omega))
  have l00 : (ZI.of 0).abs.length = 0 := rfl
  refine rSeq ze_ok 4 [(0, .call (Fn.cast (SOf 1 ⟨by omega, by omega⟩) (congrArg vz er7.symm)) ze_0), (1, .call (Fn.cast (SOf 0 ⟨by omega, by omega⟩) (congrArg vz er8.symm)) ze_0), (2, .call (SDiv0 r7 r8 or7 or8 (by omega) (by omega) vr8) ze_1)] [(0, vb false), (1, vp 0 0), (2, vp 1 0), (3, vi .i64 0), (4, vp 2 0), (5, vp 3 0), (9, vi .i64 10)] [(0, .box (zi r3q)), (1, .box (zi r3r)), (2, .box (zi r6q)), (3, .box (zi r6r))] (by kernel_rfl) h ?_; clear h; intro a w h
  obtain ⟨r10, er10, vr10, or10, lr10⟩ := mkZ (v := (-7)) (m := 2) (ZI.len_of (by have := pw2; omega))
  obtain ⟨r11, er11, vr11, or11, lr11⟩ := mkZ (v := 2) (m := 2) (ZI.len_of (by have := pw2; omega))
  obtain ⟨r12, er12, vr12, or12, lr12⟩ := mkZ (v := -((-r10.val).fdiv r11.val)) (m := r10.abs.length) (len_ceil or10 (by rw [vr11]; decide))
  refine rSeq ze_ok 6 [(0, .call (Fn.cast (SOf (-7) ⟨by omega, by omega⟩) (congrArg vz er10.symm)) ze_0), (1, .call (Fn.cast (SOf 2 ⟨by omega, by omega⟩) (congrArg vz er11.symm)) ze_0), (2, .call (Fn.cast (SCeil r10 r11 or10 or11 (by omega) (by omega) (by rw [vr11]; decide)) (show _ = (.tup [.agg (zi r12), .c (.d (.raw (.int .i64 0)))] : V) by rw [er12]; first | done | rfl)) ze_2)] [(0, vb false), (1, vp 0 0), (2, vp 1 0), (3, vi .i64 0), (4, vp 2 0), (5, vp 3 0), (9, vi .i64 10), (10, vp 6 0), (11, vi .i64 0)] [(0, .box (zi r3q)), (1, .box (zi r3r)), (2, .box (zi r6q)), (3, .box (zi r6r)), (6, .box (zi r12))] (by kernel_rfl) h ?_; clear h; intro a w h
  obtain ⟨r13, er13, vr13, or13, lr13⟩ := mkZ (v := (-8)) (m := 2) (ZI.len_of (by have := pw2; omega))
  obtain ⟨r14, er14, vr14, or14, lr14⟩ := mkZ (v := 2) (m := 2) (ZI.len_of (by have := pw2; omega))
  obtain ⟨r15, er15, vr15, or15, lr15⟩ := mkZ (v := r13.val.fdiv r14.val) (m := r13.abs.length) (len_fdiv or13 (by rw [vr14]; decide))
  refine rSeq ze_ok 7 [(0, .call (Fn.cast (SOf (-8) ⟨by omega, by omega⟩) (congrArg vz er13.symm)) ze_0), (1, .call (Fn.cast (SOf 2 ⟨by omega, by omega⟩) (congrArg vz er14.symm)) ze_0), (2, .call (Fn.cast (SExact r13 r14 or13 or14 (by omega) (by omega) (by rw [vr14]; decide) (by rw [vr13, vr14]; first | done | rfl)) (show _ = (.tup [.agg (zi r15), .c (.d (.raw (.int .i64 0)))] : V) by rw [er15]; first | done | rfl)) ze_3)] [(0, vb false), (1, vp 0 0), (2, vp 1 0), (3, vi .i64 0), (4, vp 2 0), (5, vp 3 0), (9, vi .i64 10), (10, vp 6 0), (11, vi .i64 0), (12, vp 7 0), (13, vi .i64 0)] [(0, .box (zi r3q)), (1, .box (zi r3r)), (2, .box (zi r6q)), (3, .box (zi r6r)), (6, .box (zi r12)), (7, .box (zi r15))] (by kernel_rfl) h ?_; clear h; intro a w h
  obtain ⟨r16, er16, vr16, or16, lr16⟩ := mkZ (v := (-7)) (m := 2) (ZI.len_of (by have := pw2; omega))
  obtain ⟨r17, er17, vr17, or17, lr17⟩ := mkZ (v := 2) (m := 2) (ZI.len_of (by have := pw2; omega))
  have l00 : (ZI.of 0).abs.length = 0 := rfl
  refine rSeq ze_ok 8 [(0, .call (Fn.cast (SOf (-7) ⟨by omega, by omega⟩) (congrArg vz er16.symm)) ze_0), (1, .call (Fn.cast (SOf 2 ⟨by omega, by omega⟩) (congrArg vz er17.symm)) ze_0), (2, .call (SExactN r16 r17 or16 or17 (by omega) (by omega) (by rw [vr17]; decide) (by rw [vr16, vr17]; decide)) ze_3)] [(0, vb false), (1, vp 0 0), (2, vp 1 0), (3, vi .i64 0), (4, vp 2 0), (5, vp 3 0), (9, vi .i64 10), (10, vp 6 0), (11, vi .i64 0), (12, vp 7 0), (13, vi .i64 0), (15, vi .i64 1)] [(0, .box (zi r3q)), (1, .box (zi r3r)), (2, .box (zi r6q)), (3, .box (zi r6r)), (6, .box (zi r12)), (7, .box (zi r15))] (by kernel_rfl) h ?_; clear h; intro a w h
  obtain ⟨r19, er19, vr19, or19, lr19⟩ := mkZ (v := 5) (m := 2) (ZI.len_of (by have := pw2; omega))
  obtain ⟨r20, er20, vr20, or20, lr20⟩ := mkZ (v := 8) (m := 2) (ZI.len_of (by have := pw2; omega))
  obtain ⟨r21, er21, vr21, or21, lr21⟩ := mkZ (v := hatZ r19.val r20.val) (m := r20.abs.length) (len_hat or20 (by rw [vr20]; decide))
  refine rSeq ze_ok 9 [(0, .call (Fn.cast (SOf 5 ⟨by omega, by omega⟩) (congrArg vz er19.symm)) ze_0), (1, .call (Fn.cast (SOf 8 ⟨by omega, by omega⟩) (congrArg vz er20.symm)) ze_0), (2, .call (Fn.cast (SHat r19 r20 or19 or20 (by omega) (by omega) (by rw [vr20]; decide)) (show _ = (.tup [.agg (zi r21), .c (.d (.raw (.int .i64 0)))] : V) by rw [er21]; first | done | rfl)) ze_4)] [(0, vb false), (1, vp 0 0), (2, vp 1 0), (3, vi .i64 0), (4, vp 2 0), (5, vp 3 0), (9, vi .i64 10), (10, vp 6 0), (11, vi .i64 0), (12, vp 7 0), (13, vi .i64 0), (15, vi .i64 1), (16, vp 9 0), (17, vi .i64 0)] [(0, .box (zi r3q)), (1, .box (zi r3r)), (2, .box (zi r6q)), (3, .box (zi r6r)), (6, .box (zi r12)), (7, .box (zi r15)), (9, .box (zi r21))] (by kernel_rfl) h ?_; clear h; intro a w h
  refine rSeq ze_ok 10 [(1, .call (Sis2 r3q (-4) (by rw [er3q]; simp only [vr1, vr2]; rfl) (by omega) ⟨by omega, by omega⟩) ze_5), (4, .call (Sis2 r3r 1 (by rw [er3r]; simp only [vr1, vr2]; rfl) (by omega) ⟨by omega, by omega⟩) ze_5), (8, .cmp (op := .eql) (m := 0) (n := 0) (b := true) .i64 rfl), (12, .call (Sis2 r6q 3 (by rw [er6q]; simp only [vr4, vr5]; rfl) (by omega) ⟨by omega, by omega⟩) ze_5), (16, .call (Sis2 r6r (-1) (by rw [er6r]; simp only [vr4, vr5]; rfl) (by omega) ⟨by omega, by omega⟩) ze_5), (20, .cmp (op := .eql) (m := 10) (n := 10) (b := true) .i64 rfl), (24, .call (Sis2 r12 (-3) (by rw [er12]; simp only [vr10, vr11]; rfl) (by omega) ⟨by omega, by omega⟩) ze_5), (28, .cmp (op := .eql) (m := 0) (n := 0) (b := true) .i64 rfl), (32, .call (Sis2 r15 (-4) (by rw [er15]; simp only [vr13, vr14]; rfl) (by omega) ⟨by omega, by omega⟩) ze_5), (36, .cmp (op := .eql) (m := 0) (n := 0) (b := true) .i64 rfl), (40, .cmp (op := .eql) (m := 1) (n := 1) (b := true) .i64 rfl), (44, .call (Sis2 r21 (-3) (by rw [er21]; simp only [vr19, vr20]; rfl) (by omega) ⟨by omega, by omega⟩) ze_5), (48, .cmp (op := .eql) (m := 0) (n := 0) (b := true) .i64 rfl)] [(0, vb true)] [] (by kernel_rfl) h ?_; clear h; intro a w h
  refine wp_ret ?_
  refine retS [.c (.d (.raw (.bool true)))] h Exit.ret (.inl rfl)  rfl ⟨RV.tmp _ _ rfl, trivial⟩ ?_ (by kernel_rfl) (by kernel_rfl)
  rfl
theorem bez_const : bez 12 1 0 18 0 1 = (6, -1, 1) := by rw [bez_step (by decide), bez_step (by decide), bez_step (by decide), bez_end (by decide)]; first | done | rfl
set_option maxRecDepth 100000 in
theorem Ssharing  : Fn Try.prog 54 [] [] (vb true) [] := by
  refine Fn.body Try.func54 rfl 33 rfl fun w H B a h => ?_
  refine rSeq ze_ok 0 [] [(0, vb false)] [] (by kernel_rfl) h ?_; clear h; intro a w h
  obtain ⟨r1, er1, vr1, or1, lr1⟩ := mkZ (v := 12) (m := 2) (ZI.len_of (by have := pw2; omega))
  obtain ⟨r2, er2, vr2, or2, lr2⟩ := mkZ (v := 18) (m := 2) (ZI.len_of (by have := pw2; omega))
  obtain ⟨r3g, er3g, vr3g, or3g, lr3g⟩ := mkZ (v := (Nat.gcd r1.val.natAbs r2.val.natAbs : Int)) (m := r1.abs.length + r2.abs.length) (len_gcd or1 or2)
  obtain ⟨r3x, er3x, vr3x, or3x, lr3x⟩ := mkZ (v := bezX r1 r2) (m := r1.abs.length + r2.abs.length + 2) (len_bezX or1 or2)
  obtain ⟨r3y, er3y, vr3y, or3y, lr3y⟩ := mkZ (v := bezY r1 r2) (m := r1.abs.length + r2.abs.length + 2) (len_bezY or1 or2)
  refine rSeq ze_ok 0 [(0, .call (Fn.cast (SOf 12 ⟨by omega, by omega⟩) (congrArg vz er1.symm)) ze_0), (1, .call (Fn.cast (SOf 18 ⟨by omega, by omega⟩) (congrArg vz er2.symm)) ze_0), (2, .call (Fn.cast (SBezout r1 r2 or1 or2 (by omega) (by omega)) (show _ = (.tup [.agg (zi r3g), .agg (zi r3x), .agg (zi r3y)] : V) by rw [er3g, er3x, er3y]; first | done | rfl)) ze_6)] [(0, vb false), (1, vp 0 0), (2, vp 1 0), (3, vp 2 0)] [(0, .box (zi r3g)), (1, .box (zi r3x)), (2, .box (zi r3y))] (by kernel_rfl) h ?_; clear h; intro a w h
  obtain ⟨r7, er7, vr7, or7, lr7⟩ := mkZ (v := (-12)) (m := 2) (ZI.len_of (by have := pw2; omega))
  obtain ⟨r8, er8, vr8, or8, lr8⟩ := mkZ (v := 18) (m := 2) (ZI.len_of (by have := pw2; omega))
  obtain ⟨r9, er9, vr9, or9, lr9⟩ := mkZ (v := (Nat.gcd r7.val.natAbs r8.val.natAbs : Int)) (m := r7.abs.length + r8.abs.length) (len_gcd or7 or8)
  obtain ⟨r11, er11, vr11, or11, lr11⟩ := mkZ (v := 4) (m := 2) (ZI.len_of (by have := pw2; omega))
  obtain ⟨r12, er12, vr12, or12, lr12⟩ := mkZ (v := (-6)) (m := 2) (ZI.len_of (by have := pw2; omega))
  obtain ⟨r13, er13, vr13, or13, lr13⟩ := mkZ (v := (Nat.lcm r11.val.natAbs r12.val.natAbs : Int)) (m := r11.abs.length + r12.abs.length) (len_lcm or11 or12)
  refine rSeq ze_ok 3 [(1, .call (Sis2 r3g 6 (by rw [er3g]; simp only [vr1, vr2]; rfl) (by omega) ⟨by omega, by omega⟩) ze_5), (4, .call (Sis2 r3x (-1) (by rw [er3x]; unfold bezX bezV; simp only [vr1, vr2]; show ZI.of (if (12 : Int) < 0 then -(bez 12 1 0 18 0 1).2.1 else (bez 12 1 0 18 0 1).2.1) = _; rw [bez_const]; rfl) (by omega) ⟨by omega, by omega⟩) ze_5), (8, .call (Sis2 r3y 1 (by rw [er3y]; unfold bezY bezV; simp only [vr1, vr2]; show ZI.of (if (18 : Int) < 0 then -(bez 12 1 0 18 0 1).2.2 else (bez 12 1 0 18 0 1).2.2) = _; rw [bez_const]; rfl) (by omega) ⟨by omega, by omega⟩) ze_5), (11, .call (Fn.cast (SOf (-12) ⟨by omega, by omega⟩) (congrArg vz er7.symm)) ze_0), (12, .call (Fn.cast (SOf 18 ⟨by omega, by omega⟩) (congrArg vz er8.symm)) ze_0), (13, .call (Fn.cast (SGcd r7 r8 or7 or8 (by omega) (by omega)) (congrArg vz er9.symm)) ze_7), (14, .call (Sis2 r9 6 (by rw [er9]; simp only [vr7, vr8]; rfl) (by omega) ⟨by omega, by omega⟩) ze_5), (17, .call (Fn.cast (SOf 4 ⟨by omega, by omega⟩) (congrArg vz er11.symm)) ze_0), (18, .call (Fn.cast (SOf (-6) ⟨by omega, by omega⟩) (congrArg vz er12.symm)) ze_0), (19, .call (Fn.cast (SLcm r11 r12 or11 or12 (by omega) (by omega)) (congrArg vz er13.symm)) ze_8), (20, .call (Sis2 r13 12 (by rw [er13]; simp only [vr11, vr12]; rfl) (by omega) ⟨by omega, by omega⟩) ze_5)] [(0, vb true)] [] (by kernel_rfl) h ?_; clear h; intro a w h
  refine wp_ret ?_
  refine retS [.c (.d (.raw (.bool true)))] h Exit.ret (.inl rfl)  rfl ⟨RV.tmp _ _ rfl, trivial⟩ ?_ (by kernel_rfl) (by kernel_rfl)
  rfl
end Go.Proofs.Ytehbfobfkpejoaa.S
