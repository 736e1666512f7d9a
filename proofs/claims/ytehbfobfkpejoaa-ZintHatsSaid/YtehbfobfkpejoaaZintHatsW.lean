/-
  The walk of the statement ZintHats.
-/
import Derived.Test.YtehbfobfkpejoaaZf
namespace Go.Proofs.Ytehbfobfkpejoaa.S
open Go.RowKit

theorem zintHats_0 : Bodied Try.prog 19 := Bodied.mk' (by kernel_rfl)
theorem zintHats_1 : Bodied Try.prog 45 := Bodied.mk' (by kernel_rfl)
theorem zintHats_2 : Bodied Try.prog 20 := Bodied.mk' (by kernel_rfl)
theorem zintHats_3 : Bodied Try.prog 52 := Bodied.mk' (by kernel_rfl)
theorem zintHats_4 : Bodied Try.prog 30 := Bodied.mk' (by kernel_rfl)
theorem zintHats_5 : Bodied Try.prog 25 := Bodied.mk' (by kernel_rfl)
theorem zintHats_6 : Bodied Try.prog 46 := Bodied.mk' (by kernel_rfl)
theorem zintHats_7 : Bodied Try.prog 23 := Bodied.mk' (by kernel_rfl)
theorem zintHats_8 : Bodied Try.prog 29 := Bodied.mk' (by kernel_rfl)
theorem zintHats_9 : Bodied Try.prog 32 := Bodied.mk' (by kernel_rfl)
def zintHats_tb : Tb := [(4, ⟨1, false, [], [.d (.raw (.bool false))], 3⟩), (23, ⟨1, false, [], [.d (nsl [])], 1⟩), (25, ⟨2, true, [(0, 1, false), (1, 1, false)], [.d (.raw (.bool false)), .d (nsl [])], 0⟩)]
theorem zintHats_ok : TbOk Try.prog zintHats_tb := ⟨TyOk.bl Try.underlying4 (by kernel_rfl) ⟨(.bool false : Value), [.bool false], by kernel_rfl, rfl, (fun _ _ => ⟨DR.raw _ rfl, trivial⟩)⟩,
  TyOk.slc Try.underlying23 (by kernel_rfl) ⟨(.slice none 0 0 : Value), [.slice none 0 0], by kernel_rfl, rfl, (fun _ _ => ⟨DR.nil _ _ _ (fun _ => rfl) (Nat.zero_le _), trivial⟩)⟩,
  TyOk.st Try.underlying25 (by kernel_rfl) ⟨⟨by decide, Fd.mk' _ _ Try.underlying25 rfl rfl (Sz.mk' (by kernel_rfl) Try.underlying4 _ rfl)⟩, ⟨by decide, Fd.mk' _ _ Try.underlying25 rfl rfl (Sz.mk' (by kernel_rfl) Try.underlying23 _ rfl)⟩, trivial⟩ ⟨(Value.agg #[.bool false, .slice none 0 0]), [.bool false, .slice none 0 0], by kernel_rfl, rfl, (fun _ _ => ⟨DR.raw _ rfl, DR.nil _ _ _ (fun _ => rfl) (Nat.zero_le _), trivial⟩)⟩ ⟨_, Try.underlying25, ⟨⟨rfl, by kernel_rfl⟩, ⟨rfl, by kernel_rfl⟩, trivial⟩⟩,
  trivial⟩
theorem sgn_le {z : Int} : sgn z ≤ 0 ↔ z ≤ 0 := by unfold sgn; split <;> (try split) <;> omega
set_option maxRecDepth 100000 in
theorem SzintHats0 (x y : ZI) (hx : Lb x.abs) (hy : Lb y.abs) (hm : ((x.abs.length : Int) ≤ 40 ∧ (y.abs.length : Int) ≤ 40)) (h0 : ¬ 0 < y.val) : Fn Try.prog 11 [] [vz x, vz y] (vb true) [] := by
  obtain ⟨lx, ly⟩ := hm
  have hms := decide_eq_true (show ((x.abs.length : Int) ≤ 40 ∧ (y.abs.length : Int) ≤ 40) from ⟨lx, ly⟩)
  refine Fn.body Try.func11 rfl 73 rfl fun w H B a h => ?_
  refine rSeq zintHats_ok 0 [] [(2, vp 0 0), (3, vp 1 0), (4, vb false)] [(0, .box (zi x)), (1, .box (zi y))] (by kernel_rfl) h ?_; clear h; intro a w h
  refine wp_seq ?_
  refine rSeq zintHats_ok 2 [(0, .call (Scounting) zintHats_0), (3, .call (Sdividing) zintHats_1)] [(2, vp 0 0), (3, vp 1 0), (4, vb false), (16, vb false)] [(0, .box (zi x)), (1, .box (zi y))] (by kernel_rfl) h ?_; clear h; intro a w h
  refine condS false h rfl (fun hc => ?_) (fun hc => ?_)
  · cases hc
  · clear hc
    refine wp_skip ?_
    refine then_n ?_
    refine wp_seq ?_
    refine rSeq zintHats_ok 2 [(2, .call (Fn.cast (Sshort x y 40 hx hy) (congrArg vb hms)) zintHats_2)] [(2, vp 0 0), (3, vp 1 0), (4, vb false), (20, vb false)] [(0, .box (zi x)), (1, .box (zi y))] (by kernel_rfl) h ?_; clear h; intro a w h
    refine condS false h rfl (fun hc => ?_) (fun hc => ?_)
    · cases hc
    · clear hc
      refine wp_skip ?_
      refine then_n ?_
      have l00 : (ZI.of 0).abs.length = 0 := rfl
      refine rSeq zintHats_ok 2 [(2, .call (SHat0 x y hx hy (by omega) (by omega) (by omega)) zintHats_3)] [(2, vp 0 0), (3, vp 1 0), (4, vb false), (5, vp 2 0), (6, vi .i64 1)] [(0, .box (zi x)), (1, .box (zi y)), (2, .box (zi (ZI.of 0)))] (by kernel_rfl) h ?_; clear h; intro a w h
      refine wp_seq ?_
      refine rSeq zintHats_ok 3 [(1, .call (SSign y hy (by omega)) zintHats_4), (2, .cmp (op := .leq) (m := (sgn y.val)) (n := 0) (b := true) .i64 (decide_eq_true (sgn_le.2 (by omega))))] [(2, vp 0 0), (3, vp 1 0), (4, vb false), (5, vp 2 0), (6, vi .i64 1), (29, vb true)] [(0, .box (zi x)), (1, .box (zi y)), (2, .box (zi (ZI.of 0)))] (by kernel_rfl) h ?_; clear h; intro a w h
      refine condS true h rfl (fun hc => ?_) (fun hc => ?_)
      · clear hc
        refine rSeq zintHats_ok 3 [(1, .cmp (op := .eql) (m := 1) (n := 1) (b := true) .i64 rfl), (4, .call (Fn.cast (SSign (ZI.of 0) (ZI.lb_of _) (by omega)) (congrArg (vi .i64) (show sgn (ZI.of 0).val = 0 from rfl))) zintHats_4), (5, .cmp (op := .eql) (m := 0) (n := 0) (b := true) .i64 rfl)] [(2, vp 0 0), (3, vp 1 0), (4, vb true), (5, vp 2 0), (6, vi .i64 1)] [(0, .box (zi x)), (1, .box (zi y)), (2, .box (zi (ZI.of 0)))] (by kernel_rfl) h ?_; clear h; intro a w h
        refine wp_ret ?_
        refine then_r ?_
        refine retS [.c (.d (.raw (.bool true)))] h Exit.ret (.inl rfl)  rfl ⟨RV.tmp _ _ rfl, trivial⟩ ?_ (by kernel_rfl) (by kernel_rfl)
        rfl
      · cases hc
set_option maxRecDepth 100000 in
theorem SzintHatsA (x y : ZI) (hx : Lb x.abs) (hy : Lb y.abs) (hm : ((x.abs.length : Int) ≤ 40 ∧ (y.abs.length : Int) ≤ 40)) (h0 : 0 < y.val) : Fn Try.prog 11 [] [vz x, vz y] (vb true) [] := by
  obtain ⟨lx, ly⟩ := hm
  have hms := decide_eq_true (show ((x.abs.length : Int) ≤ 40 ∧ (y.abs.length : Int) ≤ 40) from ⟨lx, ly⟩)
  refine Fn.body Try.func11 rfl 73 rfl fun w H B a h => ?_
  refine rSeq zintHats_ok 0 [] [(2, vp 0 0), (3, vp 1 0), (4, vb false)] [(0, .box (zi x)), (1, .box (zi y))] (by kernel_rfl) h ?_; clear h; intro a w h
  refine wp_seq ?_
  refine rSeq zintHats_ok 2 [(0, .call (Scounting) zintHats_0), (3, .call (Sdividing) zintHats_1)] [(2, vp 0 0), (3, vp 1 0), (4, vb false), (16, vb false)] [(0, .box (zi x)), (1, .box (zi y))] (by kernel_rfl) h ?_; clear h; intro a w h
  refine condS false h rfl (fun hc => ?_) (fun hc => ?_)
  · cases hc
  · clear hc
    refine wp_skip ?_
    refine then_n ?_
    refine wp_seq ?_
    refine rSeq zintHats_ok 2 [(2, .call (Fn.cast (Sshort x y 40 hx hy) (congrArg vb hms)) zintHats_2)] [(2, vp 0 0), (3, vp 1 0), (4, vb false), (20, vb false)] [(0, .box (zi x)), (1, .box (zi y))] (by kernel_rfl) h ?_; clear h; intro a w h
    refine condS false h rfl (fun hc => ?_) (fun hc => ?_)
    · cases hc
    · clear hc
      refine wp_skip ?_
      refine then_n ?_
      obtain ⟨r4, er4, vr4, or4, lr4⟩ := mkZ (v := hatZ x.val y.val) (m := y.abs.length) (len_hat hy h0)
      refine rSeq zintHats_ok 2 [(2, .call (Fn.cast (SHat x y hx hy (by omega) (by omega) h0) (show _ = (.tup [.agg (zi r4), .c (.d (.raw (.int .i64 0)))] : V) by rw [er4]; first | done | rfl)) zintHats_3)] [(2, vp 0 0), (3, vp 1 0), (4, vb false), (5, vp 2 0), (6, vi .i64 0)] [(0, .box (zi x)), (1, .box (zi y)), (2, .box (zi r4))] (by kernel_rfl) h ?_; clear h; intro a w h
      refine wp_seq ?_
      refine rSeq zintHats_ok 3 [(1, .call (SSign y hy (by omega)) zintHats_4), (2, .cmp (op := .leq) (m := (sgn y.val)) (n := 0) (b := false) .i64 (decide_eq_false (fun e => by have := sgn_le.1 e; omega)))] [(2, vp 0 0), (3, vp 1 0), (4, vb false), (5, vp 2 0), (6, vi .i64 0), (29, vb false)] [(0, .box (zi x)), (1, .box (zi y)), (2, .box (zi r4))] (by kernel_rfl) h ?_; clear h; intro a w h
      refine condS false h rfl (fun hc => ?_) (fun hc => ?_)
      · cases hc
      · clear hc
        refine wp_skip ?_
        refine then_n ?_
        obtain ⟨r6, er6, vr6, or6, lr6⟩ := mkZ (v := x.val - r4.val) (m := x.abs.length + r4.abs.length + 1) (len_sub hx or4)
        obtain ⟨r7q, er7q, vr7q, or7q, lr7q⟩ := mkZ (v := r6.val.fdiv y.val) (m := r6.abs.length) (len_fdiv or6 (by omega))
        obtain ⟨r7r, er7r, vr7r, or7r, lr7r⟩ := mkZ (v := r6.val.fmod y.val) (m := y.abs.length) (len_fmod hy (by omega))
        refine rSeq zintHats_ok 3 [(2, .call (Fn.cast (SSub x r4 hx or4 (by omega) (by omega)) (congrArg vz er6.symm)) zintHats_5), (4, .call (Fn.cast (SDiv r6 y or6 hy (by omega) (by omega) (by omega)) (show _ = (.tup [.agg (zi r7q), .agg (zi r7r), .c (.d (.raw (.int .i64 0)))] : V) by rw [er7q, er7r]; first | done | rfl)) zintHats_6)] [(3, vp 1 0), (4, vb false), (5, vp 2 0), (6, vi .i64 0), (8, vp 4 0), (9, vi .i64 0)] [(1, .box (zi y)), (2, .box (zi r4)), (4, .box (zi r7r))] (by kernel_rfl) h ?_; clear h; intro a w h
        obtain ⟨r8, er8, vr8, or8, lr8⟩ := mkZ (v := r4.val + r4.val) (m := r4.abs.length + r4.abs.length + 1) (len_add or4 or4)
        refine rSeq zintHats_ok 5 [(2, .call (Fn.cast (SAdd r4 r4 or4 or4 (by omega) (by omega)) (congrArg vz er8.symm)) zintHats_7)] [(3, vp 1 0), (4, vb false), (6, vi .i64 0), (8, vp 4 0), (9, vi .i64 0), (10, vp 5 0)] [(1, .box (zi y)), (4, .box (zi r7r)), (5, .box (zi r8))] (by kernel_rfl) h ?_; clear h; intro a w h
        obtain ⟨r11, er11, vr11, or11, lr11⟩ := mkZ (v := -y.val) (m := y.abs.length) (len_neg hy)
        refine rSeq zintHats_ok 6 [(1, .cmp (op := .eql) (m := 0) (n := 0) (b := true) .i64 rfl), (4, .cmp (op := .eql) (m := 0) (n := 0) (b := true) .i64 rfl), (8, .call (Fn.cast (SSign r7r or7r (by omega)) (congrArg (vi .i64) (sgn_zero (by rw [vr7r, vr6, vr4]; exact hat_multiple)))) zintHats_4), (9, .cmp (op := .eql) (m := 0) (n := 0) (b := true) .i64 rfl), (14, .call (Fn.cast (SCmp r8 y or8 hy (by omega) (by omega)) (congrArg (vi .i64) (cmpZ_less (by rw [vr8, vr4]; have := hat_near (X := x.val) h0; omega)))) zintHats_8), (15, .cmp (op := .lss) (m := (-1)) (n := 0) (b := true) .i64 rfl), (20, .call (Fn.cast (SNeg y hy (by omega)) (congrArg vz er11.symm)) zintHats_9), (21, .call (SCmp r8 r11 or8 or11 (by omega) (by omega)) zintHats_8), (22, .cmp (op := .geq) (m := (cmpZ r8.val r11.val)) (n := 0) (b := true) .i64 (decide_eq_true (cmpZ_ge.2 (by rw [vr8, vr11, vr4]; have := hat_near (X := x.val) h0; omega))))] [(4, vb true)] [] (by kernel_rfl) h ?_; clear h; intro a w h
        refine wp_ret ?_
        refine retS [.c (.d (.raw (.bool true)))] h Exit.ret (.inl rfl)  rfl ⟨RV.tmp _ _ rfl, trivial⟩ ?_ (by kernel_rfl) (by kernel_rfl)
        rfl
set_option maxRecDepth 100000 in
theorem SzintHatsFar (x y : ZI) (hx : Lb x.abs) (hy : Lb y.abs) (hm : ¬ ((x.abs.length : Int) ≤ 40 ∧ (y.abs.length : Int) ≤ 40)) : Fn Try.prog 11 [] [vz x, vz y] (vb true) [] := by
  refine Fn.body Try.func11 rfl 73 rfl fun w H B a h => ?_
  refine rSeq zintHats_ok 0 [] [(2, vp 0 0), (3, vp 1 0), (4, vb false)] [(0, .box (zi x)), (1, .box (zi y))] (by kernel_rfl) h ?_; clear h; intro a w h
  refine wp_seq ?_
  refine rSeq zintHats_ok 2 [(0, .call (Scounting) zintHats_0), (3, .call (Sdividing) zintHats_1)] [(2, vp 0 0), (3, vp 1 0), (4, vb false), (16, vb false)] [(0, .box (zi x)), (1, .box (zi y))] (by kernel_rfl) h ?_; clear h; intro a w h
  refine condS false h rfl (fun hc => ?_) (fun hc => ?_)
  · cases hc
  · clear hc
    refine wp_skip ?_
    refine then_n ?_
    refine wp_seq ?_
    refine rSeq zintHats_ok 2 [(2, .call (Fn.cast (Sshort x y 40 hx hy) (congrArg vb (decide_eq_false hm))) zintHats_2)] [(2, vp 0 0), (3, vp 1 0), (4, vb false), (20, vb true)] [(0, .box (zi x)), (1, .box (zi y))] (by kernel_rfl) h ?_; clear h; intro a w h
    refine condS true h rfl (fun hc => ?_) (fun hc => ?_)
    · clear hc
      refine rSeq zintHats_ok 2 [] [(2, vp 0 0), (3, vp 1 0), (4, vb true)] [(0, .box (zi x)), (1, .box (zi y))] (by kernel_rfl) h ?_; clear h; intro a w h
      refine wp_ret ?_
      refine then_r ?_
      refine retS [.c (.d (.raw (.bool true)))] h Exit.ret (.inl rfl)  rfl ⟨RV.tmp _ _ rfl, trivial⟩ ?_ (by kernel_rfl) (by kernel_rfl)
      rfl
    · cases hc
theorem SzintHats (x y : ZI) (hx : Lb x.abs) (hy : Lb y.abs) : Fn Try.prog 11 [] [vz x, vz y] (vb true) [] := by
  by_cases hm : (x.abs.length : Int) ≤ 40 ∧ (y.abs.length : Int) ≤ 40
  · by_cases h0 : 0 < y.val
    · exact SzintHatsA x y hx hy hm h0
    · exact SzintHats0 x y hx hy hm h0
  · exact SzintHatsFar x y hx hy hm
end Go.Proofs.Ytehbfobfkpejoaa.S
namespace Go.Proofs.Ytehbfobfkpejoaa
open Go.RowKit S
theorem zintHats_walk (s : Bool) (ao : Option Addr) (c : Nat) (zs : List Nat) (t : Bool) (bo : Option Addr) (d : Nat) (us : List Nat) (w : World) (h : Rd w ao c zs) (k : Rd w bo d us) :
    Calls Try.prog 11 #[.agg #[.bool s, .slice ao zs.length c], .agg #[.bool t, .slice bo us.length d]] w (GotP (.bool true) w) :=
  (SzintHats ⟨s, zs⟩ ⟨t, us⟩ h.lb k.lb).calls fun B => ⟨rd_vz h B, rd_vz k B, trivial⟩
end Go.Proofs.Ytehbfobfkpejoaa
