/-
  The walk of the statement ZintShares.
-/
import Derived.Test.YtehbfobfkpejoaaZe
namespace Go.Proofs.Ytehbfobfkpejoaa.S
open Go.RowKit

theorem zintShares_0 : Bodied Try.prog 54 := Bodied.mk' (by kernel_rfl)
theorem zintShares_1 : Bodied Try.prog 20 := Bodied.mk' (by kernel_rfl)
theorem zintShares_2 : Bodied Try.prog 55 := Bodied.mk' (by kernel_rfl)
theorem zintShares_3 : Bodied Try.prog 56 := Bodied.mk' (by kernel_rfl)
theorem zintShares_4 : Bodied Try.prog 16 := Bodied.mk' (by kernel_rfl)
theorem zintShares_5 : Bodied Try.prog 57 := Bodied.mk' (by kernel_rfl)
theorem zintShares_6 : Bodied Try.prog 58 := Bodied.mk' (by kernel_rfl)
theorem zintShares_7 : Bodied Try.prog 59 := Bodied.mk' (by kernel_rfl)
theorem zintShares_8 : Bodied Try.prog 60 := Bodied.mk' (by kernel_rfl)
def zintShares_tb : Tb := [(4, ⟨1, false, [], [.d (.raw (.bool false))], 3⟩), (23, ⟨1, false, [], [.d (nsl [])], 1⟩), (25, ⟨2, true, [(0, 1, false), (1, 1, false)], [.d (.raw (.bool false)), .d (nsl [])], 0⟩)]
theorem zintShares_ok : TbOk Try.prog zintShares_tb := ⟨TyOk.bl Try.underlying4 (by kernel_rfl) ⟨(.bool false : Value), [.bool false], by kernel_rfl, rfl, (fun _ _ => ⟨DR.raw _ rfl, trivial⟩)⟩,
  TyOk.slc Try.underlying23 (by kernel_rfl) ⟨(.slice none 0 0 : Value), [.slice none 0 0], by kernel_rfl, rfl, (fun _ _ => ⟨DR.nil _ _ _ (fun _ => rfl) (Nat.zero_le _), trivial⟩)⟩,
  TyOk.st Try.underlying25 (by kernel_rfl) ⟨⟨by decide, Fd.mk' _ _ Try.underlying25 rfl rfl (Sz.mk' (by kernel_rfl) Try.underlying4 _ rfl)⟩, ⟨by decide, Fd.mk' _ _ Try.underlying25 rfl rfl (Sz.mk' (by kernel_rfl) Try.underlying23 _ rfl)⟩, trivial⟩ ⟨(Value.agg #[.bool false, .slice none 0 0]), [.bool false, .slice none 0 0], by kernel_rfl, rfl, (fun _ _ => ⟨DR.raw _ rfl, DR.nil _ _ _ (fun _ => rfl) (Nat.zero_le _), trivial⟩)⟩ ⟨_, Try.underlying25, ⟨⟨rfl, by kernel_rfl⟩, ⟨rfl, by kernel_rfl⟩, trivial⟩⟩,
  trivial⟩
set_option maxRecDepth 100000 in
theorem SzintSharesA (x y : ZI) (hx : Lb x.abs) (hy : Lb y.abs) (hm : ((x.abs.length : Int) ≤ 8 ∧ (y.abs.length : Int) ≤ 8)) : Fn Try.prog 9 [] [vz x, vz y] (vb true) [] := by
  obtain ⟨lx, ly⟩ := hm
  have hms := decide_eq_true (show ((x.abs.length : Int) ≤ 8 ∧ (y.abs.length : Int) ≤ 8) from ⟨lx, ly⟩)
  refine Fn.body Try.func9 rfl 62 rfl fun w H B a h => ?_
  refine rSeq zintShares_ok 0 [] [(2, vp 0 0), (3, vp 1 0), (4, vb false)] [(0, .box (zi x)), (1, .box (zi y))] (by kernel_rfl) h ?_; clear h; intro a w h
  refine wp_seq ?_
  refine rSeq zintShares_ok 2 [(0, .call (Ssharing) zintShares_0)] [(2, vp 0 0), (3, vp 1 0), (4, vb false), (12, vb false)] [(0, .box (zi x)), (1, .box (zi y))] (by kernel_rfl) h ?_; clear h; intro a w h
  refine condS false h rfl (fun hc => ?_) (fun hc => ?_)
  · cases hc
  · clear hc
    refine wp_skip ?_
    refine then_n ?_
    refine wp_seq ?_
    refine rSeq zintShares_ok 2 [(2, .call (Fn.cast (Sshort x y 8 hx hy) (congrArg vb hms)) zintShares_1)] [(2, vp 0 0), (3, vp 1 0), (4, vb false), (16, vb false)] [(0, .box (zi x)), (1, .box (zi y))] (by kernel_rfl) h ?_; clear h; intro a w h
    refine condS false h rfl (fun hc => ?_) (fun hc => ?_)
    · cases hc
    · clear hc
      refine wp_skip ?_
      refine then_n ?_
      obtain ⟨r3g, er3g, vr3g, or3g, lr3g⟩ := mkZ (v := (Nat.gcd x.val.natAbs y.val.natAbs : Int)) (m := x.abs.length + y.abs.length) (len_gcd hx hy)
      obtain ⟨r3x, er3x, vr3x, or3x, lr3x⟩ := mkZ (v := bezX x y) (m := x.abs.length + y.abs.length + 2) (len_bezX hx hy)
      obtain ⟨r3y, er3y, vr3y, or3y, lr3y⟩ := mkZ (v := bezY x y) (m := x.abs.length + y.abs.length + 2) (len_bezY hx hy)
      refine rSeq zintShares_ok 2 [(2, .call (Fn.cast (SBezout x y hx hy (by omega) (by omega)) (show _ = (.tup [.agg (zi r3g), .agg (zi r3x), .agg (zi r3y)] : V) by rw [er3g, er3x, er3y]; first | done | rfl)) zintShares_2)] [(2, vp 0 0), (3, vp 1 0), (4, vb false), (5, vp 2 0), (6, vp 3 0), (7, vp 4 0)] [(0, .box (zi x)), (1, .box (zi y)), (2, .box (zi r3g)), (3, .box (zi r3x)), (4, .box (zi r3y))] (by kernel_rfl) h ?_; clear h; intro a w h
      obtain ⟨r4g, er4g, vr4g, or4g, lr4g⟩ := mkZ (v := (Nat.gcd x.val.natAbs y.val.natAbs : Int)) (m := x.abs.length + y.abs.length) (len_gcd hx hy)
      obtain ⟨r4x, er4x, vr4x, or4x, lr4x⟩ := mkZ (v := bezX x y) (m := x.abs.length + y.abs.length + 2) (len_bezX hx hy)
      obtain ⟨r4y, er4y, vr4y, or4y, lr4y⟩ := mkZ (v := bezY x y) (m := x.abs.length + y.abs.length + 2) (len_bezY hx hy)
      refine rSeq zintShares_ok 5 [(2, .call (Fn.cast (SRBezout x y hx hy (by omega) (by omega)) (show _ = (.tup [.agg (zi r4g), .agg (zi r4x), .agg (zi r4y)] : V) by rw [er4g, er4x, er4y]; first | done | rfl)) zintShares_3)] [(2, vp 0 0), (3, vp 1 0), (4, vb false), (5, vp 2 0), (6, vp 3 0), (7, vp 4 0), (8, vp 5 0), (9, vp 6 0), (10, vp 7 0)] [(0, .box (zi x)), (1, .box (zi y)), (2, .box (zi r3g)), (3, .box (zi r3x)), (4, .box (zi r3y)), (5, .box (zi r4g)), (6, .box (zi r4x)), (7, .box (zi r4y))] (by kernel_rfl) h ?_; clear h; intro a w h
      obtain ⟨r8, er8, vr8, or8, lr8⟩ := mkZ (v := (Nat.gcd x.val.natAbs y.val.natAbs : Int)) (m := x.abs.length + y.abs.length) (len_gcd hx hy)
      obtain ⟨r9, er9, vr9, or9, lr9⟩ := mkZ (v := (Nat.gcd x.val.natAbs y.val.natAbs : Int)) (m := x.abs.length + y.abs.length) (len_gcd hx hy)
      obtain ⟨r11, er11, vr11, or11, lr11⟩ := mkZ (v := (Nat.lcm x.val.natAbs y.val.natAbs : Int)) (m := x.abs.length + y.abs.length) (len_lcm hx hy)
      obtain ⟨r12, er12, vr12, or12, lr12⟩ := mkZ (v := (Nat.lcm x.val.natAbs y.val.natAbs : Int)) (m := x.abs.length + y.abs.length) (len_lcm hx hy)
      refine rSeq zintShares_ok 8 [(2, .call (Ssame2 r3g r4g (by rw [er3g]; rw [er4g]) (Nat.gcd x.val.natAbs y.val.natAbs : Int) er3g (by omega)) zintShares_4), (6, .call (Ssame2 r3x r4x (by rw [er3x]; rw [er4x]) (bezX x y) er3x (by omega)) zintShares_4), (11, .call (Ssame2 r3y r4y (by rw [er3y]; rw [er4y]) (bezY x y) er3y (by omega)) zintShares_4), (16, .call (Fn.cast (SGcd x y hx hy (by omega) (by omega)) (congrArg vz er8.symm)) zintShares_5), (19, .call (Fn.cast (SRGcd x y hx hy (by omega) (by omega)) (congrArg vz er9.symm)) zintShares_6), (20, .call (Ssame2 r8 r9 (by rw [er8]; rw [er9]) (Nat.gcd x.val.natAbs y.val.natAbs : Int) er8 (by omega)) zintShares_4), (25, .call (Fn.cast (SLcm x y hx hy (by omega) (by omega)) (congrArg vz er11.symm)) zintShares_7), (28, .call (Fn.cast (SRLcm x y hx hy (by omega) (by omega)) (congrArg vz er12.symm)) zintShares_8), (29, .call (Ssame2 r11 r12 (by rw [er11]; rw [er12]) (Nat.lcm x.val.natAbs y.val.natAbs : Int) er11 (by omega)) zintShares_4)] [(4, vb true)] [] (by kernel_rfl) h ?_; clear h; intro a w h
      refine wp_ret ?_
      refine retS [.c (.d (.raw (.bool true)))] h Exit.ret (.inl rfl)  rfl ⟨RV.tmp _ _ rfl, trivial⟩ ?_ (by kernel_rfl) (by kernel_rfl)
      rfl
set_option maxRecDepth 100000 in
theorem SzintSharesFar (x y : ZI) (hx : Lb x.abs) (hy : Lb y.abs) (hm : ¬ ((x.abs.length : Int) ≤ 8 ∧ (y.abs.length : Int) ≤ 8)) : Fn Try.prog 9 [] [vz x, vz y] (vb true) [] := by
  refine Fn.body Try.func9 rfl 62 rfl fun w H B a h => ?_
  refine rSeq zintShares_ok 0 [] [(2, vp 0 0), (3, vp 1 0), (4, vb false)] [(0, .box (zi x)), (1, .box (zi y))] (by kernel_rfl) h ?_; clear h; intro a w h
  refine wp_seq ?_
  refine rSeq zintShares_ok 2 [(0, .call (Ssharing) zintShares_0)] [(2, vp 0 0), (3, vp 1 0), (4, vb false), (12, vb false)] [(0, .box (zi x)), (1, .box (zi y))] (by kernel_rfl) h ?_; clear h; intro a w h
  refine condS false h rfl (fun hc => ?_) (fun hc => ?_)
  · cases hc
  · clear hc
    refine wp_skip ?_
    refine then_n ?_
    refine wp_seq ?_
    refine rSeq zintShares_ok 2 [(2, .call (Fn.cast (Sshort x y 8 hx hy) (congrArg vb (decide_eq_false hm))) zintShares_1)] [(2, vp 0 0), (3, vp 1 0), (4, vb false), (16, vb true)] [(0, .box (zi x)), (1, .box (zi y))] (by kernel_rfl) h ?_; clear h; intro a w h
    refine condS true h rfl (fun hc => ?_) (fun hc => ?_)
    · clear hc
      refine rSeq zintShares_ok 2 [] [(2, vp 0 0), (3, vp 1 0), (4, vb true)] [(0, .box (zi x)), (1, .box (zi y))] (by kernel_rfl) h ?_; clear h; intro a w h
      refine wp_ret ?_
      refine then_r ?_
      refine retS [.c (.d (.raw (.bool true)))] h Exit.ret (.inl rfl)  rfl ⟨RV.tmp _ _ rfl, trivial⟩ ?_ (by kernel_rfl) (by kernel_rfl)
      rfl
    · cases hc
theorem SzintShares (x y : ZI) (hx : Lb x.abs) (hy : Lb y.abs) : Fn Try.prog 9 [] [vz x, vz y] (vb true) [] := by
  by_cases hm : (x.abs.length : Int) ≤ 8 ∧ (y.abs.length : Int) ≤ 8
  · exact SzintSharesA x y hx hy hm
  · exact SzintSharesFar x y hx hy hm
end Go.Proofs.Ytehbfobfkpejoaa.S
namespace Go.Proofs.Ytehbfobfkpejoaa
open Go.RowKit S
theorem zintShares_walk (s : Bool) (ao : Option Addr) (c : Nat) (zs : List Nat) (t : Bool) (bo : Option Addr) (d : Nat) (us : List Nat) (w : World) (h : Rd w ao c zs) (k : Rd w bo d us) :
    Calls Try.prog 9 #[.agg #[.bool s, .slice ao zs.length c], .agg #[.bool t, .slice bo us.length d]] w (GotP (.bool true) w) :=
  (SzintShares ⟨s, zs⟩ ⟨t, us⟩ h.lb k.lb).calls fun B => ⟨rd_vz h B, rd_vz k B, trivial⟩
end Go.Proofs.Ytehbfobfkpejoaa
