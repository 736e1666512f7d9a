/-
  The walk of the statement ZintRings.
-/
import Derived.Test.YtehbfobfkpejoaaZf
namespace Go.Proofs.Ytehbfobfkpejoaa.S
open Go.RowKit

theorem zintRings_0 : Bodied Try.prog 19 := Bodied.mk' (by kernel_rfl)
theorem zintRings_1 : Bodied Try.prog 20 := Bodied.mk' (by kernel_rfl)
theorem zintRings_2 : Bodied Try.prog 23 := Bodied.mk' (by kernel_rfl)
theorem zintRings_3 : Bodied Try.prog 27 := Bodied.mk' (by kernel_rfl)
theorem zintRings_4 : Bodied Try.prog 29 := Bodied.mk' (by kernel_rfl)
theorem zintRings_5 : Bodied Try.prog 25 := Bodied.mk' (by kernel_rfl)
theorem zintRings_6 : Bodied Try.prog 32 := Bodied.mk' (by kernel_rfl)
theorem zintRings_7 : Bodied Try.prog 30 := Bodied.mk' (by kernel_rfl)
def zintRings_tb : Tb := [(4, ⟨1, false, [], [.d (.raw (.bool false))], 3⟩), (23, ⟨1, false, [], [.d (nsl [])], 1⟩), (25, ⟨2, true, [(0, 1, false), (1, 1, false)], [.d (.raw (.bool false)), .d (nsl [])], 0⟩)]
theorem zintRings_ok : TbOk Try.prog zintRings_tb := ⟨TyOk.bl Try.underlying4 (by kernel_rfl) ⟨(.bool false : Value), [.bool false], by kernel_rfl, rfl, (fun _ _ => ⟨DR.raw _ rfl, trivial⟩)⟩,
  TyOk.slc Try.underlying23 (by kernel_rfl) ⟨(.slice none 0 0 : Value), [.slice none 0 0], by kernel_rfl, rfl, (fun _ _ => ⟨DR.nil _ _ _ (fun _ => rfl) (Nat.zero_le _), trivial⟩)⟩,
  TyOk.st Try.underlying25 (by kernel_rfl) ⟨⟨by decide, Fd.mk' _ _ Try.underlying25 rfl rfl (Sz.mk' (by kernel_rfl) Try.underlying4 _ rfl)⟩, ⟨by decide, Fd.mk' _ _ Try.underlying25 rfl rfl (Sz.mk' (by kernel_rfl) Try.underlying23 _ rfl)⟩, trivial⟩ ⟨(Value.agg #[.bool false, .slice none 0 0]), [.bool false, .slice none 0 0], by kernel_rfl, rfl, (fun _ _ => ⟨DR.raw _ rfl, DR.nil _ _ _ (fun _ => rfl) (Nat.zero_le _), trivial⟩)⟩ ⟨_, Try.underlying25, ⟨⟨rfl, by kernel_rfl⟩, ⟨rfl, by kernel_rfl⟩, trivial⟩⟩,
  trivial⟩
set_option maxRecDepth 100000 in
theorem SzintRingsA (x y z : ZI) (hx : Lb x.abs) (hy : Lb y.abs) (hz : Lb z.abs) (hm : ((x.abs.length : Int) ≤ 60 ∧ (y.abs.length : Int) ≤ 60)) (hf : ¬ (z.abs.length : Int) > 60) : Fn Try.prog 6 [] [vz x, vz y, vz z] (vb true) [] := by
  obtain ⟨lx, ly⟩ := hm
  have hms := decide_eq_true (show ((x.abs.length : Int) ≤ 60 ∧ (y.abs.length : Int) ≤ 60) from ⟨lx, ly⟩)
  have hfs := decide_eq_false hf
  refine Fn.body Try.func6 rfl 107 rfl fun w H B a h => ?_
  refine rSeq zintRings_ok 0 [] [(3, vp 0 0), (4, vp 1 0), (5, vp 2 0), (6, vb false)] [(0, .box (zi x)), (1, .box (zi y)), (2, .box (zi z))] (by kernel_rfl) h ?_; clear h; intro a w h
  refine wp_seq ?_
  refine rSeq zintRings_ok 3 [(0, .call (Scounting) zintRings_0)] [(3, vp 0 0), (4, vp 1 0), (5, vp 2 0), (6, vb false), (10, vb false)] [(0, .box (zi x)), (1, .box (zi y)), (2, .box (zi z))] (by kernel_rfl) h ?_; clear h; intro a w h
  refine condS false h rfl (fun hc => ?_) (fun hc => ?_)
  · cases hc
  · clear hc
    refine wp_skip ?_
    refine then_n ?_
    refine wp_seq ?_
    refine rSeq zintRings_ok 3 [(2, .call (Fn.cast (Sshort x y 60 hx hy) (congrArg vb hms)) zintRings_1), (7, .len (nsl_len z.abs)), (8, .cmp (op := .gtr) (m := (z.abs.length : Int)) (n := 60) (b := false) .i64 hfs)] [(3, vp 0 0), (4, vp 1 0), (5, vp 2 0), (6, vb false), (20, vb false)] [(0, .box (zi x)), (1, .box (zi y)), (2, .box (zi z))] (by kernel_rfl) h ?_; clear h; intro a w h
    refine condS false h rfl (fun hc => ?_) (fun hc => ?_)
    · cases hc
    · clear hc
      refine wp_skip ?_
      refine then_n ?_
      obtain ⟨r3, er3, vr3, or3, lr3⟩ := mkZ (v := x.val + y.val) (m := x.abs.length + y.abs.length + 1) (len_add hx hy)
      obtain ⟨r4, er4, vr4, or4, lr4⟩ := mkZ (v := x.val * y.val) (m := x.abs.length + y.abs.length) (len_mul hx hy)
      refine rSeq zintRings_ok 3 [(2, .call (Fn.cast (SAdd x y hx hy (by omega) (by omega)) (congrArg vz er3.symm)) zintRings_2), (5, .call (Fn.cast (SMul x y hx hy (by omega) (by omega)) (congrArg vz er4.symm)) zintRings_3)] [(3, vp 0 0), (4, vp 1 0), (5, vp 2 0), (6, vb false), (7, vp 3 0), (8, vp 4 0)] [(0, .box (zi x)), (1, .box (zi y)), (2, .box (zi z)), (3, .box (zi r3)), (4, .box (zi r4))] (by kernel_rfl) h ?_; clear h; intro a w h
      refine wp_seq ?_
      obtain ⟨r5, er5, vr5, or5, lr5⟩ := mkZ (v := y.val + x.val) (m := y.abs.length + x.abs.length + 1) (len_add hy hx)
      obtain ⟨r7, er7, vr7, or7, lr7⟩ := mkZ (v := y.val * x.val) (m := y.abs.length + x.abs.length) (len_mul hy hx)
      obtain ⟨r9, er9, vr9, or9, lr9⟩ := mkZ (v := r3.val - y.val) (m := r3.abs.length + y.abs.length + 1) (len_sub or3 hy)
      refine rSeq zintRings_ok 5 [(3, .call (Fn.cast (SAdd y x hy hx (by omega) (by omega)) (congrArg vz er5.symm)) zintRings_2), (4, .call (Fn.cast (SCmp r3 r5 or3 or5 (by omega) (by omega)) (congrArg (vi .i64) (cmpZ_self (by simp only [vr3, vr5]; first | omega | exact Int.mul_comm _ _ | exact Int.add_mul _ _ _)))) zintRings_4), (5, .cmp (op := .neq) (m := 0) (n := 0) (b := false) .i64 rfl), (10, .call (Fn.cast (SMul y x hy hx (by omega) (by omega)) (congrArg vz er7.symm)) zintRings_3), (11, .call (Fn.cast (SCmp r4 r7 or4 or7 (by omega) (by omega)) (congrArg (vi .i64) (cmpZ_self (by simp only [vr4, vr7]; first | omega | exact Int.mul_comm _ _ | exact Int.add_mul _ _ _)))) zintRings_4), (12, .cmp (op := .neq) (m := 0) (n := 0) (b := false) .i64 rfl), (17, .call (Fn.cast (SSub r3 y or3 hy (by omega) (by omega)) (congrArg vz er9.symm)) zintRings_5), (19, .call (Fn.cast (SCmp r9 x or9 hx (by omega) (by omega)) (congrArg (vi .i64) (cmpZ_self (by simp only [vr9, vr3]; first | omega | exact Int.mul_comm _ _ | exact Int.add_mul _ _ _)))) zintRings_4), (20, .cmp (op := .neq) (m := 0) (n := 0) (b := false) .i64 rfl)] [(3, vp 0 0), (4, vp 1 0), (5, vp 2 0), (6, vb false), (7, vp 3 0), (8, vp 4 0), (48, vb false)] [(0, .box (zi x)), (1, .box (zi y)), (2, .box (zi z)), (3, .box (zi r3)), (4, .box (zi r4))] (by kernel_rfl) h ?_; clear h; intro a w h
      refine condS false h rfl (fun hc => ?_) (fun hc => ?_)
      · cases hc
      · clear hc
        refine wp_skip ?_
        refine then_n ?_
        refine wp_seq ?_
        obtain ⟨r11, er11, vr11, or11, lr11⟩ := mkZ (v := r3.val * z.val) (m := r3.abs.length + z.abs.length) (len_mul or3 hz)
        obtain ⟨r12, er12, vr12, or12, lr12⟩ := mkZ (v := x.val * z.val) (m := x.abs.length + z.abs.length) (len_mul hx hz)
        obtain ⟨r13, er13, vr13, or13, lr13⟩ := mkZ (v := y.val * z.val) (m := y.abs.length + z.abs.length) (len_mul hy hz)
        obtain ⟨r14, er14, vr14, or14, lr14⟩ := mkZ (v := r12.val + r13.val) (m := r12.abs.length + r13.abs.length + 1) (len_add or12 or13)
        obtain ⟨r16, er16, vr16, or16, lr16⟩ := mkZ (v := r3.val + z.val) (m := r3.abs.length + z.abs.length + 1) (len_add or3 hz)
        obtain ⟨r17, er17, vr17, or17, lr17⟩ := mkZ (v := y.val + z.val) (m := y.abs.length + z.abs.length + 1) (len_add hy hz)
        obtain ⟨r18, er18, vr18, or18, lr18⟩ := mkZ (v := x.val + r17.val) (m := x.abs.length + r17.abs.length + 1) (len_add hx or17)
        refine rSeq zintRings_ok 5 [(2, .call (Fn.cast (SMul r3 z or3 hz (by omega) (by omega)) (congrArg vz er11.symm)) zintRings_3), (5, .call (Fn.cast (SMul x z hx hz (by omega) (by omega)) (congrArg vz er12.symm)) zintRings_3), (8, .call (Fn.cast (SMul y z hy hz (by omega) (by omega)) (congrArg vz er13.symm)) zintRings_3), (9, .call (Fn.cast (SAdd r12 r13 or12 or13 (by omega) (by omega)) (congrArg vz er14.symm)) zintRings_2), (10, .call (Fn.cast (SCmp r11 r14 or11 or14 (by omega) (by omega)) (congrArg (vi .i64) (cmpZ_self (by simp only [vr11, vr14, vr12, vr13, vr3]; first | omega | exact Int.mul_comm _ _ | exact Int.add_mul _ _ _)))) zintRings_4), (11, .cmp (op := .neq) (m := 0) (n := 0) (b := false) .i64 rfl), (15, .call (Fn.cast (SAdd r3 z or3 hz (by omega) (by omega)) (congrArg vz er16.symm)) zintRings_2), (19, .call (Fn.cast (SAdd y z hy hz (by omega) (by omega)) (congrArg vz er17.symm)) zintRings_2), (20, .call (Fn.cast (SAdd x r17 hx or17 (by omega) (by omega)) (congrArg vz er18.symm)) zintRings_2), (21, .call (Fn.cast (SCmp r16 r18 or16 or18 (by omega) (by omega)) (congrArg (vi .i64) (cmpZ_self (by simp only [vr16, vr18, vr17, vr3]; first | omega | exact Int.mul_comm _ _ | exact Int.add_mul _ _ _)))) zintRings_4), (22, .cmp (op := .neq) (m := 0) (n := 0) (b := false) .i64 rfl)] [(3, vp 0 0), (4, vp 1 0), (6, vb false), (8, vp 4 0), (72, vb false)] [(0, .box (zi x)), (1, .box (zi y)), (4, .box (zi r4))] (by kernel_rfl) h ?_; clear h; intro a w h
        refine condS false h rfl (fun hc => ?_) (fun hc => ?_)
        · cases hc
        · clear hc
          refine wp_skip ?_
          refine then_n ?_
          obtain ⟨r20, er20, vr20, or20, lr20⟩ := mkZ (v := -x.val) (m := x.abs.length) (len_neg hx)
          obtain ⟨r21, er21, vr21, or21, lr21⟩ := mkZ (v := x.val + r20.val) (m := x.abs.length + r20.abs.length + 1) (len_add hx or20)
          obtain ⟨r27, er27, vr27, or27, lr27⟩ := mkZ (v := x.val - y.val) (m := x.abs.length + y.abs.length + 1) (len_sub hx hy)
          obtain ⟨r29, er29, vr29, or29, lr29⟩ := mkZ (v := -x.val) (m := x.abs.length) (len_neg hx)
          obtain ⟨r30, er30, vr30, or30, lr30⟩ := mkZ (v := -r29.val) (m := r29.abs.length) (len_neg or29)
          refine rSeq zintRings_ok 5 [(2, .call (Fn.cast (SNeg x hx (by omega)) (congrArg vz er20.symm)) zintRings_6), (3, .call (Fn.cast (SAdd x r20 hx or20 (by omega) (by omega)) (congrArg vz er21.symm)) zintRings_2), (4, .call (SSign r21 or21 (by omega)) zintRings_7), (5, .cmp (op := .eql) (m := (sgn r21.val)) (n := 0) (b := true) .i64 (by simp only [vr21, vr20]; rw [sgn_zero (by omega)]; rfl)), (8, .call (SSign r4 or4 (by omega)) zintRings_7), (10, .call (SSign x hx (by omega)) zintRings_7), (12, .call (SSign y hy (by omega)) zintRings_7), (13, .mul .i64 (m := (sgn x.val)) (n := (sgn y.val)) (i64_id (by have := sgn_mul_range x.val y.val; omega) (by have := sgn_mul_range x.val y.val; omega))), (14, .cmp (op := .eql) (m := (sgn r4.val)) (n := (sgn x.val * sgn y.val)) (b := true) .i64 (by simp only [vr4]; rw [sgn_mul]; exact beq_self_eq_true _)), (19, .call (SCmp x y hx hy (by omega) (by omega)) zintRings_4), (22, .call (Fn.cast (SSub x y hx hy (by omega) (by omega)) (congrArg vz er27.symm)) zintRings_5), (23, .call (SSign r27 or27 (by omega)) zintRings_7), (24, .cmp (op := .eql) (m := (cmpZ x.val y.val)) (n := (sgn r27.val)) (b := true) .i64 (by simp only [vr27]; rw [cmpZ_sub]; exact beq_self_eq_true _)), (28, .call (Fn.cast (SNeg x hx (by omega)) (congrArg vz er29.symm)) zintRings_6), (29, .call (Fn.cast (SNeg r29 or29 (by omega)) (congrArg vz er30.symm)) zintRings_6), (31, .call (Fn.cast (SCmp r30 x or30 hx (by omega) (by omega)) (congrArg (vi .i64) (cmpZ_self (by simp only [vr30, vr29]; first | omega | exact Int.mul_comm _ _ | exact Int.add_mul _ _ _)))) zintRings_4), (32, .cmp (op := .eql) (m := 0) (n := 0) (b := true) .i64 rfl)] [(6, vb true)] [] (by kernel_rfl) h ?_; clear h; intro a w h
          refine wp_ret ?_
          refine retS [.c (.d (.raw (.bool true)))] h Exit.ret (.inl rfl)  rfl ⟨RV.tmp _ _ rfl, trivial⟩ ?_ (by kernel_rfl) (by kernel_rfl)
          rfl
set_option maxRecDepth 100000 in
theorem SzintRingsB (x y z : ZI) (hx : Lb x.abs) (hy : Lb y.abs) (hz : Lb z.abs) (hm : ((x.abs.length : Int) ≤ 60 ∧ (y.abs.length : Int) ≤ 60)) (hf : (z.abs.length : Int) > 60) : Fn Try.prog 6 [] [vz x, vz y, vz z] (vb true) [] := by
  obtain ⟨lx, ly⟩ := hm
  have hms := decide_eq_true (show ((x.abs.length : Int) ≤ 60 ∧ (y.abs.length : Int) ≤ 60) from ⟨lx, ly⟩)
  have hfs := decide_eq_true hf
  refine Fn.body Try.func6 rfl 107 rfl fun w H B a h => ?_
  refine rSeq zintRings_ok 0 [] [(3, vp 0 0), (4, vp 1 0), (5, vp 2 0), (6, vb false)] [(0, .box (zi x)), (1, .box (zi y)), (2, .box (zi z))] (by kernel_rfl) h ?_; clear h; intro a w h
  refine wp_seq ?_
  refine rSeq zintRings_ok 3 [(0, .call (Scounting) zintRings_0)] [(3, vp 0 0), (4, vp 1 0), (5, vp 2 0), (6, vb false), (10, vb false)] [(0, .box (zi x)), (1, .box (zi y)), (2, .box (zi z))] (by kernel_rfl) h ?_; clear h; intro a w h
  refine condS false h rfl (fun hc => ?_) (fun hc => ?_)
  · cases hc
  · clear hc
    refine wp_skip ?_
    refine then_n ?_
    refine wp_seq ?_
    refine rSeq zintRings_ok 3 [(2, .call (Fn.cast (Sshort x y 60 hx hy) (congrArg vb hms)) zintRings_1), (7, .len (nsl_len z.abs)), (8, .cmp (op := .gtr) (m := (z.abs.length : Int)) (n := 60) (b := true) .i64 hfs)] [(3, vp 0 0), (4, vp 1 0), (5, vp 2 0), (6, vb false), (20, vb true)] [(0, .box (zi x)), (1, .box (zi y)), (2, .box (zi z))] (by kernel_rfl) h ?_; clear h; intro a w h
    refine condS true h rfl (fun hc => ?_) (fun hc => ?_)
    · clear hc
      refine rSeq zintRings_ok 3 [] [(3, vp 0 0), (4, vp 1 0), (5, vp 2 0), (6, vb true)] [(0, .box (zi x)), (1, .box (zi y)), (2, .box (zi z))] (by kernel_rfl) h ?_; clear h; intro a w h
      refine wp_ret ?_
      refine then_r ?_
      refine retS [.c (.d (.raw (.bool true)))] h Exit.ret (.inl rfl)  rfl ⟨RV.tmp _ _ rfl, trivial⟩ ?_ (by kernel_rfl) (by kernel_rfl)
      rfl
    · cases hc
set_option maxRecDepth 100000 in
theorem SzintRingsFar (x y z : ZI) (hx : Lb x.abs) (hy : Lb y.abs) (hz : Lb z.abs) (hm : ¬ ((x.abs.length : Int) ≤ 60 ∧ (y.abs.length : Int) ≤ 60)) : Fn Try.prog 6 [] [vz x, vz y, vz z] (vb true) [] := by
  refine Fn.body Try.func6 rfl 107 rfl fun w H B a h => ?_
  refine rSeq zintRings_ok 0 [] [(3, vp 0 0), (4, vp 1 0), (5, vp 2 0), (6, vb false)] [(0, .box (zi x)), (1, .box (zi y)), (2, .box (zi z))] (by kernel_rfl) h ?_; clear h; intro a w h
  refine wp_seq ?_
  refine rSeq zintRings_ok 3 [(0, .call (Scounting) zintRings_0)] [(3, vp 0 0), (4, vp 1 0), (5, vp 2 0), (6, vb false), (10, vb false)] [(0, .box (zi x)), (1, .box (zi y)), (2, .box (zi z))] (by kernel_rfl) h ?_; clear h; intro a w h
  refine condS false h rfl (fun hc => ?_) (fun hc => ?_)
  · cases hc
  · clear hc
    refine wp_skip ?_
    refine then_n ?_
    refine wp_seq ?_
    refine rSeq zintRings_ok 3 [(2, .call (Fn.cast (Sshort x y 60 hx hy) (congrArg vb (decide_eq_false hm))) zintRings_1)] [(3, vp 0 0), (4, vp 1 0), (5, vp 2 0), (6, vb false), (20, vb true)] [(0, .box (zi x)), (1, .box (zi y)), (2, .box (zi z))] (by kernel_rfl) h ?_; clear h; intro a w h
    refine condS true h rfl (fun hc => ?_) (fun hc => ?_)
    · clear hc
      refine rSeq zintRings_ok 3 [] [(3, vp 0 0), (4, vp 1 0), (5, vp 2 0), (6, vb true)] [(0, .box (zi x)), (1, .box (zi y)), (2, .box (zi z))] (by kernel_rfl) h ?_; clear h; intro a w h
      refine wp_ret ?_
      refine then_r ?_
      refine retS [.c (.d (.raw (.bool true)))] h Exit.ret (.inl rfl)  rfl ⟨RV.tmp _ _ rfl, trivial⟩ ?_ (by kernel_rfl) (by kernel_rfl)
      rfl
    · cases hc
theorem SzintRings (x y z : ZI) (hx : Lb x.abs) (hy : Lb y.abs) (hz : Lb z.abs) : Fn Try.prog 6 [] [vz x, vz y, vz z] (vb true) [] := by
  by_cases hm : (x.abs.length : Int) ≤ 60 ∧ (y.abs.length : Int) ≤ 60
  · by_cases hf : (z.abs.length : Int) > 60
    · exact SzintRingsB x y z hx hy hz hm hf
    · exact SzintRingsA x y z hx hy hz hm hf
  · exact SzintRingsFar x y z hx hy hz hm
end Go.Proofs.Ytehbfobfkpejoaa.S
namespace Go.Proofs.Ytehbfobfkpejoaa
open Go.RowKit S
theorem zintRings_walk (s : Bool) (ao : Option Addr) (c : Nat) (zs : List Nat) (t : Bool) (bo : Option Addr) (d : Nat) (us : List Nat) (r : Bool) (co : Option Addr) (e : Nat) (vs : List Nat) (w : World) (h : Rd w ao c zs) (k : Rd w bo d us) (l : Rd w co e vs) :
    Calls Try.prog 6 #[.agg #[.bool s, .slice ao zs.length c], .agg #[.bool t, .slice bo us.length d], .agg #[.bool r, .slice co vs.length e]] w (GotP (.bool true) w) :=
  (SzintRings ⟨s, zs⟩ ⟨t, us⟩ ⟨r, vs⟩ h.lb k.lb l.lb).calls fun B => ⟨rd_vz h B, rd_vz k B, rd_vz l B, trivial⟩
end Go.Proofs.Ytehbfobfkpejoaa
