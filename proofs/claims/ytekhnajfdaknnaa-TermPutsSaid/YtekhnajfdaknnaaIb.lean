/-
  Numbers with a sign: the reference's sums.
-/
import Derived.Test.YtekhnajfdaknnaaIa
import Derived.Test.YtekhnajfdaknnaaSigH
namespace Go.Proofs.Ytekhnajfdaknnaa.S
open Go.RowKit

theorem ib_0 : Bodied Try.prog 60 := Bodied.mk' (by kernel_rfl)
theorem ib_1 : Bodied Try.prog 48 := Bodied.mk' (by kernel_rfl)
theorem ib_2 : Bodied Try.prog 47 := Bodied.mk' (by kernel_rfl)
theorem ib_3 : Sz Try.prog 26 2 true := Sz.mk' (by kernel_rfl) Try.underlying26 _ rfl
theorem ib_4 : Bodied Try.prog 63 := Bodied.mk' (by kernel_rfl)
theorem ib_5 : Bodied Try.prog 43 := Bodied.mk' (by kernel_rfl)
theorem ib_6 : Bodied Try.prog 65 := Bodied.mk' (by kernel_rfl)
theorem ib_7 : Bodied Try.prog 70 := Bodied.mk' (by kernel_rfl)
theorem ib_8 : Bodied Try.prog 66 := Bodied.mk' (by kernel_rfl)
theorem ib_9 : Bodied Try.prog 55 := Bodied.mk' (by kernel_rfl)
theorem ib_10 : ElZ Try.prog 24 62 1 := ElZ.mk' Try.underlying24 _ _ rfl rfl (by kernel_rfl) (by kernel_rfl) (by kernel_rfl) (by decide)
def ib_tb : Tb := [(4, ⟨1, false, [], [.d (.raw (.bool false))], 3⟩), (24, ⟨1, false, [], [.d (nsl [])], 1⟩), (26, ⟨2, true, [(0, 1, false), (1, 1, false)], [.d (.raw (.bool false)), .d (nsl [])], 0⟩), (2, ⟨1, false, [], [.d (.raw (.int .i64 0))], 13⟩), (76, ⟨1, false, [], [.d (.raw (.int .u64 0))], 17⟩), (62, ⟨1, false, [], [.d (.raw (.int .u32 0))], 16⟩)]
theorem ib_ok : TbOk Try.prog ib_tb := ⟨TyOk.bl Try.underlying4 (by kernel_rfl) ⟨(.bool false : Value), [.bool false], by kernel_rfl, rfl, (fun _ _ => ⟨DR.raw _ rfl, trivial⟩)⟩,
  TyOk.slc Try.underlying24 (by kernel_rfl) ⟨(.slice none 0 0 : Value), [.slice none 0 0], by kernel_rfl, rfl, (fun _ _ => ⟨DR.nil _ _ _ (fun _ => rfl) (Nat.zero_le _), trivial⟩)⟩,
  TyOk.st Try.underlying26 (by kernel_rfl) ⟨⟨by decide, Fd.mk' _ _ Try.underlying26 rfl rfl (Sz.mk' (by kernel_rfl) Try.underlying4 _ rfl)⟩, ⟨by decide, Fd.mk' _ _ Try.underlying26 rfl rfl (Sz.mk' (by kernel_rfl) Try.underlying24 _ rfl)⟩, trivial⟩ ⟨(Value.agg #[.bool false, .slice none 0 0]), [.bool false, .slice none 0 0], by kernel_rfl, rfl, (fun _ _ => ⟨DR.raw _ rfl, DR.nil _ _ _ (fun _ => rfl) (Nat.zero_le _), trivial⟩)⟩ ⟨_, Try.underlying26, ⟨⟨rfl, by kernel_rfl⟩, ⟨rfl, by kernel_rfl⟩, trivial⟩⟩,
  TyOk.int Try.underlying2 rfl (by kernel_rfl) ⟨(.int .i64 0 : Value), [.int .i64 0], by kernel_rfl, rfl, (fun _ _ => ⟨DR.raw _ rfl, trivial⟩)⟩,
  TyOk.int Try.underlying76 rfl (by kernel_rfl) ⟨(.int .u64 0 : Value), [.int .u64 0], by kernel_rfl, rfl, (fun _ _ => ⟨DR.raw _ rfl, trivial⟩)⟩,
  TyOk.int Try.underlying62 rfl (by kernel_rfl) ⟨(.int .u32 0 : Value), [.int .u32 0], by kernel_rfl, rfl, (fun _ _ => ⟨DR.raw _ rfl, trivial⟩)⟩,
  trivial⟩
theorem iv_true (n : List Nat) : iv true n = -(Go.Proofs.Ytekhnajfdaknnaa.val n : Int) := rfl
theorem iv_false (n : List Nat) : iv false n = (Go.Proofs.Ytekhnajfdaknnaa.val n : Int) := rfl
theorem val_neg {x : ZI} (h : x.val < 0) : x.val = -(Go.Proofs.Ytekhnajfdaknnaa.val x.abs : Int) := by
  unfold ZI.val at h ⊢
  cases hn : x.neg with
  | true => rfl
  | false => rw [hn, iv_false] at h; omega
theorem val_pos {x : ZI} (h : 0 ≤ x.val) : x.val = (Go.Proofs.Ytekhnajfdaknnaa.val x.abs : Int) := by
  unfold ZI.val at h ⊢
  cases hn : x.neg with
  | false => rfl
  | true => rw [hn, iv_true] at h; rw [iv_true]; omega
theorem neg_of {x : ZI} (h : sgn x.val < 0) : x.val < 0 := sgn_lt_zero.1 h
theorem pos_of {x : ZI} (h : ¬ sgn x.val < 0) : 0 ≤ x.val := by
  have := mt sgn_lt_zero.2 h; omega
theorem pos_of' {x : ZI} (h : sgn x.val ≥ 0) : 0 ≤ x.val := pos_of (by omega)
theorem neg_of' {x : ZI} (h : ¬ sgn x.val ≥ 0) : x.val < 0 := neg_of (by omega)
theorem sgn_lt_t {z : Int} (h : z < 0) : decide (sgn z < 0) = true := by rw [sgn_neg h]; rfl
theorem sgn_lt_f {z : Int} (h : 0 ≤ z) : decide (sgn z < 0) = false := decide_eq_false (mt sgn_lt_zero.1 (by omega))
theorem sgn_ge_t {z : Int} (h : 0 ≤ z) : decide (sgn z ≥ 0) = true := decide_eq_true (by have := mt (sgn_lt_zero (z := z)).1 (by omega); omega)
theorem sgn_ge_f {z : Int} (h : z < 0) : decide (sgn z ≥ 0) = false := by rw [sgn_neg h]; rfl
set_option maxRecDepth 100000 in
theorem SRAdd_pp (x y : ZI) (hx : Lb x.abs) (hy : Lb y.abs) (lx : x.abs.length ≤ 49000) (ly : y.abs.length ≤ 49000) (px : 0 ≤ x.val) (py : 0 ≤ y.val) : Fn Try.prog 43 [] [vz x, vz y] (vz (ZI.of (x.val + y.val))) [] := by
  refine Fn.body Try.func43 rfl 62 rfl fun w H B a h => ?_
  refine rSeq ib_ok 0 [] [(2, vp 0 0), (3, vp 1 0), (4, vp 2 0)] [(0, .box (zi x)), (1, .box (zi y)), (2, .box [.d (.raw (.bool false)), .d (nsl [])])] (by kernel_rfl) h ?_; clear h; intro a w h
  refine wp_seq ?_
  refine rSeq ib_ok 3 [(1, .call (SRSign x hx (by omega)) ib_0), (2, .cmp (op := .lss) (m := (sgn x.val)) (n := 0) (b := false) .i64 (sgn_lt_f px))] [(2, vp 0 0), (3, vp 1 0), (4, vp 2 0), (14, vb false)] [(0, .box (zi x)), (1, .box (zi y)), (2, .box [.d (.raw (.bool false)), .d (nsl [])])] (by kernel_rfl) h ?_; clear h; intro a w h
  refine condS false h rfl (fun hc => ?_) (fun hc => ?_)
  · cases hc
  · clear hc
    refine wp_skip ?_
    refine then_n ?_
    refine wp_seq ?_
    refine rSeq ib_ok 3 [(1, .call (SRSign x hx (by omega)) ib_0), (2, .cmp (op := .geq) (m := (sgn x.val)) (n := 0) (b := true) .i64 (sgn_ge_t px)), (5, .call (SRSign y hy (by omega)) ib_0), (6, .cmp (op := .geq) (m := (sgn y.val)) (n := 0) (b := true) .i64 (sgn_ge_t py))] [(2, vp 0 0), (3, vp 1 0), (4, vp 2 0), (28, vb true)] [(0, .box (zi x)), (1, .box (zi y)), (2, .box [.d (.raw (.bool false)), .d (nsl [])])] (by kernel_rfl) h ?_; clear h; intro a w h
    refine condS true h rfl (fun hc => ?_) (fun hc => ?_)
    · clear hc
      obtain ⟨n4, en4, vn4, on4, ln4⟩ := mkN (v := Go.Proofs.Ytekhnajfdaknnaa.val x.abs + Go.Proofs.Ytekhnajfdaknnaa.val y.abs) (m := x.abs.length + y.abs.length + 1) (nadd_lt hx hy)
      obtain ⟨r5, er5, vr5, or5, lr5⟩ := mkZ (v := iv false n4) (m := n4.length) (len_iv on4)
      refine rSeq ib_ok 3 [(4, .call (Fn.cast (SRnAdd x.abs y.abs hx hy (by omega) (by omega)) (congrArg vn en4.symm)) ib_1), (5, .call (Fn.cast (SRFrom false n4 on4 (by omega)) (congrArg vz er5.symm)) ib_2)] [(2, vp 0 0), (3, vp 1 0), (4, vp 2 0)] [(0, .box (zi x)), (1, .box (zi y)), (2, .box (zi r5))] (by kernel_rfl) h ?_; clear h; intro a w h
      refine wp_ret ?_
      refine then_r ?_
      refine retS [.agg (zi r5)] h Exit.ret (.inl rfl)  rfl ⟨RV.agg _ 2 0 _ _ _ _ ib_3 rfl rfl rfl rfl, trivial⟩ ?_ (by kernel_rfl) (by kernel_rfl)
      refine congrArg (fun z => vz z) (er5.trans (congrArg ZI.of ?_))
      have ax := val_pos (x := x) px
      have ay := val_pos (x := y) py
      (try simp only [iv_true])
      (try simp only [iv_false])
      omega
    · cases hc
set_option maxRecDepth 100000 in
theorem SRAdd_nn (x y : ZI) (hx : Lb x.abs) (hy : Lb y.abs) (lx : x.abs.length ≤ 49000) (ly : y.abs.length ≤ 49000) (px : x.val < 0) (py : y.val < 0) : Fn Try.prog 43 [] [vz x, vz y] (vz (ZI.of (x.val + y.val))) [] := by
  refine Fn.body Try.func43 rfl 62 rfl fun w H B a h => ?_
  refine rSeq ib_ok 0 [] [(2, vp 0 0), (3, vp 1 0), (4, vp 2 0)] [(0, .box (zi x)), (1, .box (zi y)), (2, .box [.d (.raw (.bool false)), .d (nsl [])])] (by kernel_rfl) h ?_; clear h; intro a w h
  refine wp_seq ?_
  refine rSeq ib_ok 3 [(1, .call (SRSign x hx (by omega)) ib_0), (2, .cmp (op := .lss) (m := (sgn x.val)) (n := 0) (b := true) .i64 (sgn_lt_t px)), (5, .call (SRSign y hy (by omega)) ib_0), (6, .cmp (op := .lss) (m := (sgn y.val)) (n := 0) (b := true) .i64 (sgn_lt_t py))] [(2, vp 0 0), (3, vp 1 0), (4, vp 2 0), (14, vb true)] [(0, .box (zi x)), (1, .box (zi y)), (2, .box [.d (.raw (.bool false)), .d (nsl [])])] (by kernel_rfl) h ?_; clear h; intro a w h
  refine condS true h rfl (fun hc => ?_) (fun hc => ?_)
  · clear hc
    obtain ⟨n3, en3, vn3, on3, ln3⟩ := mkN (v := Go.Proofs.Ytekhnajfdaknnaa.val x.abs + Go.Proofs.Ytekhnajfdaknnaa.val y.abs) (m := x.abs.length + y.abs.length + 1) (nadd_lt hx hy)
    obtain ⟨r4, er4, vr4, or4, lr4⟩ := mkZ (v := iv true n3) (m := n3.length) (len_iv on3)
    refine rSeq ib_ok 3 [(4, .call (Fn.cast (SRnAdd x.abs y.abs hx hy (by omega) (by omega)) (congrArg vn en3.symm)) ib_1), (5, .call (Fn.cast (SRFrom true n3 on3 (by omega)) (congrArg vz er4.symm)) ib_2)] [(2, vp 0 0), (3, vp 1 0), (4, vp 2 0)] [(0, .box (zi x)), (1, .box (zi y)), (2, .box (zi r4))] (by kernel_rfl) h ?_; clear h; intro a w h
    refine wp_ret ?_
    refine then_r ?_
    refine retS [.agg (zi r4)] h Exit.ret (.inl rfl)  rfl ⟨RV.agg _ 2 0 _ _ _ _ ib_3 rfl rfl rfl rfl, trivial⟩ ?_ (by kernel_rfl) (by kernel_rfl)
    refine congrArg (fun z => vz z) (er4.trans (congrArg ZI.of ?_))
    have ax := val_neg (x := x) px
    have ay := val_neg (x := y) py
    (try simp only [iv_true])
    (try simp only [iv_false])
    omega
  · cases hc
set_option maxRecDepth 100000 in
theorem SRAdd_pn (x y : ZI) (hx : Lb x.abs) (hy : Lb y.abs) (lx : x.abs.length ≤ 49000) (ly : y.abs.length ≤ 49000) (px : 0 ≤ x.val) (py : y.val < 0) : Fn Try.prog 43 [] [vz x, vz y] (vz (ZI.of (x.val + y.val))) [] := by
  refine Fn.body Try.func43 rfl 62 rfl fun w H B a h => ?_
  refine rSeq ib_ok 0 [] [(2, vp 0 0), (3, vp 1 0), (4, vp 2 0)] [(0, .box (zi x)), (1, .box (zi y)), (2, .box [.d (.raw (.bool false)), .d (nsl [])])] (by kernel_rfl) h ?_; clear h; intro a w h
  refine wp_seq ?_
  refine rSeq ib_ok 3 [(1, .call (SRSign x hx (by omega)) ib_0), (2, .cmp (op := .lss) (m := (sgn x.val)) (n := 0) (b := false) .i64 (sgn_lt_f px))] [(2, vp 0 0), (3, vp 1 0), (4, vp 2 0), (14, vb false)] [(0, .box (zi x)), (1, .box (zi y)), (2, .box [.d (.raw (.bool false)), .d (nsl [])])] (by kernel_rfl) h ?_; clear h; intro a w h
  refine condS false h rfl (fun hc => ?_) (fun hc => ?_)
  · cases hc
  · clear hc
    refine wp_skip ?_
    refine then_n ?_
    refine wp_seq ?_
    refine rSeq ib_ok 3 [(1, .call (SRSign x hx (by omega)) ib_0), (2, .cmp (op := .geq) (m := (sgn x.val)) (n := 0) (b := true) .i64 (sgn_ge_t px)), (5, .call (SRSign y hy (by omega)) ib_0), (6, .cmp (op := .geq) (m := (sgn y.val)) (n := 0) (b := false) .i64 (sgn_ge_f py))] [(2, vp 0 0), (3, vp 1 0), (4, vp 2 0), (28, vb false)] [(0, .box (zi x)), (1, .box (zi y)), (2, .box [.d (.raw (.bool false)), .d (nsl [])])] (by kernel_rfl) h ?_; clear h; intro a w h
    refine condS false h rfl (fun hc => ?_) (fun hc => ?_)
    · cases hc
    · clear hc
      refine wp_skip ?_
      refine then_n ?_
      refine wp_seq ?_
      refine rSeq ib_ok 3 [(1, .call (SRSign x hx (by omega)) ib_0), (2, .cmp (op := .lss) (m := (sgn x.val)) (n := 0) (b := false) .i64 (sgn_lt_f px))] [(2, vp 0 0), (3, vp 1 0), (4, vp 2 0), (37, vb false)] [(0, .box (zi x)), (1, .box (zi y)), (2, .box [.d (.raw (.bool false)), .d (nsl [])])] (by kernel_rfl) h ?_; clear h; intro a w h
      refine condS false h rfl (fun hc => ?_) (fun hc => ?_)
      · cases hc
      · clear hc
        refine wp_skip ?_
        refine then_n ?_
        obtain ⟨n5, en5, vn5, on5, ln5⟩ := mkN (v := Go.Proofs.Ytekhnajfdaknnaa.val x.abs - Go.Proofs.Ytekhnajfdaknnaa.val y.abs) (m := x.abs.length) (Nat.lt_of_le_of_lt (Nat.sub_le _ _) (val_lt hx))
        refine rSeq ib_ok 3 [(4, .call (Fn.cast (SRnSub x.abs y.abs hx hy (by omega) (by omega)) (show _ = (.tup [.c (.d (nsl n5)), .c (.d (.raw (.bool (decide (Go.Proofs.Ytekhnajfdaknnaa.val y.abs ≤ Go.Proofs.Ytekhnajfdaknnaa.val x.abs)))))] : V) by rw [en5])) ib_4)] [(2, vp 0 0), (3, vp 1 0), (4, vp 2 0), (5, vn n5), (6, vb (decide (Go.Proofs.Ytekhnajfdaknnaa.val y.abs ≤ Go.Proofs.Ytekhnajfdaknnaa.val x.abs)))] [(0, .box (zi x)), (1, .box (zi y)), (2, .box [.d (.raw (.bool false)), .d (nsl [])])] (by kernel_rfl) h ?_; clear h; intro a w h
        refine wp_seq ?_
        refine rSeq ib_ok 3 [] [(2, vp 0 0), (3, vp 1 0), (4, vp 2 0), (5, vn n5), (49, vb (decide (Go.Proofs.Ytekhnajfdaknnaa.val y.abs ≤ Go.Proofs.Ytekhnajfdaknnaa.val x.abs)))] [(0, .box (zi x)), (1, .box (zi y)), (2, .box [.d (.raw (.bool false)), .d (nsl [])])] (by kernel_rfl) h ?_; clear h; intro a w h
        refine condS (decide (Go.Proofs.Ytekhnajfdaknnaa.val y.abs ≤ Go.Proofs.Ytekhnajfdaknnaa.val x.abs)) h rfl (fun hc => ?_) (fun hc => ?_)
        · have hc1 := hc; clear hc
          have hc1' := of_decide_eq_true hc1
          obtain ⟨r6, er6, vr6, or6, lr6⟩ := mkZ (v := iv false n5) (m := n5.length) (len_iv on5)
          refine rSeq ib_ok 3 [(1, .call (Fn.cast (SRFrom false n5 on5 (by omega)) (congrArg vz er6.symm)) ib_2)] [(2, vp 0 0), (3, vp 1 0), (4, vp 2 0), (5, vn n5)] [(0, .box (zi x)), (1, .box (zi y)), (2, .box (zi r6))] (by kernel_rfl) h ?_; clear h; intro a w h
          refine wp_ret ?_
          refine then_r ?_
          refine retS [.agg (zi r6)] h Exit.ret (.inl rfl)  rfl ⟨RV.agg _ 2 0 _ _ _ _ ib_3 rfl rfl rfl rfl, trivial⟩ ?_ (by kernel_rfl) (by kernel_rfl)
          refine congrArg (fun z => vz z) (er6.trans (congrArg ZI.of ?_))
          have ax := val_pos (x := x) px
          have ay := val_neg (x := y) py
          (try simp only [iv_true])
          (try simp only [iv_false])
          omega
        · have hc2 := hc; clear hc
          have hc2' := of_decide_eq_false hc2
          refine wp_skip ?_
          refine then_n ?_
          obtain ⟨n7, en7, vn7, on7, ln7⟩ := mkN (v := Go.Proofs.Ytekhnajfdaknnaa.val y.abs - Go.Proofs.Ytekhnajfdaknnaa.val x.abs) (m := y.abs.length) (Nat.lt_of_le_of_lt (Nat.sub_le _ _) (val_lt hy))
          refine rSeq ib_ok 3 [(4, .call (Fn.cast (SRnSub y.abs x.abs hy hx (by omega) (by omega)) (show _ = (.tup [.c (.d (nsl n7)), .c (.d (.raw (.bool (decide (Go.Proofs.Ytekhnajfdaknnaa.val x.abs ≤ Go.Proofs.Ytekhnajfdaknnaa.val y.abs)))))] : V) by rw [en7])) ib_4)] [(4, vp 2 0), (5, vn n7)] [(2, .box [.d (.raw (.bool false)), .d (nsl [])])] (by kernel_rfl) h ?_; clear h; intro a w h
          obtain ⟨r8, er8, vr8, or8, lr8⟩ := mkZ (v := iv true n7) (m := n7.length) (len_iv on7)
          refine rSeq ib_ok 3 [(1, .call (Fn.cast (SRFrom true n7 on7 (by omega)) (congrArg vz er8.symm)) ib_2)] [(4, vp 2 0)] [(2, .box (zi r8))] (by kernel_rfl) h ?_; clear h; intro a w h
          refine wp_ret ?_
          refine retS [.agg (zi r8)] h Exit.ret (.inl rfl)  rfl ⟨RV.agg _ 2 0 _ _ _ _ ib_3 rfl rfl rfl rfl, trivial⟩ ?_ (by kernel_rfl) (by kernel_rfl)
          refine congrArg (fun z => vz z) (er8.trans (congrArg ZI.of ?_))
          have ax := val_pos (x := x) px
          have ay := val_neg (x := y) py
          (try simp only [iv_true])
          (try simp only [iv_false])
          omega
set_option maxRecDepth 100000 in
theorem SRAdd_np (x y : ZI) (hx : Lb x.abs) (hy : Lb y.abs) (lx : x.abs.length ≤ 49000) (ly : y.abs.length ≤ 49000) (px : x.val < 0) (py : 0 ≤ y.val) : Fn Try.prog 43 [] [vz x, vz y] (vz (ZI.of (x.val + y.val))) [] := by
  refine Fn.body Try.func43 rfl 62 rfl fun w H B a h => ?_
  refine rSeq ib_ok 0 [] [(2, vp 0 0), (3, vp 1 0), (4, vp 2 0)] [(0, .box (zi x)), (1, .box (zi y)), (2, .box [.d (.raw (.bool false)), .d (nsl [])])] (by kernel_rfl) h ?_; clear h; intro a w h
  refine wp_seq ?_
  refine rSeq ib_ok 3 [(1, .call (SRSign x hx (by omega)) ib_0), (2, .cmp (op := .lss) (m := (sgn x.val)) (n := 0) (b := true) .i64 (sgn_lt_t px)), (5, .call (SRSign y hy (by omega)) ib_0), (6, .cmp (op := .lss) (m := (sgn y.val)) (n := 0) (b := false) .i64 (sgn_lt_f py))] [(2, vp 0 0), (3, vp 1 0), (4, vp 2 0), (14, vb false)] [(0, .box (zi x)), (1, .box (zi y)), (2, .box [.d (.raw (.bool false)), .d (nsl [])])] (by kernel_rfl) h ?_; clear h; intro a w h
  refine condS false h rfl (fun hc => ?_) (fun hc => ?_)
  · cases hc
  · clear hc
    refine wp_skip ?_
    refine then_n ?_
    refine wp_seq ?_
    refine rSeq ib_ok 3 [(1, .call (SRSign x hx (by omega)) ib_0), (2, .cmp (op := .geq) (m := (sgn x.val)) (n := 0) (b := false) .i64 (sgn_ge_f px))] [(2, vp 0 0), (3, vp 1 0), (4, vp 2 0), (28, vb false)] [(0, .box (zi x)), (1, .box (zi y)), (2, .box [.d (.raw (.bool false)), .d (nsl [])])] (by kernel_rfl) h ?_; clear h; intro a w h
    refine condS false h rfl (fun hc => ?_) (fun hc => ?_)
    · cases hc
    · clear hc
      refine wp_skip ?_
      refine then_n ?_
      refine wp_seq ?_
      refine rSeq ib_ok 3 [(1, .call (SRSign x hx (by omega)) ib_0), (2, .cmp (op := .lss) (m := (sgn x.val)) (n := 0) (b := true) .i64 (sgn_lt_t px))] [(2, vp 0 0), (3, vp 1 0), (4, vp 2 0), (37, vb true)] [(0, .box (zi x)), (1, .box (zi y)), (2, .box [.d (.raw (.bool false)), .d (nsl [])])] (by kernel_rfl) h ?_; clear h; intro a w h
      refine condS true h rfl (fun hc => ?_) (fun hc => ?_)
      · clear hc
        obtain ⟨r5, er5, vr5, or5, lr5⟩ := mkZ (v := y.val + x.val) (m := y.abs.length + x.abs.length + 1) (len_add hy hx)
        refine rSeq ib_ok 3 [(2, .call (Fn.cast (SRAdd_pn y x hy hx ly lx py px) (congrArg vz er5.symm)) ib_5)] [(2, vp 0 0), (3, vp 1 0), (4, vp 2 0)] [(0, .box (zi x)), (1, .box (zi y)), (2, .box (zi r5))] (by kernel_rfl) h ?_; clear h; intro a w h
        refine wp_ret ?_
        refine then_r ?_
        refine retS [.agg (zi r5)] h Exit.ret (.inl rfl)  rfl ⟨RV.agg _ 2 0 _ _ _ _ ib_3 rfl rfl rfl rfl, trivial⟩ ?_ (by kernel_rfl) (by kernel_rfl)
        refine congrArg (fun z => vz z) (er5.trans (congrArg ZI.of ?_))
        omega
      · cases hc
theorem SRAdd (x y : ZI) (hx : Lb x.abs) (hy : Lb y.abs) (lx : x.abs.length ≤ 49000) (ly : y.abs.length ≤ 49000) : Fn Try.prog 43 [] [vz x, vz y] (vz (ZI.of (x.val + y.val))) [] := by
  by_cases px : x.val < 0 <;> by_cases py : y.val < 0
  · exact SRAdd_nn x y hx hy lx ly px py
  · exact SRAdd_np x y hx hy lx ly px (by omega)
  · exact SRAdd_pn x y hx hy lx ly (by omega) py
  · exact SRAdd_pp x y hx hy lx ly (by omega) (by omega)
theorem sgn_mul_range {x y : Int} (hx : -1 ≤ x ∧ x ≤ 1) (hy : -1 ≤ y ∧ y ≤ 1) : -1 ≤ x * y ∧ x * y ≤ 1 := by
  have h1 : x = -1 ∨ x = 0 ∨ x = 1 := by omega
  rcases h1 with rfl | rfl | rfl <;> omega
theorem sgn_cases (x : ZI) : (sgn x.val = -1 ∧ x.val = -(Go.Proofs.Ytekhnajfdaknnaa.val x.abs : Int)) ∨ (sgn x.val = 0 ∧ (Go.Proofs.Ytekhnajfdaknnaa.val x.abs : Int) = 0 ∧ x.val = 0) ∨ (sgn x.val = 1 ∧ x.val = (Go.Proofs.Ytekhnajfdaknnaa.val x.abs : Int)) := by
  rcases Int.lt_trichotomy x.val 0 with h | h | h
  · exact .inl ⟨sgn_neg h, val_neg h⟩
  · have := val_pos (x := x) (by omega)
    exact .inr (.inl ⟨sgn_zero h, by omega, h⟩)
  · exact .inr (.inr ⟨sgn_pos h, val_pos (by omega)⟩)
theorem mul_sgn (x y : ZI) {n : List Nat} (h : Go.Proofs.Ytekhnajfdaknnaa.val n = Go.Proofs.Ytekhnajfdaknnaa.val x.abs * Go.Proofs.Ytekhnajfdaknnaa.val y.abs) : iv (decide (sgn x.val * sgn y.val < 0)) n = x.val * y.val := by
  have hp : (Go.Proofs.Ytekhnajfdaknnaa.val n : Int) = (Go.Proofs.Ytekhnajfdaknnaa.val x.abs : Int) * (Go.Proofs.Ytekhnajfdaknnaa.val y.abs : Int) := by rw [h, Int.natCast_mul]
  rcases sgn_cases x with ⟨h1, h2⟩ | ⟨h1, h2, h3⟩ | ⟨h1, h2⟩ <;> rcases sgn_cases y with ⟨k1, k2⟩ | ⟨k1, k2, k3⟩ | ⟨k1, k2⟩ <;> rw [h1, k1]
  · change (Go.Proofs.Ytekhnajfdaknnaa.val n : Int) = _; rw [h2, k2, Int.neg_mul_neg]; exact hp
  · change (Go.Proofs.Ytekhnajfdaknnaa.val n : Int) = _; rw [k3, hp, k2]; omega
  · change -(Go.Proofs.Ytekhnajfdaknnaa.val n : Int) = _; rw [h2, k2, Int.neg_mul, hp]
  · change (Go.Proofs.Ytekhnajfdaknnaa.val n : Int) = _; rw [h3, hp, h2]; omega
  · change (Go.Proofs.Ytekhnajfdaknnaa.val n : Int) = _; rw [h3, hp, h2]; omega
  · change (Go.Proofs.Ytekhnajfdaknnaa.val n : Int) = _; rw [h3, hp, h2]; omega
  · change -(Go.Proofs.Ytekhnajfdaknnaa.val n : Int) = _; rw [h2, k2, Int.mul_neg, hp]
  · change (Go.Proofs.Ytekhnajfdaknnaa.val n : Int) = _; rw [k3, hp, k2]; omega
  · change (Go.Proofs.Ytekhnajfdaknnaa.val n : Int) = _; rw [h2, k2]; exact hp
theorem sgn_mul_range' (x y : Int) : -1 ≤ sgn x * sgn y ∧ sgn x * sgn y ≤ 1 := sgn_mul_range (sgn_range x) (sgn_range y)
set_option maxRecDepth 100000 in
theorem SRMul (x y : ZI) (hx : Lb x.abs) (hy : Lb y.abs) (lx : x.abs.length ≤ 49000) (ly : y.abs.length ≤ 49000) : Fn Try.prog 45 [] [vz x, vz y] (vz (ZI.of (x.val * y.val))) [] := by
  refine Fn.body Try.func45 rfl 17 rfl fun w H B a h => ?_
  refine rSeq ib_ok 0 [] [(2, vp 0 0), (3, vp 1 0), (4, vp 2 0)] [(0, .box (zi x)), (1, .box (zi y)), (2, .box [.d (.raw (.bool false)), .d (nsl [])])] (by kernel_rfl) h ?_; clear h; intro a w h
  obtain ⟨n3, en3, vn3, on3, ln3⟩ := mkN (v := Go.Proofs.Ytekhnajfdaknnaa.val x.abs * Go.Proofs.Ytekhnajfdaknnaa.val y.abs) (m := x.abs.length + y.abs.length) (nmul_lt hx hy)
  obtain ⟨r4, er4, vr4, or4, lr4⟩ := mkZ (v := iv (decide ((sgn x.val * sgn y.val) < 0)) n3) (m := n3.length) (len_iv on3)
  refine rSeq ib_ok 3 [(1, .call (SRSign x hx (by omega)) ib_0), (3, .call (SRSign y hy (by omega)) ib_0), (4, .mul .i64 (m := (sgn x.val)) (n := (sgn y.val)) (i64_id (by have := sgn_mul_range' x.val y.val; omega) (by have := sgn_mul_range' x.val y.val; omega))), (10, .call (Fn.cast (SRnMul x.abs y.abs hx hy (by omega) (by omega)) (congrArg vn en3.symm)) ib_6), (11, .call (Fn.cast (SRFrom (decide ((sgn x.val * sgn y.val) < 0)) n3 on3 (by omega)) (congrArg vz er4.symm)) ib_2)] [(4, vp 2 0)] [(2, .box (zi r4))] (by kernel_rfl) h ?_; clear h; intro a w h
  refine wp_ret ?_
  refine retS [.agg (zi r4)] h Exit.ret (.inl rfl)  rfl ⟨RV.agg _ 2 0 _ _ _ _ ib_3 rfl rfl rfl rfl, trivial⟩ ?_ (by kernel_rfl) (by kernel_rfl)
  refine congrArg (fun z => vz z) (er4.trans (congrArg ZI.of ?_))
  exact mul_sgn x y vn3
set_option maxRecDepth 100000 in
theorem SRSame (x y : ZI) (hx : Lb x.abs) (hy : Lb y.abs) : Fn Try.prog 52 [] [vz x, vz y] (vb (x.neg == y.neg && decide (x.abs = y.abs))) [] := by
  refine Fn.body Try.func52 rfl 17 rfl fun w H B a h => ?_
  refine rSeq ib_ok 0 [] [(2, vp 0 0), (3, vp 1 0), (4, vb false)] [(0, .box (zi x)), (1, .box (zi y))] (by kernel_rfl) h ?_; clear h; intro a w h
  rcases Bool.eq_false_or_eq_true (x.neg == y.neg) with hc | hc
  · have hc1 := hc; clear hc
    have hc1' := hc1; (try simp at hc1')
    refine rSeq ib_ok 2 [(4, .cmpb .eql (m := x.neg) (n := y.neg) (b := true) (.inl ⟨rfl, hc1.symm⟩)), (10, .call (SRnSame x.abs y.abs hx hy) ib_7)] [(4, vb (decide (x.abs = y.abs)))] [] (by kernel_rfl) h ?_; clear h; intro a w h
    refine wp_ret ?_
    refine retS [.c (.d (.raw (.bool (decide (x.abs = y.abs)))))] h Exit.ret (.inl rfl)  rfl ⟨RV.tmp _ _ rfl, trivial⟩ ?_ (by kernel_rfl) (by kernel_rfl)
    rw [hc1]; first | done | rfl
  · have hc2 := hc; clear hc
    have hc2' := hc2; (try simp at hc2')
    refine rSeq ib_ok 2 [(4, .cmpb .eql (m := x.neg) (n := y.neg) (b := false) (.inl ⟨rfl, hc2.symm⟩))] [(4, vb false)] [] (by kernel_rfl) h ?_; clear h; intro a w h
    refine wp_ret ?_
    refine retS [.c (.d (.raw (.bool false)))] h Exit.ret (.inl rfl)  rfl ⟨RV.tmp _ _ rfl, trivial⟩ ?_ (by kernel_rfl) (by kernel_rfl)
    rw [hc2]; first | done | rfl
theorem val_one (a : Nat) : Go.Proofs.Ytekhnajfdaknnaa.val [a] = a := by simp [Go.Proofs.Ytekhnajfdaknnaa.val]
theorem val_two (a b : Nat) : Go.Proofs.Ytekhnajfdaknnaa.val [a, b] = a + 4294967296 * b := by simp [Go.Proofs.Ytekhnajfdaknnaa.val]
set_option maxRecDepth 100000 in
theorem SOf (E : Int) (hI : -9223372036854775808 ≤ E ∧ E ≤ 9223372036854775807) : Fn Try.prog 46 [] [vi .i64 E] (vz (ZI.of (E))) [] := by
  refine Fn.body Try.func46 rfl 16 rfl fun w H B a h => ?_
  refine rSeq ib_ok 0 [] [(0, vi .i64 E), (2, vp 0 0)] [(0, .box [.d (.raw (.bool false)), .d (nsl [])])] (by kernel_rfl) h ?_; clear h; intro a w h
  refine wp_seq ?_
  refine rSeq ib_ok 1 [] [(0, vi .i64 E), (2, vp 0 0), (4, vb (decide (E < 0)))] [(0, .box [.d (.raw (.bool false)), .d (nsl [])])] (by kernel_rfl) h ?_; clear h; intro a w h
  refine condS (decide (E < 0)) h rfl (fun hc => ?_) (fun hc => ?_)
  · have hc1 := hc; clear hc
    have hc1' := of_decide_eq_true hc1
    obtain ⟨n1, en1, vn1, on1, ln1⟩ := mkN (v := ((-(E + 1)) + 1).toNat) (m := 2) (by have := pw2; omega)
    obtain ⟨r2, er2, vr2, or2, lr2⟩ := mkZ (v := iv true n1) (m := n1.length) (len_iv on1)
    refine rSeq ib_ok 1 [(1, .add .i64 (m := E) (n := 1) (i64_id (by omega) (by omega))), (2, .neg .i64 (m := (E + 1)) (i64_id (by omega) (by omega))), (3, .conv .i64 .u64 (m := (-(E + 1))) (u64_id (by omega) (by omega))), (4, .add .u64 (m := (-(E + 1))) (n := 1) (u64_id (by omega) (by omega))), (5, .call (Fn.cast (SnOf ((-(E + 1)) + 1) (by omega) (by omega)) (congrArg vn en1.symm)) ib_8), (6, .call (Fn.cast (SFrom true n1 on1 (by omega)) (congrArg vz er2.symm)) ib_9)] [(0, vi .i64 E), (2, vp 0 0)] [(0, .box (zi r2))] (by kernel_rfl) h ?_; clear h; intro a w h
    refine wp_ret ?_
    refine then_r ?_
    refine retS [.agg (zi r2)] h Exit.ret (.inl rfl)  rfl ⟨RV.agg _ 0 0 _ _ _ _ ib_3 rfl rfl rfl rfl, trivial⟩ ?_ (by kernel_rfl) (by kernel_rfl)
    refine congrArg (fun z => vz z) (er2.trans (congrArg ZI.of ?_))
    (try simp only [iv_true])
    (try simp only [iv_false])
    omega
  · have hc2 := hc; clear hc
    have hc2' := of_decide_eq_false hc2
    refine wp_skip ?_
    refine then_n ?_
    obtain ⟨n3, en3, vn3, on3, ln3⟩ := mkN (v := (E).toNat) (m := 2) (by have := pw2; omega)
    obtain ⟨r4, er4, vr4, or4, lr4⟩ := mkZ (v := iv false n3) (m := n3.length) (len_iv on3)
    refine rSeq ib_ok 1 [(1, .conv .i64 .u64 (m := E) (u64_id (by omega) (by omega))), (2, .call (Fn.cast (SnOf E (by omega) (by omega)) (congrArg vn en3.symm)) ib_8), (3, .call (Fn.cast (SFrom false n3 on3 (by omega)) (congrArg vz er4.symm)) ib_9)] [(2, vp 0 0)] [(0, .box (zi r4))] (by kernel_rfl) h ?_; clear h; intro a w h
    refine wp_ret ?_
    refine retS [.agg (zi r4)] h Exit.ret (.inl rfl)  rfl ⟨RV.agg _ 0 0 _ _ _ _ ib_3 rfl rfl rfl rfl, trivial⟩ ?_ (by kernel_rfl) (by kernel_rfl)
    refine congrArg (fun z => vz z) (er4.trans (congrArg ZI.of ?_))
    (try simp only [iv_true])
    (try simp only [iv_false])
    omega
set_option maxRecDepth 100000 in
theorem SROf (E : Int) (hI : -9223372036854775808 ≤ E ∧ E ≤ 9223372036854775807) : Fn Try.prog 17 [] [vi .i64 E] (vz (ZI.of (E))) [] := by
  refine Fn.body Try.func17 rfl 29 rfl fun w H B a h => ?_
  refine rSeq ib_ok 0 [] [(0, vi .i64 E), (2, vp 0 0)] [(0, .box [.d (.raw (.bool false)), .d (nsl [])])] (by kernel_rfl) h ?_; clear h; intro a w h
  refine wp_seq ?_
  refine rSeq ib_ok 1 [] [(0, vi .i64 E), (2, vp 0 0), (6, vb (decide (E ≥ 0)))] [(0, .box [.d (.raw (.bool false)), .d (nsl [])])] (by kernel_rfl) h ?_; clear h; intro a w h
  refine condS (decide (E ≥ 0)) h rfl (fun hc => ?_) (fun hc => ?_)
  · have hc1 := hc; clear hc
    have hc1' := of_decide_eq_true hc1
    obtain ⟨q0, hq0⟩ : ∃ z_ : Nat, E % 4294967296 = (z_ : Int) := ⟨(E % 4294967296).toNat, by omega⟩
    obtain ⟨q1, hq1⟩ : ∃ z_ : Nat, E / 4294967296 = (z_ : Int) := ⟨(E / 4294967296).toNat, by omega⟩
    obtain ⟨r1, er1, vr1, or1, lr1⟩ := mkZ (v := iv false [q0, q1]) (m := [q0, q1].length) (len_iv (show Lb [q0, q1] from by intro z hz; simp at hz; omega))
    refine rSeq ib_ok 1 [(1, .gen _ _ _ fun _ _ _ _ => Op.rem (d := 8) (xt := 2) (yt := 2) (k := .i64) (m := E) (n := 4294967296) (r := (q0 : Int)) (OV.tmp 7 _) (OV.const (.int .i64 4294967296) rfl) (by decide) ((Int.tmod_eq_emod_of_nonneg (by omega)).trans hq0)), (2, .conv .i64 .u32 (m := (q0 : Int)) (u32_id (by omega) (by omega))), (4, .gen _ _ _ fun _ _ _ _ => Op.quo (d := 11) (xt := 2) (yt := 2) (k := .i64) (m := E) (n := 4294967296) (r := (q1 : Int)) (OV.tmp 10 _) (OV.const (.int .i64 4294967296) rfl) (by decide) ((Int.tdiv_eq_ediv_of_nonneg (by omega)).trans hq1) (i64_id (by omega) (by omega))), (5, .conv .i64 .u32 (m := (q1 : Int)) (u32_id (by omega) (by omega))), (6, .gen _ _ _ fun _ _ _ _ => Op.buildD (d := 13) (len := 2) (rows := [[.raw (.int .u32 (q0 : Nat))], [.raw (.int .u32 (q1 : Nat))]]) (rs := [(9, vi .u32 (q0 : Int)), (12, vi .u32 (q1 : Int))]) ib_10 (.cons (i := 0) (OV.tmp 9 _) (.cons (i := 1) (OV.tmp 12 _) (.nil))) (by kernel_rfl) rfl (by simp) (by decide) (by decide)), (7, .call (Fn.cast (SRFrom false [q0, q1] (show Lb [q0, q1] from by intro z hz; simp at hz; omega) (by first | omega | simp)) (congrArg vz er1.symm)) ib_2)] [(0, vi .i64 E), (2, vp 0 0)] [(0, .box (zi r1))] (by kernel_rfl) h ?_; clear h; intro a w h
    refine wp_ret ?_
    refine then_r ?_
    refine retS [.agg (zi r1)] h Exit.ret (.inl rfl)  rfl ⟨RV.agg _ 0 0 _ _ _ _ ib_3 rfl rfl rfl rfl, trivial⟩ ?_ (by kernel_rfl) (by kernel_rfl)
    refine congrArg (fun z => vz z) (er1.trans (congrArg ZI.of ?_))
    (try simp only [iv_true])
    (try simp only [iv_false])
    (try rw [vn1])
    (try simp only [val_two] at *)
    (try simp only [val_one] at *)
    omega
  · have hc2 := hc; clear hc
    have hc2' := of_decide_eq_false hc2
    refine wp_skip ?_
    refine then_n ?_
    refine rSeq ib_ok 1 [(1, .add .i64 (m := E) (n := 1) (i64_id (by omega) (by omega))), (2, .sub .i64 (m := 0) (n := (E + 1)) (i64_id (by omega) (by omega)))] [(2, vp 0 0), (3, vi .i64 (0 - (E + 1)))] [(0, .box [.d (.raw (.bool false)), .d (nsl [])])] (by kernel_rfl) h ?_; clear h; intro a w h
    obtain ⟨q2, hq2⟩ : ∃ z_ : Nat, (0 - (E + 1)) % 4294967296 = (z_ : Int) := ⟨((0 - (E + 1)) % 4294967296).toNat, by omega⟩
    obtain ⟨q3, hq3⟩ : ∃ z_ : Nat, (0 - (E + 1)) / 4294967296 = (z_ : Int) := ⟨((0 - (E + 1)) / 4294967296).toNat, by omega⟩
    refine rSeq ib_ok 1 [(1, .gen _ _ _ fun _ _ _ _ => Op.rem (d := 19) (xt := 2) (yt := 2) (k := .i64) (m := (0 - (E + 1))) (n := 4294967296) (r := (q2 : Int)) (OV.tmp 18 _) (OV.const (.int .i64 4294967296) rfl) (by decide) ((Int.tmod_eq_emod_of_nonneg (by omega)).trans hq2)), (2, .conv .i64 .u32 (m := (q2 : Int)) (u32_id (by omega) (by omega))), (4, .gen _ _ _ fun _ _ _ _ => Op.quo (d := 22) (xt := 2) (yt := 2) (k := .i64) (m := (0 - (E + 1))) (n := 4294967296) (r := (q3 : Int)) (OV.tmp 21 _) (OV.const (.int .i64 4294967296) rfl) (by decide) ((Int.tdiv_eq_ediv_of_nonneg (by omega)).trans hq3) (i64_id (by omega) (by omega))), (5, .conv .i64 .u32 (m := (q3 : Int)) (u32_id (by omega) (by omega))), (6, .gen _ _ _ fun _ _ _ _ => Op.buildD (d := 24) (len := 2) (rows := [[.raw (.int .u32 (q2 : Nat))], [.raw (.int .u32 (q3 : Nat))]]) (rs := [(20, vi .u32 (q2 : Int)), (23, vi .u32 (q3 : Int))]) ib_10 (.cons (i := 0) (OV.tmp 20 _) (.cons (i := 1) (OV.tmp 23 _) (.nil))) (by kernel_rfl) rfl (by simp) (by decide) (by decide))] [(2, vp 0 0), (4, vn [q2, q3])] [(0, .box [.d (.raw (.bool false)), .d (nsl [])])] (by kernel_rfl) h ?_; clear h; intro a w h
    obtain ⟨n2, en2, vn2, on2, ln2⟩ := mkN (v := Go.Proofs.Ytekhnajfdaknnaa.val [q2, q3] + Go.Proofs.Ytekhnajfdaknnaa.val [1]) (m := 4) (nadd_lt (xs := [q2, q3]) (ys := [1]) (show Lb [q2, q3] from by intro z hz; simp at hz; omega) (show Lb [1] from by intro z hz; simp at hz; omega))
    obtain ⟨r3, er3, vr3, or3, lr3⟩ := mkZ (v := iv true n2) (m := n2.length) (len_iv on2)
    refine rSeq ib_ok 1 [(1, .gen _ _ _ fun _ _ _ _ => Op.buildD (d := 26) (len := 1) (rows := [[.raw (.int .u32 (1 : Nat))]]) (rs := []) ib_10 (.cons (i := 0) (OV.const (.int .u32 1) rfl) (.nil)) (by kernel_rfl) rfl (by simp) (by decide) (by decide)), (2, .call (Fn.cast (SRnAdd [q2, q3] [1] (show Lb [q2, q3] from by intro z hz; simp at hz; omega) (show Lb [1] from by intro z hz; simp at hz; omega) (by simp) (by simp)) (congrArg vn en2.symm)) ib_1), (3, .call (Fn.cast (SRFrom true n2 on2 (by first | omega | simp)) (congrArg vz er3.symm)) ib_2)] [(2, vp 0 0)] [(0, .box (zi r3))] (by kernel_rfl) h ?_; clear h; intro a w h
    refine wp_ret ?_
    refine retS [.agg (zi r3)] h Exit.ret (.inl rfl)  rfl ⟨RV.agg _ 0 0 _ _ _ _ ib_3 rfl rfl rfl rfl, trivial⟩ ?_ (by kernel_rfl) (by kernel_rfl)
    refine congrArg (fun z => vz z) (er3.trans (congrArg ZI.of ?_))
    (try simp only [iv_true])
    (try simp only [iv_false])
    (try rw [vn2])
    (try simp only [val_two] at *)
    (try simp only [val_one] at *)
    omega
end Go.Proofs.Ytekhnajfdaknnaa.S
