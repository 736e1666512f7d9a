/-
  Terms held against each other; the little functions of terms.
-/
import Derived.Test.YtekhnajfdaknnaaTc
namespace Go.Proofs.Ytekhnajfdaknnaa.S
open Go.RowKit

theorem td_0 : Bodied Try.prog 52 := Bodied.mk' (by kernel_rfl)
theorem td_1 : SlT Try.prog 22 47 3 := SlT.mk' Try.underlying22 (by kernel_rfl)
theorem td_2 : Bodied Try.prog 55 := Bodied.mk' (by kernel_rfl)
theorem td_3 : Sz Try.prog 26 2 true := Sz.mk' (by kernel_rfl) Try.underlying26 _ rfl
theorem td_4 : Bodied Try.prog 54 := Bodied.mk' (by kernel_rfl)
theorem td_5 : Bodied Try.prog 32 := Bodied.mk' (by kernel_rfl)
theorem td_6 : Bodied Try.prog 37 := Bodied.mk' (by kernel_rfl)
def td_tb : Tb := [(22, ⟨1, false, [], [.d (.raw nilV)], 1⟩), (4, ⟨1, false, [], [.d (.raw (.bool false))], 3⟩), (24, ⟨1, false, [], [.d (nsl [])], 1⟩), (26, ⟨2, true, [(0, 1, false), (1, 1, false)], [.d (.raw (.bool false)), .d (nsl [])], 0⟩), (28, ⟨3, true, [(0, 1, false), (1, 2, true)], [.d (.raw nilV), .d (.raw (.bool false)), .d (nsl [])], 0⟩), (3, ⟨1, false, [], [.d (.raw (.int .i64 0))], 13⟩), (47, ⟨3, true, [(0, 1, false), (1, 2, true)], [.d (.raw (.int .i64 0)), .d (.raw (.bool false)), .d (nsl [])], 0⟩)]
theorem td_ok : TbOk Try.prog td_tb := ⟨TyOk.slc Try.underlying22 (by kernel_rfl) ⟨(.slice none 0 0 : Value), [.slice none 0 0], by kernel_rfl, rfl, (fun _ _ => ⟨DR.raw _ rfl, trivial⟩)⟩,
  TyOk.bl Try.underlying4 (by kernel_rfl) ⟨(.bool false : Value), [.bool false], by kernel_rfl, rfl, (fun _ _ => ⟨DR.raw _ rfl, trivial⟩)⟩,
  TyOk.slc Try.underlying24 (by kernel_rfl) ⟨(.slice none 0 0 : Value), [.slice none 0 0], by kernel_rfl, rfl, (fun _ _ => ⟨DR.nil _ _ _ (fun _ => rfl) (Nat.zero_le _), trivial⟩)⟩,
  TyOk.st Try.underlying26 (by kernel_rfl) ⟨⟨by decide, Fd.mk' _ _ Try.underlying26 rfl rfl (Sz.mk' (by kernel_rfl) Try.underlying4 _ rfl)⟩, ⟨by decide, Fd.mk' _ _ Try.underlying26 rfl rfl (Sz.mk' (by kernel_rfl) Try.underlying24 _ rfl)⟩, trivial⟩ ⟨(Value.agg #[.bool false, .slice none 0 0]), [.bool false, .slice none 0 0], by kernel_rfl, rfl, (fun _ _ => ⟨DR.raw _ rfl, DR.nil _ _ _ (fun _ => rfl) (Nat.zero_le _), trivial⟩)⟩ ⟨_, Try.underlying26, ⟨⟨rfl, by kernel_rfl⟩, ⟨rfl, by kernel_rfl⟩, trivial⟩⟩,
  TyOk.st Try.underlying28 (by kernel_rfl) ⟨⟨by decide, Fd.mk' _ _ Try.underlying28 rfl rfl (Sz.mk' (by kernel_rfl) Try.underlying22 _ rfl)⟩, ⟨by decide, Fd.mk' _ _ Try.underlying28 rfl rfl (Sz.mk' (by kernel_rfl) Try.underlying26 _ rfl)⟩, trivial⟩ ⟨(Value.agg #[.slice none 0 0, .bool false, .slice none 0 0]), [.slice none 0 0, .bool false, .slice none 0 0], by kernel_rfl, rfl, (fun _ _ => ⟨DR.raw _ rfl, DR.raw _ rfl, DR.nil _ _ _ (fun _ => rfl) (Nat.zero_le _), trivial⟩)⟩ ⟨_, Try.underlying28, ⟨⟨rfl, by kernel_rfl⟩, ⟨rfl, by kernel_rfl⟩, trivial⟩⟩,
  TyOk.int Try.underlying3 rfl (by kernel_rfl) ⟨(.int .i64 0 : Value), [.int .i64 0], by kernel_rfl, rfl, (fun _ _ => ⟨DR.raw _ rfl, trivial⟩)⟩,
  TyOk.st Try.underlying47 (by kernel_rfl) ⟨⟨by decide, Fd.mk' _ _ Try.underlying47 rfl rfl (Sz.mk' (by kernel_rfl) Try.underlying3 _ rfl)⟩, ⟨by decide, Fd.mk' _ _ Try.underlying47 rfl rfl (Sz.mk' (by kernel_rfl) Try.underlying26 _ rfl)⟩, trivial⟩ ⟨(Value.agg #[.int .i64 0, .bool false, .slice none 0 0]), [.int .i64 0, .bool false, .slice none 0 0], by kernel_rfl, rfl, (fun _ _ => ⟨DR.raw _ rfl, DR.raw _ rfl, DR.nil _ _ _ (fun _ => rfl) (Nat.zero_le _), trivial⟩)⟩ ⟨_, Try.underlying47, ⟨⟨rfl, by kernel_rfl⟩, ⟨rfl, by kernel_rfl⟩, trivial⟩⟩,
  trivial⟩
theorem ne_self (x : Int) : (x != x) = false := by simp
set_option maxRecDepth 100000 in
theorem SRTSame (t : Term) {n L : Nat} (ht : TOk n L t) (hn : n ≤ 1000) : Fn Try.prog 28 [] [.t (.agg ([.d (.sl 3 (t.parts.map Part.d))] ++ zi t.k)), .t (.agg ([.d (.sl 3 (t.parts.map Part.d))] ++ zi t.k))] (vb true) [] := by
  have ln := ht.len
  refine Fn.body Try.func28 rfl 57 rfl fun w H B a h => ?_
  refine rSeq td_ok 0 [] [(2, vp 0 0), (3, vp 1 0), (4, vb false)] [(0, .box ([.d (.sl 3 (t.parts.map Part.d))] ++ zi t.k)), (1, .box ([.d (.sl 3 (t.parts.map Part.d))] ++ zi t.k))] (by kernel_rfl) h ?_; clear h; intro a w h
  refine wp_seq ?_
  refine rSeq td_ok 2 [(2, .len (c := (.d (.sl 3 (t.parts.map Part.d)))) (n := t.parts.length) (lenC_map _ _ _)), (5, .len (c := (.d (.sl 3 (t.parts.map Part.d)))) (n := t.parts.length) (lenC_map _ _ _)), (6, .cmp (op := .neq) (m := (t.parts.length : Int)) (n := (t.parts.length : Int)) (b := false) .i64 (ne_self _)), (12, .call (Fn.cast (SRSame t.k t.k ht.kb ht.kb) (show vb (t.k.neg == t.k.neg && decide (t.k.abs = t.k.abs)) = vb true from congrArg vb (by simp))) td_0)] [(2, vp 0 0), (3, vp 1 0), (4, vb false), (20, vb false)] [(0, .box ([.d (.sl 3 (t.parts.map Part.d))] ++ zi t.k)), (1, .box ([.d (.sl 3 (t.parts.map Part.d))] ++ zi t.k))] (by kernel_rfl) h ?_; clear h; intro a w h
  refine condS false h rfl (fun hc => ?_) (fun hc => ?_)
  · cases hc
  · clear hc
    refine wp_skip ?_
    refine then_n ?_
    refine wp_seq ?_
    refine rSeq td_ok 2 [] [(2, vp 0 0), (3, vp 1 0), (4, vb false), (5, vi .i64 0)] [(0, .box ([.d (.sl 3 (t.parts.map Part.d))] ++ zi t.k)), (1, .box ([.d (.sl 3 (t.parts.map Part.d))] ++ zi t.k))] (by kernel_rfl) h ?_; clear h; intro a w h
    refine wp_block ?_
    refine loopS (ι := (Nat)) (fun (z_ : (Nat)) => match z_ with | j => j ≤ t.parts.length)
        (fun (z_ : (Nat)) => match z_ with | j => [(2, vp 0 0), (3, vp 1 0), (5, vi .i64 (j : Int))])
        (fun (z_ : (Nat)) => match z_ with | j => [(0, .box ([.d (.sl 3 (t.parts.map Part.d))] ++ zi t.k)), (1, .box ([.d (.sl 3 (t.parts.map Part.d))] ++ zi t.k))])
        (fun (z_ : (Nat)) => match z_ with | j => t.parts.length - j) 0 ?_ h (by kernel_rfl) (by kernel_rfl) ?_
    · exact Nat.zero_le _
    · clear h; rintro j a w hI h
      change St _ (F.of [(2, vp 0 0), (3, vp 1 0), (5, vi .i64 (j : Int))] [(0, .box ([.d (.sl 3 (t.parts.map Part.d))] ++ zi t.k)), (1, .box ([.d (.sl 3 (t.parts.map Part.d))] ++ zi t.k))]) a w at h
      refine wp_seq ?_
      refine rSeq td_ok 2 [(3, .len (c := (.d (.sl 3 (t.parts.map Part.d)))) (n := t.parts.length) (lenC_map _ _ _))] [(2, vp 0 0), (3, vp 1 0), (5, vi .i64 (j : Int)), (25, vb (decide ((j : Int) < (t.parts.length : Int))))] [(0, .box ([.d (.sl 3 (t.parts.map Part.d))] ++ zi t.k)), (1, .box ([.d (.sl 3 (t.parts.map Part.d))] ++ zi t.k))] (by kernel_rfl) h ?_; clear h; intro a w h
      refine condS (decide ((j : Int) < (t.parts.length : Int))) h rfl (fun hc => ?_) (fun hc => ?_)
      · have hc1 := hc; clear hc
        have hc1' := of_decide_eq_true hc1
        refine wp_skip ?_
        refine then_n ?_
        refine wp_seq ?_
        refine wp_block ?_
        obtain ⟨x2, hx2⟩ : ∃ z_ : Part, t.parts[j]? = some z_ := ⟨_, List.getElem?_eq_getElem (by first | omega | (simp at *; omega))⟩
        obtain ⟨ox2, lx2⟩ := ht.get hx2
        refine rSeq td_ok 2 [(3, .gen _ _ _ fun _ _ _ _ => Op.idxD (d := 31) (t := 29) (k := .i64) td_1 (map_at hx2 (f := Part.d)) (OV.tmp 30 _)), (9, .gen _ _ _ fun _ _ _ _ => Op.idxD (d := 37) (t := 35) (k := .i64) td_1 (map_at hx2 (f := Part.d)) (OV.tmp 36 _)), (12, .cmp (op := .neq) (m := x2.v) (n := x2.v) (b := false) .i64 (ne_self _)), (17, .gen _ _ _ fun _ _ _ _ => Op.idxD (d := 45) (t := 43) (k := .i64) td_1 (map_at hx2 (f := Part.d)) (OV.tmp 44 _)), (23, .gen _ _ _ fun _ _ _ _ => Op.idxD (d := 51) (t := 49) (k := .i64) td_1 (map_at hx2 (f := Part.d)) (OV.tmp 50 _)), (26, .call (Fn.cast (SRSame x2.c x2.c ox2 ox2) (show vb (x2.c.neg == x2.c.neg && decide (x2.c.abs = x2.c.abs)) = vb true from congrArg vb (by simp))) td_0)] [(2, vp 0 0), (3, vp 1 0), (5, vi .i64 (j : Int)), (56, vb false)] [(0, .box ([.d (.sl 3 (t.parts.map Part.d))] ++ zi t.k)), (1, .box ([.d (.sl 3 (t.parts.map Part.d))] ++ zi t.k))] (by kernel_rfl) h ?_; clear h; intro a w h
        refine condS false h rfl (fun hc => ?_) (fun hc => ?_)
        · cases hc
        · clear hc
          refine wp_skip ?_
          refine block_n ?_
          refine then_n ?_
          refine rS td_ok 2 [(1, .add .i64 (m := (j : Int)) (n := 1) (i64_id (by omega) (by omega)))] [(2, vp 0 0), (3, vp 1 0), (5, vi .i64 ((j : Int) + 1))] [(0, .box ([.d (.sl 3 (t.parts.map Part.d))] ++ zi t.k)), (1, .box ([.d (.sl 3 (t.parts.map Part.d))] ++ zi t.k))] (by kernel_rfl) h ?_; clear h; intro a w h
          refine then_n ?_
          refine roundS (x := j) (y := j + 1) h ?_ ?_ (by kernel_rfl) (by kernel_rfl)
          · exact (by have := at_lt hx2; omega)
          · simp; omega
      · have hc2 := hc; clear hc
        have hc2' := of_decide_eq_false hc2
        refine wp_exit ?_
        refine then_x ?_
        refine then_x ?_
        refine inBlock_exit ?_
        refine then_n ?_
        refine rSeq td_ok 2 [] [(4, vb true)] [] (by kernel_rfl) h ?_; clear h; intro a w h
        refine wp_ret ?_
        refine retS [.c (.d (.raw (.bool true)))] h Exit.ret (.inl rfl)  rfl ⟨RV.tmp _ _ rfl, trivial⟩ ?_ (by kernel_rfl) (by kernel_rfl)
        rfl
theorem SRTSame2 {s t : Term} (e : s = t) {n L : Nat} (ht : TOk n L t) (hn : n ≤ 1000) : Fn Try.prog 28 [] [vd s.d, vd t.d] (vb true) [] := by subst e; exact SRTSame s ht hn
set_option maxRecDepth 100000 in
theorem Scopied (x : ZI) (hx : Lb x.abs) (lx : x.abs.length ≤ 100000) : Fn Try.prog 33 [] [vz x] (vz (ZI.of x.val)) [] := by
  refine Fn.body Try.func33 rfl 8 rfl fun w H B a h => ?_
  refine rSeq td_ok 0 [] [(1, vp 0 0), (2, vp 1 0)] [(0, .box (zi x)), (1, .box [.d (.raw (.bool false)), .d (nsl [])])] (by kernel_rfl) h ?_; clear h; intro a w h
  obtain ⟨r1, er1, vr1, or1, lr1⟩ := mkZ (v := iv x.neg x.abs) (m := x.abs.length) (len_iv hx)
  refine rSeq td_ok 2 [(4, .call (Fn.cast (SFrom x.neg x.abs hx (by omega)) (congrArg vz er1.symm)) td_2)] [(2, vp 1 0)] [(1, .box (zi r1))] (by kernel_rfl) h ?_; clear h; intro a w h
  refine wp_ret ?_
  refine retS [.agg (zi r1)] h Exit.ret (.inl rfl)  rfl ⟨RV.agg _ 1 0 _ _ _ _ td_3 rfl rfl rfl rfl, trivial⟩ ?_ (by kernel_rfl) (by kernel_rfl)
  rw [er1]; first | done | rfl
set_option maxRecDepth 100000 in
theorem SisNaN (x : Int)  : Fn Try.prog 54 [] [vi .i64 x] (vb false) [] := by
  refine Fn.body Try.func54 rfl 6 rfl fun w H B a h => ?_
  refine rSeq td_ok 0 [] [(0, vi .i64 x), (2, vb false)] [] (by kernel_rfl) h ?_; clear h; intro a w h
  refine rSeq td_ok 0 [(2, .cmp (op := .neq) (m := x) (n := x) (b := false) .i64 (ne_self _))] [(2, vb false)] [] (by kernel_rfl) h ?_; clear h; intro a w h
  refine wp_ret ?_
  refine retS [.c (.d (.raw (.bool false)))] h Exit.ret (.inl rfl)  rfl ⟨RV.tmp _ _ rfl, trivial⟩ ?_ (by kernel_rfl) (by kernel_rfl)
  rfl
set_option maxRecDepth 100000 in
theorem SCompare (x y : Int)  : Fn Try.prog 32 [] [vi .i64 x, vi .i64 y] (vi .i64 (cmpZ x y)) [] := by
  refine Fn.body Try.func32 rfl 20 rfl fun w H B a h => ?_
  refine rSeq td_ok 0 [] [(0, vi .i64 x), (1, vi .i64 y), (4, vi .i64 0)] [] (by kernel_rfl) h ?_; clear h; intro a w h
  refine rSeq td_ok 0 [(1, .call (SisNaN x) td_4)] [(0, vi .i64 x), (1, vi .i64 y), (4, vi .i64 0), (5, vb false)] [] (by kernel_rfl) h ?_; clear h; intro a w h
  refine rSeq td_ok 0 [(1, .call (SisNaN y) td_4)] [(0, vi .i64 x), (1, vi .i64 y), (4, vi .i64 0), (5, vb false), (6, vb false)] [] (by kernel_rfl) h ?_; clear h; intro a w h
  refine wp_seq ?_
  refine rSeq td_ok 0 [] [(0, vi .i64 x), (1, vi .i64 y), (4, vi .i64 0), (6, vb false), (11, vb false)] [] (by kernel_rfl) h ?_; clear h; intro a w h
  refine condS false h rfl (fun hc => ?_) (fun hc => ?_)
  · cases hc
  · clear hc
    refine wp_skip ?_
    refine then_n ?_
    refine wp_seq ?_
    refine rSeq td_ok 0 [] [(0, vi .i64 x), (1, vi .i64 y), (4, vi .i64 0), (13, vb false)] [] (by kernel_rfl) h ?_; clear h; intro a w h
    refine condS false h rfl (fun hc => ?_) (fun hc => ?_)
    · cases hc
    · clear hc
      refine wp_skip ?_
      refine then_n ?_
      refine wp_seq ?_
      refine rSeq td_ok 0 [] [(0, vi .i64 x), (1, vi .i64 y), (4, vi .i64 0), (16, vb (decide (x < y)))] [] (by kernel_rfl) h ?_; clear h; intro a w h
      refine condS (decide (x < y)) h rfl (fun hc => ?_) (fun hc => ?_)
      · have hc1 := hc; clear hc
        have hc1' := of_decide_eq_true hc1
        refine rSeq td_ok 0 [] [(0, vi .i64 x), (1, vi .i64 y), (4, vi .i64 (-1))] [] (by kernel_rfl) h ?_; clear h; intro a w h
        refine wp_ret ?_
        refine then_r ?_
        refine retS [.c (.d (.raw (.int .i64 (-1))))] h Exit.ret (.inl rfl)  rfl ⟨RV.tmp _ _ rfl, trivial⟩ ?_ (by kernel_rfl) (by kernel_rfl)
        have hz : cmpZ x y = (-1) := by unfold cmpZ; simp [*]; try omega
        rw [hz]; first | done | rfl
      · have hc2 := hc; clear hc
        have hc2' := of_decide_eq_false hc2
        refine wp_skip ?_
        refine then_n ?_
        refine wp_seq ?_
        refine rSeq td_ok 0 [] [(4, vi .i64 0), (19, vb (decide (x > y)))] [] (by kernel_rfl) h ?_; clear h; intro a w h
        refine condS (decide (x > y)) h rfl (fun hc => ?_) (fun hc => ?_)
        · have hc3 := hc; clear hc
          have hc3' := of_decide_eq_true hc3
          refine rSeq td_ok 0 [] [(4, vi .i64 1)] [] (by kernel_rfl) h ?_; clear h; intro a w h
          refine wp_ret ?_
          refine then_r ?_
          refine retS [.c (.d (.raw (.int .i64 1)))] h Exit.ret (.inl rfl)  rfl ⟨RV.tmp _ _ rfl, trivial⟩ ?_ (by kernel_rfl) (by kernel_rfl)
          have hz : cmpZ x y = 1 := by unfold cmpZ; simp [*]; try omega
          rw [hz]; first | done | rfl
        · have hc4 := hc; clear hc
          have hc4' := of_decide_eq_false hc4
          refine wp_skip ?_
          refine then_n ?_
          refine rSeq td_ok 0 [] [(4, vi .i64 0)] [] (by kernel_rfl) h ?_; clear h; intro a w h
          refine wp_ret ?_
          refine retS [.c (.d (.raw (.int .i64 0)))] h Exit.ret (.inl rfl)  rfl ⟨RV.tmp _ _ rfl, trivial⟩ ?_ (by kernel_rfl) (by kernel_rfl)
          have hz : cmpZ x y = 0 := by unfold cmpZ; simp [*]; try omega
          rw [hz]; first | done | rfl
set_option maxRecDepth 100000 in
theorem SPlain1 (p q : Part)  : Fn Try.prog 31 [] [.t (.agg ([.d (.raw (.int .i64 p.v))] ++ zi p.c)), .t (.agg ([.d (.raw (.int .i64 q.v))] ++ zi q.c))] (vi .i64 (cmpZ p.v q.v)) [] := by
  refine Fn.body Try.func31 rfl 10 rfl fun w H B a h => ?_
  refine rSeq td_ok 0 [] [(2, vp 0 0), (3, vp 1 0), (4, vi .i64 0)] [(0, .box ([.d (.raw (.int .i64 p.v))] ++ zi p.c)), (1, .box ([.d (.raw (.int .i64 q.v))] ++ zi q.c))] (by kernel_rfl) h ?_; clear h; intro a w h
  refine rSeq td_ok 2 [(4, .call (SCompare p.v q.v) td_5)] [(4, vi .i64 (cmpZ p.v q.v))] [] (by kernel_rfl) h ?_; clear h; intro a w h
  refine wp_ret ?_
  refine retS [.c (.d (.raw (.int .i64 (cmpZ p.v q.v))))] h Exit.ret (.inl rfl)  rfl ⟨RV.tmp _ _ rfl, trivial⟩ ?_ (by kernel_rfl) (by kernel_rfl)
  rfl
set_option maxRecDepth 100000 in
theorem SPlain2 (p : Part) (hp : Lb p.c.abs) (lp : p.c.abs.length ≤ 100000) : Fn Try.prog 36 [] [.t (.agg ([.d (.raw (.int .i64 p.v))] ++ zi p.c))] (vb (sgn p.c.val == 0)) [] := by
  refine Fn.body Try.func36 rfl 7 rfl fun w H B a h => ?_
  refine rSeq td_ok 0 [] [(1, vp 0 0), (2, vb false)] [(0, .box ([.d (.raw (.int .i64 p.v))] ++ zi p.c))] (by kernel_rfl) h ?_; clear h; intro a w h
  refine rSeq td_ok 1 [(2, .call (SSign p.c hp (by omega)) td_6)] [(2, vb (sgn p.c.val == 0))] [] (by kernel_rfl) h ?_; clear h; intro a w h
  refine wp_ret ?_
  refine retS [.c (.d (.raw (.bool (sgn p.c.val == 0))))] h Exit.ret (.inl rfl)  rfl ⟨RV.tmp _ _ rfl, trivial⟩ ?_ (by kernel_rfl) (by kernel_rfl)
  rfl
end Go.Proofs.Ytekhnajfdaknnaa.S
