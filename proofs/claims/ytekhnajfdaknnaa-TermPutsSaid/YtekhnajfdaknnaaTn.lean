/-
  What the statements of terms are made of.
-/
import Derived.Test.YtekhnajfdaknnaaTm
namespace Go.Proofs.Ytekhnajfdaknnaa.S
open Go.RowKit

theorem tn_0 : Bodied Try.prog 17 := Bodied.mk' (by kernel_rfl)
theorem tn_1 : SlT Try.prog 65 2 1 := SlT.mk' Try.underlying65 (by kernel_rfl)
theorem tn_2 : ElZ Try.prog 22 47 3 := ElZ.mk' Try.underlying22 _ _ rfl rfl (by kernel_rfl) (by kernel_rfl) (by kernel_rfl) (by decide)
theorem tn_3 : ElT Try.prog 22 47 3 40 := ElT.mk' Try.underlying22 _ _ rfl rfl (by kernel_rfl) (by kernel_rfl) (by kernel_rfl) (by decide) (by decide)
theorem tn_4 : Sz Try.prog 28 3 true := Sz.mk' (by kernel_rfl) Try.underlying28 _ rfl
theorem tn_5 : Bodied Try.prog 28 := Bodied.mk' (by kernel_rfl)
theorem tn_6 : Bodied Try.prog 9 := Bodied.mk' (by kernel_rfl)
theorem tn_7 : SlT Try.prog 39 28 3 := SlT.mk' Try.underlying39 (by kernel_rfl)
theorem tn_8 : SlT Try.prog 22 47 3 := SlT.mk' Try.underlying22 (by kernel_rfl)
def tn_tb : Tb := [(22, ⟨1, false, [], [.d (.raw nilV)], 1⟩), (4, ⟨1, false, [], [.d (.raw (.bool false))], 3⟩), (24, ⟨1, false, [], [.d (nsl [])], 1⟩), (26, ⟨2, true, [(0, 1, false), (1, 1, false)], [.d (.raw (.bool false)), .d (nsl [])], 0⟩), (28, ⟨3, true, [(0, 1, false), (1, 2, true)], [.d (.raw nilV), .d (.raw (.bool false)), .d (nsl [])], 0⟩), (65, ⟨1, false, [], [.d (.raw nilV)], 1⟩), (2, ⟨1, false, [], [.d (.raw (.int .i64 0))], 13⟩), (3, ⟨1, false, [], [.d (.raw (.int .i64 0))], 13⟩), (47, ⟨3, true, [(0, 1, false), (1, 2, true)], [.d (.raw (.int .i64 0)), .d (.raw (.bool false)), .d (nsl [])], 0⟩), (39, ⟨1, false, [], [.d (.raw nilV)], 1⟩)]
theorem tn_ok : TbOk Try.prog tn_tb := ⟨TyOk.slc Try.underlying22 (by kernel_rfl) ⟨(.slice none 0 0 : Value), [.slice none 0 0], by kernel_rfl, rfl, (fun _ _ => ⟨DR.raw _ rfl, trivial⟩)⟩,
  TyOk.bl Try.underlying4 (by kernel_rfl) ⟨(.bool false : Value), [.bool false], by kernel_rfl, rfl, (fun _ _ => ⟨DR.raw _ rfl, trivial⟩)⟩,
  TyOk.slc Try.underlying24 (by kernel_rfl) ⟨(.slice none 0 0 : Value), [.slice none 0 0], by kernel_rfl, rfl, (fun _ _ => ⟨DR.nil _ _ _ (fun _ => rfl) (Nat.zero_le _), trivial⟩)⟩,
  TyOk.st Try.underlying26 (by kernel_rfl) ⟨⟨by decide, Fd.mk' _ _ Try.underlying26 rfl rfl (Sz.mk' (by kernel_rfl) Try.underlying4 _ rfl)⟩, ⟨by decide, Fd.mk' _ _ Try.underlying26 rfl rfl (Sz.mk' (by kernel_rfl) Try.underlying24 _ rfl)⟩, trivial⟩ ⟨(Value.agg #[.bool false, .slice none 0 0]), [.bool false, .slice none 0 0], by kernel_rfl, rfl, (fun _ _ => ⟨DR.raw _ rfl, DR.nil _ _ _ (fun _ => rfl) (Nat.zero_le _), trivial⟩)⟩ ⟨_, Try.underlying26, ⟨⟨rfl, by kernel_rfl⟩, ⟨rfl, by kernel_rfl⟩, trivial⟩⟩,
  TyOk.st Try.underlying28 (by kernel_rfl) ⟨⟨by decide, Fd.mk' _ _ Try.underlying28 rfl rfl (Sz.mk' (by kernel_rfl) Try.underlying22 _ rfl)⟩, ⟨by decide, Fd.mk' _ _ Try.underlying28 rfl rfl (Sz.mk' (by kernel_rfl) Try.underlying26 _ rfl)⟩, trivial⟩ ⟨(Value.agg #[.slice none 0 0, .bool false, .slice none 0 0]), [.slice none 0 0, .bool false, .slice none 0 0], by kernel_rfl, rfl, (fun _ _ => ⟨DR.raw _ rfl, DR.raw _ rfl, DR.nil _ _ _ (fun _ => rfl) (Nat.zero_le _), trivial⟩)⟩ ⟨_, Try.underlying28, ⟨⟨rfl, by kernel_rfl⟩, ⟨rfl, by kernel_rfl⟩, trivial⟩⟩,
  TyOk.slc Try.underlying65 (by kernel_rfl) ⟨(.slice none 0 0 : Value), [.slice none 0 0], by kernel_rfl, rfl, (fun _ _ => ⟨DR.raw _ rfl, trivial⟩)⟩,
  TyOk.int Try.underlying2 rfl (by kernel_rfl) ⟨(.int .i64 0 : Value), [.int .i64 0], by kernel_rfl, rfl, (fun _ _ => ⟨DR.raw _ rfl, trivial⟩)⟩,
  TyOk.int Try.underlying3 rfl (by kernel_rfl) ⟨(.int .i64 0 : Value), [.int .i64 0], by kernel_rfl, rfl, (fun _ _ => ⟨DR.raw _ rfl, trivial⟩)⟩,
  TyOk.st Try.underlying47 (by kernel_rfl) ⟨⟨by decide, Fd.mk' _ _ Try.underlying47 rfl rfl (Sz.mk' (by kernel_rfl) Try.underlying3 _ rfl)⟩, ⟨by decide, Fd.mk' _ _ Try.underlying47 rfl rfl (Sz.mk' (by kernel_rfl) Try.underlying26 _ rfl)⟩, trivial⟩ ⟨(Value.agg #[.int .i64 0, .bool false, .slice none 0 0]), [.int .i64 0, .bool false, .slice none 0 0], by kernel_rfl, rfl, (fun _ _ => ⟨DR.raw _ rfl, DR.raw _ rfl, DR.nil _ _ _ (fun _ => rfl) (Nat.zero_le _), trivial⟩)⟩ ⟨_, Try.underlying47, ⟨⟨rfl, by kernel_rfl⟩, ⟨rfl, by kernel_rfl⟩, trivial⟩⟩,
  TyOk.slc Try.underlying39 (by kernel_rfl) ⟨(.slice none 0 0 : Value), [.slice none 0 0], by kernel_rfl, rfl, (fun _ _ => ⟨DR.raw _ rfl, trivial⟩)⟩,
  trivial⟩
/-- a term that is plain already -/
theorem plainT_eq {t u : Term} (h1 : SR u.parts) (h2 : ∀ q ∈ u.parts, 0 ≤ q.v ∧ q.c = ZI.of q.c.val ∧ q.c.val ≠ 0) (h3 : ∀ v, coefZ t.parts v = coefZ u.parts v) (h4 : u.k = ZI.of t.k.val) : plainT t = u := by
  obtain ⟨v1, v2⟩ := varsZ_ok t.parts
  have hp : (varsZ t.parts).map (partOf t.parts) = u.parts := by
    refine SR.unique (List.pairwise_map.2 v1) h1 (fun q hq => ?_) h2 fun v => ?_
    · obtain ⟨v, hv, rfl⟩ := List.mem_map.1 hq
      have hv := (v2 v).1 hv
      exact ⟨(coefZ_some hv).1, by simp [partOf, ZI.val_of], by simpa [partOf, ZI.val_of] using hv⟩
    · rw [← h3 v]
      by_cases hv : 0 ≤ v
      · rw [coefZ_map t.parts v hv v1]
        by_cases h : v ∈ varsZ t.parts
        · rw [if_pos h]
        · rw [if_neg h]; exact (Classical.byContradiction fun e => h ((v2 v).2 fun e2 => e e2.symm))
      · have z1 : coefZ t.parts v = 0 := Classical.byContradiction fun e => hv (coefZ_some e).1
        have z2 : coefZ ((varsZ t.parts).map (partOf t.parts)) v = 0 := Classical.byContradiction fun e => hv (coefZ_some e).1
        rw [z1, z2]
  cases u with
  | mk ps k =>
    simp only at hp h4
    unfold plainT
    rw [h4, ← hp]; rfl
theorem plainT_parts (t : Term) : SR (plainT t).parts ∧ (∀ q ∈ (plainT t).parts, 0 ≤ q.v ∧ q.c = ZI.of q.c.val ∧ q.c.val ≠ 0) ∧ ∀ v, coefZ (plainT t).parts v = coefZ t.parts v := by
  obtain ⟨v1, v2⟩ := varsZ_ok t.parts
  refine ⟨List.pairwise_map.2 v1, fun q hq => ?_, fun v => ?_⟩
  · obtain ⟨v, hv, rfl⟩ := List.mem_map.1 hq
    have hv := (v2 v).1 hv
    exact ⟨(coefZ_some hv).1, by simp [ZI.val_of], by simpa [ZI.val_of] using hv⟩
  · show coefZ ((varsZ t.parts).map (partOf t.parts)) v = _
    by_cases hv : 0 ≤ v
    · rw [coefZ_map t.parts v hv v1]
      by_cases h : v ∈ varsZ t.parts
      · rw [if_pos h]
      · rw [if_neg h]; exact (Classical.byContradiction fun e => h ((v2 v).2 fun e2 => e e2.symm))
    · have z1 : coefZ t.parts v = 0 := Classical.byContradiction fun e => hv (coefZ_some e).1
      have z2 : coefZ ((varsZ t.parts).map (partOf t.parts)) v = 0 := Classical.byContradiction fun e => hv (coefZ_some e).1
      rw [z1, z2]
theorem plain_idem (t : Term) : plainT (plainT t) = plainT t := by
  obtain ⟨h1, h2, h3⟩ := plainT_parts t
  refine plainT_eq h1 h2 (fun v => rfl) ?_
  simp [plainT, ZI.val_of]
theorem plain_num (k : ZI) : plainT (numT k) = numT k := by simp [plainT, numT, varsZ, ZI.val_of]
/-- a term of a few numbers -/
def ofP : List Int → Nat → List Part
  | [], _ => []
  | c :: cs, i => ⟨(i : Int), ZI.of c⟩ :: ofP cs (i + 1)
def ofT (k : Int) (cs : List Int) : Term := ⟨ofP cs 0, ZI.of k⟩
theorem ofP_app (c : Int) : ∀ (cs : List Int) (i : Nat), ofP (cs ++ [c]) i = ofP cs i ++ [⟨((i + cs.length : Nat) : Int), ZI.of c⟩]
  | [], i => rfl
  | d :: cs, i => by simp only [List.cons_append, ofP, ofP_app c cs (i + 1), List.length_cons]; rw [show i + 1 + cs.length = i + (cs.length + 1) by omega]
theorem ofP_take {cs : List Int} {j : Nat} {c : Int} (h : cs[j]? = some c) : ofP (cs.take (j + 1)) 0 = ofP (cs.take j) 0 ++ [⟨(j : Int), ZI.of c⟩] := by
  have hj := at_lt h
  have : cs.take (j + 1) = cs.take j ++ [c] := by rw [List.take_add_one, h]; rfl
  rw [this, ofP_app, List.length_take, Nat.min_eq_left (by omega), Nat.zero_add]
set_option maxRecDepth 100000 in
theorem SofD (k : Int) (cs : List Int) (hk : -1000 ≤ k ∧ k ≤ 1000) (hc : ∀ c ∈ cs, -1000 ≤ c ∧ c ≤ 1000) (hl : cs.length ≤ 1000) : Fn Try.prog 27 [] [vi .i64 k, .t (.c (.d (.sl 1 (cs.map intD))))] (vd (ofT k cs).d) [] := by
  refine Fn.body Try.func27 rfl 29 rfl fun w H B a h => ?_
  refine rSeq tn_ok 5 [] [(0, vi .i64 k), (1, .t (.c (.d (.sl 1 (cs.map intD))))), (4, vp 5 0)] [(5, .box [.d (.raw nilV), .d (.raw (.bool false)), .d (nsl [])])] (by kernel_rfl) h ?_; clear h; intro a w h
  obtain ⟨r1, er1, vr1, or1, lr1⟩ := mkZ (v := k) (m := 2) (ZI.len_of (by have := pw2; omega))
  refine rSeq tn_ok 6 [(1, .call (Fn.cast (SROf k ⟨by omega, by omega⟩) (congrArg vz er1.symm)) tn_0)] [(1, .t (.c (.d (.sl 1 (cs.map intD))))), (4, vp 5 0), (5, vp 6 0)] [(5, .box [.d (.raw nilV), .d (.raw (.bool false)), .d (nsl [])]), (6, .box ([.d (.raw nilV)] ++ zi r1))] (by kernel_rfl) h ?_; clear h; intro a w h
  refine wp_seq ?_
  replace h := nilOLs 6 0 7 3 47 ([.d (.raw nilV)] ++ zi r1) [(1, .t (.c (.d (.sl 1 (cs.map intD))))), (4, vp 5 0), (5, vp 6 0)] [(5, .box [.d (.raw nilV), .d (.raw (.bool false)), .d (nsl [])]), (6, .box ([.own 7 0] ++ zi r1)), (7, .row 47 3 ([].map Part.d))] h (by kernel_rfl) rfl rfl (by kernel_rfl) (by kernel_rfl)
  refine rSeq tn_ok 8 [(1, .len (c := (.d (.sl 1 (cs.map intD)))) (n := cs.length) (lenC_map _ _ _))] [(4, vp 5 0), (5, vp 6 0), (11, .t (.c (.d (.sl 1 (cs.map intD))))), (12, vi .i64 (cs.length : Int)), (13, vi .i64 0)] [(5, .box [.d (.raw nilV), .d (.raw (.bool false)), .d (nsl [])]), (6, .box ([.own 7 0] ++ zi r1)), (7, .row 47 3 ([].map Part.d))] (by kernel_rfl) h ?_; clear h; intro a w h
  refine wp_block ?_
  refine loopS (ι := (Nat) × (List Part)) (fun (z_ : (Nat) × (List Part)) => match z_ with | (j, out) => out = ofP (cs.take j) 0 ∧ j ≤ cs.length ∧ out.length ≤ j)
      (fun (z_ : (Nat) × (List Part)) => match z_ with | (j, out) => [(4, vp 5 0), (5, vp 6 0), (11, .t (.c (.d (.sl 1 (cs.map intD))))), (12, vi .i64 (cs.length : Int)), (13, vi .i64 (j : Int))])
      (fun (z_ : (Nat) × (List Part)) => match z_ with | (j, out) => [(5, .box [.d (.raw nilV), .d (.raw (.bool false)), .d (nsl [])]), (6, .box ([.own 7 out.length] ++ zi r1)), (7, .row 47 3 (out.map Part.d))])
      (fun (z_ : (Nat) × (List Part)) => match z_ with | (j, out) => cs.length - j) (0, []) ?_ h (by kernel_rfl) (by kernel_rfl) ?_
  · exact ⟨by simp [ofP], Nat.zero_le _, Nat.zero_le _⟩
  · clear h; rintro ⟨j, out⟩ a w hI h
    change St _ (F.of [(4, vp 5 0), (5, vp 6 0), (11, .t (.c (.d (.sl 1 (cs.map intD))))), (12, vi .i64 (cs.length : Int)), (13, vi .i64 (j : Int))] [(5, .box [.d (.raw nilV), .d (.raw (.bool false)), .d (nsl [])]), (6, .box ([.own 7 out.length] ++ zi r1)), (7, .row 47 3 (out.map Part.d))]) a w at h
    obtain ⟨hI1, hI2, hI3⟩ := hI
    refine rSeq tn_ok 8 [] [(4, vp 5 0), (5, vp 6 0), (11, .t (.c (.d (.sl 1 (cs.map intD))))), (12, vi .i64 (cs.length : Int)), (13, vi .i64 (j : Int)), (14, vb (decide ((j : Int) < (cs.length : Int))))] [(5, .box [.d (.raw nilV), .d (.raw (.bool false)), .d (nsl [])]), (6, .box ([.own 7 out.length] ++ zi r1)), (7, .row 47 3 (out.map Part.d))] (by kernel_rfl) h ?_; clear h; intro a w h
    refine wp_seq ?_
    refine condS (decide ((j : Int) < (cs.length : Int))) h rfl (fun hc => ?_) (fun hc => ?_)
    · have hc1 := hc; clear hc
      have hc1' := of_decide_eq_true hc1
      refine wp_skip ?_
      refine then_n ?_
      refine wp_seq ?_
      refine wp_block ?_
      obtain ⟨x2, hx2⟩ : ∃ z_ : Int, cs[j]? = some z_ := ⟨_, List.getElem?_eq_getElem (by first | omega | (simp at *; omega))⟩
      have bx2 := hc x2 (List.mem_of_getElem? hx2)
      refine rSeq tn_ok 8 [(1, .gen _ _ _ fun _ _ _ _ => Op.idxD (d := 16) (t := 11) (k := .i64) tn_1 (map_at hx2 (f := intD)) (OV.tmp 13 _))] [(4, vp 5 0), (5, vp 6 0), (6, vi .i64 (j : Int)), (7, vi .i64 x2), (11, .t (.c (.d (.sl 1 (cs.map intD))))), (12, vi .i64 (cs.length : Int)), (13, vi .i64 (j : Int))] [(5, .box [.d (.raw nilV), .d (.raw (.bool false)), .d (nsl [])]), (6, .box ([.own 7 out.length] ++ zi r1)), (7, .row 47 3 (out.map Part.d))] (by kernel_rfl) h ?_; clear h; intro a w h
      obtain ⟨r3, er3, vr3, or3, lr3⟩ := mkZ (v := x2) (m := 2) (ZI.len_of (by have := pw2; omega))
      refine rS tn_ok 8 [(4, .call (Fn.cast (SROf x2 ⟨by omega, by omega⟩) (congrArg vz er3.symm)) tn_0), (6, .gen _ _ _ fun _ _ _ _ => Op.buildD (d := 24) (len := 1) (rows := [(Part.mk (j : Int) r3)].map Part.d) (rs := [(23, .t (.agg ([.d (.raw (.int .i64 (j : Int)))] ++ zi r3)))]) tn_2 (.cons (i := 0) (OV.tmp 23 _) (.nil)) (by kernel_rfl) rfl (by simp [Part.d]) (by decide) (by decide)), (7, .gen _ _ _ fun _ _ _ _ => Op.appOD (d := 25) (t := 19) (u := 24) (n := 7) (n' := 8) (len := out.length) (len' := (out ++ [(Part.mk (j : Int) r3)]).length) (rows := out.map Part.d) (rows2 := [(Part.mk (j : Int) r3)].map Part.d) (rows' := (out ++ [(Part.mk (j : Int) r3)]).map Part.d) tn_3 (by first | exact (List.length_map _).symm | simp) (by first | (rw [List.length_append, List.length_map]; done) | simp) (by simp) (by simp [Part.d]) (by first | omega | (simp at *; done) | (simp at *; omega)))] [(4, vp 5 0), (5, vp 6 0), (11, .t (.c (.d (.sl 1 (cs.map intD))))), (12, vi .i64 (cs.length : Int)), (13, vi .i64 (j : Int))] [(5, .box [.d (.raw nilV), .d (.raw (.bool false)), .d (nsl [])]), (6, .box ([.own 8 (out ++ [(Part.mk (j : Int) r3)]).length] ++ zi r1)), (8, .row 47 3 ((out ++ [(Part.mk (j : Int) r3)]).map Part.d))] (by kernel_rfl) h ?_; clear h; intro a w h
      refine block_n ?_
      refine then_n ?_
      refine rS tn_ok 9 [(0, .add .i64 (m := (j : Int)) (n := 1) (i64_id (by omega) (by omega)))] [(4, vp 5 0), (5, vp 6 0), (11, .t (.c (.d (.sl 1 (cs.map intD))))), (12, vi .i64 (cs.length : Int)), (13, vi .i64 ((j : Int) + 1))] [(5, .box [.d (.raw nilV), .d (.raw (.bool false)), .d (nsl [])]), (6, .box ([.own 8 (out ++ [(Part.mk (j : Int) r3)]).length] ++ zi r1)), (8, .row 47 3 ((out ++ [(Part.mk (j : Int) r3)]).map Part.d))] (by kernel_rfl) h ?_; clear h; intro a w h
      refine then_n ?_
      replace h := renS 8 7 [(4, vp 5 0), (5, vp 6 0), (11, .t (.c (.d (.sl 1 (cs.map intD))))), (12, vi .i64 (cs.length : Int)), (13, vi .i64 ((j : Int) + 1))] [(5, .box [.d (.raw nilV), .d (.raw (.bool false)), .d (nsl [])]), (6, .box ([.own 7 (out ++ [(Part.mk (j : Int) r3)]).length] ++ zi r1)), (7, .row 47 3 ((out ++ [(Part.mk (j : Int) r3)]).map Part.d))] h (by kernel_rfl) (by kernel_rfl) (by kernel_rfl)
      refine roundS (x := (j, out)) (y := ((j + 1), (out ++ [(Part.mk (j : Int) r3)]))) h ?_ ?_ (by kernel_rfl) (by kernel_rfl)
      · exact ⟨by rw [ofP_take hx2, ← hI1, er3], by have := at_lt hx2; omega, by rw [List.length_append]; simp only [List.length_cons, List.length_nil]; omega⟩
      · show cs.length - (j + 1) < cs.length - j
        have := at_lt hx2; omega
    · have hc2 := hc; clear hc
      have hc2' := of_decide_eq_false hc2
      refine wp_exit ?_
      refine then_x ?_
      refine then_x ?_
      refine inBlock_exit ?_
      refine then_n ?_
      refine rSeq tn_ok 9 [] [(4, vp 5 0)] [(5, .box ([.own 7 out.length] ++ zi r1)), (7, .row 47 3 (out.map Part.d))] (by kernel_rfl) h ?_; clear h; intro a w h
      refine wp_ret ?_
      replace h := pubS 7 3 47 (out.map Part.d) [(4, vp 5 0)] [(5, .box ([.d (.sl 3 (out.map Part.d))] ++ zi r1))] h rfl trivial (show AllEq _ [out.length] from ⟨by first | exact (List.length_map _).symm | simp, trivial⟩) (by kernel_rfl) (by kernel_rfl)
      refine retS [.agg ([.d (.sl 3 (out.map Part.d))] ++ zi r1)] h Exit.ret (.inl rfl)  rfl ⟨RV.agg _ 5 0 _ _ _ _ tn_4 rfl rfl rfl rfl, trivial⟩ ?_ (by kernel_rfl) (by kernel_rfl)
      have hj : j = cs.length := by omega
      subst hj
      rw [hI1, List.take_length, er1]; first | done | rfl
set_option maxRecDepth 100000 in
theorem SofO (k : Int) (cs : List Int) (hk : -1000 ≤ k ∧ k ≤ 1000) (hc : ∀ c ∈ cs, -1000 ≤ c ∧ c ≤ 1000) (hl : cs.length ≤ 1000) : Fn Try.prog 27 [] [vi .i64 k, .t (.c (.d (.sl 1 (cs.map intD))))] (.t (.agg ([.own 0 (ofP cs 0).length] ++ zi (ZI.of k)))) [(0, .row 47 3 ((ofP cs 0).map Part.d))] := by
  refine Fn.body Try.func27 rfl 29 rfl fun w H B a h => ?_
  refine rSeq tn_ok 5 [] [(0, vi .i64 k), (1, .t (.c (.d (.sl 1 (cs.map intD))))), (4, vp 5 0)] [(5, .box [.d (.raw nilV), .d (.raw (.bool false)), .d (nsl [])])] (by kernel_rfl) h ?_; clear h; intro a w h
  obtain ⟨r1, er1, vr1, or1, lr1⟩ := mkZ (v := k) (m := 2) (ZI.len_of (by have := pw2; omega))
  refine rSeq tn_ok 6 [(1, .call (Fn.cast (SROf k ⟨by omega, by omega⟩) (congrArg vz er1.symm)) tn_0)] [(1, .t (.c (.d (.sl 1 (cs.map intD))))), (4, vp 5 0), (5, vp 6 0)] [(5, .box [.d (.raw nilV), .d (.raw (.bool false)), .d (nsl [])]), (6, .box ([.d (.raw nilV)] ++ zi r1))] (by kernel_rfl) h ?_; clear h; intro a w h
  refine wp_seq ?_
  replace h := nilOLs 6 0 7 3 47 ([.d (.raw nilV)] ++ zi r1) [(1, .t (.c (.d (.sl 1 (cs.map intD))))), (4, vp 5 0), (5, vp 6 0)] [(5, .box [.d (.raw nilV), .d (.raw (.bool false)), .d (nsl [])]), (6, .box ([.own 7 0] ++ zi r1)), (7, .row 47 3 ([].map Part.d))] h (by kernel_rfl) rfl rfl (by kernel_rfl) (by kernel_rfl)
  refine rSeq tn_ok 8 [(1, .len (c := (.d (.sl 1 (cs.map intD)))) (n := cs.length) (lenC_map _ _ _))] [(4, vp 5 0), (5, vp 6 0), (11, .t (.c (.d (.sl 1 (cs.map intD))))), (12, vi .i64 (cs.length : Int)), (13, vi .i64 0)] [(5, .box [.d (.raw nilV), .d (.raw (.bool false)), .d (nsl [])]), (6, .box ([.own 7 0] ++ zi r1)), (7, .row 47 3 ([].map Part.d))] (by kernel_rfl) h ?_; clear h; intro a w h
  refine wp_block ?_
  refine loopS (ι := (Nat) × (List Part)) (fun (z_ : (Nat) × (List Part)) => match z_ with | (j, out) => out = ofP (cs.take j) 0 ∧ j ≤ cs.length ∧ out.length ≤ j)
      (fun (z_ : (Nat) × (List Part)) => match z_ with | (j, out) => [(4, vp 5 0), (5, vp 6 0), (11, .t (.c (.d (.sl 1 (cs.map intD))))), (12, vi .i64 (cs.length : Int)), (13, vi .i64 (j : Int))])
      (fun (z_ : (Nat) × (List Part)) => match z_ with | (j, out) => [(5, .box [.d (.raw nilV), .d (.raw (.bool false)), .d (nsl [])]), (6, .box ([.own 7 out.length] ++ zi r1)), (7, .row 47 3 (out.map Part.d))])
      (fun (z_ : (Nat) × (List Part)) => match z_ with | (j, out) => cs.length - j) (0, []) ?_ h (by kernel_rfl) (by kernel_rfl) ?_
  · exact ⟨by simp [ofP], Nat.zero_le _, Nat.zero_le _⟩
  · clear h; rintro ⟨j, out⟩ a w hI h
    change St _ (F.of [(4, vp 5 0), (5, vp 6 0), (11, .t (.c (.d (.sl 1 (cs.map intD))))), (12, vi .i64 (cs.length : Int)), (13, vi .i64 (j : Int))] [(5, .box [.d (.raw nilV), .d (.raw (.bool false)), .d (nsl [])]), (6, .box ([.own 7 out.length] ++ zi r1)), (7, .row 47 3 (out.map Part.d))]) a w at h
    obtain ⟨hI1, hI2, hI3⟩ := hI
    refine rSeq tn_ok 8 [] [(4, vp 5 0), (5, vp 6 0), (11, .t (.c (.d (.sl 1 (cs.map intD))))), (12, vi .i64 (cs.length : Int)), (13, vi .i64 (j : Int)), (14, vb (decide ((j : Int) < (cs.length : Int))))] [(5, .box [.d (.raw nilV), .d (.raw (.bool false)), .d (nsl [])]), (6, .box ([.own 7 out.length] ++ zi r1)), (7, .row 47 3 (out.map Part.d))] (by kernel_rfl) h ?_; clear h; intro a w h
    refine wp_seq ?_
    refine condS (decide ((j : Int) < (cs.length : Int))) h rfl (fun hc => ?_) (fun hc => ?_)
    · have hc1 := hc; clear hc
      have hc1' := of_decide_eq_true hc1
      refine wp_skip ?_
      refine then_n ?_
      refine wp_seq ?_
      refine wp_block ?_
      obtain ⟨x2, hx2⟩ : ∃ z_ : Int, cs[j]? = some z_ := ⟨_, List.getElem?_eq_getElem (by first | omega | (simp at *; omega))⟩
      have bx2 := hc x2 (List.mem_of_getElem? hx2)
      refine rSeq tn_ok 8 [(1, .gen _ _ _ fun _ _ _ _ => Op.idxD (d := 16) (t := 11) (k := .i64) tn_1 (map_at hx2 (f := intD)) (OV.tmp 13 _))] [(4, vp 5 0), (5, vp 6 0), (6, vi .i64 (j : Int)), (7, vi .i64 x2), (11, .t (.c (.d (.sl 1 (cs.map intD))))), (12, vi .i64 (cs.length : Int)), (13, vi .i64 (j : Int))] [(5, .box [.d (.raw nilV), .d (.raw (.bool false)), .d (nsl [])]), (6, .box ([.own 7 out.length] ++ zi r1)), (7, .row 47 3 (out.map Part.d))] (by kernel_rfl) h ?_; clear h; intro a w h
      obtain ⟨r3, er3, vr3, or3, lr3⟩ := mkZ (v := x2) (m := 2) (ZI.len_of (by have := pw2; omega))
      refine rS tn_ok 8 [(4, .call (Fn.cast (SROf x2 ⟨by omega, by omega⟩) (congrArg vz er3.symm)) tn_0), (6, .gen _ _ _ fun _ _ _ _ => Op.buildD (d := 24) (len := 1) (rows := [(Part.mk (j : Int) r3)].map Part.d) (rs := [(23, .t (.agg ([.d (.raw (.int .i64 (j : Int)))] ++ zi r3)))]) tn_2 (.cons (i := 0) (OV.tmp 23 _) (.nil)) (by kernel_rfl) rfl (by simp [Part.d]) (by decide) (by decide)), (7, .gen _ _ _ fun _ _ _ _ => Op.appOD (d := 25) (t := 19) (u := 24) (n := 7) (n' := 8) (len := out.length) (len' := (out ++ [(Part.mk (j : Int) r3)]).length) (rows := out.map Part.d) (rows2 := [(Part.mk (j : Int) r3)].map Part.d) (rows' := (out ++ [(Part.mk (j : Int) r3)]).map Part.d) tn_3 (by first | exact (List.length_map _).symm | simp) (by first | (rw [List.length_append, List.length_map]; done) | simp) (by simp) (by simp [Part.d]) (by first | omega | (simp at *; done) | (simp at *; omega)))] [(4, vp 5 0), (5, vp 6 0), (11, .t (.c (.d (.sl 1 (cs.map intD))))), (12, vi .i64 (cs.length : Int)), (13, vi .i64 (j : Int))] [(5, .box [.d (.raw nilV), .d (.raw (.bool false)), .d (nsl [])]), (6, .box ([.own 8 (out ++ [(Part.mk (j : Int) r3)]).length] ++ zi r1)), (8, .row 47 3 ((out ++ [(Part.mk (j : Int) r3)]).map Part.d))] (by kernel_rfl) h ?_; clear h; intro a w h
      refine block_n ?_
      refine then_n ?_
      refine rS tn_ok 9 [(0, .add .i64 (m := (j : Int)) (n := 1) (i64_id (by omega) (by omega)))] [(4, vp 5 0), (5, vp 6 0), (11, .t (.c (.d (.sl 1 (cs.map intD))))), (12, vi .i64 (cs.length : Int)), (13, vi .i64 ((j : Int) + 1))] [(5, .box [.d (.raw nilV), .d (.raw (.bool false)), .d (nsl [])]), (6, .box ([.own 8 (out ++ [(Part.mk (j : Int) r3)]).length] ++ zi r1)), (8, .row 47 3 ((out ++ [(Part.mk (j : Int) r3)]).map Part.d))] (by kernel_rfl) h ?_; clear h; intro a w h
      refine then_n ?_
      replace h := renS 8 7 [(4, vp 5 0), (5, vp 6 0), (11, .t (.c (.d (.sl 1 (cs.map intD))))), (12, vi .i64 (cs.length : Int)), (13, vi .i64 ((j : Int) + 1))] [(5, .box [.d (.raw nilV), .d (.raw (.bool false)), .d (nsl [])]), (6, .box ([.own 7 (out ++ [(Part.mk (j : Int) r3)]).length] ++ zi r1)), (7, .row 47 3 ((out ++ [(Part.mk (j : Int) r3)]).map Part.d))] h (by kernel_rfl) (by kernel_rfl) (by kernel_rfl)
      refine roundS (x := (j, out)) (y := ((j + 1), (out ++ [(Part.mk (j : Int) r3)]))) h ?_ ?_ (by kernel_rfl) (by kernel_rfl)
      · exact ⟨by rw [ofP_take hx2, ← hI1, er3], by have := at_lt hx2; omega, by rw [List.length_append]; simp only [List.length_cons, List.length_nil]; omega⟩
      · show cs.length - (j + 1) < cs.length - j
        have := at_lt hx2; omega
    · have hc2 := hc; clear hc
      have hc2' := of_decide_eq_false hc2
      refine wp_exit ?_
      refine then_x ?_
      refine then_x ?_
      refine inBlock_exit ?_
      refine then_n ?_
      refine rSeq tn_ok 9 [] [(4, vp 5 0)] [(5, .box ([.own 7 out.length] ++ zi r1)), (7, .row 47 3 (out.map Part.d))] (by kernel_rfl) h ?_; clear h; intro a w h
      refine wp_ret ?_
      have hj : j = cs.length := by omega
      subst hj
      have ho : out = ofP cs 0 := by rw [hI1, List.take_length]
      replace h := h.conv (f' := F.of [(4, vp 5 0)] [(5, .box ([.own 7 (ofP cs 0).length] ++ zi r1)), (7, .row 47 3 (out.map Part.d))]) (by rw [ho])
      replace h := h.conv (f' := F.of [(4, vp 5 0)] [(5, .box ([.own 7 (ofP cs 0).length] ++ zi r1)), (7, .row 47 3 ((ofP cs 0).map Part.d))]) (congrArg (fun (z_ : List Part) => F.of [(4, vp 5 0)] [(5, .box ([.own 7 (ofP cs 0).length] ++ zi r1)), (7, .row 47 3 (z_.map Part.d))]) (show (out : List Part) = (ofP cs 0) from ho))
      replace h := renS 7 0 [(4, vp 5 0)] [(5, .box ([.own 0 (ofP cs 0).length] ++ zi r1)), (0, .row 47 3 ((ofP cs 0).map Part.d))] h (by kernel_rfl) (by kernel_rfl) (by kernel_rfl)
      refine retS [.agg ([.own 0 (ofP cs 0).length] ++ zi r1)] h Exit.ret (.inl rfl)  rfl ⟨RV.agg _ 5 0 _ _ _ _ tn_4 rfl rfl rfl rfl, trivial⟩ ?_ (by kernel_rfl) (by kernel_rfl)
      rw [er1]; first | done | rfl
set_option maxRecDepth 100000 in
theorem SofN (k : Int) (hk : -1000 ≤ k ∧ k ≤ 1000) : Fn Try.prog 27 [] [vi .i64 k, .t (.c (.d (.raw nilV)))] (vd (ofT k []).d) [] := by
  refine Fn.body Try.func27 rfl 29 rfl fun w H B a h => ?_
  refine rSeq tn_ok 0 [] [(0, vi .i64 k), (1, .t (.c (.d (.raw nilV)))), (4, vp 0 0)] [(0, .box [.d (.raw nilV), .d (.raw (.bool false)), .d (nsl [])])] (by kernel_rfl) h ?_; clear h; intro a w h
  obtain ⟨r1, er1, vr1, or1, lr1⟩ := mkZ (v := k) (m := 2) (ZI.len_of (by have := pw2; omega))
  refine rSeq tn_ok 1 [(1, .call (Fn.cast (SROf k ⟨by omega, by omega⟩) (congrArg vz er1.symm)) tn_0)] [(1, .t (.c (.d (.raw nilV)))), (4, vp 0 0), (5, vp 1 0)] [(0, .box [.d (.raw nilV), .d (.raw (.bool false)), .d (nsl [])]), (1, .box ([.d (.raw nilV)] ++ zi r1))] (by kernel_rfl) h ?_; clear h; intro a w h
  refine wp_seq ?_
  refine rSeq tn_ok 2 [] [(4, vp 0 0), (5, vp 1 0), (11, .t (.c (.d (.raw nilV)))), (12, vi .i64 0), (13, vi .i64 0)] [(0, .box [.d (.raw nilV), .d (.raw (.bool false)), .d (nsl [])]), (1, .box ([.d (.raw nilV)] ++ zi r1))] (by kernel_rfl) h ?_; clear h; intro a w h
  refine wp_block ?_
  refine loopS (ι := (Nat)) (fun (z_ : (Nat)) => match z_ with | j => j = 0)
      (fun (z_ : (Nat)) => match z_ with | j => [(4, vp 0 0), (5, vp 1 0), (11, .t (.c (.d (.raw nilV)))), (12, vi .i64 0), (13, vi .i64 (j : Int))])
      (fun (z_ : (Nat)) => match z_ with | j => [(0, .box [.d (.raw nilV), .d (.raw (.bool false)), .d (nsl [])]), (1, .box ([.d (.raw nilV)] ++ zi r1))])
      (fun (z_ : (Nat)) => match z_ with | j => 0) 0 ?_ h (by kernel_rfl) (by kernel_rfl) ?_
  · rfl
  · clear h; rintro j a w hI h
    change St _ (F.of [(4, vp 0 0), (5, vp 1 0), (11, .t (.c (.d (.raw nilV)))), (12, vi .i64 0), (13, vi .i64 (j : Int))] [(0, .box [.d (.raw nilV), .d (.raw (.bool false)), .d (nsl [])]), (1, .box ([.d (.raw nilV)] ++ zi r1))]) a w at h
    refine rSeq tn_ok 2 [(0, .cmp (op := .lss) (m := (j : Int)) (n := 0) (b := false) .i64 (show decide ((j : Int) < 0) = false from decide_eq_false (by omega)))] [(4, vp 0 0), (5, vp 1 0), (11, .t (.c (.d (.raw nilV)))), (12, vi .i64 0), (13, vi .i64 (j : Int)), (14, vb false)] [(0, .box [.d (.raw nilV), .d (.raw (.bool false)), .d (nsl [])]), (1, .box ([.d (.raw nilV)] ++ zi r1))] (by kernel_rfl) h ?_; clear h; intro a w h
    refine wp_seq ?_
    refine condS false h rfl (fun hc => ?_) (fun hc => ?_)
    · cases hc
    · clear hc
      refine wp_exit ?_
      refine then_x ?_
      refine then_x ?_
      refine inBlock_exit ?_
      refine then_n ?_
      refine rSeq tn_ok 2 [] [(4, vp 0 0)] [(0, .box ([.d (.raw nilV)] ++ zi r1))] (by kernel_rfl) h ?_; clear h; intro a w h
      refine wp_ret ?_
      replace h := nilDLs 0 0 3 ([.d (.raw nilV)] ++ zi r1) [(4, vp 0 0)] [(0, .box ([.d (.sl 3 ([].map Part.d))] ++ zi r1))] h rfl rfl (by kernel_rfl) (by kernel_rfl)
      refine retS [.agg ([.d (.sl 3 ([].map Part.d))] ++ zi r1)] h Exit.ret (.inl rfl)  rfl ⟨RV.agg _ 0 0 _ _ _ _ tn_4 rfl rfl rfl rfl, trivial⟩ ?_ (by kernel_rfl) (by kernel_rfl)
      rw [er1]; first | done | rfl
theorem ofP_len : ∀ (cs : List Int) (i : Nat), (ofP cs i).length = cs.length
  | [], _ => rfl
  | c :: cs, i => by simp [ofP, ofP_len cs]
theorem ofP_mem : ∀ {cs : List Int} {i : Nat} {p : Part}, p ∈ ofP cs i → ∃ c ∈ cs, p.c = ZI.of c
  | c :: cs, i, p, h => by
    rcases List.mem_cons.1 h with rfl | h
    · exact ⟨c, by simp, rfl⟩
    · obtain ⟨d, hd, e⟩ := ofP_mem h
      exact ⟨d, by simp [hd], e⟩
theorem ofT_ok (k : Int) (cs : List Int) (hk : -1000 ≤ k ∧ k ≤ 1000) (hc : ∀ c ∈ cs, -1000 ≤ c ∧ c ≤ 1000) (hl : cs.length ≤ 10) : TOk 10 10 (ofT k cs) := by
  have small : ∀ z : Int, -1000 ≤ z ∧ z ≤ 1000 → (ZI.of z).abs.length ≤ 10 := fun z hz => ZI.len_of (by have : pw 10 = 4294967296 ^ 10 := rfl; omega)
  refine ⟨by simp only [ofT]; rw [ofP_len]; exact hl, fun p hp => ?_, ZI.lb_of _, small k hk⟩
  obtain ⟨c, h1, h2⟩ := ofP_mem hp
  rw [h2]
  exact ⟨ZI.lb_of _, small c (hc c h1)⟩
set_option maxRecDepth 100000 in
theorem SLSame (t : Term) {n L : Nat} (ht : TOk n L t) (hn : n ≤ 1000) (hL : L ≤ 40000) (hp : plainT t = t) : Fn Try.prog 7 [] [.t (.agg ([.d (.sl 3 (t.parts.map Part.d))] ++ zi t.k)), .t (.agg ([.d (.sl 3 (t.parts.map Part.d))] ++ zi t.k))] (vb true) [] := by
  refine Fn.body Try.func7 rfl 14 rfl fun w H B a h => ?_
  refine rSeq tn_ok 0 [] [(2, vp 0 0), (3, vp 1 0), (4, vb false)] [(0, .box ([.d (.sl 3 (t.parts.map Part.d))] ++ zi t.k)), (1, .box ([.d (.sl 3 (t.parts.map Part.d))] ++ zi t.k))] (by kernel_rfl) h ?_; clear h; intro a w h
  refine rSeq tn_ok 2 [(2, .call (SRTSame2 (s := t) (t := t) rfl ht hn) tn_5), (6, .call (SRPlain' t ht hn hL) tn_6), (7, .call (SRTSame2 (s := t) (t := plainT t) hp.symm (hp.symm ▸ ht) hn) tn_5)] [(4, vb true)] [] (by kernel_rfl) h ?_; clear h; intro a w h
  refine wp_ret ?_
  refine retS [.c (.d (.raw (.bool true)))] h Exit.ret (.inl rfl)  rfl ⟨RV.tmp _ _ rfl, trivial⟩ ?_ (by kernel_rfl) (by kernel_rfl)
  rfl
theorem SLSame2 {s t : Term} (e : s = t) (hp : plainT t = t) {n L : Nat} (hs : TOk n L s) (hn : n ≤ 1000) (hL : L ≤ 40000) : Fn Try.prog 7 [] [vd s.d, vd t.d] (vb true) [] := by subst e; exact SLSame s hs hn hL hp
/-- few parts, of few limbs -/
def Few1 (t : Term) : Prop := t.parts.length ≤ 30 ∧ t.k.abs.length ≤ 20 ∧ ∀ p ∈ t.parts, p.c.abs.length ≤ 20
set_option maxRecDepth 100000 in
theorem Sfew (ts : List Term) (b : Bool) (hb : b = true ↔ ∀ t ∈ ts, Few1 t) (hl : ts.length ≤ 9223372036854775807) : Fn Try.prog 6 [] [.t (.c (.d (.sl 3 (ts.map Term.d))))] (vb b) [] := by
  refine Fn.body Try.func6 rfl 38 rfl fun w H B a h => ?_
  refine rSeq tn_ok 0 [] [(0, .t (.c (.d (.sl 3 (ts.map Term.d))))), (2, vb false)] [] (by kernel_rfl) h ?_; clear h; intro a w h
  refine wp_seq ?_
  refine rSeq tn_ok 0 [(1, .len (c := (.d (.sl 3 (ts.map Term.d)))) (n := ts.length) (lenC_map _ _ _))] [(2, vb false), (7, .t (.c (.d (.sl 3 (ts.map Term.d))))), (8, vi .i64 (ts.length : Int)), (9, vi .i64 0)] [] (by kernel_rfl) h ?_; clear h; intro a w h
  refine wp_block ?_
  refine loopS (ι := (Nat)) (fun (z_ : (Nat)) => match z_ with | j => j ≤ ts.length ∧ ∀ t ∈ ts.take j, Few1 t)
      (fun (z_ : (Nat)) => match z_ with | j => [(7, .t (.c (.d (.sl 3 (ts.map Term.d))))), (8, vi .i64 (ts.length : Int)), (9, vi .i64 (j : Int))])
      (fun (z_ : (Nat)) => match z_ with | j => [])
      (fun (z_ : (Nat)) => match z_ with | j => ts.length - j) 0 ?_ h (by kernel_rfl) (by kernel_rfl) ?_
  · exact ⟨Nat.zero_le _, by simp⟩
  · clear h; rintro j a w hI h
    change St _ (F.of [(7, .t (.c (.d (.sl 3 (ts.map Term.d))))), (8, vi .i64 (ts.length : Int)), (9, vi .i64 (j : Int))] []) a w at h
    obtain ⟨hI1, hI2⟩ := hI
    refine rSeq tn_ok 0 [] [(7, .t (.c (.d (.sl 3 (ts.map Term.d))))), (8, vi .i64 (ts.length : Int)), (9, vi .i64 (j : Int)), (10, vb (decide ((j : Int) < (ts.length : Int))))] [] (by kernel_rfl) h ?_; clear h; intro a w h
    refine wp_seq ?_
    refine condS (decide ((j : Int) < (ts.length : Int))) h rfl (fun hc => ?_) (fun hc => ?_)
    · have hc1 := hc; clear hc
      have hc1' := of_decide_eq_true hc1
      refine wp_skip ?_
      refine then_n ?_
      refine wp_seq ?_
      refine wp_block ?_
      obtain ⟨x1, hx1⟩ : ∃ z_ : Term, ts[j]? = some z_ := ⟨_, List.getElem?_eq_getElem (by first | omega | (simp at *; omega))⟩
      refine rSeq tn_ok 0 [(0, .gen _ _ _ fun _ _ _ _ => Op.idxD (d := 11) (t := 7) (k := .i64) tn_7 (map_at hx1 (f := Term.d)) (OV.tmp 9 _))] [(4, vp 0 0), (7, .t (.c (.d (.sl 3 (ts.map Term.d))))), (8, vi .i64 (ts.length : Int)), (9, vi .i64 (j : Int))] [(0, .box ([.d (.sl 3 (x1.parts.map Part.d))] ++ zi x1.k))] (by kernel_rfl) h ?_; clear h; intro a w h
      refine wp_seq ?_
      rcases Bool.eq_false_or_eq_true (decide ((x1.parts.length : Int) > 30)) with hc | hc
      · have hc2 := hc; clear hc
        have hc2' := of_decide_eq_true hc2
        refine rSeq tn_ok 1 [(2, .len (c := (.d (.sl 3 (x1.parts.map Part.d)))) (n := x1.parts.length) (lenC_map _ _ _)), (3, .cmp (op := .gtr) (m := (x1.parts.length : Int)) (n := 30) (b := true) .i64 hc2)] [(4, vp 0 0), (7, .t (.c (.d (.sl 3 (ts.map Term.d))))), (8, vi .i64 (ts.length : Int)), (9, vi .i64 (j : Int)), (23, vb true)] [(0, .box ([.d (.sl 3 (x1.parts.map Part.d))] ++ zi x1.k))] (by kernel_rfl) h ?_; clear h; intro a w h
        refine condS true h rfl (fun hc => ?_) (fun hc => ?_)
        · clear hc
          refine rSeq tn_ok 1 [] [(2, vb false), (4, vp 0 0), (7, .t (.c (.d (.sl 3 (ts.map Term.d))))), (8, vi .i64 (ts.length : Int)), (9, vi .i64 (j : Int))] [(0, .box ([.d (.sl 3 (x1.parts.map Part.d))] ++ zi x1.k))] (by kernel_rfl) h ?_; clear h; intro a w h
          refine wp_ret ?_
          refine then_r ?_
          refine block_r ?_
          refine then_r ?_
          refine then_r ?_
          refine block_r ?_
          refine then_r ?_
          refine retS [.c (.d (.raw (.bool false)))] h Exit.ret (.inl rfl)  rfl ⟨RV.tmp _ _ rfl, trivial⟩ ?_ (by kernel_rfl) (by kernel_rfl)
          have hb2 : b = false := by
            cases hbb : b with
            | false => rfl
            | true =>
              exfalso
              have hf := hb.1 hbb x1 (List.mem_of_getElem? hx1)
              have h1 := hf.1; have h2 := hf.2.1; omega
          rw [hb2]; first | done | rfl
        · cases hc
      · have hc3 := hc; clear hc
        have hc3' := of_decide_eq_false hc3
        refine rSeq tn_ok 1 [(2, .len (c := (.d (.sl 3 (x1.parts.map Part.d)))) (n := x1.parts.length) (lenC_map _ _ _)), (3, .cmp (op := .gtr) (m := (x1.parts.length : Int)) (n := 30) (b := false) .i64 hc3), (8, .len (nsl_len x1.k.abs))] [(4, vp 0 0), (7, .t (.c (.d (.sl 3 (ts.map Term.d))))), (8, vi .i64 (ts.length : Int)), (9, vi .i64 (j : Int)), (23, vb (decide ((x1.k.abs.length : Int) > 20)))] [(0, .box ([.d (.sl 3 (x1.parts.map Part.d))] ++ zi x1.k))] (by kernel_rfl) h ?_; clear h; intro a w h
        refine condS (decide ((x1.k.abs.length : Int) > 20)) h rfl (fun hc => ?_) (fun hc => ?_)
        · have hc4 := hc; clear hc
          have hc4' := of_decide_eq_true hc4
          refine rSeq tn_ok 1 [] [(2, vb false), (4, vp 0 0), (7, .t (.c (.d (.sl 3 (ts.map Term.d))))), (8, vi .i64 (ts.length : Int)), (9, vi .i64 (j : Int))] [(0, .box ([.d (.sl 3 (x1.parts.map Part.d))] ++ zi x1.k))] (by kernel_rfl) h ?_; clear h; intro a w h
          refine wp_ret ?_
          refine then_r ?_
          refine block_r ?_
          refine then_r ?_
          refine then_r ?_
          refine block_r ?_
          refine then_r ?_
          refine retS [.c (.d (.raw (.bool false)))] h Exit.ret (.inl rfl)  rfl ⟨RV.tmp _ _ rfl, trivial⟩ ?_ (by kernel_rfl) (by kernel_rfl)
          have hb2 : b = false := by
            cases hbb : b with
            | false => rfl
            | true =>
              exfalso
              have hf := hb.1 hbb x1 (List.mem_of_getElem? hx1)
              have h1 := hf.1; have h2 := hf.2.1; omega
          rw [hb2]; first | done | rfl
        · have hc5 := hc; clear hc
          have hc5' := of_decide_eq_false hc5
          refine wp_skip ?_
          refine then_n ?_
          refine rSeq tn_ok 1 [(2, .len (c := (.d (.sl 3 (x1.parts.map Part.d)))) (n := x1.parts.length) (lenC_map _ _ _))] [(7, .t (.c (.d (.sl 3 (ts.map Term.d))))), (8, vi .i64 (ts.length : Int)), (9, vi .i64 (j : Int)), (25, .t (.c (.d (.sl 3 (x1.parts.map Part.d))))), (26, vi .i64 (x1.parts.length : Int)), (27, vi .i64 0)] [] (by kernel_rfl) h ?_; clear h; intro a w h
          refine wp_block ?_
          refine loopS (ι := (Nat)) (fun (z_ : (Nat)) => match z_ with | i => i ≤ x1.parts.length ∧ ∀ p ∈ x1.parts.take i, p.c.abs.length ≤ 20)
              (fun (z_ : (Nat)) => match z_ with | i => [(7, .t (.c (.d (.sl 3 (ts.map Term.d))))), (8, vi .i64 (ts.length : Int)), (9, vi .i64 (j : Int)), (25, .t (.c (.d (.sl 3 (x1.parts.map Part.d))))), (26, vi .i64 (x1.parts.length : Int)), (27, vi .i64 (i : Int))])
              (fun (z_ : (Nat)) => match z_ with | i => [])
              (fun (z_ : (Nat)) => match z_ with | i => x1.parts.length - i) 0 ?_ h (by kernel_rfl) (by kernel_rfl) ?_
          · exact ⟨Nat.zero_le _, by simp⟩
          · clear h; rintro i a w hI h
            change St _ (F.of [(7, .t (.c (.d (.sl 3 (ts.map Term.d))))), (8, vi .i64 (ts.length : Int)), (9, vi .i64 (j : Int)), (25, .t (.c (.d (.sl 3 (x1.parts.map Part.d))))), (26, vi .i64 (x1.parts.length : Int)), (27, vi .i64 (i : Int))] []) a w at h
            obtain ⟨hK1, hK2⟩ := hI
            refine rSeq tn_ok 1 [] [(7, .t (.c (.d (.sl 3 (ts.map Term.d))))), (8, vi .i64 (ts.length : Int)), (9, vi .i64 (j : Int)), (25, .t (.c (.d (.sl 3 (x1.parts.map Part.d))))), (26, vi .i64 (x1.parts.length : Int)), (27, vi .i64 (i : Int)), (28, vb (decide ((i : Int) < (x1.parts.length : Int))))] [] (by kernel_rfl) h ?_; clear h; intro a w h
            refine wp_seq ?_
            refine condS (decide ((i : Int) < (x1.parts.length : Int))) h rfl (fun hc => ?_) (fun hc => ?_)
            · have hc6 := hc; clear hc
              have hc6' := of_decide_eq_true hc6
              refine wp_skip ?_
              refine then_n ?_
              refine wp_seq ?_
              refine wp_block ?_
              obtain ⟨x2, hx2⟩ : ∃ z_ : Part, x1.parts[i]? = some z_ := ⟨_, List.getElem?_eq_getElem (by first | omega | (simp at *; omega))⟩
              refine rSeq tn_ok 1 [(0, .gen _ _ _ fun _ _ _ _ => Op.idxD (d := 29) (t := 25) (k := .i64) tn_8 (map_at hx2 (f := Part.d)) (OV.tmp 27 _))] [(6, vp 1 0), (7, .t (.c (.d (.sl 3 (ts.map Term.d))))), (8, vi .i64 (ts.length : Int)), (9, vi .i64 (j : Int)), (25, .t (.c (.d (.sl 3 (x1.parts.map Part.d))))), (26, vi .i64 (x1.parts.length : Int)), (27, vi .i64 (i : Int))] [(1, .box ([.d (.raw (.int .i64 x2.v))] ++ zi x2.c))] (by kernel_rfl) h ?_; clear h; intro a w h
              refine rSeq tn_ok 2 [(3, .len (nsl_len x2.c.abs))] [(7, .t (.c (.d (.sl 3 (ts.map Term.d))))), (8, vi .i64 (ts.length : Int)), (9, vi .i64 (j : Int)), (25, .t (.c (.d (.sl 3 (x1.parts.map Part.d))))), (26, vi .i64 (x1.parts.length : Int)), (27, vi .i64 (i : Int)), (35, vb (decide ((x2.c.abs.length : Int) > 20)))] [] (by kernel_rfl) h ?_; clear h; intro a w h
              refine condS (decide ((x2.c.abs.length : Int) > 20)) h rfl (fun hc => ?_) (fun hc => ?_)
              · have hc7 := hc; clear hc
                have hc7' := of_decide_eq_true hc7
                refine rSeq tn_ok 2 [] [(2, vb false), (7, .t (.c (.d (.sl 3 (ts.map Term.d))))), (8, vi .i64 (ts.length : Int)), (9, vi .i64 (j : Int)), (25, .t (.c (.d (.sl 3 (x1.parts.map Part.d))))), (26, vi .i64 (x1.parts.length : Int)), (27, vi .i64 (i : Int))] [] (by kernel_rfl) h ?_; clear h; intro a w h
                refine wp_ret ?_
                refine block_r ?_
                refine then_r ?_
                refine then_r ?_
                refine block_r ?_
                refine block_r ?_
                refine then_r ?_
                refine then_r ?_
                refine block_r ?_
                refine then_r ?_
                refine retS [.c (.d (.raw (.bool false)))] h Exit.ret (.inl rfl)  rfl ⟨RV.tmp _ _ rfl, trivial⟩ ?_ (by kernel_rfl) (by kernel_rfl)
                have hb2 : b = false := by
                  cases hbb : b with
                  | false => rfl
                  | true =>
                    exfalso
                    have hf := hb.1 hbb x1 (List.mem_of_getElem? hx1)
                    have := hf.2.2 x2 (List.mem_of_getElem? hx2); omega
                rw [hb2]; first | done | rfl
              · have hc8 := hc; clear hc
                have hc8' := of_decide_eq_false hc8
                refine wp_skip ?_
                refine block_n ?_
                refine then_n ?_
                refine rS tn_ok 2 [(0, .add .i64 (m := (i : Int)) (n := 1) (i64_id (by omega) (by omega)))] [(7, .t (.c (.d (.sl 3 (ts.map Term.d))))), (8, vi .i64 (ts.length : Int)), (9, vi .i64 (j : Int)), (25, .t (.c (.d (.sl 3 (x1.parts.map Part.d))))), (26, vi .i64 (x1.parts.length : Int)), (27, vi .i64 ((i : Int) + 1))] [] (by kernel_rfl) h ?_; clear h; intro a w h
                refine then_n ?_
                refine roundS (x := i) (y := (i + 1)) h ?_ ?_ (by kernel_rfl) (by kernel_rfl)
                · refine ⟨by have := at_lt hx2; omega, fun p hp => ?_⟩
                  rw [List.take_add_one, hx2] at hp
                  rcases List.mem_append.1 hp with hp | hp
                  · exact hK2 p hp
                  · have e := Option.mem_toList.1 hp
                    injection e with e
                    subst e
                    omega
                · show x1.parts.length - (i + 1) < x1.parts.length - i
                  have := at_lt hx2; omega
            · have hc9 := hc; clear hc
              have hc9' := of_decide_eq_false hc9
              refine wp_exit ?_
              refine then_x ?_
              refine then_x ?_
              refine inBlock_exit ?_
              refine block_n ?_
              refine then_n ?_
              refine rS tn_ok 2 [(0, .add .i64 (m := (j : Int)) (n := 1) (i64_id (by omega) (by omega)))] [(7, .t (.c (.d (.sl 3 (ts.map Term.d))))), (8, vi .i64 (ts.length : Int)), (9, vi .i64 ((j : Int) + 1))] [] (by kernel_rfl) h ?_; clear h; intro a w h
              refine then_n ?_
              refine roundS (x := j) (y := (j + 1)) h ?_ ?_ (by kernel_rfl) (by kernel_rfl)
              · refine ⟨by have := at_lt hx1; omega, fun t ht => ?_⟩
                rw [List.take_add_one, hx1] at ht
                rcases List.mem_append.1 ht with ht | ht
                · exact hI2 t ht
                · have e := Option.mem_toList.1 ht
                  injection e with e
                  subst e
                  exact ⟨by omega, by omega, fun p hp => hK2 p (by rw [List.take_of_length_le (by omega)]; exact hp)⟩
              · show ts.length - (j + 1) < ts.length - j
                have := at_lt hx1; omega
    · have hc10 := hc; clear hc
      have hc10' := of_decide_eq_false hc10
      refine wp_exit ?_
      refine then_x ?_
      refine then_x ?_
      refine inBlock_exit ?_
      refine then_n ?_
      refine rSeq tn_ok 2 [] [(2, vb true)] [] (by kernel_rfl) h ?_; clear h; intro a w h
      refine wp_ret ?_
      refine retS [.c (.d (.raw (.bool true)))] h Exit.ret (.inl rfl)  rfl ⟨RV.tmp _ _ rfl, trivial⟩ ?_ (by kernel_rfl) (by kernel_rfl)
      have hb2 : b = true := hb.2 fun t ht => hI2 t (by rw [List.take_of_length_le (by omega)]; exact ht)
      rw [hb2]; first | done | rfl
end Go.Proofs.Ytekhnajfdaknnaa.S
