/-
  Terms: what is put in is as the reference puts it.
-/
import Derived.Test.YtekhnajfdaknnaaTr
namespace Go.Proofs.Ytekhnajfdaknnaa.S
open Go.RowKit

theorem ts_0 : Bodied Try.prog 26 := Bodied.mk' (by kernel_rfl)
theorem ts_1 : Bodied Try.prog 17 := Bodied.mk' (by kernel_rfl)
theorem ts_2 : Bodied Try.prog 18 := Bodied.mk' (by kernel_rfl)
theorem ts_3 : Bodied Try.prog 12 := Bodied.mk' (by kernel_rfl)
theorem ts_4 : ElZ Try.prog 65 2 1 := ElZ.mk' Try.underlying65 _ _ rfl rfl (by kernel_rfl) (by kernel_rfl) (by kernel_rfl) (by decide)
theorem ts_5 : Bodied Try.prog 27 := Bodied.mk' (by kernel_rfl)
theorem ts_6 : Bodied Try.prog 21 := Bodied.mk' (by kernel_rfl)
theorem ts_7 : Bodied Try.prog 9 := Bodied.mk' (by kernel_rfl)
theorem ts_8 : Bodied Try.prog 28 := Bodied.mk' (by kernel_rfl)
theorem ts_9 : ElZ Try.prog 38 3 1 := ElZ.mk' Try.underlying38 _ _ rfl rfl (by kernel_rfl) (by kernel_rfl) (by kernel_rfl) (by decide)
theorem ts_10 : ElZ Try.prog 39 28 3 := ElZ.mk' Try.underlying39 _ _ rfl rfl (by kernel_rfl) (by kernel_rfl) (by kernel_rfl) (by decide)
theorem ts_11 : Bodied Try.prog 23 := Bodied.mk' (by kernel_rfl)
theorem ts_12 : Bodied Try.prog 24 := Bodied.mk' (by kernel_rfl)
theorem ts_13 : Bodied Try.prog 20 := Bodied.mk' (by kernel_rfl)
theorem ts_14 : Bodied Try.prog 6 := Bodied.mk' (by kernel_rfl)
theorem ts_15 : SlT Try.prog 38 3 1 := SlT.mk' Try.underlying38 (by kernel_rfl)
theorem ts_16 : SlT Try.prog 39 28 3 := SlT.mk' Try.underlying39 (by kernel_rfl)
theorem ts_17 : Bodied Try.prog 22 := Bodied.mk' (by kernel_rfl)
theorem ts_18 : Bodied Try.prog 7 := Bodied.mk' (by kernel_rfl)
theorem ts_19 : Bodied Try.prog 25 := Bodied.mk' (by kernel_rfl)
def ts_tb : Tb := [(22, ⟨1, false, [], [.d (.raw nilV)], 1⟩), (4, ⟨1, false, [], [.d (.raw (.bool false))], 3⟩), (24, ⟨1, false, [], [.d (nsl [])], 1⟩), (26, ⟨2, true, [(0, 1, false), (1, 1, false)], [.d (.raw (.bool false)), .d (nsl [])], 0⟩), (28, ⟨3, true, [(0, 1, false), (1, 2, true)], [.d (.raw nilV), .d (.raw (.bool false)), .d (nsl [])], 0⟩), (38, ⟨1, false, [], [.d (.raw nilV)], 1⟩), (39, ⟨1, false, [], [.d (.raw nilV)], 1⟩), (3, ⟨1, false, [], [.d (.raw (.int .i64 0))], 13⟩)]
theorem ts_ok : TbOk Try.prog ts_tb := ⟨TyOk.slc Try.underlying22 (by kernel_rfl) ⟨(.slice none 0 0 : Value), [.slice none 0 0], by kernel_rfl, rfl, (fun _ _ => ⟨DR.raw _ rfl, trivial⟩)⟩,
  TyOk.bl Try.underlying4 (by kernel_rfl) ⟨(.bool false : Value), [.bool false], by kernel_rfl, rfl, (fun _ _ => ⟨DR.raw _ rfl, trivial⟩)⟩,
  TyOk.slc Try.underlying24 (by kernel_rfl) ⟨(.slice none 0 0 : Value), [.slice none 0 0], by kernel_rfl, rfl, (fun _ _ => ⟨DR.nil _ _ _ (fun _ => rfl) (Nat.zero_le _), trivial⟩)⟩,
  TyOk.st Try.underlying26 (by kernel_rfl) ⟨⟨by decide, Fd.mk' _ _ Try.underlying26 rfl rfl (Sz.mk' (by kernel_rfl) Try.underlying4 _ rfl)⟩, ⟨by decide, Fd.mk' _ _ Try.underlying26 rfl rfl (Sz.mk' (by kernel_rfl) Try.underlying24 _ rfl)⟩, trivial⟩ ⟨(Value.agg #[.bool false, .slice none 0 0]), [.bool false, .slice none 0 0], by kernel_rfl, rfl, (fun _ _ => ⟨DR.raw _ rfl, DR.nil _ _ _ (fun _ => rfl) (Nat.zero_le _), trivial⟩)⟩ ⟨_, Try.underlying26, ⟨⟨rfl, by kernel_rfl⟩, ⟨rfl, by kernel_rfl⟩, trivial⟩⟩,
  TyOk.st Try.underlying28 (by kernel_rfl) ⟨⟨by decide, Fd.mk' _ _ Try.underlying28 rfl rfl (Sz.mk' (by kernel_rfl) Try.underlying22 _ rfl)⟩, ⟨by decide, Fd.mk' _ _ Try.underlying28 rfl rfl (Sz.mk' (by kernel_rfl) Try.underlying26 _ rfl)⟩, trivial⟩ ⟨(Value.agg #[.slice none 0 0, .bool false, .slice none 0 0]), [.slice none 0 0, .bool false, .slice none 0 0], by kernel_rfl, rfl, (fun _ _ => ⟨DR.raw _ rfl, DR.raw _ rfl, DR.nil _ _ _ (fun _ => rfl) (Nat.zero_le _), trivial⟩)⟩ ⟨_, Try.underlying28, ⟨⟨rfl, by kernel_rfl⟩, ⟨rfl, by kernel_rfl⟩, trivial⟩⟩,
  TyOk.slc Try.underlying38 (by kernel_rfl) ⟨(.slice none 0 0 : Value), [.slice none 0 0], by kernel_rfl, rfl, (fun _ _ => ⟨DR.raw _ rfl, trivial⟩)⟩,
  TyOk.slc Try.underlying39 (by kernel_rfl) ⟨(.slice none 0 0 : Value), [.slice none 0 0], by kernel_rfl, rfl, (fun _ _ => ⟨DR.raw _ rfl, trivial⟩)⟩,
  TyOk.int Try.underlying3 rfl (by kernel_rfl) ⟨(.int .i64 0 : Value), [.int .i64 0], by kernel_rfl, rfl, (fun _ _ => ⟨DR.raw _ rfl, trivial⟩)⟩,
  trivial⟩
theorem coef_plain (t : Term) (v : Int) : coefZ (plainT t).parts v = coefZ t.parts v := (plainT_parts t).2.2 v
theorem coef_add (s t : Term) (v : Int) : coefZ (addT s t).parts v = coefZ s.parts v + coefZ t.parts v := by
  unfold addT; rw [coef_plain, coefZ_app]
theorem coef_scale (t : Term) (q : ZI) (v : Int) : coefZ (scaleT t q).parts v = coefZ t.parts v * q.val := by
  unfold scaleT; rw [coef_plain]; exact coefZ_mul _ _ _
theorem coef_var (v w : Int) : coefZ (varT v).parts w = if v = w ∧ 0 ≤ w then 1 else 0 := by
  unfold varT; rw [coef_plain]; simp [oneT, coefZ, ZI.val_of]
theorem k_add (s t : Term) : (addT s t).k.val = s.k.val + t.k.val := by simp [addT, plainT, ZI.val_of]
theorem k_scale (t : Term) (q : ZI) : (scaleT t q).k.val = t.k.val * q.val := by simp [scaleT, plainT, mulT, ZI.val_of]
theorem k_var (v : Int) : (varT v).k.val = 0 := by simp only [varT, plainT, oneT, ZI.val_of]; rfl
theorem coef_num (k : ZI) (v : Int) : coefZ (numT k).parts v = 0 := rfl
theorem k_num (k : ZI) : (numT k).k.val = k.val := ZI.val_of _
theorem add_eq {s t u : Term} (h : ∀ v, coefZ s.parts v + coefZ t.parts v = coefZ u.parts v) (hk : s.k.val + t.k.val = u.k.val) : addT s t = plainT u := by
  refine plain_congr (fun v => ?_) ?_
  · rw [coefZ_app]; exact h v
  · rw [← hk]; exact ZI.val_of _
theorem of2 : plainT (ofT 3 [2]) = ofT 3 [2] := plainT_eq (by simp [ofT, ofP]) (by simp [ofT, ofP, ZI.val_of]) (fun v => rfl) (by simp [ofT, ZI.val_of])
theorem of11 : plainT (ofT 0 [1, 1]) = ofT 0 [1, 1] := plainT_eq (by simp [ofT, ofP]) (by simp [ofT, ofP, ZI.val_of]) (fun v => rfl) (by simp [ofT, ZI.val_of])
theorem of1 : plainT (ofT 0 [1]) = ofT 0 [1] := plainT_eq (by simp [ofT, ofP]) (by simp [ofT, ofP, ZI.val_of]) (fun v => rfl) (by simp [ofT, ZI.val_of])
theorem put1 : putZ (ofT 3 [2]) [0] [subT (varT 1) (numT (ZI.of 1))] = plainT (ofT 1 [0, 2]) := by
  have hp : pickT [0] [subT (varT 1) (numT (ZI.of 1))] 0 = subT (varT 1) (numT (ZI.of 1)) := pick_yes (k := 0) rfl rfl
  have e : putZ (ofT 3 [2]) [0] [subT (varT 1) (numT (ZI.of 1))] = addT (numT (ofT 3 [2]).k) (scaleT (subT (varT 1) (numT (ZI.of 1))) (ZI.of 2)) := by
    unfold putZ
    rw [of2]
    show putStep _ _ _ _ = _
    unfold putStep
    rw [show (Part.mk ((0 : Nat) : Int) (ZI.of 2)).v = 0 from rfl, hp]
  rw [e]
  refine add_eq (fun v => ?_) ?_
  · rw [coef_scale]
    unfold subT
    rw [coef_add, coef_scale, coef_var, coef_num, coef_num]
    simp only [ofT, ofP, coefZ, ZI.val_of]
    split <;> split <;> omega
  · rw [k_scale]
    unfold subT
    rw [k_add, k_scale, k_var, k_num, k_num]
    simp only [ofT, ZI.val_of]; omega
theorem put2 : putZ (ofT 0 [1, 1]) [0, 1] [varT 1, varT 0] = ofT 0 [1, 1] := by
  have h0 : pickT [0, 1] [varT 1, varT 0] 0 = varT 1 := pick_yes (k := 0) rfl rfl
  have h1 : pickT [0, 1] [varT 1, varT 0] 1 = varT 0 := pick_yes (k := 1) rfl rfl
  have e : putZ (ofT 0 [1, 1]) [0, 1] [varT 1, varT 0] = addT (addT (numT (ofT 0 [1, 1]).k) (scaleT (varT 1) (ZI.of 1))) (scaleT (varT 0) (ZI.of 1)) := by
    unfold putZ
    rw [of11]
    show putStep _ _ (putStep _ _ _ _) _ = _
    unfold putStep
    rw [show (Part.mk ((0 : Nat) : Int) (ZI.of 1)).v = 0 from rfl, show (Part.mk (((0 + 1 : Nat)) : Int) (ZI.of 1)).v = 1 from rfl, h0, h1]
  refine Eq.trans ?_ of11
  rw [e]
  refine add_eq (fun v => ?_) ?_
  · rw [coef_add, coef_scale, coef_scale, coef_var, coef_var, coef_num]
    simp only [ofT, ofP, coefZ, ZI.val_of]
    split <;> split <;> split <;> omega
  · rw [k_add, k_scale, k_scale, k_var, k_var, k_num]
    simp only [ofT, ZI.val_of]; omega
theorem put3 : movZ (ofT 0 [1]) (clampN 1) = plainT (ofT 0 [0, 1]) := by
  unfold movZ
  rw [of1]
  have e : ((ofT 0 [1]).parts.filter fun p => !isFar (clampN 1) p).map (movP (clampN 1)) = [⟨1, ZI.of 1⟩] := by
    have hc : clampN 1 = 1 := by decide
    rw [hc]
    simp [ofT, ofP, isFar, movP]
  rw [e]
  refine plain_congr (fun v => ?_) (by simp [ofT, ZI.val_of])
  simp only [ofT, ofP, coefZ, ZI.val_of]
  split <;> split <;> omega
theorem movZ_tok {m L : Nat} {t : Term} (h : TOk m L t) (hm : m ≤ 1000) (c : Int) : TOk m (L + 2) (movZ t c) :=
  (mov_ok h hm c _ (fun p hp => (List.mem_filter.1 hp).1) (List.length_filter_le _ _) _ (h.plain hm).kb (h.plain hm).kl).plain hm
theorem take1 {α : Type} {xs : List α} {x : α} (h : xs[0]? = some x) : xs.take 1 = [x] := by
  cases xs with
  | nil => cases h
  | cons y xs => injection h with h; subst h; rfl
set_option maxHeartbeats 4000000 in
set_option maxRecDepth 100000 in
theorem Sputting  : Fn Try.prog 20 [] [] (vb true) [] := by
  refine Fn.body Try.func20 rfl 35 rfl fun w H B a h => ?_
  refine rSeq ts_ok 5 [] [(0, vb false)] [] (by kernel_rfl) h ?_; clear h; intro a w h
  obtain ⟨r2, er2, vr2, or2, lr2⟩ := mkZ (v := 1) (m := 2) (ZI.len_of (by have := pw2; omega))
  refine rSeq ts_ok 5 [(0, .call (SVar 1) ts_0), (1, .call (Fn.cast (SROf 1 ⟨by omega, by omega⟩) (congrArg vz er2.symm)) ts_1), (2, .call (SNumber r2 or2 (by omega)) ts_2), (3, .call (STSub (varT 1) (numT r2) ((TOk.plain TOk.one (by decide)).mono (by decide) (by decide)) ((TOk.num (ZI.lb_of _) (Nat.le_trans (len_id or2) (by omega))).mono (by decide) (by decide))) ts_3)] [(0, vb false), (1, vp 5 0)] [(5, .box ([.d (.sl 3 ((subT (varT 1) (numT r2)).parts.map Part.d))] ++ zi (subT (varT 1) (numT r2)).k))] (by kernel_rfl) h ?_; clear h; intro a w h
  refine rSeqP ts_ok 6 [(0, .gen _ _ _ fun _ _ _ _ => Op.buildD (d := 6) (len := 1) (rows := [2].map intD) (rs := []) ts_4 (.cons (i := 0) (OV.const (.int .i64 2) rfl) (.nil)) (by kernel_rfl) rfl (by simp [intD]) (by decide) (by decide)), (1, .call (SofD 3 [2] (by decide) (by decide) (by decide)) ts_5), (3, .call (SPut (ofT 3 [2]) 0 (subT (varT 1) (numT r2)) (show PkOk _ from ((ofT_ok 3 [2] (by decide) (by decide) (by decide))).mono (by decide) (by decide)) (show PkOk _ from ((addT_ok ((TOk.plain TOk.one (by decide)).mono (Nat.le_refl 1) (show 3 ≤ 5 by decide)) (((TOk.mul (TOk.num (ZI.lb_of _) (Nat.le_trans (len_id or2) (by omega))) (ZI.lb_of _) (show (ZI.of (-1)).abs.length ≤ 2 from by decide)).plain (by decide)).mono (Nat.le_refl 0) (show 5 ≤ 5 by decide)) (by decide))).mono (by decide) (by decide))) ts_6), (4, .gen _ _ _ fun _ _ _ _ => Op.buildD (d := 10) (len := 2) (rows := [0, 2].map intD) (rs := []) ts_4 (.cons (i := 0) (OV.const (.int .i64 0) rfl) (.cons (i := 1) (OV.const (.int .i64 2) rfl) (.nil))) (by kernel_rfl) rfl (by simp [intD]) (by decide) (by decide)), (5, .call (SofD 1 [0, 2] (by decide) (by decide) (by decide)) ts_5), (6, .call (SRPlain' (ofT 1 [0, 2]) (ofT_ok 1 [0, 2] (by decide) (by decide) (by decide)) (by decide) (by decide)) ts_7), (7, .call (SRTSame2 (s := (putZ (ofT 3 [2]) [0] [(subT (varT 1) (numT r2))])) (t := (plainT (ofT 1 [0, 2]))) (by rw [er2]; exact put1) (n := 900) (L := 44) ((by rw [er2]; exact put1 : (putZ (ofT 3 [2]) [0] [(subT (varT 1) (numT r2))]) = (plainT (ofT 1 [0, 2]))) ▸ (putZ_tok (show PkOk _ from ((ofT_ok 3 [2] (by decide) (by decide) (by decide))).mono (by decide) (by decide)) (fun x hx => by rw [List.mem_singleton.1 hx]; exact (show PkOk _ from ((addT_ok ((TOk.plain TOk.one (by decide)).mono (Nat.le_refl 1) (show 3 ≤ 5 by decide)) (((TOk.mul (TOk.num (ZI.lb_of _) (Nat.le_trans (len_id or2) (by omega))) (ZI.lb_of _) (show (ZI.of (-1)).abs.length ≤ 2 from by decide)).plain (by decide)).mono (Nat.le_refl 0) (show 5 ≤ 5 by decide)) (by decide))).mono (by decide) (by decide))))) (by decide)) ts_8), (9, .gen _ _ _ fun _ _ _ _ => Op.buildD (d := 15) (len := 2) (rows := [1, 1].map intD) (rs := []) ts_4 (.cons (i := 0) (OV.const (.int .i64 1) rfl) (.cons (i := 1) (OV.const (.int .i64 1) rfl) (.nil))) (by kernel_rfl) rfl (by simp [intD]) (by decide) (by decide)), (10, .call (SofD 0 [1, 1] (by decide) (by decide) (by decide)) ts_5), (11, .gen _ _ _ fun _ _ _ _ => Op.buildD (d := 17) (len := 2) (rows := [0, 1].map intD) (rs := []) ts_9 (.cons (i := 0) (OV.const (.int .i64 0) rfl) (.cons (i := 1) (OV.const (.int .i64 1) rfl) (.nil))) (by kernel_rfl) rfl (by simp [intD]) (by decide) (by decide)), (12, .call (SVar 1) ts_0), (13, .call (SVar 0) ts_0), (14, .gen _ _ _ fun _ _ _ _ => Op.buildD (d := 20) (len := 2) (rows := [(varT 1), (varT 0)].map Term.d) (rs := [(18, .t (.agg ([.d (.sl 3 ((varT 1).parts.map Part.d))] ++ zi (varT 1).k))), (19, .t (.agg ([.d (.sl 3 ((varT 0).parts.map Part.d))] ++ zi (varT 0).k)))]) ts_10 (.cons (i := 0) (OV.tmp 18 _) (.cons (i := 1) (OV.tmp 19 _) (.nil))) (by kernel_rfl) rfl (by simp [Term.d]) (by decide) (by decide)), (15, .call (SPutAll (ofT 0 [1, 1]) [0, 1] [(varT 1), (varT 0)] (show PkOk _ from ((ofT_ok 0 [1, 1] (by decide) (by decide) (by decide))).mono (by decide) (by decide)) (fun x hx => by
      rcases List.mem_cons.1 hx with rfl | hx
      · exact (show PkOk _ from ((TOk.plain TOk.one (by decide))).mono (by decide) (by decide))
      · rw [List.mem_singleton.1 hx]; exact (show PkOk _ from ((TOk.plain TOk.one (by decide))).mono (by decide) (by decide))) (by simp <;> omega) (by simp <;> omega)) ts_11), (16, .gen _ _ _ fun _ _ _ _ => Op.buildD (d := 22) (len := 2) (rows := [1, 1].map intD) (rs := []) ts_4 (.cons (i := 0) (OV.const (.int .i64 1) rfl) (.cons (i := 1) (OV.const (.int .i64 1) rfl) (.nil))) (by kernel_rfl) rfl (by simp [intD]) (by decide) (by decide)), (17, .call (SofD 0 [1, 1] (by decide) (by decide) (by decide)) ts_5), (18, .call (SRTSame2 (s := (putZ (ofT 0 [1, 1]) [0, 1] [(varT 1), (varT 0)])) (t := (ofT 0 [1, 1])) (put2) (n := 900) (L := 44) ((put2 : (putZ (ofT 0 [1, 1]) [0, 1] [(varT 1), (varT 0)]) = (ofT 0 [1, 1])) ▸ (putZ_tok (show PkOk _ from ((ofT_ok 0 [1, 1] (by decide) (by decide) (by decide))).mono (by decide) (by decide)) (fun x hx => by
      rcases List.mem_cons.1 hx with rfl | hx
      · exact (show PkOk _ from ((TOk.plain TOk.one (by decide))).mono (by decide) (by decide))
      · rw [List.mem_singleton.1 hx]; exact (show PkOk _ from ((TOk.plain TOk.one (by decide))).mono (by decide) (by decide))))) (by decide)) ts_8), (21, .gen _ _ _ fun _ _ _ _ => Op.buildD (d := 27) (len := 1) (rows := [1].map intD) (rs := []) ts_4 (.cons (i := 0) (OV.const (.int .i64 1) rfl) (.nil)) (by kernel_rfl) rfl (by simp [intD]) (by decide) (by decide)), (22, .call (SofD 0 [1] (by decide) (by decide) (by decide)) ts_5), (23, .call (SMove (ofT 0 [1]) 1 (ofT_ok 0 [1] (by decide) (by decide) (by decide)) (by decide) (by decide)) ts_12), (24, .gen _ _ _ fun _ _ _ _ => Op.buildD (d := 30) (len := 2) (rows := [0, 1].map intD) (rs := []) ts_4 (.cons (i := 0) (OV.const (.int .i64 0) rfl) (.cons (i := 1) (OV.const (.int .i64 1) rfl) (.nil))) (by kernel_rfl) rfl (by simp [intD]) (by decide) (by decide)), (25, .call (SofD 0 [0, 1] (by decide) (by decide) (by decide)) ts_5), (26, .call (SRPlain' (ofT 0 [0, 1]) (ofT_ok 0 [0, 1] (by decide) (by decide) (by decide)) (by decide) (by decide)) ts_7), (27, .call (SRTSame2 (s := (movZ (ofT 0 [1]) (clampN 1))) (t := (plainT (ofT 0 [0, 1]))) (put3) (n := 10) (L := 12) ((put3 : (movZ (ofT 0 [1]) (clampN 1)) = (plainT (ofT 0 [0, 1]))) ▸ (movZ_tok (ofT_ok 0 [1] (by decide) (by decide) (by decide)) (by decide) _)) (by decide)) ts_8)] [(0, vb true)] [] (by kernel_rfl) (by kernel_rfl) (by kernel_rfl) (by kernel_rfl) (by kernel_rfl) (by kernel_rfl) (by kernel_rfl) h ?_; clear h; intro a w h
  refine wp_ret ?_
  refine retS [.c (.d (.raw (.bool true)))] h Exit.ret (.inl rfl)  rfl ⟨RV.tmp _ _ rfl, trivial⟩ ?_ (by kernel_rfl) (by kernel_rfl)
  rfl
set_option maxHeartbeats 4000000 in
set_option maxRecDepth 100000 in
theorem STermPuts (t : Term) (vs : List Int) (bys : List Term) (n : Int) (fa fb : Bool) (hfa : fa = true ↔ ∀ t_ ∈ [t], Few1 t_) (hfb : fb = true ↔ ∀ t_ ∈ bys, Few1 t_) (ht : TLb t) (hb : ∀ b ∈ bys, TLb b) (hl2 : bys.length ≤ 9223372036854775807) : Fn Try.prog 4 [] [.t (.agg ([.d (.sl 3 (t.parts.map Part.d))] ++ zi t.k)), .t (.c (.d (.sl 1 (vs.map intD)))), .t (.c (.d (.sl 3 (bys.map Term.d)))), vi .i64 n] (vb true) [] := by
  refine Fn.body Try.func4 rfl 74 rfl fun w H B a h => ?_
  refine rSeq ts_ok 5 [] [(1, .t (.c (.d (.sl 1 (vs.map intD))))), (2, .t (.c (.d (.sl 3 (bys.map Term.d))))), (3, vi .i64 n), (4, vp 5 0), (8, vb false)] [(5, .box ([.d (.sl 3 (t.parts.map Part.d))] ++ zi t.k))] (by kernel_rfl) h ?_; clear h; intro a w h
  refine wp_seq ?_
  refine rSeq ts_ok 6 [(0, .call (Sputting) ts_13)] [(1, .t (.c (.d (.sl 1 (vs.map intD))))), (2, .t (.c (.d (.sl 3 (bys.map Term.d))))), (3, vi .i64 n), (4, vp 5 0), (8, vb false), (10, vb false)] [(5, .box ([.d (.sl 3 (t.parts.map Part.d))] ++ zi t.k))] (by kernel_rfl) h ?_; clear h; intro a w h
  refine condS false h rfl (fun hc => ?_) (fun hc => ?_)
  · cases hc
  · clear hc
    refine wp_skip ?_
    refine then_n ?_
    refine wp_seq ?_
    rcases Bool.eq_false_or_eq_true fa with hc | hc
    · have hc1 := hc; clear hc
      have hta : PkOk t := ht.few (hfa.1 hc1 t (by simp))
      rcases Bool.eq_false_or_eq_true fb with hc | hc
      · have hc2 := hc; clear hc
        have hbb : ∀ b ∈ bys, PkOk b := fun b hb2 => (hb b hb2).few (hfb.1 hc2 b hb2)
        rcases Bool.eq_false_or_eq_true (decide ((vs.length : Int) > 8)) with hc | hc
        · have hc3 := hc; clear hc
          have hc3' := of_decide_eq_true hc3
          refine rSeq ts_ok 6 [(1, .gen _ _ _ fun _ _ _ _ => Op.buildD (d := 12) (len := 1) (rows := [t].map Term.d) (rs := [(11, .t (.agg ([.d (.sl 3 (t.parts.map Part.d))] ++ zi t.k)))]) ts_10 (.cons (i := 0) (OV.tmp 11 _) (.nil)) (by kernel_rfl) rfl (by simp [Term.d]) (by decide) (by decide)), (2, .call (Fn.cast (Sfew [t] fa hfa (by simp)) (congrArg vb hc1)) ts_14), (6, .call (Fn.cast (Sfew bys fb hfb hl2) (congrArg vb hc2)) ts_14), (11, .len (c := (.d (.sl 1 (vs.map intD)))) (n := vs.length) (lenC_map _ _ _)), (12, .cmp (op := .gtr) (m := (vs.length : Int)) (n := 8) (b := true) .i64 hc3)] [(1, .t (.c (.d (.sl 1 (vs.map intD))))), (2, .t (.c (.d (.sl 3 (bys.map Term.d))))), (3, vi .i64 n), (4, vp 5 0), (8, vb false), (29, vb true)] [(5, .box ([.d (.sl 3 (t.parts.map Part.d))] ++ zi t.k))] (by kernel_rfl) h ?_; clear h; intro a w h
          refine condS true h rfl (fun hc => ?_) (fun hc => ?_)
          · clear hc
            refine rSeq ts_ok 6 [] [(1, .t (.c (.d (.sl 1 (vs.map intD))))), (2, .t (.c (.d (.sl 3 (bys.map Term.d))))), (3, vi .i64 n), (4, vp 5 0), (8, vb true)] [(5, .box ([.d (.sl 3 (t.parts.map Part.d))] ++ zi t.k))] (by kernel_rfl) h ?_; clear h; intro a w h
            refine wp_ret ?_
            refine then_r ?_
            refine retS [.c (.d (.raw (.bool true)))] h Exit.ret (.inl rfl)  rfl ⟨RV.tmp _ _ rfl, trivial⟩ ?_ (by kernel_rfl) (by kernel_rfl)
            rfl
          · cases hc
        · have hc4 := hc; clear hc
          have hc4' := of_decide_eq_false hc4
          refine rSeq ts_ok 6 [(1, .gen _ _ _ fun _ _ _ _ => Op.buildD (d := 12) (len := 1) (rows := [t].map Term.d) (rs := [(11, .t (.agg ([.d (.sl 3 (t.parts.map Part.d))] ++ zi t.k)))]) ts_10 (.cons (i := 0) (OV.tmp 11 _) (.nil)) (by kernel_rfl) rfl (by simp [Term.d]) (by decide) (by decide)), (2, .call (Fn.cast (Sfew [t] fa hfa (by simp)) (congrArg vb hc1)) ts_14), (6, .call (Fn.cast (Sfew bys fb hfb hl2) (congrArg vb hc2)) ts_14), (11, .len (c := (.d (.sl 1 (vs.map intD)))) (n := vs.length) (lenC_map _ _ _)), (12, .cmp (op := .gtr) (m := (vs.length : Int)) (n := 8) (b := false) .i64 hc4), (16, .len (c := (.d (.sl 3 (bys.map Term.d)))) (n := bys.length) (lenC_map _ _ _))] [(1, .t (.c (.d (.sl 1 (vs.map intD))))), (2, .t (.c (.d (.sl 3 (bys.map Term.d))))), (3, vi .i64 n), (4, vp 5 0), (8, vb false), (29, vb (decide ((bys.length : Int) > 8)))] [(5, .box ([.d (.sl 3 (t.parts.map Part.d))] ++ zi t.k))] (by kernel_rfl) h ?_; clear h; intro a w h
          refine condS (decide ((bys.length : Int) > 8)) h rfl (fun hc => ?_) (fun hc => ?_)
          · have hc5 := hc; clear hc
            have hc5' := of_decide_eq_true hc5
            refine rSeq ts_ok 6 [] [(1, .t (.c (.d (.sl 1 (vs.map intD))))), (2, .t (.c (.d (.sl 3 (bys.map Term.d))))), (3, vi .i64 n), (4, vp 5 0), (8, vb true)] [(5, .box ([.d (.sl 3 (t.parts.map Part.d))] ++ zi t.k))] (by kernel_rfl) h ?_; clear h; intro a w h
            refine wp_ret ?_
            refine then_r ?_
            refine retS [.c (.d (.raw (.bool true)))] h Exit.ret (.inl rfl)  rfl ⟨RV.tmp _ _ rfl, trivial⟩ ?_ (by kernel_rfl) (by kernel_rfl)
            rfl
          · have hc6 := hc; clear hc
            have hc6' := of_decide_eq_false hc6
            refine wp_skip ?_
            refine then_n ?_
            refine wp_seq ?_
            rcases Bool.eq_false_or_eq_true (decide ((vs.length : Int) > 0)) with hc | hc
            · have hc7 := hc; clear hc
              have hc7' := of_decide_eq_true hc7
              rcases Bool.eq_false_or_eq_true (decide ((bys.length : Int) > 0)) with hc | hc
              · have hc8 := hc; clear hc
                have hc8' := of_decide_eq_true hc8
                obtain ⟨x11, hx11⟩ : ∃ z_ : Int, vs[0]? = some z_ := ⟨_, List.getElem?_eq_getElem (by first | omega | (simp at *; omega))⟩
                obtain ⟨x12, hx12⟩ : ∃ z_ : Term, bys[0]? = some z_ := ⟨_, List.getElem?_eq_getElem (by first | omega | (simp at *; omega))⟩
                refine rSeq ts_ok 6 [(1, .len (c := (.d (.sl 1 (vs.map intD)))) (n := vs.length) (lenC_map _ _ _)), (2, .cmp (op := .gtr) (m := (vs.length : Int)) (n := 0) (b := true) .i64 hc7), (5, .len (c := (.d (.sl 3 (bys.map Term.d)))) (n := bys.length) (lenC_map _ _ _)), (6, .cmp (op := .gtr) (m := (bys.length : Int)) (n := 0) (b := true) .i64 hc8), (11, .gen _ _ _ fun _ _ _ _ => Op.idxD (d := 41) (t := 40) (k := .i64) ts_15 (map_at hx11 (f := intD)) (OV.const (.int .i64 0) rfl)), (14, .gen _ _ _ fun _ _ _ _ => Op.idxD (d := 44) (t := 43) (k := .i64) ts_16 (map_at hx12 (f := Term.d)) (OV.const (.int .i64 0) rfl)), (16, .call (SPut t x11 x12 hta (hbb x12 (List.mem_of_getElem? hx12))) ts_6), (19, .gen _ _ _ fun _ _ _ _ => Op.sliceD (d := 49) (t := 48) (l := 0) (h := 1) (rows := vs.map intD) (rows' := (vs.take 1).map intD) ts_15 (BO.no _) (BO.yes _ (OV.const (.int .i64 1) rfl)) (by first | omega | (simp at *; omega)) (by first | omega | (simp only [List.length_map]; omega) | (simp at *; omega)) (by simp [List.map_take])), (21, .gen _ _ _ fun _ _ _ _ => Op.sliceD (d := 51) (t := 50) (l := 0) (h := 1) (rows := bys.map Term.d) (rows' := (bys.take 1).map Term.d) ts_16 (BO.no _) (BO.yes _ (OV.const (.int .i64 1) rfl)) (by first | omega | (simp at *; omega)) (by first | omega | (simp only [List.length_map]; omega) | (simp at *; omega)) (by simp [List.map_take])), (22, .call (SRPutAll t (vs.take 1) (bys.take 1) hta (fun x hx => hbb x (List.mem_of_mem_take hx)) (by first | omega | (rw [List.length_take]; omega)) (by first | omega | (rw [List.length_take]; omega))) ts_17), (23, .call (SLSame2 (s := (putZ t [x11] [x12])) (t := (putZ t (vs.take 1) (bys.take 1))) (by rw [take1 hx11, take1 hx12]) ((putZ_bd hta (fun x hx => hbb x (List.mem_of_mem_take hx))).pl) (n := 900) (L := 44) (putZ_tok hta (fun x hx => by rw [List.mem_singleton.1 hx]; exact (hbb x12 (List.mem_of_getElem? hx12)))) (by decide) (by decide)) ts_18)] [(1, .t (.c (.d (.sl 1 (vs.map intD))))), (2, .t (.c (.d (.sl 3 (bys.map Term.d))))), (3, vi .i64 n), (4, vp 5 0), (8, vb false), (55, vb false)] [(5, .box ([.d (.sl 3 (t.parts.map Part.d))] ++ zi t.k))] (by kernel_rfl) h ?_; clear h; intro a w h
                refine condS false h rfl (fun hc => ?_) (fun hc => ?_)
                · cases hc
                · clear hc
                  refine wp_skip ?_
                  refine then_n ?_
                  refine rSeq ts_ok 6 [(3, .call (SPutAll t vs bys hta hbb (by first | omega | (rw [List.length_take]; omega)) (by first | omega | (rw [List.length_take]; omega))) ts_11), (7, .call (SRPutAll t vs bys hta hbb (by first | omega | (rw [List.length_take]; omega)) (by first | omega | (rw [List.length_take]; omega))) ts_17), (8, .call (SLSame2 (s := (putZ t vs bys)) (t := (putZ t vs bys)) (rfl) ((putZ_bd hta hbb).pl) (n := 900) (L := 44) (putZ_tok hta hbb) (by decide) (by decide)) ts_18), (12, .call (SMove t n hta (by decide) (by decide)) ts_12), (15, .call (SRMove t n hta (by decide) (by decide)) ts_19), (16, .call (SLSame2 (s := (movZ t (clampN n))) (t := (movZ t (clampN n))) (rfl) (plain_idem _) (n := 30) (L := 22) (movZ_tok hta (by decide) _) (by decide) (by decide)) ts_18)] [(8, vb true)] [] (by kernel_rfl) h ?_; clear h; intro a w h
                  refine wp_ret ?_
                  refine retS [.c (.d (.raw (.bool true)))] h Exit.ret (.inl rfl)  rfl ⟨RV.tmp _ _ rfl, trivial⟩ ?_ (by kernel_rfl) (by kernel_rfl)
                  rfl
              · have hc9 := hc; clear hc
                have hc9' := of_decide_eq_false hc9
                refine rSeq ts_ok 6 [(1, .len (c := (.d (.sl 1 (vs.map intD)))) (n := vs.length) (lenC_map _ _ _)), (2, .cmp (op := .gtr) (m := (vs.length : Int)) (n := 0) (b := true) .i64 hc7), (5, .len (c := (.d (.sl 3 (bys.map Term.d)))) (n := bys.length) (lenC_map _ _ _)), (6, .cmp (op := .gtr) (m := (bys.length : Int)) (n := 0) (b := false) .i64 hc9)] [(1, .t (.c (.d (.sl 1 (vs.map intD))))), (2, .t (.c (.d (.sl 3 (bys.map Term.d))))), (3, vi .i64 n), (4, vp 5 0), (8, vb false), (55, vb false)] [(5, .box ([.d (.sl 3 (t.parts.map Part.d))] ++ zi t.k))] (by kernel_rfl) h ?_; clear h; intro a w h
                refine condS false h rfl (fun hc => ?_) (fun hc => ?_)
                · cases hc
                · clear hc
                  refine wp_skip ?_
                  refine then_n ?_
                  refine rSeq ts_ok 6 [(3, .call (SPutAll t vs bys hta hbb (by first | omega | (rw [List.length_take]; omega)) (by first | omega | (rw [List.length_take]; omega))) ts_11), (7, .call (SRPutAll t vs bys hta hbb (by first | omega | (rw [List.length_take]; omega)) (by first | omega | (rw [List.length_take]; omega))) ts_17), (8, .call (SLSame2 (s := (putZ t vs bys)) (t := (putZ t vs bys)) (rfl) ((putZ_bd hta hbb).pl) (n := 900) (L := 44) (putZ_tok hta hbb) (by decide) (by decide)) ts_18), (12, .call (SMove t n hta (by decide) (by decide)) ts_12), (15, .call (SRMove t n hta (by decide) (by decide)) ts_19), (16, .call (SLSame2 (s := (movZ t (clampN n))) (t := (movZ t (clampN n))) (rfl) (plain_idem _) (n := 30) (L := 22) (movZ_tok hta (by decide) _) (by decide) (by decide)) ts_18)] [(8, vb true)] [] (by kernel_rfl) h ?_; clear h; intro a w h
                  refine wp_ret ?_
                  refine retS [.c (.d (.raw (.bool true)))] h Exit.ret (.inl rfl)  rfl ⟨RV.tmp _ _ rfl, trivial⟩ ?_ (by kernel_rfl) (by kernel_rfl)
                  rfl
            · have hc10 := hc; clear hc
              have hc10' := of_decide_eq_false hc10
              refine rSeq ts_ok 6 [(1, .len (c := (.d (.sl 1 (vs.map intD)))) (n := vs.length) (lenC_map _ _ _)), (2, .cmp (op := .gtr) (m := (vs.length : Int)) (n := 0) (b := false) .i64 hc10)] [(1, .t (.c (.d (.sl 1 (vs.map intD))))), (2, .t (.c (.d (.sl 3 (bys.map Term.d))))), (3, vi .i64 n), (4, vp 5 0), (8, vb false), (55, vb false)] [(5, .box ([.d (.sl 3 (t.parts.map Part.d))] ++ zi t.k))] (by kernel_rfl) h ?_; clear h; intro a w h
              refine condS false h rfl (fun hc => ?_) (fun hc => ?_)
              · cases hc
              · clear hc
                refine wp_skip ?_
                refine then_n ?_
                refine rSeq ts_ok 6 [(3, .call (SPutAll t vs bys hta hbb (by first | omega | (rw [List.length_take]; omega)) (by first | omega | (rw [List.length_take]; omega))) ts_11), (7, .call (SRPutAll t vs bys hta hbb (by first | omega | (rw [List.length_take]; omega)) (by first | omega | (rw [List.length_take]; omega))) ts_17), (8, .call (SLSame2 (s := (putZ t vs bys)) (t := (putZ t vs bys)) (rfl) ((putZ_bd hta hbb).pl) (n := 900) (L := 44) (putZ_tok hta hbb) (by decide) (by decide)) ts_18), (12, .call (SMove t n hta (by decide) (by decide)) ts_12), (15, .call (SRMove t n hta (by decide) (by decide)) ts_19), (16, .call (SLSame2 (s := (movZ t (clampN n))) (t := (movZ t (clampN n))) (rfl) (plain_idem _) (n := 30) (L := 22) (movZ_tok hta (by decide) _) (by decide) (by decide)) ts_18)] [(8, vb true)] [] (by kernel_rfl) h ?_; clear h; intro a w h
                refine wp_ret ?_
                refine retS [.c (.d (.raw (.bool true)))] h Exit.ret (.inl rfl)  rfl ⟨RV.tmp _ _ rfl, trivial⟩ ?_ (by kernel_rfl) (by kernel_rfl)
                rfl
      · have hc11 := hc; clear hc
        refine rSeq ts_ok 6 [(1, .gen _ _ _ fun _ _ _ _ => Op.buildD (d := 12) (len := 1) (rows := [t].map Term.d) (rs := [(11, .t (.agg ([.d (.sl 3 (t.parts.map Part.d))] ++ zi t.k)))]) ts_10 (.cons (i := 0) (OV.tmp 11 _) (.nil)) (by kernel_rfl) rfl (by simp [Term.d]) (by decide) (by decide)), (2, .call (Fn.cast (Sfew [t] fa hfa (by simp)) (congrArg vb hc1)) ts_14), (6, .call (Fn.cast (Sfew bys fb hfb hl2) (congrArg vb hc11)) ts_14)] [(1, .t (.c (.d (.sl 1 (vs.map intD))))), (2, .t (.c (.d (.sl 3 (bys.map Term.d))))), (3, vi .i64 n), (4, vp 5 0), (8, vb false), (29, vb true)] [(5, .box ([.d (.sl 3 (t.parts.map Part.d))] ++ zi t.k))] (by kernel_rfl) h ?_; clear h; intro a w h
        refine condS true h rfl (fun hc => ?_) (fun hc => ?_)
        · clear hc
          refine rSeq ts_ok 6 [] [(1, .t (.c (.d (.sl 1 (vs.map intD))))), (2, .t (.c (.d (.sl 3 (bys.map Term.d))))), (3, vi .i64 n), (4, vp 5 0), (8, vb true)] [(5, .box ([.d (.sl 3 (t.parts.map Part.d))] ++ zi t.k))] (by kernel_rfl) h ?_; clear h; intro a w h
          refine wp_ret ?_
          refine then_r ?_
          refine retS [.c (.d (.raw (.bool true)))] h Exit.ret (.inl rfl)  rfl ⟨RV.tmp _ _ rfl, trivial⟩ ?_ (by kernel_rfl) (by kernel_rfl)
          rfl
        · cases hc
    · have hc12 := hc; clear hc
      refine rSeq ts_ok 6 [(1, .gen _ _ _ fun _ _ _ _ => Op.buildD (d := 12) (len := 1) (rows := [t].map Term.d) (rs := [(11, .t (.agg ([.d (.sl 3 (t.parts.map Part.d))] ++ zi t.k)))]) ts_10 (.cons (i := 0) (OV.tmp 11 _) (.nil)) (by kernel_rfl) rfl (by simp [Term.d]) (by decide) (by decide)), (2, .call (Fn.cast (Sfew [t] fa hfa (by simp)) (congrArg vb hc12)) ts_14)] [(1, .t (.c (.d (.sl 1 (vs.map intD))))), (2, .t (.c (.d (.sl 3 (bys.map Term.d))))), (3, vi .i64 n), (4, vp 5 0), (8, vb false), (29, vb true)] [(5, .box ([.d (.sl 3 (t.parts.map Part.d))] ++ zi t.k))] (by kernel_rfl) h ?_; clear h; intro a w h
      refine condS true h rfl (fun hc => ?_) (fun hc => ?_)
      · clear hc
        refine rSeq ts_ok 6 [] [(1, .t (.c (.d (.sl 1 (vs.map intD))))), (2, .t (.c (.d (.sl 3 (bys.map Term.d))))), (3, vi .i64 n), (4, vp 5 0), (8, vb true)] [(5, .box ([.d (.sl 3 (t.parts.map Part.d))] ++ zi t.k))] (by kernel_rfl) h ?_; clear h; intro a w h
        refine wp_ret ?_
        refine then_r ?_
        refine retS [.c (.d (.raw (.bool true)))] h Exit.ret (.inl rfl)  rfl ⟨RV.tmp _ _ rfl, trivial⟩ ?_ (by kernel_rfl) (by kernel_rfl)
        rfl
      · cases hc
theorem STermPutsL (t : Term) (vs : List Int) (bys : List Term) (n : Int) (ht : TLb t) (hb : bys.length ≤ maxLen ∧ ∀ b ∈ bys, TLb b) : Fn Try.prog 4 [] [vd t.d, .t (.c (.d (.sl 1 (vs.map intD)))), .t (.c (.d (.sl 3 (bys.map Term.d)))), vi .i64 n] (vb true) [] := by
  have key : ∀ ts : List Term, ∃ f : Bool, f = true ↔ ∀ t_ ∈ ts, Few1 t_ := fun ts => by
    by_cases h : ∀ t_ ∈ ts, Few1 t_
    · exact ⟨true, fun _ => h, fun _ => rfl⟩
    · exact ⟨false, fun e => (by cases e), fun e => absurd e h⟩
  obtain ⟨fa, h1⟩ := key [t]
  obtain ⟨fb, h2⟩ := key bys
  exact STermPuts t vs bys n fa fb h1 h2 ht hb.2 (by have := hb.1; simp only [maxLen] at this; omega)
end Go.Proofs.Ytekhnajfdaknnaa.S
