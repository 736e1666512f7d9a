/-
  Terms: sums are those of the reference.
-/
import Derived.Test.YtekhnajfdaknnaaTn
import Derived.Test.YtekhnajfdaknnaaFr
namespace Go.Proofs.Ytekhnajfdaknnaa.S
open Go.RowKit

theorem to_0 : Bodied Try.prog 26 := Bodied.mk' (by kernel_rfl)
theorem to_1 : ElZ Try.prog 65 2 1 := ElZ.mk' Try.underlying65 _ _ rfl rfl (by kernel_rfl) (by kernel_rfl) (by kernel_rfl) (by decide)
theorem to_2 : Bodied Try.prog 27 := Bodied.mk' (by kernel_rfl)
theorem to_3 : ElT Try.prog 22 47 3 40 := ElT.mk' Try.underlying22 _ _ rfl rfl (by kernel_rfl) (by kernel_rfl) (by kernel_rfl) (by decide) (by decide)
theorem to_4 : Bodied Try.prog 8 := Bodied.mk' (by kernel_rfl)
theorem to_5 : Bodied Try.prog 7 := Bodied.mk' (by kernel_rfl)
theorem to_6 : Bodied Try.prog 17 := Bodied.mk' (by kernel_rfl)
theorem to_7 : Bodied Try.prog 18 := Bodied.mk' (by kernel_rfl)
theorem to_8 : Bodied Try.prog 10 := Bodied.mk' (by kernel_rfl)
theorem to_9 : Bodied Try.prog 12 := Bodied.mk' (by kernel_rfl)
theorem to_10 : Bodied Try.prog 14 := Bodied.mk' (by kernel_rfl)
theorem to_11 : Bodied Try.prog 16 := Bodied.mk' (by kernel_rfl)
theorem to_12 : Bodied Try.prog 5 := Bodied.mk' (by kernel_rfl)
theorem to_13 : ElZ Try.prog 39 28 3 := ElZ.mk' Try.underlying39 _ _ rfl rfl (by kernel_rfl) (by kernel_rfl) (by kernel_rfl) (by decide)
theorem to_14 : Bodied Try.prog 6 := Bodied.mk' (by kernel_rfl)
theorem to_15 : Bodied Try.prog 9 := Bodied.mk' (by kernel_rfl)
theorem to_16 : Bodied Try.prog 11 := Bodied.mk' (by kernel_rfl)
theorem to_17 : Bodied Try.prog 13 := Bodied.mk' (by kernel_rfl)
theorem to_18 : Bodied Try.prog 15 := Bodied.mk' (by kernel_rfl)
theorem to_19 : Bodied Try.prog 19 := Bodied.mk' (by kernel_rfl)
def to_tb : Tb := [(22, ⟨1, false, [], [.d (.raw nilV)], 1⟩), (4, ⟨1, false, [], [.d (.raw (.bool false))], 3⟩), (24, ⟨1, false, [], [.d (nsl [])], 1⟩), (26, ⟨2, true, [(0, 1, false), (1, 1, false)], [.d (.raw (.bool false)), .d (nsl [])], 0⟩), (28, ⟨3, true, [(0, 1, false), (1, 2, true)], [.d (.raw nilV), .d (.raw (.bool false)), .d (nsl [])], 0⟩)]
theorem to_ok : TbOk Try.prog to_tb := ⟨TyOk.slc Try.underlying22 (by kernel_rfl) ⟨(.slice none 0 0 : Value), [.slice none 0 0], by kernel_rfl, rfl, (fun _ _ => ⟨DR.raw _ rfl, trivial⟩)⟩,
  TyOk.bl Try.underlying4 (by kernel_rfl) ⟨(.bool false : Value), [.bool false], by kernel_rfl, rfl, (fun _ _ => ⟨DR.raw _ rfl, trivial⟩)⟩,
  TyOk.slc Try.underlying24 (by kernel_rfl) ⟨(.slice none 0 0 : Value), [.slice none 0 0], by kernel_rfl, rfl, (fun _ _ => ⟨DR.nil _ _ _ (fun _ => rfl) (Nat.zero_le _), trivial⟩)⟩,
  TyOk.st Try.underlying26 (by kernel_rfl) ⟨⟨by decide, Fd.mk' _ _ Try.underlying26 rfl rfl (Sz.mk' (by kernel_rfl) Try.underlying4 _ rfl)⟩, ⟨by decide, Fd.mk' _ _ Try.underlying26 rfl rfl (Sz.mk' (by kernel_rfl) Try.underlying24 _ rfl)⟩, trivial⟩ ⟨(Value.agg #[.bool false, .slice none 0 0]), [.bool false, .slice none 0 0], by kernel_rfl, rfl, (fun _ _ => ⟨DR.raw _ rfl, DR.nil _ _ _ (fun _ => rfl) (Nat.zero_le _), trivial⟩)⟩ ⟨_, Try.underlying26, ⟨⟨rfl, by kernel_rfl⟩, ⟨rfl, by kernel_rfl⟩, trivial⟩⟩,
  TyOk.st Try.underlying28 (by kernel_rfl) ⟨⟨by decide, Fd.mk' _ _ Try.underlying28 rfl rfl (Sz.mk' (by kernel_rfl) Try.underlying22 _ rfl)⟩, ⟨by decide, Fd.mk' _ _ Try.underlying28 rfl rfl (Sz.mk' (by kernel_rfl) Try.underlying26 _ rfl)⟩, trivial⟩ ⟨(Value.agg #[.slice none 0 0, .bool false, .slice none 0 0]), [.slice none 0 0, .bool false, .slice none 0 0], by kernel_rfl, rfl, (fun _ _ => ⟨DR.raw _ rfl, DR.raw _ rfl, DR.nil _ _ _ (fun _ => rfl) (Nat.zero_le _), trivial⟩)⟩ ⟨_, Try.underlying28, ⟨⟨rfl, by kernel_rfl⟩, ⟨rfl, by kernel_rfl⟩, trivial⟩⟩,
  trivial⟩
theorem sum1 : plainT ⟨ofP [1, 2] 0 ++ (ofT 0 [1]).parts, ⟨false, []⟩⟩ = ofT 0 [2, 2] := by
  refine plainT_eq (by simp [ofT, ofP]) (by simp [ofT, ofP, ZI.val_of]) (fun v => ?_) rfl
  simp only [ofT, ofP, coefZ, List.cons_append, List.nil_append, ZI.val_of]
  split <;> split <;> omega
theorem sum2 : varT 0 = ofT 0 [1] := by
  refine plainT_eq (by simp [ofT, ofP]) (by simp [ofT, ofP, ZI.val_of]) (fun v => ?_) rfl
  simp only [ofT, ofP, coefZ, oneT, ZI.val_of]; rfl
theorem sum3 : numT (ZI.of 4) = ofT 4 [] := by simp [numT, ofT, ofP, ZI.val_of]
theorem sum4 : addT (varT 0) (ofT 3 [1]) = ofT 3 [2] := by
  rw [sum2]
  refine plainT_eq (by simp [ofT, ofP]) (by simp [ofT, ofP, ZI.val_of]) (fun v => ?_) (by simp [ofT, ZI.val_of])
  simp only [ofT, ofP, coefZ, List.cons_append, List.nil_append, ZI.val_of]
  split <;> omega
theorem sum6 : scaleT (ofT 3 [1]) (ZI.of 2) = ofT 6 [2] := by
  refine plainT_eq (by simp [ofT, ofP]) (by simp [ofT, ofP, ZI.val_of]) (fun v => ?_) (by simp [ofT, mulT, ZI.val_of])
  simp only [ofT, ofP, mulT, coefZ, List.map_cons, List.map_nil, ZI.val_of]; rfl
theorem sum5 : subT (varT 0) (ofT 3 [1]) = ofT (-3) [] := by
  have h : scaleT (ofT 3 [1]) (ZI.of (-1)) = ofT (-3) [-1] := by
    refine plainT_eq (by simp [ofT, ofP]) (by simp [ofT, ofP, ZI.val_of]) (fun v => ?_) (by simp [ofT, mulT, ZI.val_of])
    simp only [ofT, ofP, mulT, coefZ, List.map_cons, List.map_nil, ZI.val_of]; rfl
  unfold subT
  rw [h, sum2]
  refine plainT_eq (by simp [ofT, ofP]) (by simp [ofT, ofP, ZI.val_of]) (fun v => ?_) (by simp [ofT, ZI.val_of])
  simp only [ofT, ofP, coefZ, List.cons_append, List.nil_append, ZI.val_of]
  split <;> omega
theorem sum7 : negT (varT 0) = ofT 0 [-1] := by
  unfold negT
  rw [sum2]
  refine plainT_eq (by simp [ofT, ofP]) (by simp [ofT, ofP, ZI.val_of]) (fun v => ?_) (by simp [ofT, mulT, ZI.val_of])
  simp only [ofT, ofP, mulT, coefZ, List.map_cons, List.map_nil, ZI.val_of]; rfl
theorem ofP_app_ok (r : ZI) (h : Lb r.abs) (l : r.abs.length ≤ 10) : TOk 20 10 ⟨ofP [1, 2] 0 ++ (ofT 0 [1]).parts, r⟩ := by
  have h1 := ofT_ok 0 [1, 2] (by decide) (by decide) (by decide)
  have h2 := ofT_ok 0 [1] (by decide) (by decide) (by decide)
  refine ⟨show 2 + 1 ≤ 20 by decide, fun p hp => ?_, h, l⟩
  rcases List.mem_append.1 hp with g | g
  · exact h1.ps p g
  · exact h2.ps p g
set_option maxHeartbeats 4000000 in
set_option maxRecDepth 100000 in
theorem Ssumming  : Fn Try.prog 5 [] [] (vb true) [] := by
  refine Fn.body Try.func5 rfl 60 rfl fun w H B a h => ?_
  refine rSeq to_ok 5 [] [(0, vb false)] [] (by kernel_rfl) h ?_; clear h; intro a w h
  refine rSeq to_ok 5 [(0, .call (SVar 0) to_0)] [(0, vb false), (1, vp 5 0)] [(5, .box ([.d (.sl 3 ((varT 0).parts.map Part.d))] ++ zi (varT 0).k))] (by kernel_rfl) h ?_; clear h; intro a w h
  obtain ⟨r9, er9, vr9, or9, lr9⟩ := mkZ (v := 4) (m := 2) (ZI.len_of (by have := pw2; omega))
  obtain ⟨r22, er22, vr22, or22, lr22⟩ := mkZ (v := 2) (m := 2) (ZI.len_of (by have := pw2; omega))
  refine rSeqP to_ok 6 [(0, .gen _ _ _ fun _ _ _ _ => Op.buildD (d := 3) (len := 2) (rows := [1, 2].map intD) (rs := []) to_1 (.cons (i := 0) (OV.const (.int .i64 1) rfl) (.cons (i := 1) (OV.const (.int .i64 2) rfl) (.nil))) (by kernel_rfl) rfl (by simp [intD]) (by decide) (by decide)), (1, .call (SofO 0 [1, 2] (by decide) (by decide) (by decide)) to_2), (3, .gen _ _ _ fun _ _ _ _ => Op.buildD (d := 6) (len := 1) (rows := [1].map intD) (rs := []) to_1 (.cons (i := 0) (OV.const (.int .i64 1) rfl) (.nil)) (by kernel_rfl) rfl (by simp [intD]) (by decide) (by decide)), (4, .call (SofD 0 [1] (by decide) (by decide) (by decide)) to_2), (6, .gen _ _ _ fun _ _ _ _ => Op.appODp (d := 9) (t := 5) (u := 8) (n := 0) (n' := 6) (len := (ofP [1, 2] 0).length) (rows := (ofP [1, 2] 0).map Part.d) (rows2 := (ofT 0 [1]).parts.map Part.d) (rows' := ((ofP [1, 2] 0) ++ (ofT 0 [1]).parts).map Part.d) to_3 (by first | exact (List.length_map _).symm | simp) (by simp) (by simp [Part.d]) (by decide)), (8, .call (SPlain (Term.mk ((ofP [1, 2] 0) ++ (ofT 0 [1]).parts) (ZI.mk false [])) (ofP_app_ok ⟨false, []⟩ Lb_nil (by decide)) (by decide) (by decide)) to_4), (9, .gen _ _ _ fun _ _ _ _ => Op.buildD (d := 12) (len := 2) (rows := [2, 2].map intD) (rs := []) to_1 (.cons (i := 0) (OV.const (.int .i64 2) rfl) (.cons (i := 1) (OV.const (.int .i64 2) rfl) (.nil))) (by kernel_rfl) rfl (by simp [intD]) (by decide) (by decide)), (10, .call (SofD 0 [2, 2] (by decide) (by decide) (by decide)) to_2), (11, .call (SLSame2 (s := (plainT (Term.mk ((ofP [1, 2] 0) ++ (ofT 0 [1]).parts) (ZI.mk false [])))) (t := (ofT 0 [2, 2])) (sum1) (by rw [← sum1]; exact plain_idem _) (n := 20) (L := 11) (TOk.plain (ofP_app_ok ⟨false, []⟩ Lb_nil (by decide)) (by decide)) (by decide) (by decide)) to_5), (14, .gen _ _ _ fun _ _ _ _ => Op.buildD (d := 17) (len := 1) (rows := [1].map intD) (rs := []) to_1 (.cons (i := 0) (OV.const (.int .i64 1) rfl) (.nil)) (by kernel_rfl) rfl (by simp [intD]) (by decide) (by decide)), (15, .call (SofD 0 [1] (by decide) (by decide) (by decide)) to_2), (16, .call (SLSame2 (s := (varT 0)) (t := (ofT 0 [1])) (sum2) (by rw [← sum2]; exact plain_idem _) (n := 1) (L := 3) (TOk.plain TOk.one (by decide)) (by decide) (by decide)) to_5), (19, .call (Fn.cast (SROf 4 ⟨by omega, by omega⟩) (congrArg vz er9.symm)) to_6), (20, .call (SNumber r9 or9 (by omega)) to_7), (21, .call (SofN 4 (by decide)) to_2), (22, .call (SLSame2 (s := (numT r9)) (t := (ofT 4 [])) (by rw [er9]; exact sum3) (by rw [← sum3]; exact plain_num _) (n := 0) (L := 100) (TOk.num (ZI.lb_of _) (Nat.le_trans (len_id or9) (by omega))) (by decide) (by decide)) to_5), (26, .gen _ _ _ fun _ _ _ _ => Op.buildD (d := 29) (len := 1) (rows := [1].map intD) (rs := []) to_1 (.cons (i := 0) (OV.const (.int .i64 1) rfl) (.nil)) (by kernel_rfl) rfl (by simp [intD]) (by decide) (by decide)), (27, .call (SofD 3 [1] (by decide) (by decide) (by decide)) to_2), (28, .call (STAdd (varT 0) (ofT 3 [1]) ((TOk.plain TOk.one (by decide)).mono (by decide) (by decide)) ((ofT_ok 3 [1] (by decide) (by decide) (by decide)).mono (by decide) (by decide))) to_8), (29, .gen _ _ _ fun _ _ _ _ => Op.buildD (d := 32) (len := 1) (rows := [2].map intD) (rs := []) to_1 (.cons (i := 0) (OV.const (.int .i64 2) rfl) (.nil)) (by kernel_rfl) rfl (by simp [intD]) (by decide) (by decide)), (30, .call (SofD 3 [2] (by decide) (by decide) (by decide)) to_2), (31, .call (SLSame2 (s := (addT (varT 0) (ofT 3 [1]))) (t := (ofT 3 [2])) (sum4) (by rw [← sum4]; exact plain_idem _) (n := 11) (L := 22) (addT_ok ((TOk.plain TOk.one (by decide)).mono (Nat.le_refl 1) (show 3 ≤ 10 by decide)) ((ofT_ok 3 [1] (by decide) (by decide) (by decide)).mono (Nat.le_refl 10) (show 10 ≤ 10 by decide)) (by decide)) (by decide) (by decide)) to_5), (35, .gen _ _ _ fun _ _ _ _ => Op.buildD (d := 38) (len := 1) (rows := [1].map intD) (rs := []) to_1 (.cons (i := 0) (OV.const (.int .i64 1) rfl) (.nil)) (by kernel_rfl) rfl (by simp [intD]) (by decide) (by decide)), (36, .call (SofD 3 [1] (by decide) (by decide) (by decide)) to_2), (37, .call (STSub (varT 0) (ofT 3 [1]) ((TOk.plain TOk.one (by decide)).mono (by decide) (by decide)) ((ofT_ok 3 [1] (by decide) (by decide) (by decide)).mono (by decide) (by decide))) to_9), (38, .call (SofN (-3) (by decide)) to_2), (39, .call (SLSame2 (s := (subT (varT 0) (ofT 3 [1]))) (t := (ofT (-3) [])) (sum5) (by rw [← sum5]; exact plain_idem _) (n := 11) (L := 28) (addT_ok ((TOk.plain TOk.one (by decide)).mono (Nat.le_refl 1) (show 3 ≤ 13 by decide)) (((TOk.mul (ofT_ok 3 [1] (by decide) (by decide) (by decide)) (ZI.lb_of _) (show (ZI.of (-1)).abs.length ≤ 2 from by decide)).plain (by decide)).mono (Nat.le_refl 10) (show 13 ≤ 13 by decide)) (by decide)) (by decide) (by decide)) to_5), (42, .gen _ _ _ fun _ _ _ _ => Op.buildD (d := 45) (len := 1) (rows := [1].map intD) (rs := []) to_1 (.cons (i := 0) (OV.const (.int .i64 1) rfl) (.nil)) (by kernel_rfl) rfl (by simp [intD]) (by decide) (by decide)), (43, .call (SofD 3 [1] (by decide) (by decide) (by decide)) to_2), (44, .call (Fn.cast (SROf 2 ⟨by omega, by omega⟩) (congrArg vz er22.symm)) to_6), (45, .call (SScale (ofT 3 [1]) r22 (ofT_ok 3 [1] (by decide) (by decide) (by decide)) (by decide) or22 lr22 (by decide)) to_10), (46, .gen _ _ _ fun _ _ _ _ => Op.buildD (d := 49) (len := 1) (rows := [2].map intD) (rs := []) to_1 (.cons (i := 0) (OV.const (.int .i64 2) rfl) (.nil)) (by kernel_rfl) rfl (by simp [intD]) (by decide) (by decide)), (47, .call (SofD 6 [2] (by decide) (by decide) (by decide)) to_2), (48, .call (SLSame2 (s := (scaleT (ofT 3 [1]) r22)) (t := (ofT 6 [2])) (by rw [er22]; exact sum6) (by rw [← sum6]; exact plain_idem _) (n := 10) (L := 13) ((TOk.mul (ofT_ok 3 [1] (by decide) (by decide) (by decide)) or22 lr22).plain (by decide)) (by decide) (by decide)) to_5), (52, .call (SNeg3 (varT 0) ((TOk.plain TOk.one (by decide)).mono (by decide) (by decide))) to_11), (53, .gen _ _ _ fun _ _ _ _ => Op.buildD (d := 56) (len := 1) (rows := [(-1)].map intD) (rs := []) to_1 (.cons (i := 0) (OV.const (.int .i64 (-1)) rfl) (.nil)) (by kernel_rfl) rfl (by simp [intD]) (by decide) (by decide)), (54, .call (SofD 0 [(-1)] (by decide) (by decide) (by decide)) to_2), (55, .call (SLSame2 (s := (negT (varT 0))) (t := (ofT 0 [(-1)])) (sum7) (by rw [← sum7]; exact plain_idem _) (n := 1) (L := 6) ((TOk.mul (TOk.plain TOk.one (by decide)) (ZI.lb_of _) (show (ZI.of (-1)).abs.length ≤ 2 from by decide)).plain (by decide)) (by decide) (by decide)) to_5)] [(0, vb true)] [] (by kernel_rfl) (by kernel_rfl) (by kernel_rfl) (by kernel_rfl) (by kernel_rfl) (by kernel_rfl) (by kernel_rfl) h ?_; clear h; intro a w h
  refine wp_ret ?_
  refine retS [.c (.d (.raw (.bool true)))] h Exit.ret (.inl rfl)  rfl ⟨RV.tmp _ _ rfl, trivial⟩ ?_ (by kernel_rfl) (by kernel_rfl)
  rfl
theorem TLb.few {t : Term} (h : TLb t) (f : Few1 t) : TOk 30 20 t := ⟨f.1, fun p hp => ⟨h.2 p hp, f.2.2 p hp⟩, h.1, f.2.1⟩
set_option maxHeartbeats 4000000 in
set_option maxRecDepth 100000 in
theorem STermSums (s t : Term) (n : ZI) (fb : Bool) (hfb : fb = true ↔ ∀ t_ ∈ [s, t], Few1 t_) (hs : TLb s) (ht : TLb t) (hn : Lb n.abs) : Fn Try.prog 3 [] [.t (.agg ([.d (.sl 3 (s.parts.map Part.d))] ++ zi s.k)), .t (.agg ([.d (.sl 3 (t.parts.map Part.d))] ++ zi t.k)), vz n] (vb true) [] := by
  refine Fn.body Try.func3 rfl 67 rfl fun w H B a h => ?_
  refine rSeq to_ok 5 [] [(3, vp 5 0), (4, vp 6 0), (5, vp 7 0), (6, vb false)] [(5, .box ([.d (.sl 3 (s.parts.map Part.d))] ++ zi s.k)), (6, .box ([.d (.sl 3 (t.parts.map Part.d))] ++ zi t.k)), (7, .box (zi n))] (by kernel_rfl) h ?_; clear h; intro a w h
  refine wp_seq ?_
  refine rSeq to_ok 8 [(0, .call (Ssumming) to_12)] [(3, vp 5 0), (4, vp 6 0), (5, vp 7 0), (6, vb false), (8, vb false)] [(5, .box ([.d (.sl 3 (s.parts.map Part.d))] ++ zi s.k)), (6, .box ([.d (.sl 3 (t.parts.map Part.d))] ++ zi t.k)), (7, .box (zi n))] (by kernel_rfl) h ?_; clear h; intro a w h
  refine condS false h rfl (fun hc => ?_) (fun hc => ?_)
  · cases hc
  · clear hc
    refine wp_skip ?_
    refine then_n ?_
    refine wp_seq ?_
    rcases Bool.eq_false_or_eq_true fb with hc | hc
    · have hc1 := hc; clear hc
      have hfa := hs.few (hfb.1 hc1 s (by simp))
      have hfb2 := ht.few (hfb.1 hc1 t (by simp))
      refine rSeq to_ok 8 [(2, .gen _ _ _ fun _ _ _ _ => Op.buildD (d := 11) (len := 2) (rows := [s, t].map Term.d) (rs := [(9, .t (.agg ([.d (.sl 3 (s.parts.map Part.d))] ++ zi s.k))), (10, .t (.agg ([.d (.sl 3 (t.parts.map Part.d))] ++ zi t.k)))]) to_13 (.cons (i := 0) (OV.tmp 9 _) (.cons (i := 1) (OV.tmp 10 _) (.nil))) (by kernel_rfl) rfl (by simp [Term.d]) (by decide) (by decide)), (3, .call (Fn.cast (Sfew [s, t] fb hfb (by simp)) (congrArg vb hc1)) to_14), (8, .len (nsl_len n.abs))] [(3, vp 5 0), (4, vp 6 0), (5, vp 7 0), (6, vb false), (19, vb (decide ((n.abs.length : Int) > 20)))] [(5, .box ([.d (.sl 3 (s.parts.map Part.d))] ++ zi s.k)), (6, .box ([.d (.sl 3 (t.parts.map Part.d))] ++ zi t.k)), (7, .box (zi n))] (by kernel_rfl) h ?_; clear h; intro a w h
      refine condS (decide ((n.abs.length : Int) > 20)) h rfl (fun hc => ?_) (fun hc => ?_)
      · have hc2 := hc; clear hc
        have hc2' := of_decide_eq_true hc2
        refine rSeq to_ok 8 [] [(3, vp 5 0), (4, vp 6 0), (5, vp 7 0), (6, vb true)] [(5, .box ([.d (.sl 3 (s.parts.map Part.d))] ++ zi s.k)), (6, .box ([.d (.sl 3 (t.parts.map Part.d))] ++ zi t.k)), (7, .box (zi n))] (by kernel_rfl) h ?_; clear h; intro a w h
        refine wp_ret ?_
        refine then_r ?_
        refine retS [.c (.d (.raw (.bool true)))] h Exit.ret (.inl rfl)  rfl ⟨RV.tmp _ _ rfl, trivial⟩ ?_ (by kernel_rfl) (by kernel_rfl)
        rfl
      · have hc3 := hc; clear hc
        have hc3' := of_decide_eq_false hc3
        refine wp_skip ?_
        refine then_n ?_
        have ln20 : n.abs.length ≤ 20 := by omega
        obtain ⟨r17, er17, vr17, or17, lr17⟩ := mkZ (v := (-1)) (m := 2) (ZI.len_of (by have := pw2; omega))
        refine rSeq to_ok 8 [(1, .call (SPlain s hfa (by decide) (by decide)) to_4), (3, .call (SRPlain' s hfa (by decide) (by decide)) to_15), (4, .call (SLSame2 (s := (plainT s)) (t := (plainT s)) (rfl) (plain_idem _) (n := 30) (L := 21) (TOk.plain hfa (by decide)) (by decide) (by decide)) to_5), (8, .call (STAdd s t (hfa.mono (by decide) (by decide)) (hfb2.mono (by decide) (by decide))) to_8), (11, .call (SRTAdd s t (hfa.mono (by decide) (by decide)) (hfb2.mono (by decide) (by decide))) to_16), (12, .call (SLSame2 (s := (addT s t)) (t := (addT s t)) (rfl) (plain_idem _) (n := 60) (L := 42) (addT_ok (hfa.mono (Nat.le_refl 30) (show 20 ≤ 20 by decide)) (hfb2.mono (Nat.le_refl 30) (show 20 ≤ 20 by decide)) (by decide)) (by decide) (by decide)) to_5), (17, .call (STSub s t (hfa.mono (by decide) (by decide)) (hfb2.mono (by decide) (by decide))) to_9), (20, .call (SRTSub s t (hfa.mono (by decide) (by decide)) (hfb2.mono (by decide) (by decide))) to_17), (21, .call (SLSame2 (s := (subT s t)) (t := (subT s t)) (rfl) (plain_idem _) (n := 60) (L := 48) (addT_ok (hfa.mono (Nat.le_refl 30) (show 20 ≤ 23 by decide)) (((TOk.mul hfb2 (ZI.lb_of _) (show (ZI.of (-1)).abs.length ≤ 2 from by decide)).plain (by decide)).mono (Nat.le_refl 30) (show 23 ≤ 23 by decide)) (by decide)) (by decide) (by decide)) to_5), (26, .call (SScale s n hfa (by decide) hn ln20 (by decide)) to_10), (29, .call (SRScale s n hfa (by decide) hn ln20 (by decide)) to_18), (30, .call (SLSame2 (s := (scaleT s n)) (t := (scaleT s n)) (rfl) (plain_idem _) (n := 30) (L := 41) ((TOk.mul hfa hn ln20).plain (by decide)) (by decide) (by decide)) to_5), (34, .call (SNeg3 s (hfa.mono (by decide) (by decide))) to_11), (36, .call (Fn.cast (SROf (-1) ⟨by omega, by omega⟩) (congrArg vz er17.symm)) to_6), (37, .call (SRScale s r17 hfa (by decide) or17 lr17 (by decide)) to_18), (38, .call (SLSame2 (s := (negT s)) (t := (scaleT s r17)) (by rw [er17]; rfl) (plain_idem _) (n := 30) (L := 23) ((TOk.mul hfa (ZI.lb_of _) (show (ZI.of (-1)).abs.length ≤ 2 from by decide)).plain (by decide)) (by decide) (by decide)) to_5), (42, .call (SNumber n hn (by omega)) to_7), (44, .call (SRNumber n hn (by omega)) to_19), (45, .call (SLSame2 (s := (numT n)) (t := (numT n)) (rfl) (plain_num _) (n := 0) (L := 100) (TOk.num (ZI.lb_of _) (Nat.le_trans (len_id hn) (by omega))) (by decide) (by decide)) to_5)] [(6, vb true)] [] (by kernel_rfl) h ?_; clear h; intro a w h
        refine wp_ret ?_
        refine retS [.c (.d (.raw (.bool true)))] h Exit.ret (.inl rfl)  rfl ⟨RV.tmp _ _ rfl, trivial⟩ ?_ (by kernel_rfl) (by kernel_rfl)
        rfl
    · have hc4 := hc; clear hc
      refine rSeq to_ok 8 [(2, .gen _ _ _ fun _ _ _ _ => Op.buildD (d := 11) (len := 2) (rows := [s, t].map Term.d) (rs := [(9, .t (.agg ([.d (.sl 3 (s.parts.map Part.d))] ++ zi s.k))), (10, .t (.agg ([.d (.sl 3 (t.parts.map Part.d))] ++ zi t.k)))]) to_13 (.cons (i := 0) (OV.tmp 9 _) (.cons (i := 1) (OV.tmp 10 _) (.nil))) (by kernel_rfl) rfl (by simp [Term.d]) (by decide) (by decide)), (3, .call (Fn.cast (Sfew [s, t] fb hfb (by simp)) (congrArg vb hc4)) to_14)] [(3, vp 5 0), (4, vp 6 0), (5, vp 7 0), (6, vb false), (19, vb true)] [(5, .box ([.d (.sl 3 (s.parts.map Part.d))] ++ zi s.k)), (6, .box ([.d (.sl 3 (t.parts.map Part.d))] ++ zi t.k)), (7, .box (zi n))] (by kernel_rfl) h ?_; clear h; intro a w h
      refine condS true h rfl (fun hc => ?_) (fun hc => ?_)
      · clear hc
        refine rSeq to_ok 8 [] [(3, vp 5 0), (4, vp 6 0), (5, vp 7 0), (6, vb true)] [(5, .box ([.d (.sl 3 (s.parts.map Part.d))] ++ zi s.k)), (6, .box ([.d (.sl 3 (t.parts.map Part.d))] ++ zi t.k)), (7, .box (zi n))] (by kernel_rfl) h ?_; clear h; intro a w h
        refine wp_ret ?_
        refine then_r ?_
        refine retS [.c (.d (.raw (.bool true)))] h Exit.ret (.inl rfl)  rfl ⟨RV.tmp _ _ rfl, trivial⟩ ?_ (by kernel_rfl) (by kernel_rfl)
        rfl
      · cases hc
theorem STermSumsL (s t : Term) (n : ZI) (hs : TLb s) (ht : TLb t) (hn : Lb n.abs) : Fn Try.prog 3 [] [vd s.d, vd t.d, vz n] (vb true) [] := by
  obtain ⟨fb, h⟩ : ∃ fb : Bool, fb = true ↔ ∀ t_ ∈ [s, t], Few1 t_ := by
    by_cases h : ∀ t_ ∈ [s, t], Few1 t_
    · exact ⟨true, fun _ => h, fun _ => rfl⟩
    · exact ⟨false, fun e => (by cases e), fun e => absurd e h⟩
  exact STermSums s t n fb h hs ht hn
end Go.Proofs.Ytekhnajfdaknnaa.S
