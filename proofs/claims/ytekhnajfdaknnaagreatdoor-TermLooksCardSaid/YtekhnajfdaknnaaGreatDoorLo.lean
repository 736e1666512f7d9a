/-
  The proof of the statement TermLooks: the walk through the program and the references lifted to the given row. It holds for every input.
-/
import Derived.Test.YtekhnajfdaknnaaGreatDoorLo5
import Derived.Shelf.Strings.Builder1
import Derived.Shelf.Strconv.Itoa3
import Derived.Test.YtekhnajfdaknnaaGreatDoorProg
import Derived.Test.YtekhnajfdaknnaaGreatDoorLo4
import Derived.Test.YtekhnajfdaknnaaGreatDoorLo2
import Derived.Test.YtekhnajfdaknnaaGreatDoorRows
import Derived.Test.YtekhnajfdaknnaaGreatDoorCards
import Derived.Test.YtekhnajfdaknnaaGreatDoorTie
import Derived.ProofKit
import Derived.LaidMore
import Derived.OpenShut
import Derived.SevenTiedAt
set_option maxRecDepth 100000
section
namespace Go.Proofs.YtekhnajfdaknnaaGreatDoor.S
open Go.RowKit

theorem ty_2 : Bodied Tryz.prog 15 := Bodied.mk' (by kernel_rfl)
theorem ty_3 : Bodied Tryz.prog 24 := Bodied.mk' (by kernel_rfl)
theorem ty_5 : ElZ Tryz.prog 35 26 2 := ElZ.mk' Tryz.underlying35 _ _ rfl rfl (by kernel_rfl) (by kernel_rfl) (by kernel_rfl) (by decide)
theorem ty_6 : Bodied Tryz.prog 11 := Bodied.mk' (by kernel_rfl)
theorem ty_10 : Bodied Tryz.prog 26 := Bodied.mk' (by kernel_rfl)
theorem ty_12 : Bodied Tryz.prog 21 := Bodied.mk' (by kernel_rfl)
theorem ty_15 : Bodied Tryz.prog 42 := Bodied.mk' (by kernel_rfl)
theorem ty_16 : ElZ Tryz.prog 64 9 1 := ElZ.mk' Tryz.underlying64 _ _ rfl rfl (by kernel_rfl) (by kernel_rfl) (by kernel_rfl) (by decide)
theorem ty_17 : Bodied Tryz.prog 46 := Bodied.mk' (by kernel_rfl)
theorem ty_18 : Bodied Tryz.prog 47 := Bodied.mk' (by kernel_rfl)
theorem look_plain : plainT (ofT 7 [4, (-6)]) = ofT 7 [4, (-6)] := by
 refine plainT_eq (by simp [ofT, ofP]) (by simp [ofT, ofP, ZI.val_of]) (fun v => rfl) (by simp [ofT, ZI.val_of])
theorem look_con : conZ (plainT (ofT 7 [4, (-6)])).parts = 2 := by
 rw [look_plain]
 simp only [conZ, ofT, ofP, List.foldl_cons, List.foldl_nil, ZI.val_of]; decide
theorem look_shr : shrT (ofT 7 [4, (-6)]) = ofT 3 [2, (-3)] := by
 unfold shrT
 rw [look_con, if_neg (by decide), look_plain]
 simp only [ofT, ofP, divP, List.map_cons, List.map_nil, ZI.val_of]
 rfl
theorem ofT_plain3 : plainT (ofT 3 [2, (-3)]) = ofT 3 [2, (-3)] := by
 refine plainT_eq (by simp [ofT, ofP]) (by simp [ofT, ofP, ZI.val_of]) (fun v => rfl) (by simp [ofT, ZI.val_of])
theorem ofT_plain1 : plainT (ofT 7 [4]) = ofT 7 [4] := by
 refine plainT_eq (by simp [ofT, ofP]) (by simp [ofT, ofP, ZI.val_of]) (fun v => rfl) (by simp [ofT, ZI.val_of])
theorem look_vars : varsZ (ofT 7 [4, (-6)]).parts = [0, 1] := by
 rw [← plain_vars, look_plain]; rfl
theorem look_coef : coefZ (ofT 7 [4, (-6)]).parts 1 = -6 := by simp [ofT, ofP, coefZ, ZI.val_of]
theorem look_coef2 : coefZ (ofT 7 [4, (-6)]).parts 2 = 0 := by simp [ofT, ofP, coefZ]
theorem look_has : (sgn (coefZ (ofT 7 [4, (-6)]).parts 1) != 0) = true := by rw [look_coef]; rfl
theorem look_has2 : (sgn (coefZ (ofT 7 [4, (-6)]).parts 2) != 0) = false := by rw [look_coef2]; rfl
theorem look_wo : woT (ofT 7 [4, (-6)]) 1 = ofT 7 [4] := by
 rw [← wo_law, look_plain]
 simp [ofT, ofP, isVar]
theorem look_val : valT (ofT 7 [4, (-6)]) [ZI.of 1, ZI.of 2] = -1 := by
 simp [valT, valP, valAt, ofT, ofP, ZI.val_of]
theorem cmpZ_self' (x : Int) : cmpZ x x = 0 := cmpZ_eq rfl
theorem look_cmp : cmpT (ofT 7 [4, (-6)]) (ofT 7 [4, (-6)]) = 0 := by
 unfold cmpT
 rw [look_plain]
 simp [ofT, ofP, cmpPs, cmpP, orZ, cmpZ_self']
theorem look_plain0 (k : Int) : plainT (ofT k []) = ofT k [] := by
 refine plainT_eq (by simp [ofT, ofP]) (by simp [ofT, ofP]) (fun v => rfl) (by simp [ofT, ZI.val_of])
theorem look_cmp2 : cmpT (ofT 1 []) (ofT 2 []) = -1 := by
 unfold cmpT
 rw [look_plain0, look_plain0]
 simp [ofT, ofP, cmpPs, orZ, ZI.val_of, cmpZ]
theorem zsame (x : Int) : ((ZI.of x).neg == (ZI.of x).neg && decide ((ZI.of x).abs = (ZI.of x).abs)) = true := by simp
theorem look_vok : VOk 2 [ZI.of 1, ZI.of 2] := by
 refine ⟨by decide, fun y hy => ?_⟩
 have h : ∀ z : Int, z.natAbs < 4294967296 → (ZI.of z).abs.length ≤ 2 := fun z hz => ZI.len_of (by have := pw2; omega)
 rcases List.mem_cons.1 hy with rfl | hy
 ·exact ⟨ZI.lb_of _, h _ (by decide)⟩
 ·rw [List.mem_singleton.1 hy]; exact ⟨ZI.lb_of _, h _ (by decide)⟩
set_option maxHeartbeats 4000000 in
theorem Slooking (hText : Fn Tryz.prog 46 [] [vd (ofT 2 [(-1)]).d, .t (.c (.d (.sl 1 ([(⟨#[120]⟩ : ByteArray)].map strD))))] (vs (⟨#[45, 120, 32, 43, 32, 50]⟩ : ByteArray)) []) (hName : Fn Tryz.prog 47 [] [vi .i64 3, .t (.c (.d (.raw nilV)))] (vs (⟨#[118, 51]⟩ : ByteArray)) []) : Fn Tryz.prog 8 [] [] (vb true) [] := by
 refine Fn.body Tryz.func8 rfl 101 rfl fun w H B a h => ?_
 refine rSeq fam0ok 5 [] [(0, vb false)] [] (by kernel_rfl) h ?_; clear h; intro a w h
 refine rSeq fam0ok 5 [(0, .gen _ _ _ fun _ _ _ _ => Op.buildD (d := 6) (len := 2) (rows := [4, (-6)].map intD) (rs := []) to_1 (.cons (i := 0) (OV.const (.int .i64 4) rfl) (.cons (i := 1) (OV.const (.int .i64 (-6)) rfl) (.nil))) (by kernel_rfl) rfl (by simp [intD]) (by decide) (by decide)), (1, .call (SofD 7 [4, (-6)] (by decide) (by decide) (by decide)) to_2)] [(0, vb false), (1, vp 5 0)] [(5, .box ([.d (.sl 3 ((ofT 7 [4, (-6)]).parts.map Part.d))] ++ zi (ofT 7 [4, (-6)]).k))] (by kernel_rfl) h ?_; clear h; intro a w h
 refine rSeq fam0ok 6 [(1, .call (Fn.cast (SShrink (ofT 7 [4, (-6)]) (ofT_ok 7 [4, (-6)] (by decide) (by decide) (by decide)) (by decide) (by decide)) (show _ = (.tup [.agg ([.d (.sl 3 ((ofT 3 [2, (-3)]).parts.map Part.d))] ++ zi (ofT 3 [2, (-3)]).k), .agg (zi (ZI.of 2))] : V) by rw [look_shr, look_con]; first | done | rfl)) ty_2)] [(0, vb false), (1, vp 5 0), (2, vp 6 0), (3, vp 7 0)] [(5, .box ([.d (.sl 3 ((ofT 7 [4, (-6)]).parts.map Part.d))] ++ zi (ofT 7 [4, (-6)]).k)), (6, .box ([.d (.sl 3 ((ofT 3 [2, (-3)]).parts.map Part.d))] ++ zi (ofT 3 [2, (-3)]).k)), (7, .box (zi (ZI.of 2)))] (by kernel_rfl) h ?_; clear h; intro a w h
 refine rSeq fam0ok 8 [(1, .call (Fn.cast (STVars (ofT 7 [4, (-6)]) (ofT_ok 7 [4, (-6)] (by decide) (by decide) (by decide)) (by decide) (by decide)) (show _ = (.t (.c (.d (.sl 1 ([0, 1].map intD)))) : V) by rw [look_vars]; first | done | rfl)) ty_3)] [(0, vb false), (1, vp 5 0), (2, vp 6 0), (3, vp 7 0), (4, .t (.c (.d (.sl 1 ([0, 1].map intD)))))] [(5, .box ([.d (.sl 3 ((ofT 7 [4, (-6)]).parts.map Part.d))] ++ zi (ofT 7 [4, (-6)]).k)), (6, .box ([.d (.sl 3 ((ofT 3 [2, (-3)]).parts.map Part.d))] ++ zi (ofT 3 [2, (-3)]).k)), (7, .box (zi (ZI.of 2)))] (by kernel_rfl) h ?_; clear h; intro a w h
 refine rSeq fam0ok 8 [(1, .call (SROf 1 ⟨by decide, by decide⟩) tc_0), (2, .call (SROf 2 ⟨by decide, by decide⟩) tc_0), (3, .gen _ _ _ fun _ _ _ _ => Op.buildD (d := 18) (len := 2) (rows := [(ZI.of 1), (ZI.of 2)].map ziD) (rs := [(16, vz (ZI.of 1)), (17, vz (ZI.of 2))]) ty_5 (.cons (i := 0) (OV.tmp 16 _) (.cons (i := 1) (OV.tmp 17 _) (.nil))) (by kernel_rfl) rfl (by simp [ziD]) (by decide) (by decide)), (4, .call (Fn.cast (SValue (ofT 7 [4, (-6)]) [ZI.of 1, ZI.of 2] (ofT_ok 7 [4, (-6)] (by decide) (by decide) (by decide)) (by decide) (show 10 + 2 ≤ 20000 by decide) look_vok) (congrArg (fun z => vz (ZI.of z)) look_val)) ty_6)] [(0, vb false), (1, vp 5 0), (2, vp 6 0), (3, vp 7 0), (4, .t (.c (.d (.sl 1 ([0, 1].map intD))))), (5, vp 8 0)] [(5, .box ([.d (.sl 3 ((ofT 7 [4, (-6)]).parts.map Part.d))] ++ zi (ofT 7 [4, (-6)]).k)), (6, .box ([.d (.sl 3 ((ofT 3 [2, (-3)]).parts.map Part.d))] ++ zi (ofT 3 [2, (-3)]).k)), (7, .box (zi (ZI.of 2))), (8, .box (zi (ZI.of (-1))))] (by kernel_rfl) h ?_; clear h; intro a w h
 refine rSeqP fam0ok 9 [(1, .gen _ _ _ fun _ _ _ _ => Op.buildD (d := 21) (len := 2) (rows := [2, (-3)].map intD) (rs := []) to_1 (.cons (i := 0) (OV.const (.int .i64 2) rfl) (.cons (i := 1) (OV.const (.int .i64 (-3)) rfl) (.nil))) (by kernel_rfl) rfl (by simp [intD]) (by decide) (by decide)), (2, .call (SofD 3 [2, (-3)] (by decide) (by decide) (by decide)) to_2), (3, .call (SLSame2 (s := (ofT 3 [2, (-3)])) (t := (ofT 3 [2, (-3)])) (rfl) (ofT_plain3) (n := 10) (L := 10) (ofT_ok 3 [2, (-3)] (by decide) (by decide) (by decide)) (by decide) (by decide)) to_5), (6, .call (SROf 2 ⟨by decide, by decide⟩) tc_0), (7, .call (Fn.cast (SRSame (ZI.of 2) (ZI.of 2) (ZI.lb_of _) (ZI.lb_of _)) (congrArg vb (zsame _))) td_0), (11, .len (c := (.d (.sl 1 ([0, 1].map intD)))) (n := [0, 1].length) (lenC_map _ _ _)), (12, .cmp (op := .eql) (m := ([0, 1].length : Int)) (n := 2) (b := true) .i64 (by rfl)), (16, .gen _ _ _ fun _ _ _ _ => Op.idxD (d := 36) (t := 35) (k := .i64) tb_1 (map_at (show ([0, 1] : List Int)[1]? = some 1 from rfl) (f := intD)) (OV.const (.int .i64 1) rfl)), (18, .cmp (op := .eql) (m := 1) (n := 1) (b := true) .i64 rfl), (22, .call (Fn.cast (SHas (ofT 7 [4, (-6)]) 1 (ofT_ok 7 [4, (-6)] (by decide) (by decide) (by decide)) (by decide) (by decide)) (congrArg vb look_has)) ty_10), (26, .call (Fn.cast (SHas (ofT 7 [4, (-6)]) 2 (ofT_ok 7 [4, (-6)] (by decide) (by decide) (by decide)) (by decide) (by decide)) (congrArg vb look_has2)) ty_10), (31, .call (Fn.cast (STCoef (ofT 7 [4, (-6)]) 1 (((ofT_ok 7 [4, (-6)] (by decide) (by decide) (by decide))).mono (show 10 ≤ 1000 by decide) (show 10 ≤ 40000 by decide)).psok) (congrArg (fun z => vz (ZI.of z)) look_coef)) tt_3), (32, .call (SROf (-6) ⟨by decide, by decide⟩) tc_0), (33, .call (Fn.cast (SRSame (ZI.of (-6)) (ZI.of (-6)) (ZI.lb_of _) (ZI.lb_of _)) (congrArg vb (zsame _))) td_0), (37, .call (Fn.cast (SWithout (ofT 7 [4, (-6)]) 1 (ofT_ok 7 [4, (-6)] (by decide) (by decide) (by decide)) (by decide) (by decide)) (congrArg (fun t => vd (Term.d t)) look_wo)) ty_12), (38, .gen _ _ _ fun _ _ _ _ => Op.buildD (d := 58) (len := 1) (rows := [4].map intD) (rs := []) to_1 (.cons (i := 0) (OV.const (.int .i64 4) rfl) (.nil)) (by kernel_rfl) rfl (by simp [intD]) (by decide) (by decide)), (39, .call (SofD 7 [4] (by decide) (by decide) (by decide)) to_2), (40, .call (SLSame2 (s := (ofT 7 [4])) (t := (ofT 7 [4])) (rfl) (ofT_plain1) (n := 10) (L := 10) (ofT_ok 7 [4] (by decide) (by decide) (by decide)) (by decide) (by decide)) to_5), (44, .call (SROf (-1) ⟨by decide, by decide⟩) tc_0), (45, .call (Fn.cast (SRSame (ZI.of (-1)) (ZI.of (-1)) (ZI.lb_of _) (ZI.lb_of _)) (congrArg vb (zsame _))) td_0), (49, .call (Fn.cast (SContent (ofT 7 [4, (-6)]) (ofT_ok 7 [4, (-6)] (by decide) (by decide) (by decide)) (by decide) (by decide)) (congrArg (fun z => vz (ZI.of z)) look_con)) tw_1), (50, .call (SROf 2 ⟨by decide, by decide⟩) tc_0), (51, .call (Fn.cast (SRSame (ZI.of 2) (ZI.of 2) (ZI.lb_of _) (ZI.lb_of _)) (congrArg vb (zsame _))) td_0), (56, .call (Fn.cast (STCmp (ofT 7 [4, (-6)]) (ofT 7 [4, (-6)]) (ofT_ok 7 [4, (-6)] (by decide) (by decide) (by decide)) (ofT_ok 7 [4, (-6)] (by decide) (by decide) (by decide)) (by decide) (by decide)) (congrArg (vi .i64) look_cmp)) tx_9), (57, .cmp (op := .eql) (m := 0) (n := 0) (b := true) .i64 rfl), (62, .call (Fn.cast (STSame (ofT 7 [4, (-6)]) (ofT 7 [4, (-6)]) (ofT_ok 7 [4, (-6)] (by decide) (by decide) (by decide)) (ofT_ok 7 [4, (-6)] (by decide) (by decide) (by decide)) (by decide) (by decide)) (congrArg (fun z : Int => vb (z == 0)) look_cmp)) ty_15), (65, .call (SofN 1 (by decide)) to_2), (66, .call (SofN 2 (by decide)) to_2), (67, .call (Fn.cast (STCmp (ofT 1 []) (ofT 2 []) (ofT_ok 1 [] (by decide) (by decide) (by decide)) (ofT_ok 2 [] (by decide) (by decide) (by decide)) (by decide) (by decide)) (congrArg (vi .i64) look_cmp2)) tx_9), (68, .cmp (op := .eql) (m := (-1)) (n := (-1)) (b := true) .i64 rfl), (71, .gen _ _ _ fun _ _ _ _ => Op.buildD (d := 91) (len := 1) (rows := [(-1)].map intD) (rs := []) to_1 (.cons (i := 0) (OV.const (.int .i64 (-1)) rfl) (.nil)) (by kernel_rfl) rfl (by simp [intD]) (by decide) (by decide)), (72, .call (SofD 2 [(-1)] (by decide) (by decide) (by decide)) to_2), (73, .gen _ _ _ fun _ _ _ _ => Op.buildD (d := 93) (len := 1) (rows := [(⟨#[120]⟩ : ByteArray)].map strD) (rs := []) ty_16 (.cons (i := 0) (OV.const (.string (⟨#[120]⟩ : ByteArray)) rfl) (.nil)) (by kernel_rfl) rfl (by simp [strD]) (by decide) (by decide)), (74, .call (hText) ty_17), (75, .gen _ _ _ fun _ _ _ _ => Op.strEq (d := 95) (xt := 9) (yt := 9) (s1 := (⟨#[45, 120, 32, 43, 32, 50]⟩ : ByteArray)) (s2 := (⟨#[45, 120, 32, 43, 32, 50]⟩ : ByteArray)) (r := true) (OV.tmp 94 _) (OV.const (.string (⟨#[45, 120, 32, 43, 32, 50]⟩ : ByteArray)) rfl) (beq_self_eq_true _)), (78, .call (hName) ty_18), (79, .gen _ _ _ fun _ _ _ _ => Op.strEq (d := 99) (xt := 9) (yt := 9) (s1 := (⟨#[118, 51]⟩ : ByteArray)) (s2 := (⟨#[118, 51]⟩ : ByteArray)) (r := true) (OV.tmp 98 _) (OV.const (.string (⟨#[118, 51]⟩ : ByteArray)) rfl) (beq_self_eq_true _))] [(0, vb true)] [] (by kernel_rfl) (by kernel_rfl) (by kernel_rfl) (by kernel_rfl) (by kernel_rfl) (by kernel_rfl) (by kernel_rfl) h ?_; clear h; intro a w h
 refine wp_ret ?_
 refine retS [.c (.d (.raw (.bool true)))] h Exit.ret (.inl rfl)  rfl ⟨RV.tmp _ _ rfl, trivial⟩ ?_ (by kernel_rfl) (by kernel_rfl)
 rfl
end Go.Proofs.YtekhnajfdaknnaaGreatDoor.S
end
section
namespace Go.Proofs
open Go.Shelf
def Tryz.lays170_ren : Go.Shelf.Ren := ⟨fun | 170 => 111 | n => n, fun | 70 => 94 | 3 => 3 | 0 => 0 | 72 => 97 | 37 => 95 | 5 => 5 | n => n, fun | n => n⟩
theorem Tryz.lays170 : Go.Proofs.Lays.n170 Tryz.prog Tryz.lays170_ren := {
 mixed := by kernel_rfl
 f170 := Tryz.func111.trans (congrArg some (by kernel_rfl))
 t0 := Tryz.underlying0
 a0 := Tryz.isAgg0
 z0 := Tryz.sizeOf0
 v0 := Tryz.zeroValue0
 t3 := Tryz.underlying3
 a3 := Tryz.isAgg3
 z3 := Tryz.sizeOf3
 v3 := Tryz.zeroValue3
 t37 := Tryz.underlying95
 a37 := Tryz.isAgg95
 z37 := Tryz.sizeOf95
 v37 := Tryz.zeroValue95
 t70 := Tryz.underlying94
 a70 := Tryz.isAgg94
 z70 := Tryz.sizeOf94
 v70 := Tryz.zeroValue94
 t72 := Tryz.underlying97
 a72 := Tryz.isAgg97
 z72 := Tryz.sizeOf97
 v72 := Tryz.zeroValue97 }
def Tryz.lays169_ren : Go.Shelf.Ren := ⟨fun | 169 => 86 | n => n, fun | 70 => 94 | 9 => 9 | 0 => 0 | 72 => 97 | 37 => 95 | 127 => 122 | 3 => 3 | 5 => 5 | n => n, fun | n => n⟩
theorem Tryz.lays169 : Go.Proofs.Lays.n169 Tryz.prog Tryz.lays169_ren := {
 mixed := by kernel_rfl
 f169 := Tryz.func86.trans (congrArg some (by kernel_rfl))
 t0 := Tryz.underlying0
 a0 := Tryz.isAgg0
 z0 := Tryz.sizeOf0
 v0 := Tryz.zeroValue0
 t3 := Tryz.underlying3
 a3 := Tryz.isAgg3
 z3 := Tryz.sizeOf3
 v3 := Tryz.zeroValue3
 t9 := Tryz.underlying9
 a9 := Tryz.isAgg9
 z9 := Tryz.sizeOf9
 v9 := Tryz.zeroValue9
 t37 := Tryz.underlying95
 a37 := Tryz.isAgg95
 z37 := Tryz.sizeOf95
 v37 := Tryz.zeroValue95
 t70 := Tryz.underlying94
 a70 := Tryz.isAgg94
 z70 := Tryz.sizeOf94
 v70 := Tryz.zeroValue94
 t72 := Tryz.underlying97
 a72 := Tryz.isAgg97
 z72 := Tryz.sizeOf97
 v72 := Tryz.zeroValue97
 t127 := Tryz.underlying122
 a127 := Tryz.isAgg122
 z127 := Tryz.sizeOf122
 v127 := Tryz.zeroValue122 }
theorem Tryz.Builder_Extra_169 : Builder.Extra Tryz.prog Tryz.lays169_ren := {
 sizeBuilder := by kernel_rfl
 liesBuilder := by kernel_rfl
 t5 := Tryz.underlying5
 a5 := Tryz.isAgg5
 z5 := Tryz.sizeOf5
 v5 := Tryz.zeroValue5
 infoByte := by kernel_rfl
 cellsByte := by kernel_rfl
 sizeByte := by kernel_rfl
 neB5 := by decide }
def Tryz.lays171_ren : Go.Shelf.Ren := ⟨fun | 171 => 87 | 243 => 113 | 246 => 128 | 283 => 140 | 284 => 141 | 285 => 142 | 286 => 143 | 129 => 147 | 317 => 146 | 318 => 148 | 319 => 149 | 320 => 150 | 337 => 151 | 338 => 152 | n => n, fun | 3 => 3 | 9 => 9 | 2 => 2 | 4 => 4 | 171 => 145 | 0 => 0 | 53 => 102 | 37 => 95 | 5 => 5 | 173 => 148 | 212 => 152 | 51 => 67 | 20 => 20 | 213 => 153 | 46 => 123 | 232 => 155 | 233 => 156 | n => n, fun | 17 => 0 | 18 => 1 | 19 => 2 | n => n⟩
theorem Tryz.lays171 : Go.Proofs.Lays.n171 Tryz.prog Tryz.lays171_ren := {
 mixed := by kernel_rfl
 f129 := Tryz.func147.trans (congrArg some (by kernel_rfl))
 f171 := Tryz.func87.trans (congrArg some (by kernel_rfl))
 f243 := Tryz.func113.trans (congrArg some (by kernel_rfl))
 f246 := Tryz.func128.trans (congrArg some (by kernel_rfl))
 f283 := Tryz.func140.trans (congrArg some (by kernel_rfl))
 f284 := Tryz.func141.trans (congrArg some (by kernel_rfl))
 f285 := Tryz.func142.trans (congrArg some (by kernel_rfl))
 f286 := Tryz.func143.trans (congrArg some (by kernel_rfl))
 f317 := Tryz.func146.trans (congrArg some (by kernel_rfl))
 f318 := Tryz.func148.trans (congrArg some (by kernel_rfl))
 f319 := Tryz.func149.trans (congrArg some (by kernel_rfl))
 f320 := Tryz.func150.trans (congrArg some (by kernel_rfl))
 f337 := Tryz.func151.trans (congrArg some (by kernel_rfl))
 f338 := Tryz.func152.trans (congrArg some (by kernel_rfl))
 t0 := Tryz.underlying0
 a0 := Tryz.isAgg0
 z0 := Tryz.sizeOf0
 v0 := Tryz.zeroValue0
 t2 := Tryz.underlying2
 a2 := Tryz.isAgg2
 z2 := Tryz.sizeOf2
 v2 := Tryz.zeroValue2
 t3 := Tryz.underlying3
 a3 := Tryz.isAgg3
 z3 := Tryz.sizeOf3
 v3 := Tryz.zeroValue3
 t4 := Tryz.underlying4
 a4 := Tryz.isAgg4
 z4 := Tryz.sizeOf4
 v4 := Tryz.zeroValue4
 t5 := Tryz.underlying5
 a5 := Tryz.isAgg5
 z5 := Tryz.sizeOf5
 v5 := Tryz.zeroValue5
 t9 := Tryz.underlying9
 a9 := Tryz.isAgg9
 z9 := Tryz.sizeOf9
 v9 := Tryz.zeroValue9
 t20 := Tryz.underlying20
 a20 := Tryz.isAgg20
 z20 := Tryz.sizeOf20
 v20 := Tryz.zeroValue20
 t37 := Tryz.underlying95
 a37 := Tryz.isAgg95
 z37 := Tryz.sizeOf95
 v37 := Tryz.zeroValue95
 t46 := Tryz.underlying123
 a46 := Tryz.isAgg123
 z46 := Tryz.sizeOf123
 v46 := Tryz.zeroValue123
 t51 := Tryz.underlying67
 a51 := Tryz.isAgg67
 z51 := Tryz.sizeOf67
 v51 := Tryz.zeroValue67
 t53 := Tryz.underlying102
 a53 := Tryz.isAgg102
 z53 := Tryz.sizeOf102
 v53 := Tryz.zeroValue102
 t171 := Tryz.underlying145
 a171 := Tryz.isAgg145
 z171 := Tryz.sizeOf145
 v171 := Tryz.zeroValue145
 t173 := Tryz.underlying148
 a173 := Tryz.isAgg148
 z173 := Tryz.sizeOf148
 v173 := Tryz.zeroValue148
 t212 := Tryz.underlying152
 a212 := Tryz.isAgg152
 z212 := Tryz.sizeOf152
 v212 := Tryz.zeroValue152
 t213 := Tryz.underlying153
 a213 := Tryz.isAgg153
 z213 := Tryz.sizeOf153
 t232 := Tryz.underlying155
 a232 := Tryz.isAgg155
 z232 := Tryz.sizeOf155
 v232 := Tryz.zeroValue155
 t233 := Tryz.underlying156
 a233 := Tryz.isAgg156
 z233 := Tryz.sizeOf156
 v233 := Tryz.zeroValue156
 g17 := by kernel_rfl
 g18 := by kernel_rfl
 g19 := by kernel_rfl }
open Go.RowKit Go.Sort Go.Lib in
theorem Tryz.strconv_Itoa_small (i : Nat) (hi : i < 100) (w : World) :
  Calls Tryz.prog 87 #[.int .i64 i] w fun e w' => e = .returned (.string ⟨(Lib.decDigits i).toArray⟩) ∧ w' = w := Any.strconv_Itoa_small Tryz.lays171 i hi w

def Tryz.lays166_ren : Go.Shelf.Ren := ⟨fun | 166 => 112 | 240 => 127 | 276 => 139 | n => n, fun | 0 => 0 | 3 => 3 | 4 => 4 | 9 => 9 | 20 => 20 | 37 => 95 | 70 => 94 | 72 => 97 | 75 => 119 | 80 => 100 | 164 => 143 | 5 => 5 | n => n, fun | n => n⟩
theorem Tryz.lays166 : Go.Proofs.Lays.n166 Tryz.prog Tryz.lays166_ren := {
 mixed := by kernel_rfl
 f166 := Tryz.func112.trans (congrArg some (by kernel_rfl))
 f240 := Tryz.func127.trans (congrArg some (by kernel_rfl))
 f276 := Tryz.func139.trans (congrArg some (by kernel_rfl))
 t0 := Tryz.underlying0
 a0 := Tryz.isAgg0
 z0 := Tryz.sizeOf0
 v0 := Tryz.zeroValue0
 t3 := Tryz.underlying3
 a3 := Tryz.isAgg3
 z3 := Tryz.sizeOf3
 v3 := Tryz.zeroValue3
 t4 := Tryz.underlying4
 a4 := Tryz.isAgg4
 z4 := Tryz.sizeOf4
 v4 := Tryz.zeroValue4
 t9 := Tryz.underlying9
 a9 := Tryz.isAgg9
 z9 := Tryz.sizeOf9
 v9 := Tryz.zeroValue9
 t20 := Tryz.underlying20
 a20 := Tryz.isAgg20
 z20 := Tryz.sizeOf20
 v20 := Tryz.zeroValue20
 t37 := Tryz.underlying95
 a37 := Tryz.isAgg95
 z37 := Tryz.sizeOf95
 v37 := Tryz.zeroValue95
 t70 := Tryz.underlying94
 a70 := Tryz.isAgg94
 z70 := Tryz.sizeOf94
 v70 := Tryz.zeroValue94
 t72 := Tryz.underlying97
 a72 := Tryz.isAgg97
 z72 := Tryz.sizeOf97
 v72 := Tryz.zeroValue97
 t75 := Tryz.underlying119
 a75 := Tryz.isAgg119
 z75 := Tryz.sizeOf119
 v75 := Tryz.zeroValue119
 t164 := Tryz.underlying143
 a164 := Tryz.isAgg143
 z164 := Tryz.sizeOf143
 v164 := Tryz.zeroValue143 }
theorem Tryz.Builder_Extra_166 : Builder.Extra Tryz.prog Tryz.lays166_ren := {
 sizeBuilder := by kernel_rfl
 liesBuilder := by kernel_rfl
 t5 := Tryz.underlying5
 a5 := Tryz.isAgg5
 z5 := Tryz.sizeOf5
 v5 := Tryz.zeroValue5
 infoByte := by kernel_rfl
 cellsByte := by kernel_rfl
 sizeByte := by kernel_rfl
 neB5 := by decide }

end Go.Proofs
end
section
namespace Go.Proofs.YtekhnajfdaknnaaGreatDoor.S
open Go.RowKit

theorem uf_0 : Bodied Tryz.prog 87 := Bodied.mk' (by kernel_rfl)
theorem uf_2 : Bodied Tryz.prog 110 := Bodied.mk' (by kernel_rfl)
theorem uf_3 : SlT Tryz.prog 64 9 1 := SlT.mk' Tryz.underlying64 (by kernel_rfl)
theorem SItoa (i : Nat) (hi : i < 100) : Fn Tryz.prog 87 [] [vi .i64 (i : Int)] (vs ⟨(Lib.decDigits i).toArray⟩) [] := by
 intro w H B vals pre
 obtain ⟨a, rfl, h1⟩ := args1 pre.arg
 have h1 := VR.rawI h1
 subst h1
 refine (Tryz.strconv_Itoa_small i hi w).mono ?_
 rintro en w' ⟨rfl, rfl⟩
 exact postP rfl pre.sat ⟨rfl, Go.Proofs.YtekhnajfdaknnaaGreatDoor.Ext.refl _⟩
theorem SItoa3 : Fn Tryz.prog 87 [] [vi .i64 3] (vs (⟨#[51]⟩ : ByteArray)) [] := Fn.cast (SItoa 3 (by decide)) (congrArg vs (by rw [Lib.decDigits]; first | rfl | simp))
theorem SName3  : Fn Tryz.prog 47 [] [vi .i64 3, .t (.c (.d (.raw nilV)))] (vs (⟨#[118, 51]⟩ : ByteArray)) [] := by
 refine Fn.body Tryz.func47 rfl 20 rfl fun w H B a h => ?_
 refine rSeq fam0ok 0 [] [(0, vi .i64 3), (1, .t (.c (.d (.raw nilV)))), (4, .t (.c (.d (.raw (.string ByteArray.empty)))))] [] (by kernel_rfl) h ?_; clear h; intro a w h
 refine wp_seq ?_
 refine rSeq fam0ok 0 [(1, .cmp (op := .geq) (m := 3) (n := 0) (b := true) .i64 rfl), (6, .cmp (op := .lss) (m := 3) (n := 0) (b := false) .i64 (show (decide (3 < 0)) = false from rfl))] [(0, vi .i64 3), (1, .t (.c (.d (.raw nilV)))), (4, .t (.c (.d (.raw (.string ByteArray.empty))))), (12, vb false)] [] (by kernel_rfl) h ?_; clear h; intro a w h
 refine condS false h rfl (fun hc => ?_) (fun hc => ?_)
 ·cases hc
 ·clear hc
  refine wp_skip ?_
  refine then_n ?_
  refine rSeq fam0ok 0 [(1, .call (SItoa3) uf_0), (2, .gen _ _ _ fun _ _ _ _ => Op.strAdd (d := 19) (xt := 9) (yt := 9) (s1 := (⟨#[118]⟩ : ByteArray)) (s2 := (⟨#[51]⟩ : ByteArray)) (r := (⟨#[118, 51]⟩ : ByteArray)) (OV.const (.string (⟨#[118]⟩ : ByteArray)) rfl) (OV.tmp 18 _) (by decide) (by decide))] [(4, .t (.c (.d (.raw (.string (⟨#[118, 51]⟩ : ByteArray))))))] [] (by kernel_rfl) h ?_; clear h; intro a w h
  refine wp_ret ?_
  refine retS [.c (.d (.raw (.string (⟨#[118, 51]⟩ : ByteArray))))] h Exit.ret (.inl rfl)  rfl ⟨RV.tmp _ _ rfl, trivial⟩ ?_ (by kernel_rfl) (by kernel_rfl)
  rfl
theorem SnText2 (zs : List Nat) (hz : Lb zs) (lz : zs.length ≤ 100) (hv : Go.Proofs.YtekhnajfdaknnaaGreatDoor.val zs = 2) : Fn Tryz.prog 110 [] [vn zs] (vs (⟨#[50]⟩ : ByteArray)) [] := by
 intro w H B vals pre
 obtain ⟨a, rfl, h1⟩ := args1 pre.arg
 obtain ⟨ao, c, rfl, r1⟩ := openN h1 hz
 refine (Text_any ao _ c zs w rfl (r1 w pre.sat) (by omega)).mono ?_
 rintro en w' ⟨t, rfl, ht, hx⟩
 rw [hv] at ht
 have e : t = (⟨#[50]⟩ : ByteArray) := isT_str ht (isT_lit (by decide))
 subst e
 exact postP rfl pre.sat ⟨rfl, hx⟩
theorem SzText2 (x : ZI) (hx : Lb x.abs) (lx : x.abs.length ≤ 100) (hv : x.val = 2) : Fn Tryz.prog 84 [] [vz x] (vs (⟨#[50]⟩ : ByteArray)) [] := by
 have hn2 : Go.Proofs.YtekhnajfdaknnaaGreatDoor.val x.abs = 2 := by rw [ZI.val_abs, hv]; rfl
 refine Fn.body Tryz.func84 rfl 13 rfl fun w H B a h => ?_
 refine rSeq fam0ok 0 [] [(1, vp 0 0), (2, .t (.c (.d (.raw (.string ByteArray.empty)))))] [(0, .box (zi x))] (by kernel_rfl) h ?_; clear h; intro a w h
 refine wp_seq ?_
 refine rSeq fam0ok 1 [(1, .call (SSign x hx (by omega)) td_6), (2, .cmp (op := .lss) (m := (sgn x.val)) (n := 0) (b := false) .i64 (show (decide (sgn x.val < 0)) = false from by rw [hv]; rfl))] [(1, vp 0 0), (2, .t (.c (.d (.raw (.string ByteArray.empty))))), (5, vb false)] [(0, .box (zi x))] (by kernel_rfl) h ?_; clear h; intro a w h
 refine condS false h rfl (fun hc => ?_) (fun hc => ?_)
 ·cases hc
 ·clear hc
  refine wp_skip ?_
  refine then_n ?_
  refine rSeq fam0ok 1 [(2, .call (SnText2 x.abs hx lx hn2) uf_2)] [(2, .t (.c (.d (.raw (.string (⟨#[50]⟩ : ByteArray))))))] [] (by kernel_rfl) h ?_; clear h; intro a w h
  refine wp_ret ?_
  refine retS [.c (.d (.raw (.string (⟨#[50]⟩ : ByteArray))))] h Exit.ret (.inl rfl)  rfl ⟨RV.tmp _ _ rfl, trivial⟩ ?_ (by kernel_rfl) (by kernel_rfl)
  rfl
theorem SName0  : Fn Tryz.prog 47 [] [vi .i64 0, .t (.c (.d (.sl 1 ([(⟨#[120]⟩ : ByteArray)].map strD))))] (vs (⟨#[120]⟩ : ByteArray)) [] := by
 refine Fn.body Tryz.func47 rfl 20 rfl fun w H B a h => ?_
 refine rSeq fam0ok 0 [] [(0, vi .i64 0), (1, .t (.c (.d (.sl 1 ([(⟨#[120]⟩ : ByteArray)].map strD))))), (4, .t (.c (.d (.raw (.string ByteArray.empty)))))] [] (by kernel_rfl) h ?_; clear h; intro a w h
 refine wp_seq ?_
 refine rSeq fam0ok 0 [(1, .cmp (op := .geq) (m := 0) (n := 0) (b := true) .i64 rfl), (5, .len (c := (.d (.sl 1 ([(⟨#[120]⟩ : ByteArray)].map strD)))) (n := [(⟨#[120]⟩ : ByteArray)].length) (lenC_map _ _ _)), (6, .cmp (op := .lss) (m := 0) (n := ([(⟨#[120]⟩ : ByteArray)].length : Int)) (b := true) .i64 (show (decide (0 < ([(⟨#[120]⟩ : ByteArray)].length : Int))) = true from rfl))] [(0, vi .i64 0), (1, .t (.c (.d (.sl 1 ([(⟨#[120]⟩ : ByteArray)].map strD))))), (4, .t (.c (.d (.raw (.string ByteArray.empty))))), (12, vb true)] [] (by kernel_rfl) h ?_; clear h; intro a w h
 refine condS true h rfl (fun hc => ?_) (fun hc => ?_)
 ·clear hc
  refine rSeq fam0ok 0 [(2, .gen _ _ _ fun _ _ _ _ => Op.idxD (d := 15) (t := 13) (k := .i64) uf_3 (map_at (show ([(⟨#[120]⟩ : ByteArray)] : List ByteArray)[0]? = some (⟨#[120]⟩ : ByteArray) from rfl) (f := strD)) (OV.tmp 14 _))] [(0, vi .i64 0), (4, .t (.c (.d (.raw (.string (⟨#[120]⟩ : ByteArray))))))] [] (by kernel_rfl) h ?_; clear h; intro a w h
  refine wp_ret ?_
  refine then_r ?_
  refine retS [.c (.d (.raw (.string (⟨#[120]⟩ : ByteArray))))] h Exit.ret (.inl rfl)  rfl ⟨RV.tmp _ _ rfl, trivial⟩ ?_ (by kernel_rfl) (by kernel_rfl)
  rfl
 ·cases hc
end Go.Proofs.YtekhnajfdaknnaaGreatDoor.S
end
section
namespace Go.Proofs.YtekhnajfdaknnaaGreatDoor.S
open Go.RowKit Go.Shelf
section
variable {P : Program} {ρ : Ren}
def CapOk (v : Value) : Prop := v = .slice none 0 0 ∨ ∃ g n c, v = .slice (some ⟨g, 0, none⟩) n c ∧ 0 < c
theorem str_fresh {w : World} {t u ty e : TypeId} {i : TypeInfo} (ht : P.underlying t = some (.slice e)) (hu : P.underlying u = some .string) (hi : P.info? e = some i) (hz : i.zero = some (.int .u8 0)) (hsize : i.size = 1) (hby : i.bytes = 1)
  {v : Value} {n : Nat} {xs : List Value} (hown : w.ownsRow 0 e 1 v n xs) {s : ByteArray} (h63 : n + s.size ≤ maxLen) (hb : n + s.size ≤ 140737488355328)
  (hc0 : CapOk v) {v' : Value} {w' : World} (hr : (Builtin.append_ #[t, u] ty #[v, .string s]).run P w = .ok v' w') : (∀ g, v'.ownBlock = some g → v.ownBlock = some g ∨ w.heap.size ≤ g) ∧ CapOk v' := by
 have hsmall : n + s.size ≤ 9223372036854775807 := by simp only [maxLen] at h63; omega
 have hxl : xs.length = n := by simpa using hown.1
 rcases hown.2 with ⟨rfl, rfl⟩ | ⟨g2, cap, cur, rfl, _, hg2, hnc, hcm, hcs, htake⟩
 ·by_cases hm : s.size = 0
  ·obtain ⟨a, b, c, _, _, hnil⟩ := Lib.run_append_own_string (P := P) w 0 t u ty e i ht hu hi hz hsize hby _ 0 xs hown s (by omega) (by omega) (Nat.zero_le _)
   rw [c] at hr
   injection hr with hr _
   subst hr
   have e1 := hnil.2 ⟨rfl, hm⟩
   exact ⟨fun g hg => by rw [e1] at hg; simp [Value.ownBlock] at hg, .inl e1⟩
  ·have h2 := run_append_nil_string (P := P) w t u ty e i (.int .u8 0) ht hu hi hz s (by omega) (by omega) (by rw [hby]; omega)
   rw [h2] at hr
   injection hr with hr _
   subst hr
   exact ⟨fun g hg => by simp [Value.ownBlock] at hg; exact .inr (by omega), .inr ⟨_, _, _, rfl, by have := grownCap_ge w s.size 0 e; omega⟩⟩
 ·by_cases hroom : n + s.size ≤ cap
  ·have h2 := Lib.run_append_room_string (P := P) w t u ty e i ht hu hi hsize g2 n cap cur hg2 s hroom (by omega)
   rw [h2] at hr
   injection hr with hr _
   subst hr
   refine ⟨fun g hg => .inl hg, ?_⟩
   rcases hc0 with h0 | ⟨_, _, _, h0, hc⟩
   ·cases h0
   ·injection h0 with _ _ h0; subst h0; exact .inr ⟨_, _, _, rfl, hc⟩
  ·have h2 := Lib.run_append_grow_string (P := P) w t u ty e i (.int .u8 0) ht hu hi hz ⟨g2, 0, none⟩ n cap xs (by rw [hsize]; simpa using hxl) (hown.cells (g := g2) rfl) s (by omega) (by omega) (by rw [hby]; exact growslice_fits (by omega) (by omega))
   rw [h2] at hr
   injection hr with hr _
   subst hr
   exact ⟨fun g hg => by simp [Value.ownBlock] at hg; exact .inr (by omega), .inr ⟨_, _, _, rfl, by have := grownCap_ge w (n + s.size) cap e; omega⟩⟩
theorem wpl_str {ops : Array Oper} {rest : List Oper} {o : Oper} {a : Act} {w : World} {Q : Exit → Act → World → Prop} (hgd : o.guard = none) (sl x : Operand) (t u : TypeId)
  (ho : o.op = .call { callee := .builtin .append, args := #[sl, x], argTypes := #[t, u] })
  (e : TypeId) (i : TypeInfo) (ht : P.underlying t = some (.slice e)) (hu : P.underlying u = some .string) (hi : P.info? e = some i) (hz : i.zero = some (.int .u8 0)) (hsize : i.size = 1) (hby : i.bytes = 1)
  (v : Value) (n : Nat) (xs : List Value) (hs : a.eval sl = v) (hown : w.ownsRow 0 e 1 v n xs) (s : ByteArray) (hx : a.eval x = .string s) (h63 : n + s.size ≤ maxLen) (hb : n + s.size ≤ 140737488355328) (hc0 : CapOk v)
  (h : ∀ v' w', w'.ownsRow 0 e 1 v' (n + s.size) (xs ++ Lib.strCells s) → w.grownBy w' v.ownBlock → (∀ g, v'.ownBlock = some g → v.ownBlock = some g ∨ w.heap.size ≤ g) → CapOk v' → wpList P ops Q rest (a.put o.dst v') w') : wpList P ops Q (o :: rest) a w := by
 refine wpList_plain hgd fun K hK => ?_
 obtain ⟨v', w', hr, h2, h3, _⟩ := Lib.run_append_own_string (P := P) w 0 t u o.type e i ht hu hi hz hsize hby v n xs hown s h63 hb (Nat.zero_le _)
 have hf := str_fresh ht hu hi hz hsize hby hown h63 hb hc0 hr
 unfold Oper.wp execOp
 simp only [ho, resolve, invoke, builtin, Sem.run_bind, Sem.run_pure, Result.andThen_ok, List.map_toArray, List.map_cons, List.map_nil, hs, hx, hr]
 exact hK _ _ (h v' w' h2 h3 hf.1 hf.2)

/-- a builder in block b: where its own address is noted, or nothing yet; its row -/
structure BldW (T e : TypeId) (b : Nat) (v : Value) (xs : List Value) (w : World) : Prop where
  blk : ∃ p, w.heap[b]? = some (.cells #[p, v] T (0, 0)) ∧ (p = .pointer none ∨ p = .pointer (some ⟨b, 0, none⟩))
  own : w.ownsRow 0 e 1 v xs.length xs
  ne : v.ownBlock ≠ some b
  cap : CapOk v
theorem BldW.is {T e : TypeId} {b : Nat} {v : Value} {xs : List Value} {w : World} (h : BldW T e b v xs w) : Lib.IsBuilder T e 0 b xs w := by
 obtain ⟨p, h1, rfl | rfl⟩ := h.blk
 ·exact .inl ⟨Nat.zero_le _, v, h1, h.own, h.ne⟩
 ·exact .inr ⟨Nat.zero_le _, v, h1, h.own, h.ne⟩
theorem ownsRow_set {w : World} {e : TypeId} {v : Value} {n : Nat} {xs : List Value} (h : w.ownsRow 0 e 1 v n xs) {b j : Nat} (hb : v.ownBlock ≠ some b) (q : Value) : (w.setCell ⟨b, j, none⟩ q).ownsRow 0 e 1 v n xs := by
 refine ⟨h.1, ?_⟩
 rcases h.2 with h2 | ⟨g, cap, cur, rfl, h3, h4, h5⟩
 ·exact .inl h2
 ·refine .inr ⟨g, cap, cur, rfl, h3, ?_, h5⟩
  rw [Below.heap_setCell w ⟨b, j, none⟩ q g (fun e => hb (by simp [Value.ownBlock, e]))]
  exact h4
theorem ccx (L : Lays.n240 P ρ) (X : Builder.X72 P ρ) {b : Nat} {v : Value} {xs : List Value} {w : World} (h : BldW (ρ.t 72) (ρ.t 5) b v xs w) :
  Calls P (ρ.f 240) #[.pointer (some ⟨b, 0, none⟩)] w fun e w' => e = .returned (.tuple #[]) ∧ w'.heap[b]? = some (.cells #[.pointer (some ⟨b, 0, none⟩), v] (ρ.t 72) (0, 0)) ∧ w'.ownsRow 0 (ρ.t 5) 1 v xs.length xs ∧
   (∀ k, k ≠ b → w'.heap[k]? = w.heap[k]?) ∧ w'.os = w.os ∧ w'.tape = w.tape ∧ w'.output = w.output ∧ w'.heap.size = w.heap.size := by
 obtain ⟨p, h1, rfl | rfl⟩ := h.blk
 ·refine (Any.Builder_copyCheck_fresh L X b w (by rw [Lib.cell_of_heap h1]; rfl) (by simp [World.shape?, h1]) (Lib.frozen_of_heap h1 0)).mono ?_
  rintro e w' ⟨rfl, rfl⟩
  refine ⟨rfl, by simp [World.setCell, Array.getElem?_modify, h1], ownsRow_set h.own h.ne _, fun k hk => Below.heap_setCell w _ _ k hk, rfl, rfl, rfl, by simp [World.setCell]⟩
 ·refine (Any.Builder_copyCheck_used L X b w (by rw [Lib.cell_of_heap h1]; rfl)).mono ?_
  rintro e w' ⟨rfl, rfl⟩
  exact ⟨rfl, h1, h.own, fun _ _ => rfl, rfl, rfl, rfl, rfl⟩

set_option maxHeartbeats 2000000 in
/-- WriteString: the bytes come behind, and nothing else turns -/
theorem wsx (L : Lays.n166 P ρ) (X : Builder.Extra P ρ) {b : Nat} {v : Value} {xs : List Value} {w : World} (h : BldW (ρ.t 72) (ρ.t 5) b v xs w) (s : ByteArray) (hlen : xs.length + s.size ≤ 140737488355328) :
  Calls P (ρ.f 166) #[.pointer (some ⟨b, 0, none⟩), .string s] w fun e w' => e = .returned (.tuple #[.int .i64 s.size, .nilIface]) ∧ ∃ v', BldW (ρ.t 72) (ρ.t 5) b v' (xs ++ Lib.strCells s) w' ∧ (∀ g, v'.ownBlock = some g → v.ownBlock = some g ∨ w.heap.size ≤ g) ∧
   (∀ k, k < w.heap.size → k ≠ b → some k ≠ v.ownBlock → w'.heap[k]? = w.heap[k]?) ∧ w'.os = w.os ∧ w'.tape = w.tape ∧ w'.output = w.output ∧ w.heap.size ≤ w'.heap.size := by
 obtain ⟨i0, hi, hz0, hz1, hz2⟩ := info_parts X.infoByte
 have mixed := L.mixed
 have t72 := L.t72; have a72 := L.a72; have z72 := L.z72; have v72 := L.v72; have u72 := run_underlying L.t72
 have t70 := L.t70; have a70 := L.a70; have z70 := L.z70; have v70 := L.v70; have u70 := run_underlying L.t70
 have t37 := L.t37; have a37 := L.a37; have z37 := L.z37; have v37 := L.v37; have u37 := run_underlying L.t37
 have t3 := L.t3; have a3 := L.a3; have z3 := L.z3; have v3 := L.v3; have u3 := run_underlying L.t3
 have t9 := L.t9; have a9 := L.a9; have z9 := L.z9; have v9 := L.v9; have u9 := run_underlying L.t9
 have t4 := L.t4; have a4 := L.a4; have z4 := L.z4; have v4 := L.v4; have u4 := run_underlying L.t4
 have t164 := L.t164; have a164 := L.a164; have z164 := L.z164; have v164 := L.v164; have u164 := run_underlying L.t164
 have t5 := X.t5; have a5 := X.a5; have z5 := X.z5; have v5 := X.v5; have u5 := run_underlying X.t5
 have e240 : ∀ args w, (callFunc (ρ.f 240) args).run P w = .ok (.enter (ρ.f 240) args) w := enters_of L.f240 (by kernel_rfl) rfl
 have hltb : b < w.heap.size := by obtain ⟨p, h1, _⟩ := h.blk; exact (Array.getElem?_eq_some_iff.1 h1).1
 have hne := h.ne
 go_enter L.f166, Body.n166_ntmps ρ
 go_wp2_with (go_at_fn (ρ.f 240); refine (ccx { L with } X.toX72 h).mono ?_)
 rintro e w1 ⟨rfl, hbk, hown, k1, k2, k3, k4, k5⟩
 have c0 : w1.cell? ⟨b, 0, none⟩ = some (.pointer (some ⟨b, 0, none⟩)) := by rw [Lib.cell_of_heap hbk]; rfl
 have c1 : w1.cell? ⟨b, 1, none⟩ = some v := by rw [Lib.cell_of_heap hbk]; rfl
 go_wp2_with (at_builtin; refine wpl_str rfl _ _ (ρ.t 37) (ρ.t 9) rfl (ρ.t 5) i0 L.t37 L.t9 hi hz0 hz1 hz2 _ _ _ rfl hown s rfl ?c3 ?c4 h.cap ?_)
 case c3 => unfold maxLen; omega
 case c4 => omega
 intro v' w2 hown' hgrow hfr hcap'
 have hb2 : w2.heap[b]? = some (.cells #[.pointer (some ⟨b, 0, none⟩), v] (ρ.t 72) (0, 0)) := by
  rw [hgrow.block b (by omega) (fun e => hne e.symm)]
  exact hbk
 have d0 : w2.cell? ⟨b, 0, none⟩ = some (.pointer (some ⟨b, 0, none⟩)) := by rw [Lib.cell_of_heap hb2]; rfl
 have d1 : w2.cell? ⟨b, 1, none⟩ = some v := by rw [Lib.cell_of_heap hb2]; rfl
 have f1 : w2.frozen? ⟨b, 1, none⟩ = false := Lib.frozen_of_heap hb2 1
 have hne' : v'.ownBlock ≠ some b := fun e => by
  rcases hfr b e with h1 | h1
  ·exact hne h1
  ·omega
 obtain ⟨ao, n', cap, rfl⟩ : ∃ ao n' cap, v' = .slice ao n' cap := by
  rcases hown'.2 with ⟨hv, _⟩ | ⟨g, cap, cur, hv, _⟩
  ·exact ⟨_, _, _, hv⟩
  ·exact ⟨_, _, _, hv⟩
 go_wp2
 go_ret2
 refine ⟨rfl, _, ⟨⟨_, by simp [World.setCell, Array.getElem?_modify, hb2], .inr rfl⟩, ?_, hne', hcap'⟩, fun g hg => (hfr g hg).imp id fun h => by omega, fun k h1 h2 h3 => ?_, ?_, ?_, ?_, ?_⟩
 ·exact ownsRow_set (by simpa [Lib.strCells_length] using hown') hne' _
 ·rw [Below.heap_setCell _ _ _ k h2, hgrow.block k (by omega) h3, k1 k h2]
 ·exact hgrow.os.trans k2
 ·exact hgrow.tape.trans k3
 ·exact hgrow.output.trans k4
 ·have := hgrow.size; simp [World.setCell]; omega

set_option maxHeartbeats 2000000 in
/-- String: the bytes; of all blocks only the row's own turns -/
theorem strx (L : Lays.n169 P ρ) (X : Builder.Extra P ρ) {b g cap : Nat} {p : Value} {cur : Array Value} {l : List UInt8} {w : World} (hbk : w.heap[b]? = some (.cells #[p, .slice (some ⟨g, 0, none⟩) l.length cap] (ρ.t 72) (0, 0)))
  (hg : w.heap[g]? = some (.cells cur (ρ.t 5) (0, 0))) (h0 : l ≠ []) (hnc : l.length ≤ cap) (hcm : cap ≤ maxLen) (hcs : cur.size = cap) (htake : cur.toList.take l.length = Lib.byteCells l) :
  Calls P (ρ.f 169) #[.pointer (some ⟨b, 0, none⟩)] w fun e w' => e = .returned (.string ⟨l.toArray⟩) ∧ w' = w.drew.freeze ⟨g, 0, none⟩ l.length := by
 have hl0 : l.length ≠ 0 := by simpa using h0
 have c1 : w.drew.cell? ⟨b, 1, none⟩ = some (.slice (some ⟨g, 0, none⟩) l.length cap) := by
  have : w.drew.heap[b]? = some (.cells #[p, .slice (some ⟨g, 0, none⟩) l.length cap] (ρ.t 72) (0, 0)) := hbk
  rw [Lib.cell_of_heap this]; rfl
 have hSD : (Builtin.unsafeSliceData_ #[(ρ.t 37)] (ρ.t 127) #[.slice (some ⟨g, 0, none⟩) l.length cap]).run P w.drew = .ok (.pointer (some ⟨g, 0, none⟩)) w.drew :=
  Lib.run_unsafeSliceData_row _ _ _ _ _ _ (by omega)
 have hUS : (Builtin.unsafeString_ #[(ρ.t 127), (ρ.t 3)] (ρ.t 9) #[.pointer (some ⟨g, 0, none⟩), .int .i64 l.length]).run P w.drew = .ok (.string ⟨l.toArray⟩) (w.drew.freeze ⟨g, 0, none⟩ l.length) := by
  refine Lib.run_unsafeString_row w.drew (ρ.t 127) (ρ.t 3) (ρ.t 9) (ρ.t 5) L.t127 X.cellsByte g cur.size (by have hg' : w.drew.heap[g]? = some (.cells cur (ρ.t 5) (0, 0)) := hg; simp [World.shape?, hg']) l h0 (by omega) (by unfold maxLen at hcm; omega) ?_
  intro j x hx
  have hg' : w.drew.heap[g]? = some (.cells cur (ρ.t 5) (0, 0)) := hg
  have e1 : (Lib.byteCells l)[j]? = some (.int .u8 x.toNat) := by simp [Lib.byteCells, hx]
  have hjl : j < l.length := (List.getElem?_eq_some_iff.1 hx).1
  rw [← htake, List.getElem?_take, if_pos hjl] at e1
  have e2 : cur[j]? = some (.int .u8 x.toNat) := by rw [← Array.getElem?_toList]; exact e1
  rw [Addr.add_mid, Lib.cell_of_heap hg', Nat.zero_add]; exact e2
 have mixed := L.mixed
 have t72 := L.t72; have a72 := L.a72; have z72 := L.z72; have v72 := L.v72; have u72 := run_underlying L.t72
 have t70 := L.t70; have a70 := L.a70; have z70 := L.z70; have v70 := L.v70; have u70 := run_underlying L.t70
 have t37 := L.t37; have a37 := L.a37; have z37 := L.z37; have v37 := L.v37; have u37 := run_underlying L.t37
 have t127 := L.t127; have a127 := L.a127; have z127 := L.z127; have v127 := L.v127; have u127 := run_underlying L.t127
 have t3 := L.t3; have a3 := L.a3; have z3 := L.z3; have v3 := L.v3; have u3 := run_underlying L.t3
 have t9 := L.t9; have a9 := L.a9; have z9 := L.z9; have v9 := L.v9; have u9 := run_underlying L.t9
 have t5 := X.t5; have a5 := X.a5; have z5 := X.z5; have v5 := X.v5; have u5 := run_underlying X.t5
 go_enter L.f169, Body.n169_ntmps ρ
 go_wp2
 go_region_o
 all_goals (go_wp2; go_ret; exact ⟨rfl, rfl⟩)

def bw (l : List UInt8) : List (List D) := l.map fun c => [.raw (.int .u8 (c.toNat : Int))]
theorem bw_length (l : List UInt8) : (bw l).length = l.length := by simp [bw]
theorem bw_one (l : List UInt8) : ∀ r ∈ bw l, r.length = 1 := by
 intro r hr; obtain ⟨c, _, rfl⟩ := List.mem_map.1 hr; rfl
theorem bw_flat (l : List UInt8) : (bw l).flatten = l.map fun c => D.raw (.int .u8 (c.toNat : Int)) := by
 induction l with
 | nil => rfl
 | cons x l ih => show _ :: (bw l).flatten = _; rw [ih]; rfl
theorem raws_eq {H : Im} : ∀ {l : List UInt8} {vs : List Value}, All2 (DR H) (l.map fun c => D.raw (.int .u8 (c.toNat : Int))) vs → vs = Lib.byteCells l
 | [], [], _ => rfl
 | _ :: l, _ :: vs, h => by
  have h1 := h.1
  cases h1
  rw [raws_eq h.2]; rfl
 | [], _ :: _, h => h.elim
 | _ :: _, [], h => h.elim
theorem raws_mk {H : Im} : ∀ (l : List UInt8), All2 (DR H) (l.map fun c => D.raw (.int .u8 (c.toNat : Int))) (Lib.byteCells l)
 | [] => trivial
 | x :: l => ⟨DR.raw _ rfl, raws_mk l⟩
theorem strCells_bytes (s : ByteArray) : Lib.strCells s = Lib.byteCells s.data.toList := by simp [Lib.strCells, Lib.byteCells]
theorem byteCells_app (l m : List UInt8) : Lib.byteCells (l ++ m) = Lib.byteCells l ++ Lib.byteCells m := by simp [Lib.byteCells]

theorem bldW_of {H : Im} {B : Bl} {w : World} {n m : Nat} {T e : TypeId} {l : List UInt8} (hnm : n ≠ m) (h7 : LR H B w n (.bld T (.own m l.length))) (h8 : LR H B w m (.row e 1 (bw l))) (hi : ∀ b c c', B n = some (b, c) → B m = some (b, c') → n = m) :
  ∃ b c v, B n = some (b, c) ∧ BldW T e b v (Lib.byteCells l) w ∧ v.ownBlock = (B m).map (·.1) := by
 obtain ⟨b, c, v1, v2, hb, hc, hp, hz, hv⟩ := h7
 refine ⟨b, c, v2, hb, ⟨⟨v1, hc, hp⟩, ?_, ?_, ?_⟩, ?_⟩
 ·refine ⟨by simp, ?_⟩
  simp only [CR] at hv
  simp only [LR] at h8
  cases hB : B m with
  | none =>
   rw [hB] at hv h8
   obtain ⟨h1, ao, rfl⟩ := hv
   rcases hz with hz | ⟨g, k, c', hz, hc'⟩
   ·exact .inl ⟨hz, by simp [Lib.byteCells_length, h1]⟩
   ·injection hz with _ _ hz; omega
  | some q =>
   obtain ⟨g, cap⟩ := q
   rw [hB] at hv h8
   obtain ⟨arr, g1, g2, g3, g4, _, g6⟩ := h8
   rw [bw_length] at g3 g6
   rw [bw_flat] at g6
   have g7 := raws_eq g6
   exact .inr ⟨g, cap, ⟨arr⟩, by rw [Lib.byteCells_length]; exact hv, Nat.zero_le _, g1, by rw [Lib.byteCells_length]; exact g3, g4, by simpa using g2, by rw [Lib.byteCells_length]; exact g7⟩
 ·simp only [CR] at hv
  cases hB : B m with
  | none =>
   rw [hB] at hv
   obtain ⟨h1, ao, rfl⟩ := hv
   rcases hz with hz | ⟨g, k, c', hz, hc'⟩
   ·rw [hz]; simp [Value.ownBlock]
   ·injection hz with _ _ hz; omega
  | some q =>
   obtain ⟨g, cap⟩ := q
   rw [hB] at hv
   rw [hv]
   intro e1
   simp only [Value.ownBlock, Option.some.injEq] at e1
   subst e1
   exact hnm (hi _ _ _ hb hB)
 ·exact hz
 ·simp only [CR] at hv
  cases hB : B m with
  | none =>
   rw [hB] at hv
   obtain ⟨h1, ao, rfl⟩ := hv
   rcases hz with hz | ⟨g, k, c', hz, hc'⟩
   ·rw [hz]; rfl
   ·injection hz with _ _ hz; omega
  | some q =>
   obtain ⟨g, cap⟩ := q
   rw [hB] at hv
   rw [hv]; rfl
def rowB (v : Value) : Option (Nat × Nat) := match v with | .slice (some a) _ c => some (a.block, c) | _ => none
theorem bldW_to {H : Im} {B : Bl} {w : World} {n m b c : Nat} {T e : TypeId} {v : Value} {l : List UInt8} (hB : B n = some (b, c)) (hm : B m = rowB v) (h : BldW T e b v (Lib.byteCells l) w) :
  LR H B w n (.bld T (.own m l.length)) ∧ LR H B w m (.row e 1 (bw l)) := by
 obtain ⟨⟨p, h1, h2⟩, h3, h4, h5⟩ := h
 rw [Lib.byteCells_length] at h3
 constructor
 ·refine ⟨b, c, p, v, hB, h1, h2, h5, ?_⟩
  simp only [CR, hm]
  rcases h3.2 with ⟨rfl, h6⟩ | ⟨g, cap, cur, rfl, _⟩
  ·exact ⟨h6, none, rfl⟩
  ·rfl
 ·simp only [LR, hm]
  rcases h3.2 with ⟨rfl, h6⟩ | ⟨g, cap, cur, rfl, _, g1, g2, g3, g4, g5⟩
  ·show bw l = []
   rw [List.length_eq_zero_iff.1 h6]; rfl
  ·refine ⟨cur.toList, g1, by simpa using g4, by rw [bw_length]; exact g2, g3, bw_one l, ?_⟩
   rw [bw_flat, bw_length, g5]
   exact raws_mk l

theorem frz (w : World) (g n : Nat) : (w.freeze ⟨g, 0, none⟩ n).os = w.os ∧ (w.freeze ⟨g, 0, none⟩ n).tape = w.tape ∧ (w.freeze ⟨g, 0, none⟩ n).output = w.output ∧ (w.freeze ⟨g, 0, none⟩ n).heap.size = w.heap.size ∧ ∀ k, k ≠ g → (w.freeze ⟨g, 0, none⟩ n).heap[k]? = w.heap[k]? := by
 unfold World.freeze
 split
 ·exact ⟨rfl, rfl, rfl, rfl, fun _ _ => rfl⟩
 ·refine ⟨rfl, rfl, rfl, by simp, fun k hk => ?_⟩
  simp only [Array.getElem?_modify]
  rw [if_neg (Ne.symm hk)]
theorem SBLen (La : Lays.n170 P ρ) (m : Nat) (hm : 7 ≠ m) (l : List UInt8) :
  Fn P (ρ.f 170) [(7, .bld (ρ.t 72) (.own m l.length)), (m, .row (ρ.t 5) 1 (bw l))] [vp 7 0] (vi .i64 l.length) [(7, .bld (ρ.t 72) (.own m l.length)), (m, .row (ρ.t 5) 1 (bw l))] := by
 intro w H B vals pre
 obtain ⟨a, rfl, b, c, hb, rfl⟩ := args1 pre.arg
 obtain ⟨b', c', v, hb', hw, hv⟩ := bldW_of hm (pre.loc _ List.mem_cons_self) (pre.loc _ (List.mem_cons_of_mem _ List.mem_cons_self)) (fun b c c' h1 h2 => pre.inj _ List.mem_cons_self _ (List.mem_cons_of_mem _ List.mem_cons_self) b c c' h1 h2)
 rw [hb] at hb'
 injection hb' with hb'
 obtain ⟨rfl, rfl⟩ := Prod.mk.injEq .. ▸ hb'
 refine (Any.Builder_Len La 0 b _ w hw.is).mono ?_
 rintro en w' ⟨rfl, rfl⟩
 rw [Lib.byteCells_length]
 exact ⟨_, H, B, rfl, Le.refl _, fun _ _ => rfl, pre.sat, pre.loc, fun p hp b c h => ⟨(pre.priv p hp b c h).1, (pre.priv p hp b c h).2, .inl ⟨p, hp, c, h⟩⟩, pre.inj, fun _ _ => rfl, DR.raw _ rfl, Ext.refl _ _⟩
theorem SBWrite (La : Lays.n166 P ρ) (X : Builder.Extra P ρ) (m m2 : Nat) (hm : 7 ≠ m) (h27 : m2 ≠ 7) (h2m : m2 ≠ m) (l : List UInt8) (s : ByteArray) (hs : l.length + s.size ≤ 140737488355328) :
  Fn P (ρ.f 166) [(7, .bld (ρ.t 72) (.own m l.length)), (m, .row (ρ.t 5) 1 (bw l))] [vp 7 0, vs s] (.tup [.c (.d (.raw (.int .i64 s.size))), .c (.d (.raw .nilIface))]) [(7, .bld (ρ.t 72) (.own m2 (l ++ s.data.toList).length)), (m2, .row (ρ.t 5) 1 (bw (l ++ s.data.toList)))] := by
 intro w H B vals pre
 obtain ⟨a1, a2, rfl, ⟨b, c, hb, rfl⟩, h2⟩ := args2 pre.arg
 have h2 := VR.rawI h2
 subst h2
 have hi : ∀ b c c', B 7 = some (b, c) → B m = some (b, c') → 7 = m := fun b c c' h1 h2 => pre.inj _ List.mem_cons_self _ (List.mem_cons_of_mem _ List.mem_cons_self) b c c' h1 h2
 obtain ⟨b', c', v, hb', hw, hv⟩ := bldW_of hm (pre.loc _ List.mem_cons_self) (pre.loc _ (List.mem_cons_of_mem _ List.mem_cons_self)) hi
 rw [hb] at hb'
 injection hb' with hb'
 obtain ⟨rfl, rfl⟩ := Prod.mk.injEq .. ▸ hb'
 obtain ⟨p71, p72⟩ := pre.priv _ List.mem_cons_self b c hb
 refine (wsx La X hw s (by rw [Lib.byteCells_length]; exact hs)).mono ?_
 rintro en w' ⟨rfl, v', hw', hfr, hk, k1, k2, k3, k4⟩
 rw [strCells_bytes, ← byteCells_app] at hw'
 have hHs : ∀ g, w.heap.size ≤ g → H g = none := fun g hg => by
  cases hx : H g with
  | none => rfl
  | some o => have := (Array.getElem?_eq_some_iff.1 (pre.sat g o hx)).1; omega
 have old : ∀ g, v.ownBlock = some g → ∃ c, B m = some (g, c) := fun g hg => by
  rw [hv] at hg
  cases hB : B m with
  | none => rw [hB] at hg; cases hg
  | some q => rw [hB] at hg; injection hg with hg; subst hg; exact ⟨q.2, rfl⟩
 have rowOwn : ∀ g c, rowB v' = some (g, c) → v'.ownBlock = some g := fun g c hg => by
  cases v' <;> first | (simp [rowB] at hg; done) | skip
  rename_i ao k cc
  cases ao with
  | none => simp [rowB] at hg
  | some a => simp [rowB] at hg; simp [Value.ownBlock, hg.1]
 have lt' : ∀ g, v'.ownBlock = some g → g < w'.heap.size := fun g hg => by
  rcases hw'.own.2 with ⟨h1, _⟩ | ⟨g2, cap, cur, h1, _, h3, _⟩
  ·rw [h1] at hg; cases hg
  ·rw [h1] at hg; injection hg with hg; subst hg; exact (Array.getElem?_eq_some_iff.1 h3).1
 have hB7 : (fun x => if x = m2 then rowB v' else B x) 7 = some (b, c) := by show (if 7 = m2 then _ else _) = _; rw [if_neg (Ne.symm h27)]; exact hb
 obtain ⟨l7, l9⟩ := bldW_to (H := H) (B := fun x => if x = m2 then rowB v' else B x) (n := 7) (m := m2) hB7 (by simp) hw'
 refine ⟨_, H, fun x => if x = m2 then rowB v' else B x, rfl, Le.refl _, fun _ _ => rfl, ?_, ?_, ?_, ?_, ?_, ?_, ?_⟩
 ·intro k o hko
  have h1 := pre.sat k o hko
  rw [hk k (Array.getElem?_eq_some_iff.1 h1).1 ?_ ?_]; exact h1
  ·rintro rfl; rw [p72] at hko; cases hko
  ·intro e1
   obtain ⟨c2, hc2⟩ := old k e1.symm
   have := (pre.priv _ (List.mem_cons_of_mem _ List.mem_cons_self) k c2 hc2).2
   rw [this] at hko; cases hko
 ·intro p hp
  rcases List.mem_cons.1 hp with rfl | hp
  ·exact l7
  ·rw [List.mem_singleton.1 hp]; exact l9
 ·intro p hp g c2 hg
  rcases List.mem_cons.1 hp with rfl | hp
  ·have hg' : B 7 = some (g, c2) := by have hg : (if 7 = m2 then rowB v' else B 7) = some (g, c2) := hg; rwa [if_neg (Ne.symm h27)] at hg
   rw [hb] at hg'
   injection hg' with hg'
   obtain ⟨rfl, rfl⟩ := Prod.mk.injEq .. ▸ hg'
   exact ⟨by omega, p72, .inl ⟨_, List.mem_cons_self, _, hb⟩⟩
  ·rw [List.mem_singleton.1 hp] at hg
   have hg : (if m2 = m2 then rowB v' else B m2) = some (g, c2) := hg
   rw [if_pos rfl] at hg
   have hg2 := rowOwn g c2 hg
   refine ⟨lt' g hg2, ?_, ?_⟩
   ·rcases hfr g hg2 with h1 | h1
    ·obtain ⟨c3, hc3⟩ := old g h1
     exact (pre.priv _ (List.mem_cons_of_mem _ List.mem_cons_self) g c3 hc3).2
    ·exact hHs g h1
   ·rcases hfr g hg2 with h1 | h1
    ·obtain ⟨c3, hc3⟩ := old g h1
     exact .inl ⟨_, List.mem_cons_of_mem _ List.mem_cons_self, c3, hc3⟩
    ·exact .inr h1
 ·have key : ∀ g c1 c2, B 7 = some (g, c1) → rowB v' = some (g, c2) → False := fun g c1 c2 h1 h2 => by
   rw [hb] at h1
   injection h1 with h1
   obtain ⟨rfl, rfl⟩ := Prod.mk.injEq .. ▸ h1
   exact hw'.ne (rowOwn _ _ h2)
  intro p hp q hq g c1 c2 h1 h2
  rcases List.mem_cons.1 hp with rfl | hp <;> rcases List.mem_cons.1 hq with rfl | hq
  ·rfl
  ·rw [List.mem_singleton.1 hq] at h2; have h1 : (if 7 = m2 then rowB v' else B 7) = some (g, c1) := h1; have h2 : (if m2 = m2 then rowB v' else B m2) = some (g, c2) := h2; rw [if_neg (Ne.symm h27)] at h1; rw [if_pos rfl] at h2; exact (key g c1 c2 h1 h2).elim
  ·rw [List.mem_singleton.1 hp] at h1; have h1 : (if m2 = m2 then rowB v' else B m2) = some (g, c1) := h1; have h2 : (if 7 = m2 then rowB v' else B 7) = some (g, c2) := h2; rw [if_neg (Ne.symm h27)] at h2; rw [if_pos rfl] at h1; exact (key g c2 c1 h2 h1).elim
  ·rw [List.mem_singleton.1 hp, List.mem_singleton.1 hq]
 ·intro n hn
  have : n ≠ m2 := by
   rcases hn with hn | hn
   ·rintro rfl; simp at hn; exact hn.elim h27 h2m
   ·rintro rfl; simp at hn
  show (if n = m2 then _ else _) = _
  rw [if_neg this]
 ·exact ⟨[.int .i64 s.size, .nilIface], rfl, DR.raw _ rfl, DR.raw _ rfl, trivial⟩
 ·refine ⟨k1, k2, k3, k4, fun k hk1 hk2 => hk k hk1 ?_ ?_⟩
  ·rintro rfl; exact hk2 ⟨_, List.mem_cons_self, _, hb⟩
  ·intro e1
   obtain ⟨c2, hc2⟩ := old k e1.symm
   exact hk2 ⟨_, List.mem_cons_of_mem _ List.mem_cons_self, c2, hc2⟩
theorem SBString (La : Lays.n169 P ρ) (X : Builder.Extra P ρ) (m : Nat) (hm : 7 ≠ m) (l : List UInt8) (h0 : l ≠ []) :
  Fn P (ρ.f 169) [(7, .bld (ρ.t 72) (.own m l.length)), (m, .row (ρ.t 5) 1 (bw l))] [vp 7 0] (vs ⟨l.toArray⟩) [] := by
 intro w H B vals pre
 obtain ⟨a, rfl, b, c, hb, rfl⟩ := args1 pre.arg
 obtain ⟨b', c', v, hb', hw, hv⟩ := bldW_of hm (pre.loc _ List.mem_cons_self) (pre.loc _ (List.mem_cons_of_mem _ List.mem_cons_self)) (fun b c c' h1 h2 => pre.inj _ List.mem_cons_self _ (List.mem_cons_of_mem _ List.mem_cons_self) b c c' h1 h2)
 rw [hb] at hb'
 injection hb' with hb'
 obtain ⟨rfl, rfl⟩ := Prod.mk.injEq .. ▸ hb'
 obtain ⟨p, h1, _⟩ := hw.blk
 have hl0 : l.length ≠ 0 := by simpa using h0
 have hown := hw.own
 rw [Lib.byteCells_length] at hown
 rcases hown.2 with ⟨_, hz⟩ | ⟨g, cap, cur, rfl, _, g1, g2, g3, g4, g5⟩
 ·exact absurd hz hl0
 obtain ⟨c8, h8⟩ : ∃ c8, B m = some (g, c8) := by
  cases hB : B m with
  | none => rw [hB] at hv; cases hv
  | some q =>
   rw [hB] at hv
   obtain ⟨q1, q2⟩ := q
   have e1 : g = q1 := by simpa [Value.ownBlock] using hv
   exact ⟨q2, by rw [e1]⟩
 obtain ⟨_, p82⟩ := pre.priv _ (List.mem_cons_of_mem _ List.mem_cons_self) g c8 h8
 refine (strx La X h1 g1 h0 g2 g3 (by simpa using g4) (by simpa using g5)).mono ?_
 rintro en w' ⟨rfl, rfl⟩
 obtain ⟨f1, f2, f3, f4, hk⟩ := frz w.drew g l.length
 refine ⟨_, H, B, rfl, Le.refl _, fun _ _ => rfl, fun k o hko => ?_, fun _ h => (by cases h), fun _ h => (by cases h), fun _ h => (by cases h), fun _ _ => rfl, DR.raw _ rfl, f1, f2, f3, Nat.le_of_eq f4.symm, fun k _ hk2 => hk k ?_⟩
 ·rw [hk k ?_]; exact pre.sat k o hko
  rintro rfl; rw [p82] at hko; cases hko
 ·rintro rfl; exact hk2 ⟨_, List.mem_cons_of_mem _ List.mem_cons_self, c8, h8⟩
end
section
variable {P : Program}
theorem St.nilOB {e : E} {f : F} {a : Act} {w : World} (h : St e f a w) (m n es : Nat) (ty T : TypeId) (hv : f.l m = some (.bld T (.d (.raw nilV)))) (hn : New e.K f n) : St e ((f.setL n (.row ty es [])).setL m (.bld T (.own n 0))) a w := by
 obtain ⟨H, B, hok⟩ := h
 have hmn : m ≠ n := fun e => by have := hn.2.1; rw [← e, hv] at this; cases this
 refine ⟨H, _, (hok.nilName n es ty hn).setL m (.bld T (.d (.raw nilV))) _ (by simp [F.setL, hmn, hv]) fun hu => ?_⟩
 obtain ⟨b, c, v1, v2, hb, hc, h1, h0, h2⟩ := hu
 refine ⟨b, c, v1, v2, hb, hc, h1, h0, ?_⟩
 have := VR.rawI (H := H) (B := fun x => if x = n then none else B x) h2
 subst this
 simp [CR, nilV]
theorem Op.allocB {d : Nat} (n m : Nat) (hnm : n ≠ m) (u8 : TypeId) {T ty : TypeId} {pos af gd} (hz : (P.info? T).bind (·.zero) = some (.agg #[.pointer none, .slice none 0 0])) :
  OpOk P ⟨some d, .alloc T, ty, pos, af, gd⟩ { ws := [(d, some (vp n 0))], wl := [(n, some (.bld T (.own m 0))), (m, some (.row u8 1 (bw [])))], nw := [n, m] } := by
 rintro e f a w Q hst hr hnw hb
 have hN := hnw n (by simp)
 have hM := hnw m (by simp)
 have h1 : OpOk P ⟨some d, .alloc T, ty, pos, af, gd⟩ { ws := [(d, some (vp n 0))], wl := [(n, some (.bld T (.d (.raw nilV))))], nw := [n] } := by
  refine OpOk.news d n _ _ rfl rfl rfl (by simp) fun e f H B a w hok hr hn => ?_
  refine ⟨.pointer (some ⟨w.heap.size, 0, none⟩), 0, .cells #[.pointer none, .slice none 0 0] T, ?_, ⟨w.heap.size, 0, .pointer none, .slice none 0 0, by simp, heap_alloc_new w _, .inl rfl, .inl rfl, DR.raw _ rfl⟩, ⟨w.heap.size, 0, by simp, rfl⟩⟩
  cases hi : P.info? T with
  | none => rw [hi] at hz; cases hz
  | some i =>
   rw [hi] at hz
   have hz' : i.zero = some (.agg #[.pointer none, .slice none 0 0]) := hz
   have e1 : (zeroValue T).run P w = .ok (.agg #[.pointer none, .slice none 0 0]) w := by
    unfold zeroValue typeInfo
    simp only [Sem.run_bind, run_program, Result.andThen_ok, hi, Sem.run_pure, hz']
   simp only [execOp, Instr.alloc, Sem.run_bind, e1, Result.andThen_ok, newVar, newRow, newObj, Value.cells, Sem.run_pure]
   rfl
 refine Oper.wp_imp (h1 e f a w Q hst ⟨fun p hp => (by cases hp), fun p hp => (by cases hp)⟩ (fun k hk => by rw [List.mem_singleton.1 hk]; exact hN) ⟨fun p hp => hb.1 p hp, fun h => by cases h⟩) fun a' w' h2 => ?_
 have hM' : New e.K (f.app { ws := [(d, some (vp n 0))], wl := [(n, some (.bld T (.d (.raw nilV))))], nw := [n] }) m := by
  obtain ⟨g1, g2, g3, g4⟩ := hM
  refine ⟨g1, by rw [app_l_out (by simpa using Ne.symm hnm)]; exact g2, fun t v hv => ?_, fun k l hk => ?_⟩
  ·rw [app1_s f d (some (vp n 0)) _ rfl] at hv
   split at hv
   ·injection hv with hv; subst hv; intro hx; have hx : m ∈ [n] := hx; exact hnm (List.mem_singleton.1 hx).symm
   ·exact g3 t v hv
  ·rw [app1_l f n _ _ rfl] at hk
   split at hk
   ·injection hk with hk; subst hk; intro hx; cases hx
   ·exact g4 k l hk
 refine (h2.nilOB n m 1 u8 T (by rw [app1_l f n _ _ rfl]; simp) hM').weaken ⟨fun t v hv => ?_, fun k l hk => ?_⟩
 ·show (f.app _).s t = _
  rw [app1_s f d (some (vp n 0)) _ rfl] at hv ⊢
  exact hv
 ·simp only [F.app, List.lookup] at hk
  simp only [F.setL]
  by_cases e1 : k = n
  ·subst e1; simpa using hk
  ·have g1 : (k == n) = false := by simpa using e1
   rw [g1] at hk
   rw [if_neg (by intro h; exact e1 (Nat.eq_of_beq_eq_true h))]
   by_cases e2 : k = m
   ·subst e2; simpa [bw] using hk
   ·have g2 : (k == m) = false := by simpa using e2
    rw [g2] at hk
    rw [if_neg (by intro h; exact e2 (Nat.eq_of_beq_eq_true h)), app1_l f n _ _ rfl, if_neg e1]
    exact hk
end
end Go.Proofs.YtekhnajfdaknnaaGreatDoor.S
end
section
namespace Go.Proofs.YtekhnajfdaknnaaGreatDoor.S
open Go.RowKit

theorem ug_0 : Bodied Tryz.prog 111 := Bodied.mk' (by kernel_rfl)
theorem ug_1 : Bodied Tryz.prog 112 := Bodied.mk' (by kernel_rfl)
theorem ug_5 : Bodied Tryz.prog 83 := Bodied.mk' (by kernel_rfl)
theorem ug_9 : Bodied Tryz.prog 85 := Bodied.mk' (by kernel_rfl)
theorem ug_10 : Bodied Tryz.prog 84 := Bodied.mk' (by kernel_rfl)
theorem ug_11 : Bodied Tryz.prog 86 := Bodied.mk' (by kernel_rfl)
theorem SbLen (m : Nat) (hm : 7 ≠ m) (l : List UInt8) : Fn Tryz.prog 111 [(7, .bld 97 (.own m l.length)), (m, .row 5 1 (bw l))] [vp 7 0] (vi .i64 (l.length : Int)) [(7, .bld 97 (.own m l.length)), (m, .row 5 1 (bw l))] := SBLen Tryz.lays170 m hm l
theorem SbWrite (m m2 : Nat) (hm : 7 ≠ m) (h27 : m2 ≠ 7) (h2m : m2 ≠ m) (l : List UInt8) (s : ByteArray) (hs : l.length + s.size ≤ 140737488355328) : Fn Tryz.prog 112 [(7, .bld 97 (.own m l.length)), (m, .row 5 1 (bw l))] [vp 7 0, vs s] (.tup [.c (.d (.raw (.int .i64 (s.size : Int)))), .c (.d (.raw .nilIface))]) [(7, .bld 97 (.own m2 (l ++ s.data.toList).length)), (m2, .row 5 1 (bw (l ++ s.data.toList)))] := SBWrite Tryz.lays166 Tryz.Builder_Extra_166 m m2 hm h27 h2m l s hs
theorem SbString (m : Nat) (hm : 7 ≠ m) (l : List UInt8) (h0 : l ≠ []) : Fn Tryz.prog 86 [(7, .bld 97 (.own m l.length)), (m, .row 5 1 (bw l))] [vp 7 0] (vs ⟨l.toArray⟩) [] := SBString Tryz.lays169 Tryz.Builder_Extra_169 m hm l h0
theorem bldZero : (Tryz.prog.info? 97).bind (·.zero) = some (.agg #[.pointer none, .slice none 0 0]) := by kernel_rfl
def sumW (l : List UInt8) (neg : Bool) (t : ByteArray) : List UInt8 := match (l.length : Int) == 0, neg with
  | true, true => (l ++ (⟨#[45]⟩ : ByteArray).data.toList) ++ t.data.toList
  | true, false => l ++ t.data.toList
  | false, true => (l ++ (⟨#[32, 45, 32]⟩ : ByteArray).data.toList) ++ t.data.toList
  | false, false => (l ++ (⟨#[32, 43, 32]⟩ : ByteArray).data.toList) ++ t.data.toList
theorem Ssummand (l : List UInt8) (neg : Bool) (t : ByteArray) (hl : l.length + t.size ≤ 1000000) : Fn Tryz.prog 85 [(7, .bld 97 (.own 8 l.length)), (8, .row 5 1 (bw l))] [vp 7 0, vb neg, .t (.c (.d (.raw (.string t))))] (.tup []) [(7, .bld 97 (.own 9 (sumW l neg t).length)), (9, .row 5 1 (bw (sumW l neg t)))] := by
 refine Fn.body Tryz.func85 rfl 29 rfl fun w H B a h => ?_
 refine rSeq fam0ok 10 [(1, .call (SbLen 8 (by decide) l) ug_0)] [(0, vp 7 0), (1, vb neg), (2, .t (.c (.d (.raw (.string t))))), (6, vb ((l.length : Int) == 0))] [(7, .bld 97 (.own 8 l.length)), (8, .row 5 1 (bw l))] (by kernel_rfl) h ?_; clear h; intro a w h
 refine wp_seq ?_
 refine wp_block ?_
 rcases Bool.eq_false_or_eq_true ((l.length : Int) == 0) with hc | hc
 ·have hc1 := hc; clear hc
  have hc1' := hc1; (try simp at hc1')
  rw [hc1] at h
  refine rSeq fam0ok 10 [] [(0, vp 7 0), (1, vb neg), (2, .t (.c (.d (.raw (.string t))))), (6, vb true), (10, vb neg)] [(7, .bld 97 (.own 8 l.length)), (8, .row 5 1 (bw l))] (by kernel_rfl) h ?_; clear h; intro a w h
  refine condS neg h rfl (fun hc => ?_) (fun hc => ?_)
  ·have hc2 := hc; clear hc
   refine rS fam0ok 10 [(1, .call (SbWrite 8 10 (by decide) (by decide) (by decide) l (⟨#[45]⟩ : ByteArray) (by have e1 : (⟨#[45]⟩ : ByteArray).data.toList.length = 1 := rfl; have e2 : (⟨#[32, 45, 32]⟩ : ByteArray).data.toList.length = 3 := rfl; have e3 : (⟨#[32, 43, 32]⟩ : ByteArray).data.toList.length = 3 := rfl; have e4 : (⟨#[45]⟩ : ByteArray).size = 1 := rfl; have e5 : (⟨#[32, 45, 32]⟩ : ByteArray).size = 3 := rfl; have e6 : (⟨#[32, 43, 32]⟩ : ByteArray).size = 3 := rfl; first | omega | (rw [List.length_append]; omega))) ug_1)] [(0, vp 7 0), (2, .t (.c (.d (.raw (.string t)))))] [(7, .bld 97 (.own 10 (l ++ (⟨#[45]⟩ : ByteArray).data.toList).length)), (10, .row 5 1 (bw (l ++ (⟨#[45]⟩ : ByteArray).data.toList)))] (by kernel_rfl) h ?_; clear h; intro a w h
   refine block_n ?_
   refine then_n ?_
   refine rS fam0ok 11 [(2, .call (SbWrite 10 11 (by decide) (by decide) (by decide) (l ++ (⟨#[45]⟩ : ByteArray).data.toList) t (by have e1 : (⟨#[45]⟩ : ByteArray).data.toList.length = 1 := rfl; have e2 : (⟨#[32, 45, 32]⟩ : ByteArray).data.toList.length = 3 := rfl; have e3 : (⟨#[32, 43, 32]⟩ : ByteArray).data.toList.length = 3 := rfl; have e4 : (⟨#[45]⟩ : ByteArray).size = 1 := rfl; have e5 : (⟨#[32, 45, 32]⟩ : ByteArray).size = 3 := rfl; have e6 : (⟨#[32, 43, 32]⟩ : ByteArray).size = 3 := rfl; first | omega | (rw [List.length_append]; omega))) ug_1)] [] [(7, .bld 97 (.own 11 ((l ++ (⟨#[45]⟩ : ByteArray).data.toList) ++ t.data.toList).length)), (11, .row 5 1 (bw ((l ++ (⟨#[45]⟩ : ByteArray).data.toList) ++ t.data.toList)))] (by kernel_rfl) h ?_; clear h; intro a w h
   replace h := renS 11 9 [] [(7, .bld 97 (.own 9 ((l ++ (⟨#[45]⟩ : ByteArray).data.toList) ++ t.data.toList).length)), (9, .row 5 1 (bw ((l ++ (⟨#[45]⟩ : ByteArray).data.toList) ++ t.data.toList)))] h (by kernel_rfl) (by kernel_rfl) (by kernel_rfl)
   replace h := h.conv (f' := F.of [] [(7, .bld 97 (.own 9 (sumW l neg t).length)), (9, .row 5 1 (bw (sumW l neg t)))]) (congrArg (fun (z_ : List UInt8) => F.of [] [(7, .bld 97 (.own 9 z_.length)), (9, .row 5 1 (bw z_))]) (show ((l ++ (⟨#[45]⟩ : ByteArray).data.toList) ++ t.data.toList) = sumW l neg t from by unfold sumW; simp only [hc1, hc2]))
   refine retS [] h Exit.normal (.inr rfl)  rfl trivial ?_ (by kernel_rfl) (by kernel_rfl)
   rfl
  ·have hc3 := hc; clear hc
   refine rSeq fam0ok 12 [] [(0, vp 7 0), (2, .t (.c (.d (.raw (.string t))))), (6, vb true), (17, vb neg)] [(7, .bld 97 (.own 8 l.length)), (8, .row 5 1 (bw l))] (by kernel_rfl) h ?_; clear h; intro a w h
   refine condS neg h rfl (fun hc => ?_) (fun hc => ?_)
   ·rw [hc3] at hc; cases hc
   ·clear hc
    refine rSeq fam0ok 12 [] [(0, vp 7 0), (2, .t (.c (.d (.raw (.string t))))), (21, vb false)] [(7, .bld 97 (.own 8 l.length)), (8, .row 5 1 (bw l))] (by kernel_rfl) h ?_; clear h; intro a w h
    refine condS false h rfl (fun hc => ?_) (fun hc => ?_)
    ·cases hc
    ·clear hc
     refine wp_skip ?_
     refine block_n ?_
     refine then_n ?_
     refine rS fam0ok 12 [(2, .call (SbWrite 8 12 (by decide) (by decide) (by decide) l t (by have e1 : (⟨#[45]⟩ : ByteArray).data.toList.length = 1 := rfl; have e2 : (⟨#[32, 45, 32]⟩ : ByteArray).data.toList.length = 3 := rfl; have e3 : (⟨#[32, 43, 32]⟩ : ByteArray).data.toList.length = 3 := rfl; have e4 : (⟨#[45]⟩ : ByteArray).size = 1 := rfl; have e5 : (⟨#[32, 45, 32]⟩ : ByteArray).size = 3 := rfl; have e6 : (⟨#[32, 43, 32]⟩ : ByteArray).size = 3 := rfl; first | omega | (rw [List.length_append]; omega))) ug_1)] [] [(7, .bld 97 (.own 12 (l ++ t.data.toList).length)), (12, .row 5 1 (bw (l ++ t.data.toList)))] (by kernel_rfl) h ?_; clear h; intro a w h
     replace h := renS 12 9 [] [(7, .bld 97 (.own 9 (l ++ t.data.toList).length)), (9, .row 5 1 (bw (l ++ t.data.toList)))] h (by kernel_rfl) (by kernel_rfl) (by kernel_rfl)
     replace h := h.conv (f' := F.of [] [(7, .bld 97 (.own 9 (sumW l neg t).length)), (9, .row 5 1 (bw (sumW l neg t)))]) (congrArg (fun (z_ : List UInt8) => F.of [] [(7, .bld 97 (.own 9 z_.length)), (9, .row 5 1 (bw z_))]) (show (l ++ t.data.toList) = sumW l neg t from by unfold sumW; simp only [hc1, hc3]))
     refine retS [] h Exit.normal (.inr rfl)  rfl trivial ?_ (by kernel_rfl) (by kernel_rfl)
     rfl
 ·have hc4 := hc; clear hc
  have hc4' := hc4; (try simp at hc4')
  rw [hc4] at h
  refine rSeq fam0ok 13 [] [(0, vp 7 0), (1, vb neg), (2, .t (.c (.d (.raw (.string t))))), (6, vb false), (10, vb false)] [(7, .bld 97 (.own 8 l.length)), (8, .row 5 1 (bw l))] (by kernel_rfl) h ?_; clear h; intro a w h
  refine condS false h rfl (fun hc => ?_) (fun hc => ?_)
  ·cases hc
  ·clear hc
   refine rSeq fam0ok 13 [] [(0, vp 7 0), (2, .t (.c (.d (.raw (.string t))))), (6, vb false), (17, vb neg)] [(7, .bld 97 (.own 8 l.length)), (8, .row 5 1 (bw l))] (by kernel_rfl) h ?_; clear h; intro a w h
   refine condS neg h rfl (fun hc => ?_) (fun hc => ?_)
   ·have hc5 := hc; clear hc
    refine rS fam0ok 13 [(1, .call (SbWrite 8 13 (by decide) (by decide) (by decide) l (⟨#[32, 45, 32]⟩ : ByteArray) (by have e1 : (⟨#[45]⟩ : ByteArray).data.toList.length = 1 := rfl; have e2 : (⟨#[32, 45, 32]⟩ : ByteArray).data.toList.length = 3 := rfl; have e3 : (⟨#[32, 43, 32]⟩ : ByteArray).data.toList.length = 3 := rfl; have e4 : (⟨#[45]⟩ : ByteArray).size = 1 := rfl; have e5 : (⟨#[32, 45, 32]⟩ : ByteArray).size = 3 := rfl; have e6 : (⟨#[32, 43, 32]⟩ : ByteArray).size = 3 := rfl; first | omega | (rw [List.length_append]; omega))) ug_1)] [(0, vp 7 0), (2, .t (.c (.d (.raw (.string t)))))] [(7, .bld 97 (.own 13 (l ++ (⟨#[32, 45, 32]⟩ : ByteArray).data.toList).length)), (13, .row 5 1 (bw (l ++ (⟨#[32, 45, 32]⟩ : ByteArray).data.toList)))] (by kernel_rfl) h ?_; clear h; intro a w h
    refine block_n ?_
    refine then_n ?_
    refine rS fam0ok 14 [(2, .call (SbWrite 13 14 (by decide) (by decide) (by decide) (l ++ (⟨#[32, 45, 32]⟩ : ByteArray).data.toList) t (by have e1 : (⟨#[45]⟩ : ByteArray).data.toList.length = 1 := rfl; have e2 : (⟨#[32, 45, 32]⟩ : ByteArray).data.toList.length = 3 := rfl; have e3 : (⟨#[32, 43, 32]⟩ : ByteArray).data.toList.length = 3 := rfl; have e4 : (⟨#[45]⟩ : ByteArray).size = 1 := rfl; have e5 : (⟨#[32, 45, 32]⟩ : ByteArray).size = 3 := rfl; have e6 : (⟨#[32, 43, 32]⟩ : ByteArray).size = 3 := rfl; first | omega | (rw [List.length_append]; omega))) ug_1)] [] [(7, .bld 97 (.own 14 ((l ++ (⟨#[32, 45, 32]⟩ : ByteArray).data.toList) ++ t.data.toList).length)), (14, .row 5 1 (bw ((l ++ (⟨#[32, 45, 32]⟩ : ByteArray).data.toList) ++ t.data.toList)))] (by kernel_rfl) h ?_; clear h; intro a w h
    replace h := renS 14 9 [] [(7, .bld 97 (.own 9 ((l ++ (⟨#[32, 45, 32]⟩ : ByteArray).data.toList) ++ t.data.toList).length)), (9, .row 5 1 (bw ((l ++ (⟨#[32, 45, 32]⟩ : ByteArray).data.toList) ++ t.data.toList)))] h (by kernel_rfl) (by kernel_rfl) (by kernel_rfl)
    replace h := h.conv (f' := F.of [] [(7, .bld 97 (.own 9 (sumW l neg t).length)), (9, .row 5 1 (bw (sumW l neg t)))]) (congrArg (fun (z_ : List UInt8) => F.of [] [(7, .bld 97 (.own 9 z_.length)), (9, .row 5 1 (bw z_))]) (show ((l ++ (⟨#[32, 45, 32]⟩ : ByteArray).data.toList) ++ t.data.toList) = sumW l neg t from by unfold sumW; simp only [hc4, hc5]))
    refine retS [] h Exit.normal (.inr rfl)  rfl trivial ?_ (by kernel_rfl) (by kernel_rfl)
    rfl
   ·have hc6 := hc; clear hc
    refine rSeq fam0ok 15 [] [(0, vp 7 0), (2, .t (.c (.d (.raw (.string t))))), (21, vb true)] [(7, .bld 97 (.own 8 l.length)), (8, .row 5 1 (bw l))] (by kernel_rfl) h ?_; clear h; intro a w h
    refine condS true h rfl (fun hc => ?_) (fun hc => ?_)
    ·clear hc
     refine rS fam0ok 15 [(1, .call (SbWrite 8 15 (by decide) (by decide) (by decide) l (⟨#[32, 43, 32]⟩ : ByteArray) (by have e1 : (⟨#[45]⟩ : ByteArray).data.toList.length = 1 := rfl; have e2 : (⟨#[32, 45, 32]⟩ : ByteArray).data.toList.length = 3 := rfl; have e3 : (⟨#[32, 43, 32]⟩ : ByteArray).data.toList.length = 3 := rfl; have e4 : (⟨#[45]⟩ : ByteArray).size = 1 := rfl; have e5 : (⟨#[32, 45, 32]⟩ : ByteArray).size = 3 := rfl; have e6 : (⟨#[32, 43, 32]⟩ : ByteArray).size = 3 := rfl; first | omega | (rw [List.length_append]; omega))) ug_1)] [(0, vp 7 0), (2, .t (.c (.d (.raw (.string t)))))] [(7, .bld 97 (.own 15 (l ++ (⟨#[32, 43, 32]⟩ : ByteArray).data.toList).length)), (15, .row 5 1 (bw (l ++ (⟨#[32, 43, 32]⟩ : ByteArray).data.toList)))] (by kernel_rfl) h ?_; clear h; intro a w h
     refine block_n ?_
     refine then_n ?_
     refine rS fam0ok 16 [(2, .call (SbWrite 15 16 (by decide) (by decide) (by decide) (l ++ (⟨#[32, 43, 32]⟩ : ByteArray).data.toList) t (by have e1 : (⟨#[45]⟩ : ByteArray).data.toList.length = 1 := rfl; have e2 : (⟨#[32, 45, 32]⟩ : ByteArray).data.toList.length = 3 := rfl; have e3 : (⟨#[32, 43, 32]⟩ : ByteArray).data.toList.length = 3 := rfl; have e4 : (⟨#[45]⟩ : ByteArray).size = 1 := rfl; have e5 : (⟨#[32, 45, 32]⟩ : ByteArray).size = 3 := rfl; have e6 : (⟨#[32, 43, 32]⟩ : ByteArray).size = 3 := rfl; first | omega | (rw [List.length_append]; omega))) ug_1)] [] [(7, .bld 97 (.own 16 ((l ++ (⟨#[32, 43, 32]⟩ : ByteArray).data.toList) ++ t.data.toList).length)), (16, .row 5 1 (bw ((l ++ (⟨#[32, 43, 32]⟩ : ByteArray).data.toList) ++ t.data.toList)))] (by kernel_rfl) h ?_; clear h; intro a w h
     replace h := renS 16 9 [] [(7, .bld 97 (.own 9 ((l ++ (⟨#[32, 43, 32]⟩ : ByteArray).data.toList) ++ t.data.toList).length)), (9, .row 5 1 (bw ((l ++ (⟨#[32, 43, 32]⟩ : ByteArray).data.toList) ++ t.data.toList)))] h (by kernel_rfl) (by kernel_rfl) (by kernel_rfl)
     replace h := h.conv (f' := F.of [] [(7, .bld 97 (.own 9 (sumW l neg t).length)), (9, .row 5 1 (bw (sumW l neg t)))]) (congrArg (fun (z_ : List UInt8) => F.of [] [(7, .bld 97 (.own 9 z_.length)), (9, .row 5 1 (bw z_))]) (show ((l ++ (⟨#[32, 43, 32]⟩ : ByteArray).data.toList) ++ t.data.toList) = sumW l neg t from by unfold sumW; simp only [hc4, hc6]))
     refine retS [] h Exit.normal (.inr rfl)  rfl trivial ?_ (by kernel_rfl) (by kernel_rfl)
     rfl
    ·cases hc
def lkW (j : Nat) : List UInt8 := if j = 0 then [] else [45, 120]
theorem lkW_len (j : Nat) : (lkW j).length ≤ 2 := by unfold lkW; split <;> simp
theorem text_plain : plainT (ofT 2 [(-1)]) = ofT 2 [(-1)] := by
 refine plainT_eq (by simp [ofT, ofP]) (by simp [ofT, ofP, ZI.val_of]) (fun v => rfl) (by simp [ofT, ZI.val_of])
theorem text_at (j : Nat) (hj : j = 0) : ∃ x : Part, (ofT 2 [(-1)]).parts[j]? = some x ∧ x = ⟨0, ZI.of (-1)⟩ := by subst hj; exact ⟨_, rfl, rfl⟩
theorem text_sum1 (j : Nat) (hj : j = 0) : sumW (lkW j) true (⟨#[120]⟩ : ByteArray) = lkW (j + 1) := by subst hj; rfl
theorem text_sum2 (j : Nat) (hj : j = 1) : sumW (lkW j) false (⟨#[50]⟩ : ByteArray) = [45, 120, 32, 43, 32, 50] := by subst hj; rfl
set_option maxHeartbeats 4000000 in
theorem SText2x  : Fn Tryz.prog 46 [] [.t (.agg ([.d (.sl 3 ((ofT 2 [(-1)]).parts.map Part.d))] ++ zi (ofT 2 [(-1)]).k)), .t (.c (.d (.sl 1 ([(⟨#[120]⟩ : ByteArray)].map strD))))] (vs (⟨#[45, 120, 32, 43, 32, 50]⟩ : ByteArray)) [] := by
 have lk2 : (ofT 2 [(-1)]).k.abs.length ≤ 2 := ZI.len_of (by have := pw2; omega)
 refine Fn.body Tryz.func46 rfl 62 rfl fun w H B a h => ?_
 refine rSeq fam0ok 10 [] [(1, .t (.c (.d (.sl 1 ([(⟨#[120]⟩ : ByteArray)].map strD))))), (2, vp 10 0), (4, .t (.c (.d (.raw (.string ByteArray.empty)))))] [(10, .box ([.d (.sl 3 ((ofT 2 [(-1)]).parts.map Part.d))] ++ zi (ofT 2 [(-1)]).k))] (by kernel_rfl) h ?_; clear h; intro a w h
 refine rSeq fam0ok 11 [(1, .call (Fn.cast (SPlain (ofT 2 [(-1)]) (ofT_ok 2 [(-1)] (by decide) (by decide) (by decide)) (by decide) (by decide)) (congrArg (fun t => vd (Term.d t)) text_plain)) tm_7)] [(1, .t (.c (.d (.sl 1 ([(⟨#[120]⟩ : ByteArray)].map strD))))), (2, vp 10 0), (4, .t (.c (.d (.raw (.string ByteArray.empty)))))] [(10, .box ([.d (.sl 3 ((ofT 2 [(-1)]).parts.map Part.d))] ++ zi (ofT 2 [(-1)]).k))] (by kernel_rfl) h ?_; clear h; intro a w h
 refine rSeq fam0ok 11 [(0, .gen _ _ _ fun _ _ _ _ => Op.allocB (d := 5) 7 8 (by decide) 5 bldZero)] [(1, .t (.c (.d (.sl 1 ([(⟨#[120]⟩ : ByteArray)].map strD))))), (2, vp 10 0), (4, .t (.c (.d (.raw (.string ByteArray.empty))))), (5, vp 7 0)] [(10, .box ([.d (.sl 3 ((ofT 2 [(-1)]).parts.map Part.d))] ++ zi (ofT 2 [(-1)]).k)), (7, .bld 97 (.own 8 0)), (8, .row 5 1 (bw []))] (by kernel_rfl) h ?_; clear h; intro a w h
 refine wp_seq ?_
 refine rSeq fam0ok 11 [(2, .len (c := (.d (.sl 3 ((ofT 2 [(-1)]).parts.map Part.d)))) (n := (ofT 2 [(-1)]).parts.length) (lenC_map _ _ _))] [(1, .t (.c (.d (.sl 1 ([(⟨#[120]⟩ : ByteArray)].map strD))))), (2, vp 10 0), (4, .t (.c (.d (.raw (.string ByteArray.empty))))), (5, vp 7 0), (13, .t (.c (.d (.sl 3 ((ofT 2 [(-1)]).parts.map Part.d))))), (14, vi .i64 ((ofT 2 [(-1)]).parts.length : Int)), (15, vi .i64 0)] [(10, .box ([.d (.sl 3 ((ofT 2 [(-1)]).parts.map Part.d))] ++ zi (ofT 2 [(-1)]).k)), (7, .bld 97 (.own 8 0)), (8, .row 5 1 (bw []))] (by kernel_rfl) h ?_; clear h; intro a w h
 refine wp_block ?_
 refine loopS (ι := (Nat)) (fun (z_ : (Nat)) => match z_ with | j => j ≤ 1)
   (fun (z_ : (Nat)) => match z_ with | j => [(1, .t (.c (.d (.sl 1 ([(⟨#[120]⟩ : ByteArray)].map strD))))), (2, vp 10 0), (4, .t (.c (.d (.raw (.string ByteArray.empty))))), (5, vp 7 0), (13, .t (.c (.d (.sl 3 ((ofT 2 [(-1)]).parts.map Part.d))))), (14, vi .i64 ((ofT 2 [(-1)]).parts.length : Int)), (15, vi .i64 (j : Int))])
   (fun (z_ : (Nat)) => match z_ with | j => [(10, .box ([.d (.sl 3 ((ofT 2 [(-1)]).parts.map Part.d))] ++ zi (ofT 2 [(-1)]).k)), (7, .bld 97 (.own 8 (lkW j).length)), (8, .row 5 1 (bw (lkW j)))])
   (fun (z_ : (Nat)) => match z_ with | j => 1 - j) 0 ?_ h (by kernel_rfl) (by kernel_rfl) ?_
 ·exact Nat.zero_le _
 ·clear h; rintro j a w hI h
  change St _ (F.of [(1, .t (.c (.d (.sl 1 ([(⟨#[120]⟩ : ByteArray)].map strD))))), (2, vp 10 0), (4, .t (.c (.d (.raw (.string ByteArray.empty))))), (5, vp 7 0), (13, .t (.c (.d (.sl 3 ((ofT 2 [(-1)]).parts.map Part.d))))), (14, vi .i64 ((ofT 2 [(-1)]).parts.length : Int)), (15, vi .i64 (j : Int))] [(10, .box ([.d (.sl 3 ((ofT 2 [(-1)]).parts.map Part.d))] ++ zi (ofT 2 [(-1)]).k)), (7, .bld 97 (.own 8 (lkW j).length)), (8, .row 5 1 (bw (lkW j)))]) a w at h
  refine rSeq fam0ok 11 [] [(1, .t (.c (.d (.sl 1 ([(⟨#[120]⟩ : ByteArray)].map strD))))), (2, vp 10 0), (4, .t (.c (.d (.raw (.string ByteArray.empty))))), (5, vp 7 0), (13, .t (.c (.d (.sl 3 ((ofT 2 [(-1)]).parts.map Part.d))))), (14, vi .i64 ((ofT 2 [(-1)]).parts.length : Int)), (15, vi .i64 (j : Int)), (16, vb (decide ((j : Int) < ((ofT 2 [(-1)]).parts.length : Int))))] [(10, .box ([.d (.sl 3 ((ofT 2 [(-1)]).parts.map Part.d))] ++ zi (ofT 2 [(-1)]).k)), (7, .bld 97 (.own 8 (lkW j).length)), (8, .row 5 1 (bw (lkW j)))] (by kernel_rfl) h ?_; clear h; intro a w h
  refine wp_seq ?_
  refine condS (decide ((j : Int) < ((ofT 2 [(-1)]).parts.length : Int))) h rfl (fun hc => ?_) (fun hc => ?_)
  ·have hc1 := hc; clear hc
   have hc1' := of_decide_eq_true hc1
   refine wp_skip ?_
   refine then_n ?_
   refine wp_seq ?_
   refine wp_block ?_
   have hj0 : j = 0 := by have : (ofT 2 [(-1)]).parts.length = 1 := rfl; omega
   obtain ⟨x2, hx2, gx2⟩ := text_at j hj0
   have ox2 : Lb x2.c.abs := by rw [gx2]; exact ZI.lb_of _
   have lx2 : x2.c.abs.length ≤ 2 := by rw [gx2]; exact ZI.len_of (by have := pw2; omega)
   have vx2 : x2.c.val = -1 := by rw [gx2]; exact ZI.val_of _
   have wx2 : x2.v = 0 := by rw [gx2]
   refine rSeq fam0ok 11 [(0, .gen _ _ _ fun _ _ _ _ => Op.idxD (d := 17) (t := 13) (k := .i64) ta_0 (map_at hx2 (f := Part.d)) (OV.tmp 15 _))] [(1, .t (.c (.d (.sl 1 ([(⟨#[120]⟩ : ByteArray)].map strD))))), (2, vp 10 0), (4, .t (.c (.d (.raw (.string ByteArray.empty))))), (5, vp 7 0), (7, vp 11 0), (13, .t (.c (.d (.sl 3 ((ofT 2 [(-1)]).parts.map Part.d))))), (14, vi .i64 ((ofT 2 [(-1)]).parts.length : Int)), (15, vi .i64 (j : Int))] [(10, .box ([.d (.sl 3 ((ofT 2 [(-1)]).parts.map Part.d))] ++ zi (ofT 2 [(-1)]).k)), (7, .bld 97 (.own 8 (lkW j).length)), (8, .row 5 1 (bw (lkW j))), (11, .box ([.d (.raw (.int .i64 x2.v))] ++ zi x2.c))] (by kernel_rfl) h ?_; clear h; intro a w h
   refine rSeq fam0ok 12 [(3, .call ((show Fn _ _ _ [vi .i64 x2.v, _] _ _ from by rw [wx2]; exact SName0)) ty_18)] [(1, .t (.c (.d (.sl 1 ([(⟨#[120]⟩ : ByteArray)].map strD))))), (2, vp 10 0), (4, .t (.c (.d (.raw (.string ByteArray.empty))))), (5, vp 7 0), (7, vp 11 0), (8, .t (.c (.d (.raw (.string (⟨#[120]⟩ : ByteArray)))))), (13, .t (.c (.d (.sl 3 ((ofT 2 [(-1)]).parts.map Part.d))))), (14, vi .i64 ((ofT 2 [(-1)]).parts.length : Int)), (15, vi .i64 (j : Int))] [(10, .box ([.d (.sl 3 ((ofT 2 [(-1)]).parts.map Part.d))] ++ zi (ofT 2 [(-1)]).k)), (7, .bld 97 (.own 8 (lkW j).length)), (8, .row 5 1 (bw (lkW j))), (11, .box ([.d (.raw (.int .i64 x2.v))] ++ zi x2.c))] (by kernel_rfl) h ?_; clear h; intro a w h
   refine wp_seq ?_
   obtain ⟨r4, er4, vr4, or4, lr4⟩ := mkZ (v := (x2.c.val.natAbs : Int)) (m := x2.c.abs.length) (len_abs ox2)
   refine rSeq fam0ok 12 [(2, .call (Fn.cast (SAbs x2.c ox2 (by omega)) (congrArg vz er4.symm)) ug_5)] [(1, .t (.c (.d (.sl 1 ([(⟨#[120]⟩ : ByteArray)].map strD))))), (2, vp 10 0), (4, .t (.c (.d (.raw (.string ByteArray.empty))))), (5, vp 7 0), (7, vp 11 0), (8, .t (.c (.d (.raw (.string (⟨#[120]⟩ : ByteArray)))))), (9, vp 12 0), (13, .t (.c (.d (.sl 3 ((ofT 2 [(-1)]).parts.map Part.d))))), (14, vi .i64 ((ofT 2 [(-1)]).parts.length : Int)), (15, vi .i64 (j : Int))] [(10, .box ([.d (.sl 3 ((ofT 2 [(-1)]).parts.map Part.d))] ++ zi (ofT 2 [(-1)]).k)), (7, .bld 97 (.own 8 (lkW j).length)), (8, .row 5 1 (bw (lkW j))), (11, .box ([.d (.raw (.int .i64 x2.v))] ++ zi x2.c)), (12, .box (zi r4))] (by kernel_rfl) h ?_; clear h; intro a w h
   obtain ⟨r5, er5, vr5, or5, lr5⟩ := mkZ (v := 1) (m := 2) (ZI.len_of (by have := pw2; omega))
   refine rSeq fam0ok 13 [(1, .call (Fn.cast (SOf 1 ⟨by omega, by omega⟩) (congrArg vz er5.symm)) tm_10), (2, .call (Fn.cast (SCmp r4 r5 or4 or5 (by omega) (by omega)) (congrArg (vi .i64) (cmpZ_eq (by rw [vr4, vr5, vx2]; first | done | rfl)))) tx_2), (3, .cmp (op := .neq) (m := 0) (n := 0) (b := false) .i64 rfl)] [(1, .t (.c (.d (.sl 1 ([(⟨#[120]⟩ : ByteArray)].map strD))))), (2, vp 10 0), (4, .t (.c (.d (.raw (.string ByteArray.empty))))), (5, vp 7 0), (7, vp 11 0), (8, .t (.c (.d (.raw (.string (⟨#[120]⟩ : ByteArray)))))), (9, vp 12 0), (13, .t (.c (.d (.sl 3 ((ofT 2 [(-1)]).parts.map Part.d))))), (14, vi .i64 ((ofT 2 [(-1)]).parts.length : Int)), (15, vi .i64 (j : Int)), (29, vb false)] [(10, .box ([.d (.sl 3 ((ofT 2 [(-1)]).parts.map Part.d))] ++ zi (ofT 2 [(-1)]).k)), (7, .bld 97 (.own 8 (lkW j).length)), (8, .row 5 1 (bw (lkW j))), (11, .box ([.d (.raw (.int .i64 x2.v))] ++ zi x2.c)), (12, .box (zi r4))] (by kernel_rfl) h ?_; clear h; intro a w h
   refine condS false h rfl (fun hc => ?_) (fun hc => ?_)
   ·cases hc
   ·clear hc
    refine wp_skip ?_
    refine then_n ?_
    refine rS fam0ok 13 [(2, .call (Fn.cast (SSign x2.c ox2 (by omega)) (congrArg (vi .i64) (by rw [vx2]; first | done | rfl))) td_6), (3, .cmp (op := .lss) (m := (-1)) (n := 0) (b := true) .i64 rfl), (5, .call (Ssummand (lkW j) true (⟨#[120]⟩ : ByteArray) (by have := lkW_len j; have : ((⟨#[120]⟩ : ByteArray)).size = 1 := rfl; omega)) ug_9)] [(1, .t (.c (.d (.sl 1 ([(⟨#[120]⟩ : ByteArray)].map strD))))), (2, vp 10 0), (4, .t (.c (.d (.raw (.string ByteArray.empty))))), (5, vp 7 0), (13, .t (.c (.d (.sl 3 ((ofT 2 [(-1)]).parts.map Part.d))))), (14, vi .i64 ((ofT 2 [(-1)]).parts.length : Int)), (15, vi .i64 (j : Int))] [(10, .box ([.d (.sl 3 ((ofT 2 [(-1)]).parts.map Part.d))] ++ zi (ofT 2 [(-1)]).k)), (7, .bld 97 (.own 9 (sumW (lkW j) true (⟨#[120]⟩ : ByteArray)).length)), (9, .row 5 1 (bw (sumW (lkW j) true (⟨#[120]⟩ : ByteArray))))] (by kernel_rfl) h ?_; clear h; intro a w h
    refine block_n ?_
    refine then_n ?_
    replace h := renS 9 8 [(1, .t (.c (.d (.sl 1 ([(⟨#[120]⟩ : ByteArray)].map strD))))), (2, vp 10 0), (4, .t (.c (.d (.raw (.string ByteArray.empty))))), (5, vp 7 0), (13, .t (.c (.d (.sl 3 ((ofT 2 [(-1)]).parts.map Part.d))))), (14, vi .i64 ((ofT 2 [(-1)]).parts.length : Int)), (15, vi .i64 (j : Int))] [(10, .box ([.d (.sl 3 ((ofT 2 [(-1)]).parts.map Part.d))] ++ zi (ofT 2 [(-1)]).k)), (7, .bld 97 (.own 8 (sumW (lkW j) true (⟨#[120]⟩ : ByteArray)).length)), (8, .row 5 1 (bw (sumW (lkW j) true (⟨#[120]⟩ : ByteArray))))] h (by kernel_rfl) (by kernel_rfl) (by kernel_rfl)
    refine rS fam0ok 13 [(0, .add .i64 (m := (j : Int)) (n := 1) (i64_id (by omega) (by omega)))] [(1, .t (.c (.d (.sl 1 ([(⟨#[120]⟩ : ByteArray)].map strD))))), (2, vp 10 0), (4, .t (.c (.d (.raw (.string ByteArray.empty))))), (5, vp 7 0), (13, .t (.c (.d (.sl 3 ((ofT 2 [(-1)]).parts.map Part.d))))), (14, vi .i64 ((ofT 2 [(-1)]).parts.length : Int)), (15, vi .i64 ((j : Int) + 1))] [(10, .box ([.d (.sl 3 ((ofT 2 [(-1)]).parts.map Part.d))] ++ zi (ofT 2 [(-1)]).k)), (7, .bld 97 (.own 8 (sumW (lkW j) true (⟨#[120]⟩ : ByteArray)).length)), (8, .row 5 1 (bw (sumW (lkW j) true (⟨#[120]⟩ : ByteArray))))] (by kernel_rfl) h ?_; clear h; intro a w h
    refine then_n ?_
    replace h := h.conv (f' := F.of [(1, .t (.c (.d (.sl 1 ([(⟨#[120]⟩ : ByteArray)].map strD))))), (2, vp 10 0), (4, .t (.c (.d (.raw (.string ByteArray.empty))))), (5, vp 7 0), (13, .t (.c (.d (.sl 3 ((ofT 2 [(-1)]).parts.map Part.d))))), (14, vi .i64 ((ofT 2 [(-1)]).parts.length : Int)), (15, vi .i64 ((j : Int) + 1))] [(10, .box ([.d (.sl 3 ((ofT 2 [(-1)]).parts.map Part.d))] ++ zi (ofT 2 [(-1)]).k)), (7, .bld 97 (.own 8 (lkW (j + 1)).length)), (8, .row 5 1 (bw (lkW (j + 1))))]) (congrArg (fun (z_ : List UInt8) => F.of [(1, .t (.c (.d (.sl 1 ([(⟨#[120]⟩ : ByteArray)].map strD))))), (2, vp 10 0), (4, .t (.c (.d (.raw (.string ByteArray.empty))))), (5, vp 7 0), (13, .t (.c (.d (.sl 3 ((ofT 2 [(-1)]).parts.map Part.d))))), (14, vi .i64 ((ofT 2 [(-1)]).parts.length : Int)), (15, vi .i64 ((j : Int) + 1))] [(10, .box ([.d (.sl 3 ((ofT 2 [(-1)]).parts.map Part.d))] ++ zi (ofT 2 [(-1)]).k)), (7, .bld 97 (.own 8 z_.length)), (8, .row 5 1 (bw z_))]) (show ((sumW (lkW j) true (⟨#[120]⟩ : ByteArray)) : List UInt8) = (lkW (j + 1)) from text_sum1 j hj0))
    refine roundS (x := j) (y := j + 1) h ?_ ?_ (by kernel_rfl) (by kernel_rfl)
    ·show j + 1 ≤ 1
     omega
    ·show 1 - (j + 1) < 1 - j
     omega
  ·have hc2 := hc; clear hc
   have hc2' := of_decide_eq_false hc2
   refine wp_exit ?_
   refine then_x ?_
   refine then_x ?_
   refine inBlock_exit ?_
   refine then_n ?_
   refine wp_seq ?_
   refine rSeq fam0ok 13 [(2, .call (Fn.cast (SSign (ofT 2 [(-1)]).k (ZI.lb_of _) (by omega)) (congrArg (vi .i64) (by rw [show (ofT 2 [(-1)]).k.val = 2 from ZI.val_of _]; first | done | rfl))) td_6), (3, .cmp (op := .neq) (m := 1) (n := 0) (b := true) .i64 rfl)] [(2, vp 10 0), (4, .t (.c (.d (.raw (.string ByteArray.empty))))), (5, vp 7 0), (51, vb true)] [(10, .box ([.d (.sl 3 ((ofT 2 [(-1)]).parts.map Part.d))] ++ zi (ofT 2 [(-1)]).k)), (7, .bld 97 (.own 8 (lkW j).length)), (8, .row 5 1 (bw (lkW j)))] (by kernel_rfl) h ?_; clear h; intro a w h
   refine condS true h rfl (fun hc => ?_) (fun hc => ?_)
   ·clear hc
    obtain ⟨r11, er11, vr11, or11, lr11⟩ := mkZ (v := ((ofT 2 [(-1)]).k.val.natAbs : Int)) (m := (ofT 2 [(-1)]).k.abs.length) (len_abs (ZI.lb_of _))
    refine rS fam0ok 13 [(2, .call (Fn.cast (SSign (ofT 2 [(-1)]).k (ZI.lb_of _) (by omega)) (congrArg (vi .i64) (by rw [show (ofT 2 [(-1)]).k.val = 2 from ZI.val_of _]; first | done | rfl))) td_6), (3, .cmp (op := .lss) (m := 1) (n := 0) (b := false) .i64 rfl), (6, .call (Fn.cast (SAbs (ofT 2 [(-1)]).k (ZI.lb_of _) (by omega)) (congrArg vz er11.symm)) ug_5), (7, .call (SzText2 r11 or11 (by omega) (by rw [vr11, show (ofT 2 [(-1)]).k.val = 2 from ZI.val_of _]; first | done | rfl)) ug_10), (8, .call (Ssummand (lkW j) false (⟨#[50]⟩ : ByteArray) (by have := lkW_len j; have : ((⟨#[50]⟩ : ByteArray)).size = 1 := rfl; omega)) ug_9)] [(4, .t (.c (.d (.raw (.string ByteArray.empty))))), (5, vp 7 0)] [(7, .bld 97 (.own 9 (sumW (lkW j) false (⟨#[50]⟩ : ByteArray)).length)), (9, .row 5 1 (bw (sumW (lkW j) false (⟨#[50]⟩ : ByteArray))))] (by kernel_rfl) h ?_; clear h; intro a w h
    refine then_n ?_
    replace h := renS 9 8 [(4, .t (.c (.d (.raw (.string ByteArray.empty))))), (5, vp 7 0)] [(7, .bld 97 (.own 8 (sumW (lkW j) false (⟨#[50]⟩ : ByteArray)).length)), (8, .row 5 1 (bw (sumW (lkW j) false (⟨#[50]⟩ : ByteArray))))] h (by kernel_rfl) (by kernel_rfl) (by kernel_rfl)
    replace h := h.conv (f' := F.of [(4, .t (.c (.d (.raw (.string ByteArray.empty))))), (5, vp 7 0)] [(7, .bld 97 (.own 8 ([45, 120, 32, 43, 32, 50].length))), (8, .row 5 1 (bw [45, 120, 32, 43, 32, 50]))]) (congrArg (fun (z_ : List UInt8) => F.of [(4, .t (.c (.d (.raw (.string ByteArray.empty))))), (5, vp 7 0)] [(7, .bld 97 (.own 8 z_.length)), (8, .row 5 1 (bw z_))]) (show ((sumW (lkW j) false (⟨#[50]⟩ : ByteArray)) : List UInt8) = [45, 120, 32, 43, 32, 50] from text_sum2 j (by have : (ofT 2 [(-1)]).parts.length = 1 := rfl; omega)))
    refine rSeq fam0ok 13 [(0, .call (SbString 8 (by decide) [45, 120, 32, 43, 32, 50] (by decide)) ug_11)] [(4, .t (.c (.d (.raw (.string (⟨[45, 120, 32, 43, 32, 50].toArray⟩ : ByteArray))))))] [] (by kernel_rfl) h ?_; clear h; intro a w h
    refine wp_ret ?_
    refine retS [.c (.d (.raw (.string (⟨[45, 120, 32, 43, 32, 50].toArray⟩ : ByteArray))))] h Exit.ret (.inl rfl)  rfl ⟨RV.tmp _ _ rfl, trivial⟩ ?_ (by kernel_rfl) (by kernel_rfl)
    rfl
   ·cases hc
end Go.Proofs.YtekhnajfdaknnaaGreatDoor.S
end
section
namespace Go.Proofs.YtekhnajfdaknnaaGreatDoor.S
open Go.RowKit

theorem ua_0 : Bodied Tryz.prog 8 := Bodied.mk' (by kernel_rfl)
theorem ua_1 : Bodied Tryz.prog 14 := Bodied.mk' (by kernel_rfl)
theorem ua_3 : Bodied Tryz.prog 9 := Bodied.mk' (by kernel_rfl)
theorem ua_5 : Bodied Tryz.prog 16 := Bodied.mk' (by kernel_rfl)
theorem ua_10 : Bodied Tryz.prog 22 := Bodied.mk' (by kernel_rfl)
theorem ua_14 : Bodied Tryz.prog 23 := Bodied.mk' (by kernel_rfl)
theorem ua_20 : Bodied Tryz.prog 31 := Bodied.mk' (by kernel_rfl)
theorem shr_plain (t : Term) : plainT (shrT t) = shrT t := by
 unfold shrT
 split
 ·exact plain_idem _
 ·rename_i hg
  obtain ⟨h1, h2, h3⟩ := plainT_parts t
  refine plainT_eq ?_ (fun q hq => ?_) (fun v => rfl) (by simp [ZI.val_of])
  ·show List.Pairwise _ ((plainT t).parts.map (divP _))
   exact List.pairwise_map.2 h1
  ·obtain ⟨p, hp, rfl⟩ := List.mem_map.1 hq
   obtain ⟨k1, k2, k3⟩ := h2 p hp
   refine ⟨k1, by simp [divP, ZI.val_of], ?_⟩
   simp only [divP, ZI.val_of]
   intro e
   obtain ⟨c, hc⟩ := con_dvd _ p hp
   rw [hc, Int.mul_fdiv_cancel_left _ hg] at e
   exact k3 (by rw [hc, e, Int.mul_zero])
theorem shr_tok {n L : Nat} {t : Term} (h : TOk n L t) (hn : n ≤ 1000) : TOk n (L + 1) (shrT t) := by
 unfold shrT
 split
 ·exact h.plain hn
 ·rename_i hg
  have hp := h.plain hn
  have lg : (conZ (plainT t).parts) ≠ 0 := hg
  refine ⟨by simp only [List.length_map]; exact hp.len, fun q hq => ?_, ZI.lb_of _, ?_⟩
  ·obtain ⟨p, hp2, rfl⟩ := List.mem_map.1 hq
   obtain ⟨k1, k2⟩ := hp.ps p hp2
   refine ⟨ZI.lb_of _, ZI.len_of ?_⟩
   exact Nat.lt_of_le_of_lt (fdiv_natAbs_le _ hg) (Nat.lt_of_lt_of_le (ZI.abs_lt k1) (pw_le k2))
  ·exact ZI.len_of (Nat.lt_of_le_of_lt (fdiv_natAbs_le _ hg) (Nat.lt_of_lt_of_le (ZI.abs_lt h.kb) (pw_le (Nat.le_trans h.kl (Nat.le_succ L)))))
set_option maxHeartbeats 4000000 in
theorem STermLooks (t : Term) (v : Int) (fb : Bool) (hL : Fn Tryz.prog 8 [] [] (vb true) []) (hfb : fb = true ↔ ∀ t_ ∈ [t], Few1 t_) (ht : TLb t) : Fn Tryz.prog 4 [] [.t (.agg ([.d (.sl 3 (t.parts.map Part.d))] ++ zi t.k)), vi .i64 v] (vb true) [] := by
 refine Fn.body Tryz.func4 rfl 87 rfl fun w H B a h => ?_
 refine rSeq fam0ok 5 [] [(1, vi .i64 v), (2, vp 5 0), (4, vb false)] [(5, .box ([.d (.sl 3 (t.parts.map Part.d))] ++ zi t.k))] (by kernel_rfl) h ?_; clear h; intro a w h
 refine wp_seq ?_
 refine rSeq fam0ok 6 [(0, .call (hL) ua_0), (3, .call (Ssumming) ua_1)] [(1, vi .i64 v), (2, vp 5 0), (4, vb false), (14, vb false)] [(5, .box ([.d (.sl 3 (t.parts.map Part.d))] ++ zi t.k))] (by kernel_rfl) h ?_; clear h; intro a w h
 refine condS false h rfl (fun hc => ?_) (fun hc => ?_)
 ·cases hc
 ·clear hc
  refine wp_skip ?_
  refine then_n ?_
  refine wp_seq ?_
  refine rSeq fam0ok 6 [(1, .gen _ _ _ fun _ _ _ _ => Op.buildD (d := 16) (len := 1) (rows := [t].map Term.d) (rs := [(15, .t (.agg ([.d (.sl 3 (t.parts.map Part.d))] ++ zi t.k)))]) tq_13 (.cons (i := 0) (OV.tmp 15 _) (.nil)) (by kernel_rfl) rfl (by simp [Term.d]) (by decide) (by decide)), (2, .call (Sfew [t] fb hfb (by simp)) ua_3)] [(1, vi .i64 v), (2, vp 5 0), (4, vb false), (18, vb (!fb))] [(5, .box ([.d (.sl 3 (t.parts.map Part.d))] ++ zi t.k))] (by kernel_rfl) h ?_; clear h; intro a w h
  refine condS (!fb) h rfl (fun hc => ?_) (fun hc => ?_)
  ·have hc1 := hc; clear hc
   have hc1' := hc1; (try simp at hc1')
   refine rSeq fam0ok 6 [] [(1, vi .i64 v), (2, vp 5 0), (4, vb true)] [(5, .box ([.d (.sl 3 (t.parts.map Part.d))] ++ zi t.k))] (by kernel_rfl) h ?_; clear h; intro a w h
   refine wp_ret ?_
   refine then_r ?_
   refine retS [.c (.d (.raw (.bool true)))] h Exit.ret (.inl rfl)  rfl ⟨RV.tmp _ _ rfl, trivial⟩ ?_ (by kernel_rfl) (by kernel_rfl)
   rfl
  ·have hc2 := hc; clear hc
   have hc2' := hc2; (try simp at hc2')
   have hfa : TOk 30 20 t := ht.few (hfb.1 (by simpa using hc2) t (by simp))
   refine wp_skip ?_
   refine then_n ?_
   refine rSeq fam0ok 6 [(1, .call (SShrink t hfa (by decide) (by decide)) ty_2)] [(1, vi .i64 v), (2, vp 5 0), (4, vb false), (5, vp 6 0), (6, vp 7 0)] [(5, .box ([.d (.sl 3 (t.parts.map Part.d))] ++ zi t.k)), (6, .box ([.d (.sl 3 ((shrT t).parts.map Part.d))] ++ zi (shrT t).k)), (7, .box (zi (ZI.of (conZ (plainT t).parts))))] (by kernel_rfl) h ?_; clear h; intro a w h
   refine rSeq fam0ok 8 [(1, .call (SRShrink t hfa (by decide) (by decide)) ua_5)] [(1, vi .i64 v), (2, vp 5 0), (4, vb false), (5, vp 6 0), (6, vp 7 0), (7, vp 8 0), (8, vp 9 0)] [(5, .box ([.d (.sl 3 (t.parts.map Part.d))] ++ zi t.k)), (6, .box ([.d (.sl 3 ((shrT t).parts.map Part.d))] ++ zi (shrT t).k)), (7, .box (zi (ZI.of (conZ (plainT t).parts)))), (8, .box ([.d (.sl 3 ((shrT t).parts.map Part.d))] ++ zi (shrT t).k)), (9, .box (zi (ZI.of (conZ (plainT t).parts))))] (by kernel_rfl) h ?_; clear h; intro a w h
   refine rSeqP fam0ok 10 [(2, .call (STCoef t v (hfa.mono (show 30 ≤ 1000 by decide) (show 20 ≤ 40000 by decide)).psok) tt_3), (5, .call (SCoef t v (hfa.mono (show 30 ≤ 1000 by decide) (show 20 ≤ 40000 by decide)).psok) tb_4), (6, .call (Fn.cast (SRSame (ZI.of (coefZ t.parts v)) (ZI.of (coefZ t.parts v)) (ZI.lb_of _) (ZI.lb_of _)) (congrArg vb (zsame _))) td_0), (10, .call (SWithout t v hfa (by decide) (by decide)) ty_12), (13, .call (SRWithout t v hfa (by decide) (by decide)) ua_10), (14, .call (SLSame2 (s := (woT t v)) (t := (woT t v)) (rfl) (plain_idem _) (n := 30) (L := 21) ((hfa.strike _).plain (by decide)) (by decide) (by decide)) to_5), (18, .call (STVars t hfa (by decide) (by decide)) ty_3), (20, .call (SVars t (hfa.mono (show 30 ≤ 1000 by decide) (show 20 ≤ 40000 by decide)).psok) tb_8), (21, .call (SSameInts (varsZ t.parts) (Nat.le_trans (varsZ_len _) (Nat.le_trans hfa.len (by decide)))) ua_14), (26, .call (SHas t v hfa (by decide) (by decide)) ty_10), (29, .call (SCoef t v (hfa.mono (show 30 ≤ 1000 by decide) (show 20 ≤ 40000 by decide)).psok) tb_4), (30, .call (SRSign (ZI.of (coefZ t.parts v)) (ZI.lb_of _) (Nat.le_trans (coef_len (hfa.mono (show 30 ≤ 1000 by decide) (Nat.le_refl 20)).psok v) (by decide))) ib_0), (32, .cmpb .eql (m := (sgn (coefZ t.parts v) != 0)) (n := ((sgn (ZI.of (coefZ t.parts v)).val) != 0)) (b := true) (.inl ⟨rfl, (show ((sgn (coefZ t.parts v) != 0) == ((sgn (ZI.of (coefZ t.parts v)).val) != 0)) = true from by rw [ZI.val_of]; exact beq_self_eq_true _).symm⟩)), (36, .call (SContent t hfa (by decide) (by decide)) tw_1), (38, .call (SRContent t hfa (by decide) (by decide)) tw_9), (39, .call (Fn.cast (SRSame (ZI.of (conZ (plainT t).parts)) (ZI.of (conZ (plainT t).parts)) (ZI.lb_of _) (ZI.lb_of _)) (congrArg vb (zsame _))) td_0), (44, .call (SLSame2 (s := (shrT t)) (t := (shrT t)) (rfl) (shr_plain t) (n := 30) (L := 21) (shr_tok hfa (by decide)) (by decide) (by decide)) to_5), (49, .call (Fn.cast (SRSame (ZI.of (conZ (plainT t).parts)) (ZI.of (conZ (plainT t).parts)) (ZI.lb_of _) (ZI.lb_of _)) (congrArg vb (zsame _))) td_0), (53, .call (SVar v) to_0), (55, .call (SRVar v) ua_20), (56, .call (SLSame2 (s := (varT v)) (t := (varT v)) (rfl) (plain_idem _) (n := 1) (L := 3) (TOk.plain TOk.one (by decide)) (by decide) (by decide)) to_5)] [(4, vb true)] [] (by kernel_rfl) (by kernel_rfl) (by kernel_rfl) (by kernel_rfl) (by kernel_rfl) (by kernel_rfl) (by kernel_rfl) h ?_; clear h; intro a w h
   refine wp_ret ?_
   refine retS [.c (.d (.raw (.bool true)))] h Exit.ret (.inl rfl)  rfl ⟨RV.tmp _ _ rfl, trivial⟩ ?_ (by kernel_rfl) (by kernel_rfl)
   rfl
theorem STermLooksL (t : Term) (v : Int) (hL : Fn Tryz.prog 8 [] [] (vb true) []) (ht : TLb t) : Fn Tryz.prog 4 [] [vd t.d, vi .i64 v] (vb true) [] := by
 have key : ∃ f : Bool, f = true ↔ ∀ t_ ∈ [t], Few1 t_ := by
  by_cases h : ∀ t_ ∈ [t], Few1 t_
  ·exact ⟨true, fun _ => h, fun _ => rfl⟩
  ·exact ⟨false, fun e => (by cases e), fun e => absurd e h⟩
 obtain ⟨fb, hfb⟩ := key
 exact STermLooks t v fb hL hfb ht
end Go.Proofs.YtekhnajfdaknnaaGreatDoor.S
end
section
namespace Go.Proofs.YtekhnajfdaknnaaGreatDoor.S
open Go.RowKit

end Go.Proofs.YtekhnajfdaknnaaGreatDoor.S
end
section
namespace Go.Proofs.YtekhnajfdaknnaaGreatDoor.S
open Go.RowKit

end Go.Proofs.YtekhnajfdaknnaaGreatDoor.S
end
section
namespace Go.Proofs.YtekhnajfdaknnaaGreatDoor.S
open Go.RowKit

end Go.Proofs.YtekhnajfdaknnaaGreatDoor.S
end
section
namespace Go.Proofs.YtekhnajfdaknnaaGreatDoor.S
open Go.RowKit

end Go.Proofs.YtekhnajfdaknnaaGreatDoor.S
end
section
namespace Go.Proofs.YtekhnajfdaknnaaGreatDoor.S
open Go.RowKit

open Go.ChangeShapes Go.WideShapes Go.ChangeAt
theorem SlookingC : Fn Tryz.prog 8 [] [] (vb true) [] := Slooking SText2x SName3
theorem STermLooksW (t : Term) (v : Int) (ht : TLb t) : Fn Tryz.prog 4 [] [vd t.d, vi .i64 v] (vb true) [] := STermLooksL t v SlookingC ht
end Go.Proofs.YtekhnajfdaknnaaGreatDoor.S
end
section
namespace Go.Proofs.YtekhnajfdaknnaaGreatDoor.termLooksDone
open Go.ChangeShapes Go.WideShapes Go.ChangeAt Go.RowKit
open Go.ChangeMaps (open_string shut_string)
open Go.Proofs.YtekhnajfdaknnaaGreatDoor.S

theorem own : ownKnob Tryz.prog.godebug = none := by kernel_rfl
theorem laidOut : laidOutB Tryz.prog = true := by kernel_rfl

def laidL : List (String × DataW Unit) := [("math/bits.deBruijn32tab", Rows.laid_math_bits_deBruijn32tab), ("math/bits.deBruijn64tab", Rows.laid_math_bits_deBruijn64tab), ("internal/strconv.uint64pow10", Rows.laid_internal_strconv_uint64pow10)]
theorem door_met (os : Os) (args : Array Value) : laidMetH Tryz.prog laidL ((World.doorLaid Tryz.prog 400 os).forCall (fun _ _ => 0) ⟨#[], args, []⟩).memory :=
 laidMetH_of_parts3 (fuel := 8) (laidMet_of_run' 8 (by kernel_rfl) (by kernel_rfl)) (by kernel_rfl) (by kernel_rfl)

theorem lifted (os : Os) (started : os.Started) (H : Type) (enc : TypeId × Value → H) :
  ReturnsInHanded {} Tryz.checked os 4 .any (fun w args => (Rows.termLooksSpec.pre enc Tryz.prog Tryz.f4 [] false w args ∧ laidMetH Tryz.prog laidL w) ∧ sizedMet enc Tryz.prog Tryz.f4 (OpenSpec.ofChange Rows.termLooksSpec) false w args)
   (Rows.termLooksSpec.post enc Tryz.prog Tryz.f4 false true false false) := by
 refine returnsInHanded_of_change_and (C := Tryz.checked) (X := fun w _ => laidMetH Tryz.prog laidL w) (fun _ _ _ hh h => h.of_heap hh) own started (by kernel_rfl) Tryz.func4
  (ChangeSpec.witness_shaped (enc := enc) (C := Tryz.checked) (os := os) (X := fun w _ => laidMetH Tryz.prog laidL w) false (World.doorLaid Tryz.prog 400 os) #[.agg #[.slice none 0 0, .bool false, .slice none 0 0], .int .i64 0] 12 rfl (World.shaped_of_RefB (by kernel_rfl) (by kernel_rfl)) (by kernel_rfl) (by kernel_rfl) (by kernel_rfl) (door_met os _)) ?_
 intro W base args ds gs before hval0 hW _ _ hL _
 have hval : ∀ (j : Nat) t v, Tryz.f4.params[j]? = some t → args[j]? = some v → Value.okWide Tryz.prog W .any base t v := hval0
 have hW' := hW
 obtain ⟨p, q, hA0, hV, rfl, hfz, hnd⟩ := hW
 have hA : DataW.TrodAll enc Tryz.prog W 0 (fun _ => true) true Tryz.f4.params.toList args.toList ds p := hA0
 rw [Tryz.params4] at hA hval
 obtain ⟨v0, vs0, d0, ds0, p0, q0, hargs, rfl, rfl, h0, r0⟩ := trodAll_cons hA
 obtain ⟨v1, vs1, d1, ds1, p1, q1, rfl, rfl, rfl, h1, r1⟩ := trodAll_cons r0
 obtain ⟨rfl, rfl, rfl⟩ := trodAll_nil r1
 obtain rfl : args = #[v0, v1] := by cases args; simp_all
 obtain ⟨rfl, rfl⟩ := trodVars_none hV
 have k0 := h0
 have lt0 : ∀ x ∈ p0, x.block < W.heap.size := by obtain ⟨m, hm⟩ := k0; exact DataW.trod_lt m _ _ _ hm
 obtain ⟨a0, cs0, g0, rfl, dr0⟩ := rep_agg Tryz.underlying28 (fun _ => rep_Term) (hval 0 28 v0 rfl rfl) h0
 obtain ⟨a1, rfl, rfl, rfl, g10⟩ := open_int Tryz.underlying3 (hval 1 3 v1 rfl rfl) h1
 have g1 : -9223372036854775808 ≤ a1 ∧ a1 ≤ 9223372036854775807 := by have := bounds_i64 g10; omega
 clear hA0 hval0
 refine ((STermLooksW a0 a1 g0).calls (w := W) (vals := [.agg ⟨cs0⟩, .int .i64 a1]) fun B => ⟨dr_vd dr0 B, DR.raw _ rfl, trivial⟩).mono fun e W' ⟨he, bel⟩ => ?_
 subst he
 exact ⟨_, rfl, _, _, _, [], _, [], hW', trodAll_mk1 (shut_bool Tryz.underlying4 _), (trodAll_cons_mk (Below.trod laidOut (by kernel_rfl) (of_decide_eq_true (by kernel_rfl)) k0 bel lt0) (trodAll_cons_mk (shut_int Tryz.underlying3 g10) trodAll_mk0)), rfl, bel.below.frame _, fun h => by cases h⟩

theorem over : Rows.TermLooksSaid :=
 OpenClaim.holds_of_wide 4 Tryz.f4 rfl rfl rfl rfl rfl rfl rfl ⟨rfl, rfl, rfl, rfl, rfl⟩ rfl rfl rfl rfl rfl (by kernel_rfl) Tryz.func4 (by kernel_rfl)
  (of_decide_eq_true (by kernel_rfl)) (by unfold Func.isWrapper; first | (rw [if_pos (by decide +kernel)]; kernel_rfl) | (rw [if_neg (by decide +kernel)]; exact ⟨rfl, rfl⟩))
  (fun os started H enc _ => lifted os started H enc)

theorem proved : Rows.TermLooksCardSaid :=
  Claim7.holds_tied_plain_at .later [] [.data, .data, .data] true (true, "97a79c8e33111ce0a29b5e1069275e6f92a3bc254075085a68b535fbfc7ec89a") false
    over (fun _ h => by cases h) (by kernel_rfl) (fun _ h => by cases h) termLooks_row_tie rfl ⟨rfl, rfl⟩ (by kernel_rfl) rfl
    (fun f fn hf hfn => by
      obtain rfl : f = 4 := Option.some.inj ((show Tryz.prog.funcNamed "plumbline/plumblinelaw03.TermLooks" = some 4 by kernel_rfl).symm.trans hf) |>.symm
      obtain rfl : fn = Tryz.f4 := (Option.some.inj (Tryz.func4.symm.trans hfn)).symm
      exact ⟨by kernel_rfl, fun j t ht => by
        rw [Tryz.params4] at ht
        have hm : t ∈ [28, 3] := by simpa using Array.mem_of_getElem? ht
        have hall : ([28, 3].all fun u => !Tryz.prog.wantsStandIn u) = true := by kernel_rfl
        exact (show Tryz.prog.wantsStandIn t = false by simpa using List.all_eq_true.1 hall t hm)⟩)
    (by kernel_rfl)
end Go.Proofs.YtekhnajfdaknnaaGreatDoor.termLooksDone
end
