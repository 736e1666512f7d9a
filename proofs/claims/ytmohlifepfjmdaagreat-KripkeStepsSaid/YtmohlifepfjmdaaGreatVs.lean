/-
  The proof of the statement KripkeSteps: the walk through the program and the references lifted to the given row. It holds for every input.
-/
import Derived.Test.YtmohlifepfjmdaaGreatVs5
import Derived.Test.YtmohlifepfjmdaaGreatVs2
import Derived.Test.YtmohlifepfjmdaaGreatRows
set_option maxRecDepth 100000
section
namespace Go.Proofs.YtmohlifepfjmdaaGreat.S
open Go.RowKit

theorem kx_0 : Bodied Tryz.prog 30 := Bodied.mk' (by kernel_rfl)
theorem kx_1 : Bodied Tryz.prog 31 := Bodied.mk' (by kernel_rfl)
theorem kx_3 : ElZ Tryz.prog 54 43 2 := ElZ.mk' Tryz.underlying54 _ _ rfl rfl (by kernel_rfl) (by kernel_rfl) (by kernel_rfl) (by decide)
theorem kx_5 : ElZ Tryz.prog 57 60 9 := ElZ.mk' Tryz.underlying57 _ _ rfl rfl (by kernel_rfl) (by kernel_rfl) (by kernel_rfl) (by decide)
theorem kx_6 : Bodied Tryz.prog 25 := Bodied.mk' (by kernel_rfl)
theorem kx_13 : Bodied Tryz.prog 27 := Bodied.mk' (by kernel_rfl)
def runE : RunD := ⟨[atD 0 2], [atD 1 3], [0, -1]⟩
def propE : PropD := ⟨true, 0, 1, form0⟩
def wE : WordD := ⟨[[false]], [[true]]⟩
theorem e1 : goS sysE (atD 0 2) 0 [] = (atD 1 3, true) := by kernel_rfl
theorem e2 : (goS sysE (atD 0 3) 0 []).2 = false := by kernel_rfl
theorem e3 : stuck sysE (atD 0 3) = true := by kernel_rfl
theorem e4 : can sysE (atD 0 0) 0 = true := by kernel_rfl
theorem e5 : leads sysE (atD 0 1) 0 (atD 1 2) = true := by kernel_rfl
theorem e6 : leads sysE (atD 0 1) 0 (atD 1 3) = false := by kernel_rfl
theorem e7 : fits sysE (atD 1 0) = true := by kernel_rfl
theorem e8 : first sysE (atD 0 1) = true := by kernel_rfl
theorem e9 : first sysE (atD 1 1) = false := by kernel_rfl
theorem e10 : right sysE runE = true := by kernel_rfl
theorem e11 : spell [propE] runE = wE := by kernel_rfl
theorem e12 : letter [propE] (atD 1 0) = [true] := by kernel_rfl
theorem form0_lb : form0.lb := (FormD.lb_eq _).2 ⟨⟨⟨Lb_nil, fun p hp => (by cases hp)⟩, Nat.zero_le _⟩, fun g hg => (by cases hg)⟩
theorem fewE : fewSys 3 sysE = true := by kernel_rfl
theorem mem1 {α : Type} {x y : α} (h : x ∈ [y]) : x = y := by simpa using h
theorem sysRdE : SysRd sysE := ⟨form0_lb, fun b hb => by rw [mem1 hb]; exact ⟨Lb_nil, ZI.lb_of 3⟩, fun c hc => by
 rw [mem1 hc]
 exact ⟨form0_lb, fun m hm => by rw [mem1 hm]; exact ⟨ZI.lb_of 1, fun p hp => by rw [mem1 hp]; exact ZI.lb_of 1⟩⟩, by decide, fun c hc => by rw [mem1 hc]; decide⟩
theorem sysE_ok : SysOk 3 sysE := few_sys fewE sysRdE
theorem runE_ok : RunOk 3 runE := ⟨by decide, fun x hx => by rw [mem1 hx]; exact atD_ok _ _ (by decide) (by decide), fun x hx => by rw [mem1 hx]; exact atD_ok _ _ (by decide) (by decide)⟩
theorem propE_ok : ∀ p ∈ [propE], PropOk 3 p := fun p hp => by rw [mem1 hp]; exact ⟨form0_lb, fewF_ok (most := 20) (by kernel_rfl) form0_lb⟩
theorem wkP : Wk (.sl 9 [[.raw (.bool true), .raw (.int .i64 0), .raw (.int .i64 1), .raw (.int .i64 0), .raw nilV, .raw (.bool false), nsl [], .raw (.bool false), .raw nilV]]) (.sl 9 ([propE].map PropD.d)) := by
 refine Wk.sl _ _ _ (.cons _ _ _ _ ?_ .nil)
 repeat (first | exact WkL.nil | refine WkL.cons _ _ _ _ (by first | exact Wk.refl _ | exact Wk.nil _) ?_)
set_option maxHeartbeats 4000000 in
theorem SAlive  : Fn Tryz.prog 5 [] [] (vb true) [] := by
 refine Fn.body Tryz.func5 rfl 108 rfl fun w H B a h => ?_
 refine rSeq fam0ok 0 [] [(0, vb false)] [] (by kernel_rfl) h ?_; clear h; intro a w h
 refine rSeq fam0ok 0 [(0, .call (SSys) kx_0)] [(0, vb false), (1, vp 0 0)] [(0, .box (sysC sysE))] (by kernel_rfl) h ?_; clear h; intro a w h
 refine rSeq fam0ok 1 [(1, .call (SAt 0 2 (by decide)) kx_1), (2, .call (Fn.argw (Fn.cast (SGo sysE (atD 0 2) 0 [] (L := 3) (M := 3) (by decide) sysE_ok (atD_ok _ _ (by decide) (by decide)) (fun z hz => by cases hz)) (show (.tup [.agg [.d (.sl 1 ((goS sysE (atD 0 2) 0 []).1.locs.map intD)), .d (.sl 2 ((goS sysE (atD 0 2) 0 []).1.vals.map ziD))], .c (.d (.raw (.bool (goS sysE (atD 0 2) 0 []).2)))] : V) = .tup [.agg [.d (.sl 1 ((atD 1 3).locs.map intD)), .d (.sl 2 ((atD 1 3).vals.map ziD))], .c (.d (.raw (.bool true)))] from by rw [e1])) (.cons _ _ _ _ (.refl _) (.cons _ _ _ _ (.refl _) (.cons _ _ _ _ (.refl _) (.cons _ _ _ _ (.c _ _ (.nil _)) .nil))))) km_9)] [(0, vb false), (1, vp 0 0), (2, vp 1 0), (3, vb true)] [(0, .box (sysC sysE)), (1, .box [.d (.sl 1 ((atD 1 3).locs.map intD)), .d (.sl 2 ((atD 1 3).vals.map ziD))])] (by kernel_rfl) h ?_; clear h; intro a w h
 refine rSeq fam0ok 2 [(1, .call (SAt 0 3 (by decide)) kx_1), (2, .call (Fn.argw (Fn.cast (SGo sysE (atD 0 3) 0 [] (L := 3) (M := 3) (by decide) sysE_ok (atD_ok _ _ (by decide) (by decide)) (fun z hz => by cases hz)) (show (.tup [.agg [.d (.sl 1 ((goS sysE (atD 0 3) 0 []).1.locs.map intD)), .d (.sl 2 ((goS sysE (atD 0 3) 0 []).1.vals.map ziD))], .c (.d (.raw (.bool (goS sysE (atD 0 3) 0 []).2)))] : V) = .tup [.agg [.d (.sl 1 ((goS sysE (atD 0 3) 0 []).1.locs.map intD)), .d (.sl 2 ((goS sysE (atD 0 3) 0 []).1.vals.map ziD))], .c (.d (.raw (.bool false)))] from by rw [e2])) (.cons _ _ _ _ (.refl _) (.cons _ _ _ _ (.refl _) (.cons _ _ _ _ (.refl _) (.cons _ _ _ _ (.c _ _ (.nil _)) .nil))))) km_9)] [(0, vb false), (1, vp 0 0), (2, vp 1 0), (3, vb true), (5, vb false)] [(0, .box (sysC sysE)), (1, .box [.d (.sl 1 ((atD 1 3).locs.map intD)), .d (.sl 2 ((atD 1 3).vals.map ziD))])] (by kernel_rfl) h ?_; clear h; intro a w h
 refine rSeq fam0ok 3 [(0, .call (SAt 0 2 (by decide)) kx_1), (1, .gen _ _ _ fun _ _ _ _ => Op.buildD (d := 23) (len := 1) (rows := [(atD 0 2)].map StD.d) (rs := [(22, .t (.agg [.d (.sl 1 ((atD 0 2).locs.map intD)), .d (.sl 2 ((atD 0 2).vals.map ziD))]))]) kx_3 (.cons (i := 0) (OV.tmp 22 _) (.nil)) (by kernel_rfl) rfl (by simp [StD.d]) (by decide) (by decide)), (2, .call (SAt 1 3 (by decide)) kx_1), (3, .gen _ _ _ fun _ _ _ _ => Op.buildD (d := 25) (len := 1) (rows := [(atD 1 3)].map StD.d) (rs := [(24, .t (.agg [.d (.sl 1 ((atD 1 3).locs.map intD)), .d (.sl 2 ((atD 1 3).vals.map ziD))]))]) kx_3 (.cons (i := 0) (OV.tmp 24 _) (.nil)) (by kernel_rfl) rfl (by simp [StD.d]) (by decide) (by decide)), (4, .gen _ _ _ fun _ _ _ _ => Op.buildD (d := 26) (len := 2) (rows := [0, (-1)].map intD) (rs := []) tb_0 (.cons (i := 0) (OV.const (.int .i64 0) rfl) (.cons (i := 1) (OV.const (.int .i64 (-1)) rfl) (.nil))) (by kernel_rfl) rfl (by simp [intD]) (by decide) (by decide))] [(0, vb false), (1, vp 0 0), (2, vp 1 0), (3, vb true), (5, vb false), (6, vp 3 0)] [(0, .box (sysC sysE)), (1, .box [.d (.sl 1 ((atD 1 3).locs.map intD)), .d (.sl 2 ((atD 1 3).vals.map ziD))]), (3, .box [.d (.sl 2 ([(atD 0 2)].map StD.d)), .d (.sl 2 ([(atD 1 3)].map StD.d)), .d (.sl 1 ([0, (-1)].map intD))])] (by kernel_rfl) h ?_; clear h; intro a w h
 refine rSeq fam0ok 4 [(1, .gen _ _ _ fun _ _ _ _ => Op.buildD (d := 29) (len := 1) (rows := [[.raw (.bool true), .raw (.int .i64 0), .raw (.int .i64 1), .raw (.int .i64 0), .raw nilV, .raw (.bool false), nsl [], .raw (.bool false), .raw nilV]]) (rs := [(28, .t (.agg [.d (.raw (.bool true)), .d (.raw (.int .i64 0)), .d (.raw (.int .i64 1)), .d (.raw (.int .i64 0)), .d (.raw nilV), .d (.raw (.bool false)), .d (nsl []), .d (.raw (.bool false)), .d (.raw nilV)]))]) kx_5 (.cons (i := 0) (OV.tmp 28 _) (.nil)) (by kernel_rfl) rfl (by simp) (by decide) (by decide))] [(0, vb false), (1, vp 0 0), (2, vp 1 0), (3, vb true), (5, vb false), (6, vp 3 0), (7, .t (.c (.d (.sl 9 [[.raw (.bool true), .raw (.int .i64 0), .raw (.int .i64 1), .raw (.int .i64 0), .raw nilV, .raw (.bool false), nsl [], .raw (.bool false), .raw nilV]]))))] [(0, .box (sysC sysE)), (1, .box [.d (.sl 1 ((atD 1 3).locs.map intD)), .d (.sl 2 ((atD 1 3).vals.map ziD))]), (3, .box [.d (.sl 2 ([(atD 0 2)].map StD.d)), .d (.sl 2 ([(atD 1 3)].map StD.d)), .d (.sl 1 ([0, (-1)].map intD))])] (by kernel_rfl) h ?_; clear h; intro a w h
 refine rSeq fam0ok 4 [(2, .call (Fn.argw (Fn.cast (SSpell [propE] runE (L := 3) (M := 3) (by decide) propE_ok (by decide) runE_ok) (show (.t (.agg [.d (.sl 1 ((spell [propE] runE).stem.map (slD 1 boolD))), .d (.sl 1 ((spell [propE] runE).cycle.map (slD 1 boolD)))]) : V) = .t (.agg [.d (.sl 1 (wE.stem.map (slD 1 boolD))), .d (.sl 1 (wE.cycle.map (slD 1 boolD)))]) from by rw [e11])) (.cons _ _ _ _ (.c _ _ wkP) (.cons _ _ _ _ (.refl _) .nil))) kx_6)] [(0, vb false), (1, vp 0 0), (2, vp 1 0), (3, vb true), (5, vb false), (6, vp 3 0), (7, .t (.c (.d (.sl 9 [[.raw (.bool true), .raw (.int .i64 0), .raw (.int .i64 1), .raw (.int .i64 0), .raw nilV, .raw (.bool false), nsl [], .raw (.bool false), .raw nilV]])))), (8, vp 4 0)] [(0, .box (sysC sysE)), (1, .box [.d (.sl 1 ((atD 1 3).locs.map intD)), .d (.sl 2 ((atD 1 3).vals.map ziD))]), (3, .box [.d (.sl 2 ([(atD 0 2)].map StD.d)), .d (.sl 2 ([(atD 1 3)].map StD.d)), .d (.sl 1 ([0, (-1)].map intD))]), (4, .box [.d (.sl 1 (wE.stem.map (slD 1 boolD))), .d (.sl 1 (wE.cycle.map (slD 1 boolD)))])] (by kernel_rfl) h ?_; clear h; intro a w h
 refine rSeq fam0ok 5 [(3, .call (SAt 1 3 (by decide)) kx_1), (4, .call (Fn.cast (SSame (atD 1 3) (atD 1 3) (M := 3) (by decide) (atD_ok _ _ (by decide) (by decide)) (atD_ok _ _ (by decide) (by decide))) (show (vb (sameS (atD 1 3) (atD 1 3)) : V) = vb true from by rw [sameS_refl])) km_1), (12, .call (SAt 0 3 (by decide)) kx_1), (13, .call (Fn.cast (SStuck sysE (atD 0 3) (L := 3) (M := 3) (by decide) sysE_ok (atD_ok _ _ (by decide) (by decide))) (show (vb (stuck sysE (atD 0 3)) : V) = vb true from by rw [e3])) kl_0), (17, .call (SAt 0 0 (by decide)) kx_1), (18, .call (Fn.cast (SCan sysE (atD 0 0) 0 (L := 3) (M := 3) (by decide) sysE_ok (atD_ok _ _ (by decide) (by decide))) (show (vb (can sysE (atD 0 0) 0) : V) = vb true from by rw [e4])) kk_12), (22, .call (SAt 0 1 (by decide)) kx_1), (23, .call (SAt 1 2 (by decide)) kx_1), (24, .call (Fn.cast (SLeads sysE (atD 0 1) 0 (atD 1 2) (L := 3) (M := 3) (by decide) sysE_ok (atD_ok _ _ (by decide) (by decide)) (atD_ok _ _ (by decide) (by decide))) (show (vb (leads sysE (atD 0 1) 0 (atD 1 2)) : V) = vb true from by rw [e5])) kn_8), (28, .call (SAt 0 1 (by decide)) kx_1), (29, .call (SAt 1 3 (by decide)) kx_1), (30, .call (Fn.cast (SLeads sysE (atD 0 1) 0 (atD 1 3) (L := 3) (M := 3) (by decide) sysE_ok (atD_ok _ _ (by decide) (by decide)) (atD_ok _ _ (by decide) (by decide))) (show (vb (leads sysE (atD 0 1) 0 (atD 1 3)) : V) = vb false from by rw [e6])) kn_8), (35, .call (SAt 1 0 (by decide)) kx_1), (36, .call (Fn.cast (SFits sysE (atD 1 0) (L := 3) (M := 3) (by decide) sysE_ok (atD_ok _ _ (by decide) (by decide))) (show (vb (fits sysE (atD 1 0)) : V) = vb true from by rw [e7])) kg_9), (40, .call (SAt 0 1 (by decide)) kx_1), (41, .call (Fn.cast (SFirst sysE (atD 0 1) (L := 3) (M := 3) (by decide) sysE_ok (atD_ok _ _ (by decide) (by decide))) (show (vb (first sysE (atD 0 1)) : V) = vb true from by rw [e8])) kn_6), (45, .call (SAt 1 1 (by decide)) kx_1), (46, .call (Fn.cast (SFirst sysE (atD 1 1) (L := 3) (M := 3) (by decide) sysE_ok (atD_ok _ _ (by decide) (by decide))) (show (vb (first sysE (atD 1 1)) : V) = vb false from by rw [e9])) kn_6), (52, .call (Fn.cast (SRight sysE runE (L := 3) (M := 3) (by decide) sysE_ok runE_ok) (show (vb (right sysE runE) : V) = vb true from by rw [e10])) kx_13), (56, .call (SAt 1 0 (by decide)) kx_1), (57, .call (Fn.argw (Fn.cast (SLetter [propE] (atD 1 0) (L := 3) (M := 3) (by decide) propE_ok (by decide) (atD_ok _ _ (by decide) (by decide))) (show (.t (.c (.d (.sl 1 ((letter [propE] (atD 1 0)).map boolD)))) : V) = .t (.c (.d (.sl 1 ([true].map boolD)))) from by rw [e12])) (.cons _ _ _ _ (.c _ _ wkP) (.cons _ _ _ _ (.refl _) .nil))) kn_14), (58, .len (c := (.d (.sl 1 ([true].map boolD)))) (n := [true].length) (lenC_map _ _ _)), (59, .cmp (op := .eql) (m := ([true].length : Int)) (n := 1) (b := true) .i64 (show (([true].length : Int) == 1) = true from by decide)), (64, .len (c := (.d (.sl 1 (wE.stem.map (slD 1 boolD))))) (n := wE.stem.length) (lenC_map _ _ _)), (65, .cmp (op := .eql) (m := (wE.stem.length : Int)) (n := 1) (b := true) .i64 (show ((wE.stem.length : Int) == 1) = true from by decide)), (70, .gen _ _ _ fun _ _ _ _ => Op.idxD (d := 103) (t := 102) (k := .i64) ks_14 (map_at (show wE.cycle[0]? = some [true] from rfl) (f := (slD 1 boolD))) (OV.const (.int .i64 0) rfl)), (72, .gen _ _ _ fun _ _ _ _ => Op.idxD (d := 105) (t := 104) (k := .i64) ks_15 (map_at (show [true][0]? = some true from rfl) (f := boolD)) (OV.const (.int .i64 0) rfl))] [(0, vb true)] [] (by kernel_rfl) h ?_; clear h; intro a w h
 refine wp_ret ?_
 refine retS [.c (.d (.raw (.bool true)))] h Exit.ret (.inl rfl)  rfl ⟨RV.tmp _ _ rfl, trivial⟩ ?_ (by kernel_rfl) (by kernel_rfl)
 rfl
end Go.Proofs.YtmohlifepfjmdaaGreat.S
end
section
namespace Go.Proofs.YtmohlifepfjmdaaGreat.S
open Go.RowKit

theorem ky_0 : Bodied Tryz.prog 5 := Bodied.mk' (by kernel_rfl)
theorem ky_1 : Bodied Tryz.prog 6 := Bodied.mk' (by kernel_rfl)
theorem ky_2 : Bodied Tryz.prog 7 := Bodied.mk' (by kernel_rfl)
theorem ky_6 : Bodied Tryz.prog 10 := Bodied.mk' (by kernel_rfl)
theorem cloneS_ok {M : Nat} {x : StD} (hx : StOk M x) : StOk M (cloneS x) := ⟨hx.locs, by show (x.vals.map clZ).length ≤ 10; rw [List.length_map]; exact hx.vals, fun z hz => by
 obtain ⟨u, hu, rfl⟩ := List.mem_map.1 (show z ∈ x.vals.map clZ from hz)
 exact cl_len (hx.val u hu)⟩
theorem goS_ok {L M : Nat} {s : SysD} {x : StD} {i : Int} {picks : List ZI} (hs : SysOk L s) (hx : StOk M x) (hp : ∀ z ∈ picks, ZOk M z) : StOk (L + M + 2) (goS s x i picks).1 := by
 unfold goS
 split
 ·exact (cloneS_ok hx).mono (by omega)
 ·split
  ·exact st0_ok
  ·next c hc =>
   unfold goC
   split
   ·obtain ⟨k, _, hk⟩ := actAt_some hc
    exact outS_ok hs hx (hs.act c (List.mem_of_getElem? hk)) hp
   ·exact st0_ok
theorem same_clone (x : StD) : sameS x (cloneS x) = true := by
 unfold sameS
 rw [decide_eq_true (show x.locs = (cloneS x).locs from rfl), Bool.true_and, decide_eq_true_eq]
 show _ = (x.vals.map clZ).map ZI.val
 rw [List.map_map]
 exact List.map_congr_left fun z _ => (ZI.val_of z.val).symm
theorem allN_of {f : Nat → Bool} : ∀ {n : Nat}, (∀ i, i < n → f i = true) → allN n f = true
 | 0, _ => rfl
 | n + 1, h => allN_step (allN_of fun i hi => h i (by omega)) (h n (by omega))
theorem goS_leads {s : SysD} {x : StD} {i : Int} {picks : List ZI} (h : (goS s x i picks).2 = true) : leads s x i (goS s x i picks).1 = true := by
 unfold goS at h ⊢
 by_cases h0 : i = -1 ∧ stuck s x = true
 ·rw [if_pos h0]
  unfold leads
  rw [if_pos h0.1, h0.2, same_clone]; rfl
 ·rw [if_neg h0] at h ⊢
  cases hc : actAt s i with
  | none => rw [hc] at h; cases h
  | some c =>
   rw [hc] at h
   simp only at h ⊢
   unfold goC at h ⊢
   by_cases h1 : enabled s x c = true ∧ fits s (outS s x c picks) = true
   ·rw [if_pos h1]
    have hi : i ≠ -1 := fun e => by subst e; simp [actAt] at hc
    unfold leads
    rw [if_neg hi, hc]
    show leadsC s x c (outS s x c picks) = true
    rw [← leads_eq]
    unfold leadsRC
    have hl := fits_len (enabled_fits h1.1)
    rw [h1.1, h1.2, allN_of fun p hp => ?_, allN_of fun v hv => ?_]; rfl
    ·unfold vstep; rw [out_val (by omega)]
     cases hf : freeAt c v with
     | true => rfl
     | false => rw [← newV_new (picks := picks) hf]; simp
    ·unfold lstep; rw [out_loc h1.1 hp]; simp
   ·rw [if_neg h1] at h; cases h
set_option maxHeartbeats 4000000 in
theorem SKripkeSteps (s : SysD) (x y : StD) (act : Int) (picks : List ZI) (hs : SysRd s) (hx : StRd x) (hy : StRd y) (hpb : ∀ z ∈ picks, Lb z.abs) (hpl : picks.length ≤ 9223372036854775807) : Fn Tryz.prog 3 [] [.t (.agg (sysC s)), .t (.agg [.d (.sl 1 (x.locs.map intD)), .d (.sl 2 (x.vals.map ziD))]), .t (.agg [.d (.sl 1 (y.locs.map intD)), .d (.sl 2 (y.vals.map ziD))]), vi .i64 act, .t (.c (.d (.sl 2 (picks.map ziD))))] (vb true) [] := by
 refine Fn.body Tryz.func3 rfl 142 rfl fun w H B a h => ?_
 refine rSeq fam0ok 0 [] [(3, vi .i64 act), (4, .t (.c (.d (.sl 2 (picks.map ziD))))), (5, vp 0 0), (6, vp 1 0), (7, vp 2 0), (10, vb false)] [(0, .box (sysC s)), (1, .box [.d (.sl 1 (x.locs.map intD)), .d (.sl 2 (x.vals.map ziD))]), (2, .box [.d (.sl 1 (y.locs.map intD)), .d (.sl 2 (y.vals.map ziD))])] (by kernel_rfl) h ?_; clear h; intro a w h
 refine wp_seq ?_
 refine rSeq fam0ok 3 [(0, .call (SAlive) ky_0)] [(3, vi .i64 act), (4, .t (.c (.d (.sl 2 (picks.map ziD))))), (5, vp 0 0), (6, vp 1 0), (7, vp 2 0), (10, vb false), (18, vb false)] [(0, .box (sysC s)), (1, .box [.d (.sl 1 (x.locs.map intD)), .d (.sl 2 (x.vals.map ziD))]), (2, .box [.d (.sl 1 (y.locs.map intD)), .d (.sl 2 (y.vals.map ziD))])] (by kernel_rfl) h ?_; clear h; intro a w h
 refine condS false h rfl (fun hc => ?_) (fun hc => ?_)
 ·cases hc
 ·clear hc
  refine wp_skip ?_
  refine then_n ?_
  refine wp_seq ?_
  rcases Bool.eq_false_or_eq_true (fewSys 3 s) with hc | hc
  ·have hc1 := hc; clear hc
   rcases Bool.eq_false_or_eq_true (fewSt 3 x) with hc | hc
   ·have hc2 := hc; clear hc
    rcases Bool.eq_false_or_eq_true (fewSt 3 y) with hc | hc
    ·have hc3 := hc; clear hc
     refine rSeq fam0ok 3 [(1, .call (Fn.cast (SFewSys s 3 hs) (congrArg vb hc1)) ky_1), (5, .call (Fn.cast (SFewSt x 3 hx) (congrArg vb hc2)) ky_2), (10, .call (Fn.cast (SFewSt y 3 hy) (congrArg vb hc3)) ky_2), (15, .len (c := (.d (.sl 2 (picks.map ziD)))) (n := picks.length) (lenC_map _ _ _))] [(3, vi .i64 act), (4, .t (.c (.d (.sl 2 (picks.map ziD))))), (5, vp 0 0), (6, vp 1 0), (7, vp 2 0), (10, vb false), (36, vb (decide ((picks.length : Int) > 10)))] [(0, .box (sysC s)), (1, .box [.d (.sl 1 (x.locs.map intD)), .d (.sl 2 (x.vals.map ziD))]), (2, .box [.d (.sl 1 (y.locs.map intD)), .d (.sl 2 (y.vals.map ziD))])] (by kernel_rfl) h ?_; clear h; intro a w h
     refine condS (decide ((picks.length : Int) > 10)) h rfl (fun hc => ?_) (fun hc => ?_)
     ·have hc4 := hc; clear hc
      have hc4' := of_decide_eq_true hc4
      refine rSeq fam0ok 3 [] [(3, vi .i64 act), (4, .t (.c (.d (.sl 2 (picks.map ziD))))), (5, vp 0 0), (6, vp 1 0), (7, vp 2 0), (10, vb true)] [(0, .box (sysC s)), (1, .box [.d (.sl 1 (x.locs.map intD)), .d (.sl 2 (x.vals.map ziD))]), (2, .box [.d (.sl 1 (y.locs.map intD)), .d (.sl 2 (y.vals.map ziD))])] (by kernel_rfl) h ?_; clear h; intro a w h
      refine wp_ret ?_
      refine then_r ?_
      refine retS [.c (.d (.raw (.bool true)))] h Exit.ret (.inl rfl)  rfl ⟨RV.tmp _ _ rfl, trivial⟩ ?_ (by kernel_rfl) (by kernel_rfl)
      rfl
     ·have hc5 := hc; clear hc
      have hc5' := of_decide_eq_false hc5
      refine wp_skip ?_
      refine then_n ?_
      refine wp_seq ?_
      refine rSeq fam0ok 3 [(1, .len (c := (.d (.sl 2 (picks.map ziD)))) (n := picks.length) (lenC_map _ _ _))] [(3, vi .i64 act), (4, .t (.c (.d (.sl 2 (picks.map ziD))))), (5, vp 0 0), (6, vp 1 0), (7, vp 2 0), (10, vb false), (37, .t (.c (.d (.sl 2 (picks.map ziD))))), (38, vi .i64 (picks.length : Int)), (39, vi .i64 0)] [(0, .box (sysC s)), (1, .box [.d (.sl 1 (x.locs.map intD)), .d (.sl 2 (x.vals.map ziD))]), (2, .box [.d (.sl 1 (y.locs.map intD)), .d (.sl 2 (y.vals.map ziD))])] (by kernel_rfl) h ?_; clear h; intro a w h
      refine wp_block ?_
      refine loopS (ι := (Nat)) (fun (z_ : (Nat)) => match z_ with | j => j ≤ picks.length ∧ (picks.take j).all (fun z => decide ((z.abs.length : Int) ≤ 3)) = true)
        (fun (z_ : (Nat)) => match z_ with | j => [(3, vi .i64 act), (4, .t (.c (.d (.sl 2 (picks.map ziD))))), (5, vp 0 0), (6, vp 1 0), (7, vp 2 0), (37, .t (.c (.d (.sl 2 (picks.map ziD))))), (38, vi .i64 (picks.length : Int)), (39, vi .i64 (j : Int))])
        (fun (z_ : (Nat)) => match z_ with | j => [(0, .box (sysC s)), (1, .box [.d (.sl 1 (x.locs.map intD)), .d (.sl 2 (x.vals.map ziD))]), (2, .box [.d (.sl 1 (y.locs.map intD)), .d (.sl 2 (y.vals.map ziD))])])
        (fun (z_ : (Nat)) => match z_ with | j => picks.length - j) 0 ?_ h (by kernel_rfl) (by kernel_rfl) ?_
      ·exact ⟨Nat.zero_le _, rfl⟩
      ·clear h; rintro j a w hI h
       change St _ (F.of [(3, vi .i64 act), (4, .t (.c (.d (.sl 2 (picks.map ziD))))), (5, vp 0 0), (6, vp 1 0), (7, vp 2 0), (37, .t (.c (.d (.sl 2 (picks.map ziD))))), (38, vi .i64 (picks.length : Int)), (39, vi .i64 (j : Int))] [(0, .box (sysC s)), (1, .box [.d (.sl 1 (x.locs.map intD)), .d (.sl 2 (x.vals.map ziD))]), (2, .box [.d (.sl 1 (y.locs.map intD)), .d (.sl 2 (y.vals.map ziD))])]) a w at h
       obtain ⟨hI1, hI2⟩ := hI
       refine rSeq fam0ok 3 [] [(3, vi .i64 act), (4, .t (.c (.d (.sl 2 (picks.map ziD))))), (5, vp 0 0), (6, vp 1 0), (7, vp 2 0), (37, .t (.c (.d (.sl 2 (picks.map ziD))))), (38, vi .i64 (picks.length : Int)), (39, vi .i64 (j : Int)), (40, vb (decide ((j : Int) < (picks.length : Int))))] [(0, .box (sysC s)), (1, .box [.d (.sl 1 (x.locs.map intD)), .d (.sl 2 (x.vals.map ziD))]), (2, .box [.d (.sl 1 (y.locs.map intD)), .d (.sl 2 (y.vals.map ziD))])] (by kernel_rfl) h ?_; clear h; intro a w h
       refine wp_seq ?_
       refine condS (decide ((j : Int) < (picks.length : Int))) h rfl (fun hc => ?_) (fun hc => ?_)
       ·have hc6 := hc; clear hc
        have hc6' := of_decide_eq_true hc6
        refine wp_skip ?_
        refine then_n ?_
        refine wp_seq ?_
        refine wp_block ?_
        obtain ⟨x11, hx11⟩ : ∃ z_ : ZI, picks[j]? = some z_ := ⟨_, List.getElem?_eq_getElem (by first | omega | (simp at *; omega))⟩
        refine rSeq fam0ok 3 [(0, .gen _ _ _ fun _ _ _ _ => Op.idxD (d := 41) (t := 37) (k := .i64) tt_6 (map_at hx11 (f := ziD)) (OV.tmp 39 _))] [(3, vi .i64 act), (4, .t (.c (.d (.sl 2 (picks.map ziD))))), (5, vp 0 0), (6, vp 1 0), (7, vp 2 0), (12, vp 3 0), (37, .t (.c (.d (.sl 2 (picks.map ziD))))), (38, vi .i64 (picks.length : Int)), (39, vi .i64 (j : Int))] [(0, .box (sysC s)), (1, .box [.d (.sl 1 (x.locs.map intD)), .d (.sl 2 (x.vals.map ziD))]), (2, .box [.d (.sl 1 (y.locs.map intD)), .d (.sl 2 (y.vals.map ziD))]), (3, .box (zi x11))] (by kernel_rfl) h ?_; clear h; intro a w h
        refine rSeq fam0ok 4 [(2, .len (nsl_len x11.abs))] [(3, vi .i64 act), (4, .t (.c (.d (.sl 2 (picks.map ziD))))), (5, vp 0 0), (6, vp 1 0), (7, vp 2 0), (37, .t (.c (.d (.sl 2 (picks.map ziD))))), (38, vi .i64 (picks.length : Int)), (39, vi .i64 (j : Int)), (46, vb (decide ((x11.abs.length : Int) > 3)))] [(0, .box (sysC s)), (1, .box [.d (.sl 1 (x.locs.map intD)), .d (.sl 2 (x.vals.map ziD))]), (2, .box [.d (.sl 1 (y.locs.map intD)), .d (.sl 2 (y.vals.map ziD))])] (by kernel_rfl) h ?_; clear h; intro a w h
        refine condS (decide ((x11.abs.length : Int) > 3)) h rfl (fun hc => ?_) (fun hc => ?_)
        ·have hc7 := hc; clear hc
         have hc7' := of_decide_eq_true hc7
         refine rSeq fam0ok 4 [] [(3, vi .i64 act), (4, .t (.c (.d (.sl 2 (picks.map ziD))))), (5, vp 0 0), (6, vp 1 0), (7, vp 2 0), (10, vb true), (37, .t (.c (.d (.sl 2 (picks.map ziD))))), (38, vi .i64 (picks.length : Int)), (39, vi .i64 (j : Int))] [(0, .box (sysC s)), (1, .box [.d (.sl 1 (x.locs.map intD)), .d (.sl 2 (x.vals.map ziD))]), (2, .box [.d (.sl 1 (y.locs.map intD)), .d (.sl 2 (y.vals.map ziD))])] (by kernel_rfl) h ?_; clear h; intro a w h
         refine wp_ret ?_
         refine block_r ?_
         refine then_r ?_
         refine then_r ?_
         refine block_r ?_
         refine then_r ?_
         refine retS [.c (.d (.raw (.bool true)))] h Exit.ret (.inl rfl)  rfl ⟨RV.tmp _ _ rfl, trivial⟩ ?_ (by kernel_rfl) (by kernel_rfl)
         rfl
        ·have hc8 := hc; clear hc
         have hc8' := of_decide_eq_false hc8
         refine wp_skip ?_
         refine block_n ?_
         refine then_n ?_
         refine rS fam0ok 4 [(0, .add .i64 (m := (j : Int)) (n := 1) (i64_id (by omega) (by omega)))] [(3, vi .i64 act), (4, .t (.c (.d (.sl 2 (picks.map ziD))))), (5, vp 0 0), (6, vp 1 0), (7, vp 2 0), (37, .t (.c (.d (.sl 2 (picks.map ziD))))), (38, vi .i64 (picks.length : Int)), (39, vi .i64 ((j : Int) + 1))] [(0, .box (sysC s)), (1, .box [.d (.sl 1 (x.locs.map intD)), .d (.sl 2 (x.vals.map ziD))]), (2, .box [.d (.sl 1 (y.locs.map intD)), .d (.sl 2 (y.vals.map ziD))])] (by kernel_rfl) h ?_; clear h; intro a w h
         refine then_n ?_
         refine roundS (x := j) (y := j + 1) h ?_ ?_ (by kernel_rfl) (by kernel_rfl)
         ·exact ⟨by have := at_lt hx11; omega, all_step hx11 hI2 (decide_eq_true (by have := of_decide_eq_false hc8; omega))⟩
         ·show picks.length - (j + 1) < picks.length - j
          have := at_lt hx11; omega
       ·have hc9 := hc; clear hc
        have hc9' := of_decide_eq_false hc9
        refine wp_exit ?_
        refine then_x ?_
        refine then_x ?_
        refine inBlock_exit ?_
        refine then_n ?_
        have hal := all_end (of_decide_eq_false hc9) hI2
        have hpk : ∀ z ∈ picks, ZOk 3 z := fun z hz => ⟨hpb z hz, by have h0 := List.all_eq_true.1 hal z hz; have h1 := of_decide_eq_true h0; omega⟩
        have hsO := few_sys hc1 hs
        have hxO := few_st hc2 hx
        have hyO := few_st hc3 hy
        have hgo : StOk 8 (goS s x act picks).1 := goS_ok hsO hxO hpk
        refine rSeq fam0ok 4 [(4, .call (SGo s x act picks (L := 3) (M := 3) (by decide) hsO hxO hpk) km_9)] [(3, vi .i64 act), (4, .t (.c (.d (.sl 2 (picks.map ziD))))), (5, vp 0 0), (6, vp 1 0), (7, vp 2 0), (13, vp 4 0), (14, vb (goS s x act picks).2)] [(0, .box (sysC s)), (1, .box [.d (.sl 1 (x.locs.map intD)), .d (.sl 2 (x.vals.map ziD))]), (2, .box [.d (.sl 1 (y.locs.map intD)), .d (.sl 2 (y.vals.map ziD))]), (4, .box [.d (.sl 1 ((goS s x act picks).1.locs.map intD)), .d (.sl 2 ((goS s x act picks).1.vals.map ziD))])] (by kernel_rfl) h ?_; clear h; intro a w h
        refine rSeq fam0ok 5 [(4, .call (SRGo s x act picks (L := 3) (M := 3) (by decide) hsO hxO hpk hpl) kq_13)] [(3, vi .i64 act), (5, vp 0 0), (6, vp 1 0), (7, vp 2 0), (13, vp 4 0), (14, vb (goS s x act picks).2), (15, vp 5 0), (16, vb (goS s x act picks).2)] [(0, .box (sysC s)), (1, .box [.d (.sl 1 (x.locs.map intD)), .d (.sl 2 (x.vals.map ziD))]), (2, .box [.d (.sl 1 (y.locs.map intD)), .d (.sl 2 (y.vals.map ziD))]), (4, .box [.d (.sl 1 ((goS s x act picks).1.locs.map intD)), .d (.sl 2 ((goS s x act picks).1.vals.map ziD))]), (5, .box [.d (.sl 1 ((goS s x act picks).1.locs.map intD)), .d (.sl 2 ((goS s x act picks).1.vals.map ziD))])] (by kernel_rfl) h ?_; clear h; intro a w h
        refine wp_seq ?_
        rcases Bool.eq_false_or_eq_true (goS s x act picks).2 with hc | hc
        ·have hc10 := hc; clear hc
         rw [hc10] at h
         refine rSeq fam0ok 6 [(2, .cmpb .neq (m := true) (n := true) (b := false) (.inr ⟨rfl, (show (true != true) = false from by simp).symm⟩)), (6, .call (SSameLaw (goS s x act picks).1 (M := 8) (by decide) hgo) ky_6), (14, .call (SLeads s x act y (L := 3) (M := 3) (by decide) hsO hxO hyO) kn_8), (19, .call (SRLeads s x act y (L := 3) (M := 3) (by decide) hsO hxO hyO) ks_5), (20, .cmpb .neq (m := (leads s x act y)) (n := (leads s x act y)) (b := false) (.inr ⟨rfl, (show (leads s x act y != leads s x act y) = false from by simp).symm⟩)), (29, .call (Fn.cast (SLeads s x act (goS s x act picks).1 (L := 3) (M := 8) (by decide) hsO (hxO.mono (by decide)) hgo) (congrArg vb (goS_leads hc10))) kn_8)] [(3, vi .i64 act), (5, vp 0 0), (6, vp 1 0), (7, vp 2 0), (96, vb false)] [(0, .box (sysC s)), (1, .box [.d (.sl 1 (x.locs.map intD)), .d (.sl 2 (x.vals.map ziD))]), (2, .box [.d (.sl 1 (y.locs.map intD)), .d (.sl 2 (y.vals.map ziD))])] (by kernel_rfl) h ?_; clear h; intro a w h
         refine condS false h rfl (fun hc => ?_) (fun hc => ?_)
         ·cases hc
         ·clear hc
          refine wp_skip ?_
          refine then_n ?_
          refine rSeq fam0ok 6 [(2, .call (SFits s x (L := 3) (M := 3) (by decide) hsO hxO) kg_9), (5, .call (SRFits s x (L := 3) (M := 3) (by decide) hsO hxO) kh_6), (6, .cmpb .eql (m := (fits s x)) (n := (fits s x)) (b := true) (.inl ⟨rfl, (show (fits s x == fits s x) = true from by simp).symm⟩)), (10, .call (SFirst s x (L := 3) (M := 3) (by decide) hsO hxO) kn_6), (13, .call (SRFirst s x (L := 3) (M := 3) (by decide) hsO hxO) ks_3), (14, .cmpb .eql (m := (first s x)) (n := (first s x)) (b := true) (.inl ⟨rfl, (show (first s x == first s x) = true from by simp).symm⟩)), (20, .call (SCan s x act (L := 3) (M := 3) (by decide) hsO hxO) kk_12), (24, .call (SRCan s x act (L := 3) (M := 3) (by decide) hsO hxO) kq_14), (25, .cmpb .eql (m := (can s x act)) (n := (can s x act)) (b := true) (.inl ⟨rfl, (show (can s x act == can s x act) = true from by simp).symm⟩)), (30, .call (SStuck s x (L := 3) (M := 3) (by decide) hsO hxO) kl_0), (33, .call (SRStuck s x (L := 3) (M := 3) (by decide) hsO hxO) kr_7), (34, .cmpb .eql (m := (stuck s x)) (n := (stuck s x)) (b := true) (.inl ⟨rfl, (show (stuck s x == stuck s x) = true from by simp).symm⟩)), (39, .call (SSame x y (M := 3) (by decide) hxO hyO) km_1), (42, .call (SRSame18 x y (M := 3) (by decide) hxO hyO) kr_9), (43, .cmpb .eql (m := (sameS x y)) (n := (sameS x y)) (b := true) (.inl ⟨rfl, (show (sameS x y == sameS x y) = true from by simp).symm⟩))] [(10, vb true)] [] (by kernel_rfl) h ?_; clear h; intro a w h
          refine wp_ret ?_
          refine retS [.c (.d (.raw (.bool true)))] h Exit.ret (.inl rfl)  rfl ⟨RV.tmp _ _ rfl, trivial⟩ ?_ (by kernel_rfl) (by kernel_rfl)
          rfl
        ·have hc11 := hc; clear hc
         rw [hc11] at h
         refine rSeq fam0ok 6 [(2, .cmpb .neq (m := false) (n := false) (b := false) (.inr ⟨rfl, (show (false != false) = false from by simp).symm⟩)), (6, .call (SSameLaw (goS s x act picks).1 (M := 8) (by decide) hgo) ky_6), (14, .call (SLeads s x act y (L := 3) (M := 3) (by decide) hsO hxO hyO) kn_8), (19, .call (SRLeads s x act y (L := 3) (M := 3) (by decide) hsO hxO hyO) ks_5), (20, .cmpb .neq (m := (leads s x act y)) (n := (leads s x act y)) (b := false) (.inr ⟨rfl, (show (leads s x act y != leads s x act y) = false from by simp).symm⟩))] [(3, vi .i64 act), (5, vp 0 0), (6, vp 1 0), (7, vp 2 0), (96, vb false)] [(0, .box (sysC s)), (1, .box [.d (.sl 1 (x.locs.map intD)), .d (.sl 2 (x.vals.map ziD))]), (2, .box [.d (.sl 1 (y.locs.map intD)), .d (.sl 2 (y.vals.map ziD))])] (by kernel_rfl) h ?_; clear h; intro a w h
         refine condS false h rfl (fun hc => ?_) (fun hc => ?_)
         ·cases hc
         ·clear hc
          refine wp_skip ?_
          refine then_n ?_
          refine rSeq fam0ok 6 [(2, .call (SFits s x (L := 3) (M := 3) (by decide) hsO hxO) kg_9), (5, .call (SRFits s x (L := 3) (M := 3) (by decide) hsO hxO) kh_6), (6, .cmpb .eql (m := (fits s x)) (n := (fits s x)) (b := true) (.inl ⟨rfl, (show (fits s x == fits s x) = true from by simp).symm⟩)), (10, .call (SFirst s x (L := 3) (M := 3) (by decide) hsO hxO) kn_6), (13, .call (SRFirst s x (L := 3) (M := 3) (by decide) hsO hxO) ks_3), (14, .cmpb .eql (m := (first s x)) (n := (first s x)) (b := true) (.inl ⟨rfl, (show (first s x == first s x) = true from by simp).symm⟩)), (20, .call (SCan s x act (L := 3) (M := 3) (by decide) hsO hxO) kk_12), (24, .call (SRCan s x act (L := 3) (M := 3) (by decide) hsO hxO) kq_14), (25, .cmpb .eql (m := (can s x act)) (n := (can s x act)) (b := true) (.inl ⟨rfl, (show (can s x act == can s x act) = true from by simp).symm⟩)), (30, .call (SStuck s x (L := 3) (M := 3) (by decide) hsO hxO) kl_0), (33, .call (SRStuck s x (L := 3) (M := 3) (by decide) hsO hxO) kr_7), (34, .cmpb .eql (m := (stuck s x)) (n := (stuck s x)) (b := true) (.inl ⟨rfl, (show (stuck s x == stuck s x) = true from by simp).symm⟩)), (39, .call (SSame x y (M := 3) (by decide) hxO hyO) km_1), (42, .call (SRSame18 x y (M := 3) (by decide) hxO hyO) kr_9), (43, .cmpb .eql (m := (sameS x y)) (n := (sameS x y)) (b := true) (.inl ⟨rfl, (show (sameS x y == sameS x y) = true from by simp).symm⟩))] [(10, vb true)] [] (by kernel_rfl) h ?_; clear h; intro a w h
          refine wp_ret ?_
          refine retS [.c (.d (.raw (.bool true)))] h Exit.ret (.inl rfl)  rfl ⟨RV.tmp _ _ rfl, trivial⟩ ?_ (by kernel_rfl) (by kernel_rfl)
          rfl
    ·have hc12 := hc; clear hc
     refine rSeq fam0ok 6 [(1, .call (Fn.cast (SFewSys s 3 hs) (congrArg vb hc1)) ky_1), (5, .call (Fn.cast (SFewSt x 3 hx) (congrArg vb hc2)) ky_2), (10, .call (Fn.cast (SFewSt y 3 hy) (congrArg vb hc12)) ky_2)] [(3, vi .i64 act), (4, .t (.c (.d (.sl 2 (picks.map ziD))))), (5, vp 0 0), (6, vp 1 0), (7, vp 2 0), (10, vb false), (36, vb true)] [(0, .box (sysC s)), (1, .box [.d (.sl 1 (x.locs.map intD)), .d (.sl 2 (x.vals.map ziD))]), (2, .box [.d (.sl 1 (y.locs.map intD)), .d (.sl 2 (y.vals.map ziD))])] (by kernel_rfl) h ?_; clear h; intro a w h
     refine condS true h rfl (fun hc => ?_) (fun hc => ?_)
     ·clear hc
      refine rSeq fam0ok 6 [] [(3, vi .i64 act), (4, .t (.c (.d (.sl 2 (picks.map ziD))))), (5, vp 0 0), (6, vp 1 0), (7, vp 2 0), (10, vb true)] [(0, .box (sysC s)), (1, .box [.d (.sl 1 (x.locs.map intD)), .d (.sl 2 (x.vals.map ziD))]), (2, .box [.d (.sl 1 (y.locs.map intD)), .d (.sl 2 (y.vals.map ziD))])] (by kernel_rfl) h ?_; clear h; intro a w h
      refine wp_ret ?_
      refine then_r ?_
      refine retS [.c (.d (.raw (.bool true)))] h Exit.ret (.inl rfl)  rfl ⟨RV.tmp _ _ rfl, trivial⟩ ?_ (by kernel_rfl) (by kernel_rfl)
      rfl
     ·cases hc
   ·have hc13 := hc; clear hc
    refine rSeq fam0ok 6 [(1, .call (Fn.cast (SFewSys s 3 hs) (congrArg vb hc1)) ky_1), (5, .call (Fn.cast (SFewSt x 3 hx) (congrArg vb hc13)) ky_2)] [(3, vi .i64 act), (4, .t (.c (.d (.sl 2 (picks.map ziD))))), (5, vp 0 0), (6, vp 1 0), (7, vp 2 0), (10, vb false), (36, vb true)] [(0, .box (sysC s)), (1, .box [.d (.sl 1 (x.locs.map intD)), .d (.sl 2 (x.vals.map ziD))]), (2, .box [.d (.sl 1 (y.locs.map intD)), .d (.sl 2 (y.vals.map ziD))])] (by kernel_rfl) h ?_; clear h; intro a w h
    refine condS true h rfl (fun hc => ?_) (fun hc => ?_)
    ·clear hc
     refine rSeq fam0ok 6 [] [(3, vi .i64 act), (4, .t (.c (.d (.sl 2 (picks.map ziD))))), (5, vp 0 0), (6, vp 1 0), (7, vp 2 0), (10, vb true)] [(0, .box (sysC s)), (1, .box [.d (.sl 1 (x.locs.map intD)), .d (.sl 2 (x.vals.map ziD))]), (2, .box [.d (.sl 1 (y.locs.map intD)), .d (.sl 2 (y.vals.map ziD))])] (by kernel_rfl) h ?_; clear h; intro a w h
     refine wp_ret ?_
     refine then_r ?_
     refine retS [.c (.d (.raw (.bool true)))] h Exit.ret (.inl rfl)  rfl ⟨RV.tmp _ _ rfl, trivial⟩ ?_ (by kernel_rfl) (by kernel_rfl)
     rfl
    ·cases hc
  ·have hc14 := hc; clear hc
   refine rSeq fam0ok 6 [(1, .call (Fn.cast (SFewSys s 3 hs) (congrArg vb hc14)) ky_1)] [(3, vi .i64 act), (4, .t (.c (.d (.sl 2 (picks.map ziD))))), (5, vp 0 0), (6, vp 1 0), (7, vp 2 0), (10, vb false), (36, vb true)] [(0, .box (sysC s)), (1, .box [.d (.sl 1 (x.locs.map intD)), .d (.sl 2 (x.vals.map ziD))]), (2, .box [.d (.sl 1 (y.locs.map intD)), .d (.sl 2 (y.vals.map ziD))])] (by kernel_rfl) h ?_; clear h; intro a w h
   refine condS true h rfl (fun hc => ?_) (fun hc => ?_)
   ·clear hc
    refine rSeq fam0ok 6 [] [(3, vi .i64 act), (4, .t (.c (.d (.sl 2 (picks.map ziD))))), (5, vp 0 0), (6, vp 1 0), (7, vp 2 0), (10, vb true)] [(0, .box (sysC s)), (1, .box [.d (.sl 1 (x.locs.map intD)), .d (.sl 2 (x.vals.map ziD))]), (2, .box [.d (.sl 1 (y.locs.map intD)), .d (.sl 2 (y.vals.map ziD))])] (by kernel_rfl) h ?_; clear h; intro a w h
    refine wp_ret ?_
    refine then_r ?_
    refine retS [.c (.d (.raw (.bool true)))] h Exit.ret (.inl rfl)  rfl ⟨RV.tmp _ _ rfl, trivial⟩ ?_ (by kernel_rfl) (by kernel_rfl)
    rfl
   ·cases hc
end Go.Proofs.YtmohlifepfjmdaaGreat.S
end
section
namespace Go.Proofs.YtmohlifepfjmdaaGreat.S
open Go.RowKit

section
variable {w : World} {n : Nat}
theorem rep_raw {t e : TypeId} (hu : Tryz.prog.underlying t = some (.slice e)) : RepN w n t rawD (fun _ => True) := fun H enc base spare held fuel cs x hn hx => by
 rcases DataW.trod_slice hu hx with ⟨rfl, _⟩ | ⟨a, len, cap, elems, rest, m, rfl, rfl, _⟩
 ·exact ⟨.raw _, trivial, DR.raw _ rfl, trivial⟩
 ·exact ⟨.raw _, trivial, DR.raw _ rfl, trivial⟩
theorem rep_ZIl : RepN w n 41 (slD 2 ziD) (fun xs => xs.length ≤ maxLen ∧ ∀ x ∈ xs, Lb x.abs) :=
 rep_slice (k := 2) Tryz.underlying41 (by kernel_rfl) (by decide) (fun _ => rfl) rep_ZI
theorem rep_strs : RepN w n 22 (slD 1 strD) (fun xs => xs.length ≤ maxLen ∧ ∀ x ∈ xs, x.size ≤ maxLen) :=
 rep_slice (k := 1) Tryz.underlying22 (by kernel_rfl) (by decide) (fun _ => rfl) (rep_str Tryz.underlying9)
theorem rep_Rel : RepN w n 32 RelD.d (fun r => TLb r.t) :=
 ((rep_struct (n := n) Tryz.underlying32 (by kernel_rfl) (.cons (k0 := 3) rfl (by kernel_rfl) rep_Term (.cons (k0 := 1) rfl (by kernel_rfl) (rep_bool Tryz.underlying4) .nil))).map (fun p => ⟨p.1, p.2.1⟩) (fun _ => rfl) fun _ h => h.1).mono (Nat.le_succ n)
theorem rep_Form : ∀ {n : Nat}, RepN w n 35 FormD.d FormD.lb
 | 0 => RepN.zero
 | n + 1 => (rep_struct (n := n) Tryz.underlying35 (by kernel_rfl) (.cons (k0 := 1) rfl (by kernel_rfl) (rep_i64 Tryz.underlying3) (.cons (k0 := 4) rfl (by kernel_rfl) rep_Rel (.cons (k0 := 1) rfl (by kernel_rfl) (rep_slice (k := 6) Tryz.underlying33 (by kernel_rfl) (by decide) FormD.d_len rep_Form) .nil)))).map (fun p => ⟨p.1, p.2.1, p.2.2.1⟩) (fun _ => (FormD.d_eq _).trans rfl) fun _ h => (FormD.lb_eq _).2 ⟨⟨h.2.1, Nat.le_trans h.2.2.1.1 (by decide)⟩, h.2.2.1.2⟩
theorem rep_Bound : RepN w n 76 BoundD.d (fun b => Lb b.lo.abs ∧ Lb b.hi.abs) :=
 ((rep_struct (n := n) Tryz.underlying76 (by kernel_rfl) (.cons (k0 := 1) rfl (by kernel_rfl) (rep_bool Tryz.underlying4) (.cons (k0 := 2) rfl (by kernel_rfl) rep_ZI (.cons (k0 := 2) rfl (by kernel_rfl) rep_ZI .nil)))).map (fun p => ⟨p.1, p.2.1, p.2.2.1⟩) (fun _ => rfl) fun _ h => ⟨h.2.1, h.2.2.1⟩).mono (Nat.le_succ n)
theorem rep_Move : RepN w n 81 MoveD.d (fun m => TLb m.t) :=
 ((rep_struct (n := n) Tryz.underlying81 (by kernel_rfl) (.cons (k0 := 1) rfl (by kernel_rfl) (rep_i64 Tryz.underlying3) (.cons (k0 := 1) rfl (by kernel_rfl) (rep_bool Tryz.underlying4) (.cons (k0 := 3) rfl (by kernel_rfl) rep_Term .nil)))).map (fun p => ⟨p.1, p.2.1, p.2.2.1⟩) (fun _ => rfl) fun _ h => h.2.2.1).mono (Nat.le_succ n)
theorem rep_Moves : RepN w n 77 (slD 5 MoveD.d) (fun xs => xs.length ≤ maxLen ∧ ∀ x ∈ xs, TLb x.t) :=
 rep_slice (k := 5) Tryz.underlying77 (by kernel_rfl) (by decide) (fun _ => rfl) rep_Move
theorem rep_Bounds : RepN w n 23 (slD 5 BoundD.d) (fun xs => xs.length ≤ maxLen ∧ ∀ x ∈ xs, Lb x.lo.abs ∧ Lb x.hi.abs) :=
 rep_slice (k := 5) Tryz.underlying23 (by kernel_rfl) (by decide) (fun _ => rfl) rep_Bound
theorem rep_Act : RepN w n 79 ActD.d (fun c => c.guard.lb ∧ c.moves.length ≤ maxLen ∧ ∀ m ∈ c.moves, TLb m.t) :=
 ((rep_struct (n := n) Tryz.underlying79 (by kernel_rfl) (.cons (k0 := 1) rfl (by kernel_rfl) (rep_i64 Tryz.underlying3) (.cons (k0 := 1) rfl (by kernel_rfl) (rep_i64 Tryz.underlying3) (.cons (k0 := 1) rfl (by kernel_rfl) (rep_i64 Tryz.underlying3) (.cons (k0 := 6) rfl (by kernel_rfl) rep_Form (.cons (k0 := 1) rfl (by kernel_rfl) rep_Moves .nil)))))).map (fun p => ⟨p.1, p.2.1, p.2.2.1, p.2.2.2.1, p.2.2.2.2.1⟩) (fun _ => by rw [FormD.d_eq]; rfl) fun _ h => ⟨h.2.2.2.1, h.2.2.2.2.1⟩).mono (Nat.le_succ n)
theorem rep_Proc : RepN w n 96 ProcD.d (fun _ => True) :=
 ((rep_struct (n := n) Tryz.underlying96 (by kernel_rfl) (.cons (k0 := 1) rfl (by kernel_rfl) (rep_str Tryz.underlying9) (.cons (k0 := 1) rfl (by kernel_rfl) rep_strs (.cons (k0 := 1) rfl (by kernel_rfl) (rep_raw Tryz.underlying94) .nil)))).map (fun p => ⟨p.1, p.2.1, p.2.2.1⟩) (fun _ => rfl) fun _ _ => trivial).mono (Nat.le_succ n)
theorem rep_Procs : RepN w n 36 (slD 3 ProcD.d) (fun xs => xs.length ≤ maxLen ∧ ∀ x ∈ xs, True) :=
 rep_slice (k := 3) Tryz.underlying36 (by kernel_rfl) (by decide) (fun _ => rfl) rep_Proc
theorem rep_Acts : RepN w n 37 (slD 10 ActD.d) (fun xs => xs.length ≤ maxLen ∧ ∀ x ∈ xs, x.guard.lb ∧ x.moves.length ≤ maxLen ∧ ∀ m ∈ x.moves, TLb m.t) :=
 rep_slice (k := 10) Tryz.underlying37 (by kernel_rfl) (by decide) (fun _ => rfl) rep_Act
theorem rep_Sys : RepN w n 39 SysD.d SysRd :=
 ((rep_struct (n := n) Tryz.underlying39 (by kernel_rfl) (.cons (k0 := 1) rfl (by kernel_rfl) rep_strs (.cons (k0 := 1) rfl (by kernel_rfl) rep_Bounds (.cons (k0 := 6) rfl (by kernel_rfl) rep_Form (.cons (k0 := 1) rfl (by kernel_rfl) rep_Procs (.cons (k0 := 1) rfl (by kernel_rfl) rep_Acts .nil)))))).map (fun p => ⟨p.1, p.2.1, p.2.2.1, p.2.2.2.1, p.2.2.2.2.1⟩) (fun _ => by rw [FormD.d_eq]; rfl) fun _ h => ⟨h.2.2.1, h.2.1.2, fun c hc => ⟨(h.2.2.2.2.1.2 c hc).1, (h.2.2.2.2.1.2 c hc).2.2⟩, ⟨Nat.le_trans h.2.1.1 (by decide), Nat.le_trans h.2.2.2.2.1.1 (by decide)⟩, fun c hc => Nat.le_trans (h.2.2.2.2.1.2 c hc).2.1 (by decide)⟩).mono (Nat.le_succ n)
theorem rep_State : RepN w n 43 StD.d StRd :=
 ((rep_struct (n := n) Tryz.underlying43 (by kernel_rfl) (.cons (k0 := 1) rfl (by kernel_rfl) rep_ints (.cons (k0 := 1) rfl (by kernel_rfl) rep_ZIl .nil))).map (fun p => ⟨p.1, p.2.1⟩) (fun _ => rfl) fun _ h => ⟨h.2.1.2, Nat.le_trans h.2.1.1 (by decide)⟩).mono (Nat.le_succ n)
end
theorem SKripkeStepsW (s : SysD) (x y : StD) (act : Int) (picks : List ZI) (hs : SysRd s) (hx : StRd x) (hy : StRd y) (hp : picks.length ≤ maxLen ∧ ∀ z ∈ picks, Lb z.abs) : Fn Tryz.prog 3 [] [vd (SysD.d s), vd (StD.d x), vd (StD.d y), vi .i64 act, .t (.c (.d (.sl 2 (picks.map ziD))))] (vb true) [] :=
 SKripkeSteps s x y act picks hs hx hy hp.2 (Nat.le_trans hp.1 (by decide))
end Go.Proofs.YtmohlifepfjmdaaGreat.S
end
section
namespace Go.Proofs.YtmohlifepfjmdaaGreat.kripkeStepsDone
open Go.ChangeShapes Go.WideShapes Go.ChangeAt Go.RowKit
open Go.ChangeMaps (open_string shut_string)
open Go.Proofs.YtmohlifepfjmdaaGreat.S

theorem own : ownKnob Tryz.prog.godebug = none := by kernel_rfl
theorem laidOut : laidOutB Tryz.prog = true := by kernel_rfl

theorem lifted (os : Os) (started : os.Started) (H : Type) (enc : TypeId × Value → H) :
  ReturnsInHanded {} Tryz.checked os 3 .any (Rows.kripkeStepsSpec.pre6 enc Tryz.prog Tryz.f3 Rows.kripkeStepsRow.domain false) (Rows.kripkeStepsSpec.post enc Tryz.prog Tryz.f3 false true false false) := by
 refine returnsInHanded_of_change (C := Tryz.checked) own started (by kernel_rfl) Tryz.func3
  (ChangeSpec.witness6 (enc := enc) (C := Tryz.checked) false ⟨#[], #[.agg #[.slice none 0 0, .slice none 0 0, .int .i64 0, .slice none 0 0, .bool false, .slice none 0 0, .bool false, .slice none 0 0, .slice none 0 0, .slice none 0 0], .agg #[.slice none 0 0, .slice none 0 0], .agg #[.slice none 0 0, .slice none 0 0], .int .i64 0, .slice none 0 0], []⟩ 12 (by kernel_rfl) (by kernel_rfl) (by kernel_rfl) (by kernel_rfl)) ?_
 intro W base args ds gs before hval0 hW hcnd _
 have hval : ∀ (j : Nat) t v, Tryz.f3.params[j]? = some t → args[j]? = some v → Value.okWide Tryz.prog W .any base t v := hval0
 have hW' := hW
 obtain ⟨p, q, hA0, hV, rfl, hfz, hnd⟩ := hW
 have hA : DataW.TrodAll enc Tryz.prog W 0 (fun _ => true) true Tryz.f3.params.toList args.toList ds p := hA0
 rw [Tryz.params3] at hA hval
 obtain ⟨v0, vs0, d0, ds0, p0, q0, hargs, rfl, rfl, h0, r0⟩ := trodAll_cons hA
 obtain ⟨v1, vs1, d1, ds1, p1, q1, rfl, rfl, rfl, h1, r1⟩ := trodAll_cons r0
 obtain ⟨v2, vs2, d2, ds2, p2, q2, rfl, rfl, rfl, h2, r2⟩ := trodAll_cons r1
 obtain ⟨v3, vs3, d3, ds3, p3, q3, rfl, rfl, rfl, h3, r3⟩ := trodAll_cons r2
 obtain ⟨v4, vs4, d4, ds4, p4, q4, rfl, rfl, rfl, h4, r4⟩ := trodAll_cons r3
 obtain ⟨rfl, rfl, rfl⟩ := trodAll_nil r4
 obtain rfl : args = #[v0, v1, v2, v3, v4] := by cases args; simp_all
 obtain ⟨rfl, rfl⟩ := trodVars_none hV
 have k0 := h0
 have lt0 : ∀ x ∈ p0, x.block < W.heap.size := by obtain ⟨m, hm⟩ := k0; exact DataW.trod_lt m _ _ _ hm
 obtain ⟨a0, cs0, g0, rfl, dr0⟩ := rep_agg Tryz.underlying39 (fun _ => rep_Sys) (hval 0 39 v0 rfl rfl) h0
 have k1 := h1
 have lt1 : ∀ x ∈ p1, x.block < W.heap.size := by obtain ⟨m, hm⟩ := k1; exact DataW.trod_lt m _ _ _ hm
 obtain ⟨a1, cs1, g1, rfl, dr1⟩ := rep_agg Tryz.underlying43 (fun _ => rep_State) (hval 1 43 v1 rfl rfl) h1
 have k2 := h2
 have lt2 : ∀ x ∈ p2, x.block < W.heap.size := by obtain ⟨m, hm⟩ := k2; exact DataW.trod_lt m _ _ _ hm
 obtain ⟨a2, cs2, g2, rfl, dr2⟩ := rep_agg Tryz.underlying43 (fun _ => rep_State) (hval 2 43 v2 rfl rfl) h2
 obtain ⟨a3, rfl, rfl, rfl, g30⟩ := open_int Tryz.underlying3 (hval 3 3 v3 rfl rfl) h3
 have g3 : -9223372036854775808 ≤ a3 ∧ a3 ≤ 9223372036854775807 := by have := bounds_i64 g30; omega
 have k4 := h4
 have lt4 : ∀ x ∈ p4, x.block < W.heap.size := by obtain ⟨m, hm⟩ := k4; exact DataW.trod_lt m _ _ _ hm
 obtain ⟨a4, ao4, len4, cap4, g4, rfl, dr4⟩ := rep_one Tryz.underlying41 (fun _ => rep_ZIl) (hval 4 41 v4 rfl rfl) h4
 clear hA0 hval0
 refine ((SKripkeStepsW a0 a1 a2 a3 a4 g0 g1 g2 g4).calls (w := W) (vals := [.agg ⟨cs0⟩, .agg ⟨cs1⟩, .agg ⟨cs2⟩, .int .i64 a3, .slice ao4 len4 cap4]) fun B => ⟨dr_vd dr0 B, dr_vd dr1 B, dr_vd dr2 B, DR.raw _ rfl, dr4, trivial⟩).mono fun e W' ⟨he, bel⟩ => ?_
 subst he
 exact ⟨_, rfl, _, _, _, [], _, [], hW', trodAll_mk1 (shut_bool Tryz.underlying4 _), (trodAll_cons_mk (Below.trod laidOut (by kernel_rfl) (of_decide_eq_true (by kernel_rfl)) k0 bel lt0) (trodAll_cons_mk (Below.trod laidOut (by kernel_rfl) (of_decide_eq_true (by kernel_rfl)) k1 bel lt1) (trodAll_cons_mk (Below.trod laidOut (by kernel_rfl) (of_decide_eq_true (by kernel_rfl)) k2 bel lt2) (trodAll_cons_mk (shut_int Tryz.underlying3 g30) (trodAll_cons_mk (Below.trod laidOut (by kernel_rfl) (of_decide_eq_true (by kernel_rfl)) k4 bel lt4) trodAll_mk0))))), rfl, bel.below.frame _, fun h => by cases h⟩

theorem over : Rows.kripkeStepsRow.holds Tryz.pinned (OpenSpec.ofChange Rows.kripkeStepsSpec) :=
 OpenClaim.holds_of_wide 3 Tryz.f3 rfl rfl rfl rfl rfl rfl rfl ⟨rfl, rfl, rfl, rfl, rfl⟩ rfl rfl rfl rfl rfl (by kernel_rfl) Tryz.func3 (by kernel_rfl)
  (of_decide_eq_true (by kernel_rfl)) (by unfold Func.isWrapper; first | (rw [if_pos (by decide +kernel)]; kernel_rfl) | (rw [if_neg (by decide +kernel)]; exact ⟨rfl, rfl⟩))
  (fun os started H enc _ => lifted os started H enc)

theorem proved : Rows.KripkeStepsSaid := over
end Go.Proofs.YtmohlifepfjmdaaGreat.kripkeStepsDone
end
