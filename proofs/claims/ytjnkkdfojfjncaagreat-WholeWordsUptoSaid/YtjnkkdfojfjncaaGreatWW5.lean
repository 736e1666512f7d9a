/-
  Part 5 of the proof of the statement WholeWords. It holds for every input.
-/
import Derived.Test.YtjnkkdfojfjncaaGreatWW4
import Derived.Test.YtjnkkdfojfjncaaGreatWW2
import Derived.Maps.RangeRun
set_option maxRecDepth 100000
set_option maxHeartbeats 20000000
open Go.RowKit
open List renaming length_map->bA,length_append->bB,append_nil->bC,mem_singleton->bE,getElem?_eq_some_iff->bG,getElem?_eq_getElem->bI,mem_of_getElem?->bJ,mem_append->bK,length_dropLast->bM,take_of_length_le->bN,length_singleton->bO,take_add_one->bP,length_take->bQ,map_append->bS,mem_map->bV,map_map->bW,getElem?_map->bX,drop_of_length_le->bY,contains_eq_mem->b7,dropLast_subset->b9,getElem_map->cC,mem_iff_getElem->cD,any_eq_true->cE,getElem?_modify->cF,getElem?_set_self->cG,mem_cons->cH,all_eq_true->cK,getElem_mem->cL,getElem?_zipIdx->cM,length_filterMap_le->cN,append_assoc->cO,pairwise_iff_getElem->cP,filter_cons->cQ,mem_cons_self->cR,dropLast_eq_take->cU,length_eq_zero_iff->cV,filter_append->cW,length_filter_le->cX,foldl_append->cY,foldl_cons->cZ,mem_zipIdx_iff_getElem?->c8,getElem?_append_right->dA,mem_iff_getElem?->dB,filter_cons_of_pos->dC,filter_cons_of_neg->dD,mem_append_left->dH,contains_iff_mem->dI
open Nat renaming zero_le->bF,le_trans->bL,le_refl->bZ,zero_add->cJ,mul_add_mod_of_lt->dG
open Bool renaming eq_false_or_eq_true->bH,true_and->bR,and_eq_true->b8
open Int renaming toNat_natCast->bT,toNat_of_nonneg->c7,eq_ofNat_of_zero_le->dE
open Option renaming map_some->bU,toList_some->cA,map_eq_map->cT
open Go.Proofs.Tryz renaming prog->dJ
open Go.Proofs.YtjnkkdfojfjncaaGreat.S.OV renaming tmp->dL
open Go.Proofs.YtjnkkdfojfjncaaGreat.S.Op renaming nilQ->dM
open Go.Proofs.YtjnkkdfojfjncaaGreat.S.PF renaming l->dN
open Go.Proofs.YtjnkkdfojfjncaaGreat.S.TkD renaming d->dO
open Go.Proofs.YtjnkkdfojfjncaaGreat.S.za2 renaming d->dP,kind->dQ
open Go.Proofs.YtjnkkdfojfjncaaGreat.S.za4 renaming d->dR
namespace Go.Proofs.YtjnkkdfojfjncaaGreat
namespace S
variable {i j m B n t cl:Nat} {p:zas} {α:Type} {x:TkD} {al:List PF} {k:Int} {next ks:List Int} {f:PF} {wd:zaf} {a:Act} {w:World} {arr:List MapEntry} {ty mt kt et:TypeId} {seen:List Nat} {s:SpD} {out todo R:List SpD}
theorem vb6_0:SlT dJ 63 113 3:=SlT.mk' Tryz.underlying63 (by kernel_rfl)
theorem vb6_1:Sz dJ 113 3 true:=Sz.mk' (by kernel_rfl) Tryz.underlying113 _ rfl
theorem vb6_3:Sz dJ 34 1 false:=Sz.mk' (by kernel_rfl) Tryz.underlying34 _ rfl
theorem vb6_6:ElZ dJ 63 113 3:=ElZ.mk' Tryz.underlying63 _ _ rfl rfl
theorem vb6_7:ElT dJ 63 113 3 72:=ElT.mk' Tryz.underlying63 _ _ rfl rfl
def zas.d (x:zas):List D:=[.sl 1 (x.seen.map za3),.sl 1 (x.next.map za3),.sl 1 (x.frm.map za3)]
def plR (p:zas):List D × List (List D):=([.sl 1 (p.seen.map za3),.sl 1 (p.next.map za3)],p.frm.map za3)
def plN (ps:List zas):zgq:=ps.map plR
theorem zfb {ps:List zas} (h:ps[i]?=some p):(plN ps)[i]?=some (plR p):=by unfold plN;rw [bX,h];rfl
theorem plN_len (ps:List zas):(plN ps).length=ps.length:=bA _
theorem plN_app (ps:List zas) (p:zas):plN ps++[plR p]=plN (ps++[p]):=by unfold plN;rw [bS];rfl
theorem plN_set (ps:List zas) (i:Nat) (p:zas):(plN ps).set i (plR p)=plN (ps.set i p):=by unfold plN;rw [List.map_set]
def finI (ps:List zas) (x:TkD):Nat:=if zbf (zdd x) ps 0<0 then ps.length else (zbf (zdd x) ps 0).toNat
theorem zga {xs:List α} {x:α} (h:xs[i]?=some x) (f:α->α):xs.modify i f=xs.set i (f x):=by
 refine List.ext_getElem? fun j=>?_
 rw [cF]
 by_cases e:i=j
 ·subst e;rw [cG (bG.1 h).1,h];simp
 ·rw [List.getElem?_set_ne e];simp [e]
theorem fin_at {ps:List zas} (h:ps[j]?=some p) (hi:zbf (zdd x) ps 0=(j:Int)):finT ps x=some (ps.set j ⟨p.seen,p.next,p.frm++[x.frm]⟩,[]):=by
 unfold finT;rw [if_neg (by omega),hi,bT,zga h]
theorem fin_no {ps:List zas} (hi:zbf (zdd x) ps 0<0) (h:ps.length=4096):finT ps x=none:=by unfold finT;rw [if_pos hi,if_pos h]
theorem fin_new {ps:List zas} (hi:zbf (zdd x) ps 0<0) (h:ps.length≠4096):finT ps x=some (ps++[⟨x.seen,x.next,[x.frm]⟩],[⟨x.next,[],[],(ps.length:Int)⟩]):=by unfold finT;rw [if_pos hi,if_neg h]
theorem finI_at {ps:List zas} (hi:zbf (zdd x) ps 0=(j:Int)):finI ps x=j:=by unfold finI;rw [if_neg (by omega),hi,bT]
theorem finI_new {ps:List zas} (hi:zbf (zdd x) ps 0<0):finI ps x=ps.length:=by unfold finI;rw [if_pos hi]
theorem SLayF (m:Nat) (al:List PF) (kids:List (Int × Int)) (x:TkD) (ts:List TkD) (hl:ts.length<=1000000):Fn dJ 26 [(0,.box [.d (.sl 3 ((al.map dN).map dP)),.d (.sl 2 (kids.map prI)),.own 52 m,.own 9 ts.length]),(9,.row 71 4 (ts.map dO))] [vp 0 0,vG [cIs x.look,cIs x.seen,cIs x.next,cI x.frm]] (.tup []) [(0,.box [.d (.sl 3 ((al.map dN).map dP)),.d (.sl 2 (kids.map prI)),.own 52 m,.own 18 (ts++[x]).length]),(18,.row 71 4 ((ts++[x]).map dO))]:=by
 refine Fn.renP (args':=[vp 0 0,vG [cIs x.look,cIs x.seen,cIs x.next,cI x.frm]]) 8 9 (show Fn dJ 26 [(0,.box [.d (.sl 3 ((al.map dN).map dP)),.d (.sl 2 (kids.map prI)),.own 52 m,.own 8 ts.length]),(8,.row 71 4 (ts.map dO))] [vp 0 0,vG [cIs x.look,cIs x.seen,cIs x.next,cI x.frm]] (.tup []) [(0,.box [.d (.sl 3 ((al.map dN).map dP)),.d (.sl 2 (kids.map prI)),.own 52 m,.own 18 (ts++[x]).length]),(18,.row 71 4 ((ts++[x]).map dO))] from Fn.idle (j:=2) (x:=.own 52 m) (fun v2 _=>SLayD v2 al kids x ts hl) rfl rfl rfl) (by decide) rfl rfl ?_ ?_ <;> kernel_rfl
def finQ (al:List PF) (kids:List (Int × Int)) (ts:List TkD) (ps:List zas) (x:TkD):List (Nat × L):=match finT ps x with
  | some r=>nsL 113 3 3 1 52 (nmP (finI ps x) 50) (plN r.1) [(0,.box ([.d (.sl 3 ((al.map dN).map dP)),.d (.sl 2 (kids.map prI)),.own 52 r.1.length,.own 18 (ts++r.2).length])),(18,.row 71 4 ((ts++r.2).map dO))]
  | none=>[(0,.box [.d (.sl 3 ((al.map dN).map dP)),.d (.sl 2 (kids.map prI)),.any,.any])]
theorem SFinished (al:List PF) (kids:List (Int × Int)) (ts:List TkD) (ps:List zas) (x:TkD) (hlp:ps.length<=4096) (hts:ts.length<=999990) (hfr:∀ p ∈ ps,p.frm.length<=999990/\p.seen.length<=1000000/\p.next.length<=1000000) (hxs:x.seen.length<=1000000) (hxn:x.next.length<=1000000):Fn dJ 62 (nsL 113 3 3 1 999 nm0 (plN ps) [(0,.box [.d (.sl 3 ((al.map dN).map dP)),.d (.sl 2 (kids.map prI)),.own 999 ps.length,.own 9 ts.length]),(9,.row 71 4 (ts.map dO))]) [vp 0 0,vG [cIs x.look,cIs x.seen,cIs x.next,cI x.frm]] (vb (finT ps x).isSome) (finQ al kids ts ps x):=by
 refine Fn.bodyN Tryz.func62 rfl 83 rfl fun w H B a h=>?_
 have hK9:∀ n_,lo9 n_=true->n_ ∈ (nsL 113 3 3 1 999 nm0 (plN ps) [(0,.box [.d (.sl 3 ((al.map dN).map dP)),.d (.sl 2 (kids.map prI)),.own 999 ps.length,.own 9 ts.length]),(9,.row 71 4 (ts.map dO))]).map (·.1)->n_ ∈ [0,9]:=fun _ h1_ h2_=>nsL_low h1_ h2_
 refine zb8 zak (zap _) 70 [] [70] [(0,vp 0 0),(3,vp 70 0),(4,vb false)] [(0,.box [.d (.sl 3 ((al.map dN).map dP)),.d (.sl 2 (kids.map prI)),.own 999 ps.length,.own 9 ts.length]),(9,.row 71 4 (ts.map dO)),(70,.box [cIs x.look,cIs x.seen,cIs x.next,cI x.frm])] (by kernel_rfl) (zdf [0,9] hK9 (by kernel_rfl)) h fun a w h=>qW (zb8 zak (zap _) 71 [(1,.g (dM (d:=8) (t:=7) (n:=0) (o:=0)))] [] [(0,vp 0 0),(3,vp 70 0),(4,vb false),(10,vO 999 ps.length),(11,vN ps.length),(12,vI 0)] [(0,.box [.d (.sl 3 ((al.map dN).map dP)),.d (.sl 2 (kids.map prI)),.own 999 ps.length,.own 9 ts.length]),(9,.row 71 4 (ts.map dO)),(70,.box [cIs x.look,cIs x.seen,cIs x.next,cI x.frm])] (by kernel_rfl) (fun n_ h_=>by cases h_) h fun a w h=>qZ ?_)
 refine loopST (ι:=(Nat)) (fun j=>j<=ps.length/\zbf (zdd x) ps 0=zbf (zdd x) (ps.drop j) j)
   (fun j=>[(0,vp 0 0),(3,vp 70 0),(10,vO 999 ps.length),(11,vN ps.length),(12,vN j)])
   (fun j=>[(0,.box [.d (.sl 3 ((al.map dN).map dP)),.d (.sl 2 (kids.map prI)),.own 999 ps.length,.own 9 ts.length]),(9,.row 71 4 (ts.map dO)),(70,.box [cIs x.look,cIs x.seen,cIs x.next,cI x.frm])])
   (fun j=>nsT 113 3 3 1 (plN ps))
   (fun j=>ps.length - j) 0 ?_ (zap _) h (by kernel_rfl) (by kernel_rfl) (by kernel_rfl) ?_
 ·exact ⟨bF _,rfl⟩
 clear h;rintro j a w hI h
 skip
 obtain ⟨hI1,hI2⟩:=hI
 refine zb8 zak (zap _) 71 [] [] [(0,vp 0 0),(3,vp 70 0),(10,vO 999 ps.length),(11,vN ps.length),(12,vN j),(13,vb (decide ((j:Int)<(ps.length:Int))))] [(0,.box [.d (.sl 3 ((al.map dN).map dP)),.d (.sl 2 (kids.map prI)),.own 999 ps.length,.own 9 ts.length]),(9,.row 71 4 (ts.map dO)),(70,.box [cIs x.look,cIs x.seen,cIs x.next,cI x.frm])] (by kernel_rfl) (fun n_ h_=>by cases h_) h fun a w h=>qW (ze6 (decide ((j:Int)<(ps.length:Int))) h rfl (fun hc1=>?_) (fun hc6=>?_))
 ·have hc1':=dT hc1
  refine qU (za1 (qW (qZ ?_)))
  obtain ⟨x1,hx1⟩:=gl ps j
  have hfx1:=hfr x1 (lM hx1)
  refine zb8 zak (zap _) 71 [(1,.g (xO 15 10 999 ps.length j vb6_0 (dL 12 _))),(2,.g (Op.loadC_agg (d:=16) (t:=15) (n:=999) (i:=j) (es:=3) (rty:=113) (rows:=(nsH nm0 (plN ps))) (xs:=[cIs x1.seen,cIs x1.next,.any]) vb6_1 rfl (zfd (nm:=nm0) (zfb hx1)) rfl three_any))] [71] [(0,vp 0 0),(3,vp 70 0),(5,vN j),(6,vp 71 0),(10,vO 999 ps.length),(11,vN ps.length),(12,vN j)] [(0,.box [.d (.sl 3 ((al.map dN).map dP)),.d (.sl 2 (kids.map prI)),.own 999 ps.length,.own 9 ts.length]),(9,.row 71 4 (ts.map dO)),(70,.box [cIs x.look,cIs x.seen,cIs x.next,cI x.frm]),(71,.box [cIs x1.seen,cIs x1.next,.any])] (by kernel_rfl) (zdf [0,9] hK9 (by kernel_rfl)) h fun a w h=>?_
  rcases bH (decide (x1.seen=x.seen)) with hc2 | hc5
  ·have hc2':=dT hc2
   refine zb8 zak (zap _) 72 [(4,.call (Fn.cast (SEqualS x1.seen x.seen (hfr x1 (lM hx1)).2.1 hxs) (congrArg vb hc2))),(10,.call (SEqualS x1.next x.next (hfr x1 (lM hx1)).2.2 hxn))] [] [(0,vp 0 0),(3,vp 70 0),(5,vN j),(10,vO 999 ps.length),(11,vN ps.length),(12,vN j),(28,vb (decide (x1.next=x.next)))] [(0,.box [.d (.sl 3 ((al.map dN).map dP)),.d (.sl 2 (kids.map prI)),.own 999 ps.length,.own 9 ts.length]),(9,.row 71 4 (ts.map dO)),(70,.box [cIs x.look,cIs x.seen,cIs x.next,cI x.frm])] (by kernel_rfl) (fun n_ h_=>by cases h_) h fun a w h=>ze6 (decide (x1.next=x.next)) h rfl (fun hc3=>?_) (fun hc4=>?_)
   ·have hc3':=dT hc3
    replace h:=ns_open j 5 (zfb hx1) rfl (fun h_=>by rcases zcc.1 h_ with h_ | h_ | ⟨j_,_,h_⟩ <;> first | (simp at h_;done) | (unfold nm0 at h_;omega)) h (by kernel_rfl) (by kernel_rfl) (by kernel_rfl)
    replace h:St _ (F.oft [(0,vp 0 0),(3,vp 70 0),(5,vN j),(10,vO 999 ps.length),(11,vN ps.length),(12,vN j),(28,vb (decide (x1.next=x.next)))] [(999,.rowc 113 3 (nsH (nmP j 5) (plN ps))),(5,.row 3 1 (x1.frm.map za3)),(0,.box [.d (.sl 3 ((al.map dN).map dP)),.d (.sl 2 (kids.map prI)),.own 999 ps.length,.own 9 ts.length]),(9,.row 71 4 (ts.map dO)),(70,.box [cIs x.look,cIs x.seen,cIs x.next,cI x.frm])] (nsN 113 3 3 1 none (nmP j 5) (plN ps))) a w:=h
    refine zb8 zak (zdl _ _) 72 [(1,.g (dM (d:=30) (t:=29) (n:=0) (o:=0))),(6,.g (dM (d:=35) (t:=34) (n:=0) (o:=0))),(10,.g (xO 39 37 999 ps.length j vb6_0 (dL 38 _))),(12,.g (Op.loadC_c (d:=41) (t:=40) (n:=999) (i:=j) (fo:=2) (es:=3) (rty:=113) (rows:=(nsH (nmP j 5) (plN ps))) (x:=.own 5 x1.frm.length) vb6_3 rfl ((zfd (nm:=(nmP j 5)) (zfb hx1)).trans (by unfold nsR plR;rw [zc3,bA])) rfl)),(15,.g (bD 44 ([x.frm].map za3) [(43,vI x.frm)] zgv (.cons (i:=0) (dL 43 _) (.nil)) (by kernel_rfl) (by simp [za3]))),(16,.g (Op.appOD (d:=45) (t:=41) (u:=44) (n:=5) (n':=50) (len:=x1.frm.length) (len':=(x1.frm++[x.frm]).length) (rows:=x1.frm.map za3) (rows2:=[x.frm].map za3) (rows':=(x1.frm++[x.frm]).map za3) tb_2 (by first | exact (bA _).symm | simp) (by first | (rw [bB,bA];done) | (simp;done) | (simp;omega)) (by simp) (by simp [za3]) (by first | omega | (simp at *;done) | (simp at *;omega)))),(17,.g (xO 46 32 999 ps.length j vb6_0 (dL 33 _))),(19,.g (Op.storeC (t:=47) (n:=999) (i:=j) (fo:=2) (es:=3) (rty:=113) (c:=.own 50 (x1.frm++[x.frm]).length) (rs:=[(45,vO 50 (x1.frm++[x.frm]).length)]) (rows:=(nsH (nmP j 5) (plN ps))) (rows':=((nsH (nmP j 5) (plN ps)).set j ((plR x1).1.map C.d++[.own 50 (x1.frm++[x.frm]).length]))) vb6_3 (dL 45 _) rfl (zfd (nm:=(nmP j 5)) (zfb hx1)) (show 2<3 by decide) rfl))] [50] [(0,vp 0 0),(3,vp 70 0),(10,vO 999 ps.length),(11,vN ps.length),(12,vN j)] [(999,.rowc 113 3 ((nsH (nmP j 5) (plN ps)).set j ((plR x1).1.map C.d++[.own 50 (x1.frm++[x.frm]).length]))),(0,.box [.d (.sl 3 ((al.map dN).map dP)),.d (.sl 2 (kids.map prI)),.own 999 ps.length,.own 9 ts.length]),(9,.row 71 4 (ts.map dO)),(70,.box [cIs x.look,cIs x.seen,cIs x.next,cI x.frm]),(50,.row 3 1 ((x1.frm++[x.frm]).map za3))] (by kernel_rfl) (zhm [0,9] hK9 zf1 (by kernel_rfl)) h fun a w h=>zb8 zak (zdl _ _) 72 [] [] [(0,vp 0 0),(3,vp 70 0),(4,vb true),(10,vO 999 ps.length),(11,vN ps.length),(12,vN j)] [(999,.rowc 113 3 ((nsH (nmP j 5) (plN ps)).set j ((plR x1).1.map C.d++[.own 50 (x1.frm++[x.frm]).length]))),(0,.box [.d (.sl 3 ((al.map dN).map dP)),.d (.sl 2 (kids.map prI)),.own 999 ps.length,.own 9 ts.length]),(9,.row 71 4 (ts.map dO)),(70,.box [cIs x.look,cIs x.seen,cIs x.next,cI x.frm]),(50,.row 3 1 ((x1.frm++[x.frm]).map za3))] (by kernel_rfl) (fun n_ h_=>by cases h_) h fun a w h=>qV (zaa (za5 (za5 (zaa (za5 ?_)))))
    have hi9:zbf (zdd x) ps 0=(j:Int):=by rw [hI2,zcj hx1,if_pos (by unfold zdd;rw [hc2,hc3];rfl)]
    have hf9:=fin_at hx1 hi9
    replace h:=atST (zdl _ _) (sl':=[(4,vb true)]) (lc':=[(999,.rowc 113 3 ((nsH (nmP j 5) (plN ps)).set j ((plR x1).1.map C.d++[.own 50 (x1.frm++[x.frm]).length]))),(50,.row 3 1 ((x1.frm++[x.frm]).map za3)),(0,.box [.d (.sl 3 ((al.map dN).map dP)),.d (.sl 2 (kids.map prI)),.own 999 ps.length,.own 9 ts.length]),(9,.row 71 4 (ts.map dO))]) h (by kernel_rfl) (by kernel_rfl) (by kernel_rfl)
    have hup:((nsH (nmP j 5) (plN ps)).set j ((plR x1).1.map C.d++[.own 50 (x1.frm++[x.frm]).length]))=nsH (nmP j 50) (plN (ps.set j (zas.mk x1.seen x1.next (x1.frm++[x.frm])))):=by rw [<- plN_set];have h9:=nsH_upd (p:=5) (q:=50) (zfb hx1) (plR (zas.mk x1.seen x1.next (x1.frm++[x.frm]))).2;rw [show (plR (zas.mk x1.seen x1.next (x1.frm++[x.frm]))).2.length=(x1.frm++[x.frm]).length from bA _] at h9;exact h9
    have hut:nsN 113 3 3 1 none (nmP j 5) (plN ps)=nsN 113 3 3 1 none (nmP j 50) (plN (ps.set j (zas.mk x1.seen x1.next (x1.frm++[x.frm])))):=by rw [<- plN_set];exact nsN_upd (zfb hx1) (by decide) (by decide) (plR (zas.mk x1.seen x1.next (x1.frm++[x.frm]))).2
    replace h:=h.conv (f':=F.oft [(4,vb true)] [(999,.rowc 113 3 (nsH (nmP j 50) (plN (ps.set j (zas.mk x1.seen x1.next (x1.frm++[x.frm])))))),(50,.row 3 1 ((x1.frm++[x.frm]).map za3)),(0,.box [.d (.sl 3 ((al.map dN).map dP)),.d (.sl 2 (kids.map prI)),.own 999 ps.length,.own 9 ts.length]),(9,.row 71 4 (ts.map dO))] (nsN 113 3 3 1 none (nmP j 50) (plN (ps.set j (zas.mk x1.seen x1.next (x1.frm++[x.frm])))))) (by rw [hup,hut]; try kernel_rfl)
    replace h:=ns_ren 9 18 rfl rfl (by decide) (by decide) (by decide) (by decide) (fun h_=>by rcases zcc.1 h_ with h_ | h_ | ⟨j_,_,h_⟩ <;> first | (simp at h_;done) | (unfold nm0 at h_;omega)) h (by kernel_rfl) [(4,vb true)] [(0,.box [.d (.sl 3 ((al.map dN).map dP)),.d (.sl 2 (kids.map prI)),.own 999 ps.length,.own 18 ts.length]),(18,.row 71 4 (ts.map dO))] (by kernel_rfl) (by kernel_rfl) (by kernel_rfl)
    replace h:=ns_head 999 52 rfl rfl (by decide) (by decide) (by decide) (fun h_=>by rcases zcc.1 h_ with h_ | h_ | ⟨j_,_,h_⟩ <;> first | (simp at h_;done) | (unfold nm0 at h_;omega)) h (by kernel_rfl) rfl [(4,vb true)] [(0,.box [.d (.sl 3 ((al.map dN).map dP)),.d (.sl 2 (kids.map prI)),.own 52 ps.length,.own 18 ts.length]),(18,.row 71 4 (ts.map dO))] (by kernel_rfl) (by kernel_rfl) (by kernel_rfl)
    have hl9:(ps.set j (zas.mk x1.seen x1.next (x1.frm++[x.frm]))).length=ps.length:=List.length_set
    have ht9:ts++[]=ts:=bC _
    replace h:=h.conv (f':=F.oft [(4,vb true)] [(52,.rowc 113 3 (nsH (nmP j 50) (plN (ps.set j (zas.mk x1.seen x1.next (x1.frm++[x.frm])))))),(50,.row 3 1 ((x1.frm++[x.frm]).map za3)),(0,.box ([.d (.sl 3 ((al.map dN).map dP)),.d (.sl 2 (kids.map prI)),.own 52 (ps.set j (zas.mk x1.seen x1.next (x1.frm++[x.frm]))).length,.own 18 (ts++[]).length])),(18,.row 71 4 ((ts++[]).map dO))] (nsN 113 3 3 1 none (nmP j 50) (plN (ps.set j (zas.mk x1.seen x1.next (x1.frm++[x.frm])))))) (by rw [hl9,ht9]; try kernel_rfl)
    have hq9:finQ al kids ts ps x=nsL 113 3 3 1 52 (nmP j 50) (plN (ps.set j (zas.mk x1.seen x1.next (x1.frm++[x.frm])))) [(0,.box ([.d (.sl 3 ((al.map dN).map dP)),.d (.sl 2 (kids.map prI)),.own 52 (ps.set j (zas.mk x1.seen x1.next (x1.frm++[x.frm]))).length,.own 18 (ts++[]).length])),(18,.row 71 4 ((ts++[]).map dO))]:=by unfold finQ;rw [hf9];show nsL _ _ _ _ _ (nmP (finI ps x) 50) _ _=_;rw [finI_at hi9]
    rw [hq9]
    exact ns_ret [.c (cB true)] rfl rfl (by decide) (zfb (cG (zal hx1))) h rfl rfl (by kernel_rfl) Exit.ret (.inl rfl) rfl ⟨vT9,trivial⟩ (by rw [hf9];rfl) (by kernel_rfl) (by kernel_rfl)
   have hc4':=dF hc4
   refine qU (za7 (za1 (rSTn zak (zap _) 72 [(0,.j1 j)] [] [(0,vp 0 0),(3,vp 70 0),(10,vO 999 ps.length),(11,vN ps.length),(12,vI ((j:Int)+1))] [(0,.box [.d (.sl 3 ((al.map dN).map dP)),.d (.sl 2 (kids.map prI)),.own 999 ps.length,.own 9 ts.length]),(9,.row 71 4 (ts.map dO)),(70,.box [cIs x.look,cIs x.seen,cIs x.next,cI x.frm])] (by kernel_rfl) (fun n_ h_=>by cases h_) h fun a w h=>za1 (zeb (x:=j) (y:=j+1) (zap _) h ?_ ?_ (by kernel_rfl) (by kernel_rfl) (by kernel_rfl)))))
   ·have hl8:=zal hx1
    exact ⟨by omega,by rw [hI2,zcj hx1,if_neg (by rw [show zdd x x1=false by unfold zdd;rw [hc2,hc4];rfl];exact Bool.noConfusion)]⟩
   have:=zal hx1
   show ps.length - (j+1)<ps.length - j
   omega
  have hc5':=dF hc5
  refine zb8 zak (zap _) 72 [(4,.call (Fn.cast (SEqualS x1.seen x.seen (hfr x1 (lM hx1)).2.1 hxs) (congrArg vb hc5)))] [] [(0,vp 0 0),(3,vp 70 0),(5,vN j),(10,vO 999 ps.length),(11,vN ps.length),(12,vN j),(28,vb false)] [(0,.box [.d (.sl 3 ((al.map dN).map dP)),.d (.sl 2 (kids.map prI)),.own 999 ps.length,.own 9 ts.length]),(9,.row 71 4 (ts.map dO)),(70,.box [cIs x.look,cIs x.seen,cIs x.next,cI x.frm])] (by kernel_rfl) (fun n_ h_=>by cases h_) h fun a w h=>ze6 false h rfl nofun (fun _=>qU (za7 (za1 (rSTn zak (zap _) 72 [(0,.j1 j)] [] [(0,vp 0 0),(3,vp 70 0),(10,vO 999 ps.length),(11,vN ps.length),(12,vI ((j:Int)+1))] [(0,.box [.d (.sl 3 ((al.map dN).map dP)),.d (.sl 2 (kids.map prI)),.own 999 ps.length,.own 9 ts.length]),(9,.row 71 4 (ts.map dO)),(70,.box [cIs x.look,cIs x.seen,cIs x.next,cI x.frm])] (by kernel_rfl) (fun n_ h_=>by cases h_) h fun a w h=>za1 (zeb (x:=j) (y:=j+1) (zap _) h ?_ ?_ (by kernel_rfl) (by kernel_rfl) (by kernel_rfl))))))
  ·have hl8:=zal hx1
   exact ⟨by omega,by rw [hI2,zcj hx1,if_neg (by rw [show zdd x x1=false by unfold zdd;rw [hc5];simp];exact Bool.noConfusion)]⟩
  have:=zal hx1
  show ps.length - (j+1)<ps.length - j
  omega
 have hc6':=dF hc6
 refine exA (qW (zb8 zak (zap _) 72 [(1,.g (dM (d:=50) (t:=49) (n:=0) (o:=0)))] [] [(0,vp 0 0),(3,vp 70 0),(54,vb ((ps.length:Int) == 4096))] [(0,.box [.d (.sl 3 ((al.map dN).map dP)),.d (.sl 2 (kids.map prI)),.own 999 ps.length,.own 9 ts.length]),(9,.row 71 4 (ts.map dO)),(70,.box [cIs x.look,cIs x.seen,cIs x.next,cI x.frm])] (by kernel_rfl) (fun n_ h_=>by cases h_) h fun a w h=>ze6 ((ps.length:Int) == 4096) h rfl (fun hc7=>?_) (fun hc8=>?_)))
 ·refine zb8 zak (zap _) 72 [] [] [(0,vp 0 0),(3,vp 70 0),(4,vb false)] [(0,.box [.d (.sl 3 ((al.map dN).map dP)),.d (.sl 2 (kids.map prI)),.own 999 ps.length,.own 9 ts.length]),(9,.row 71 4 (ts.map dO)),(70,.box [cIs x.look,cIs x.seen,cIs x.next,cI x.frm])] (by kernel_rfl) (fun n_ h_=>by cases h_) h fun a w h=>qV (za5 ?_)
  have hi9:zbf (zdd x) ps 0<0:=by rw [hI2,bY (by omega)];show (-1:Int)<0;decide
  have hf9:=fin_no hi9 (by have:=hc7;simp at this;omega)
  have hq9:finQ al kids ts ps x=[(0,.box [.d (.sl 3 ((al.map dN).map dP)),.d (.sl 2 (kids.map prI)),.any,.any])]:=by unfold finQ;rw [hf9]
  rw [hq9]
  refine ns_retN [.c (cB false)] (sl:=[(0,vp 0 0),(3,vp 70 0),(4,vb false)]) (lc:=[(0,.box [.d (.sl 3 ((al.map dN).map dP)),.d (.sl 2 (kids.map prI)),.any,.any])]) (tl:=fun _=>none) ?_ Exit.ret (.inl rfl) rfl ⟨vT9,trivial⟩ (by rw [hf9];rfl) (by kernel_rfl) (by kernel_rfl)
  exact ns_forget2 (c2:=.own 999 ps.length) (c3:=.own 9 ts.length) h (by kernel_rfl)
 refine qU (za1 ?_)
 replace h:=ns_show h (by kernel_rfl)
 replace h:St _ (F.oft [(0,vp 0 0),(3,vp 70 0),(54,vb ((ps.length:Int) == 4096))] [(999,.rowc 113 3 (nsH nm0 (plN ps))),(0,.box [.d (.sl 3 ((al.map dN).map dP)),.d (.sl 2 (kids.map prI)),.own 999 ps.length,.own 9 ts.length]),(9,.row 71 4 (ts.map dO)),(70,.box [cIs x.look,cIs x.seen,cIs x.next,cI x.frm])] (nsN 113 3 3 1 none nm0 (plN ps))) a w:=h
 refine zb8 zak (zdl _ _) 72 [(2,.g (dM (d:=57) (t:=56) (n:=0) (o:=0))),(11,.g (Op.buildO (d:=66) (n:=50) (len:=1) (rows:=[x.frm].map za3) (rs:=[(65,vI x.frm)]) zgv (.cons (i:=0) (dL 65 _) (.nil)) (by kernel_rfl) rfl (by simp [za3]) (by decide) (by decide))),(13,.g (Op.buildOC (d:=68) (n:=51) (len:=1) (rows:=[[cIs x.seen,cIs x.next,.own 50 1]]) (rs:=[(67,vG [cIs x.seen,cIs x.next,.own 50 1])]) vb6_6 (.cons (i:=0) (dL 67 _) .nil) (by kernel_rfl) rfl (fun r hr=>by rw [bE.1 hr];rfl) (by decide) (by decide) (fun x hx=>by simp only [List.flatten_cons,List.flatten_nil,bC,cH,List.not_mem_nil,or_false] at hx;rcases hx with rfl | rfl | rfl <;> simp [C.tags]))),(14,.g (Op.appOOC (d:=69) (t:=59) (u:=68) (n:=999) (sn:=51) (n':=52) (len:=ps.length) (len2:=1) (len':=ps.length+1) (rows:=(nsH nm0 (plN ps))) (rows2:=[[cIs x.seen,cIs x.next,.own 50 1]]) (rows':=((nsH nm0 (plN ps))++[[cIs x.seen,cIs x.next,.own 50 1]])) vb6_7 (by rw [nsH_len,plN_len]) rfl rfl rfl (by show (ps.length+1)*_<=_;omega))),(15,.g (dM (d:=70) (t:=55) (n:=0) (o:=0)))] [50,51,52] [(0,vp 0 0),(3,vp 70 0)] [(0,.box [.d (.sl 3 ((al.map dN).map dP)),.d (.sl 2 (kids.map prI)),.own 52 (ps.length+1),.own 9 ts.length]),(9,.row 71 4 (ts.map dO)),(70,.box [cIs x.look,cIs x.seen,cIs x.next,cI x.frm]),(50,.row 3 1 ([x.frm].map za3)),(51,.rowc 113 3 [[cIs x.seen,cIs x.next,.own 50 1]]),(52,.rowc 113 3 ((nsH nm0 (plN ps))++[[cIs x.seen,cIs x.next,.own 50 1]]))] (by kernel_rfl) (ns_newsH [0,9] hK9 (by kernel_rfl)) h fun a w h=>?_
 replace h:=atST (zdl _ _) (sl':=[(0,vp 0 0),(3,vp 70 0)]) (lc':=[(52,.rowc 113 3 ((nsH nm0 (plN ps))++[[cIs x.seen,cIs x.next,.own 50 1]])),(50,.row 3 1 ([x.frm].map za3)),(0,.box [.d (.sl 3 ((al.map dN).map dP)),.d (.sl 2 (kids.map prI)),.own 52 (ps.length+1),.own 9 ts.length]),(9,.row 71 4 (ts.map dO)),(70,.box [cIs x.look,cIs x.seen,cIs x.next,cI x.frm]),(51,.rowc 113 3 [[cIs x.seen,cIs x.next,.own 50 1]])]) h (by kernel_rfl) (by kernel_rfl) (by kernel_rfl)
 have hap:nsH nm0 (plN ps)++[[cIs x.seen,cIs x.next,.own 50 1]]=nsH (nmP ps.length 50) (plN (ps++[(zas.mk x.seen x.next [x.frm])])):=by rw [<- plN_app];have h9:=nsH_app (M:=plN ps) (p:=50) (pre:=(plR (zas.mk x.seen x.next [x.frm])).1) (r:=(plR (zas.mk x.seen x.next [x.frm])).2);rw [plN_len] at h9;exact h9
 have hat:nsN 113 3 3 1 none nm0 (plN ps)=nsN 113 3 3 1 none (nmP ps.length 50) (plN (ps++[(zas.mk x.seen x.next [x.frm])])):=by rw [<- plN_app];have h9:=nsN_app (hty:=113) (ty:=3) (wd:=3) (es:=1) (M:=plN ps) (p:=50) (by decide) (plR (zas.mk x.seen x.next [x.frm]));rw [plN_len] at h9;exact h9
 replace h:=h.conv (f':=F.oft [(0,vp 0 0),(3,vp 70 0)] [(52,.rowc 113 3 (nsH (nmP ps.length 50) (plN (ps++[(zas.mk x.seen x.next [x.frm])])))),(50,.row 3 1 ([x.frm].map za3)),(0,.box [.d (.sl 3 ((al.map dN).map dP)),.d (.sl 2 (kids.map prI)),.own 52 (ps.length+1),.own 9 ts.length]),(9,.row 71 4 (ts.map dO)),(70,.box [cIs x.look,cIs x.seen,cIs x.next,cI x.frm]),(51,.rowc 113 3 [[cIs x.seen,cIs x.next,.own 50 1]])] (nsN 113 3 3 1 none (nmP ps.length 50) (plN (ps++[(zas.mk x.seen x.next [x.frm])])))) (by rw [hap,hat]; try kernel_rfl)
 refine zb8 zak (zdl _ _) 72 [(4,.g (dM (d:=76) (t:=75) (n:=0) (o:=0))),(8,.g (Op.arith (op:=.sub) (d:=80) (xt:=3) (yt:=3) (k:=.i64) (m:=((ps.length+1:Nat):Int)) (n:=1) (r:=(ps.length:Int)) (dL 79 _) (OV.const (.int .i64 1) rfl) (.inr (.inl ⟨rfl,(by omega)⟩)) i6)),(10,.call (Fn.argw (SLayF (ps.length+1) al kids (TkD.mk x.next [] [] (ps.length:Int)) ts (by omega)) (.cons _ _ _ _ (.refl _) (.cons _ _ _ _ (.agg _ _ (.same _ _ _ (.d _ _ _ _ (.nil _) (.d _ _ _ _ (.nil _) (.same _ _ _ .nil))))) .nil))))] [18] [] [(52,.rowc 113 3 (nsH (nmP ps.length 50) (plN (ps++[(zas.mk x.seen x.next [x.frm])])))),(50,.row 3 1 ([x.frm].map za3)),(0,.box ([.d (.sl 3 ((al.map dN).map dP)),.d (.sl 2 (kids.map prI)),.own 52 (ps.length+1),.own 18 (ts++[(TkD.mk x.next [] [] (ps.length:Int))]).length])),(51,.rowc 113 3 [[cIs x.seen,cIs x.next,.own 50 1]]),(18,.row 71 4 ((ts++[(TkD.mk x.next [] [] (ps.length:Int))]).map dO))] (by kernel_rfl) (zhm [0,9] hK9 zf1 (by kernel_rfl)) h fun a w h=>zb8 zak (zdl _ _) 72 [] [] [(4,vb true)] [(52,.rowc 113 3 (nsH (nmP ps.length 50) (plN (ps++[(zas.mk x.seen x.next [x.frm])])))),(50,.row 3 1 ([x.frm].map za3)),(0,.box ([.d (.sl 3 ((al.map dN).map dP)),.d (.sl 2 (kids.map prI)),.own 52 (ps.length+1),.own 18 (ts++[(TkD.mk x.next [] [] (ps.length:Int))]).length])),(51,.rowc 113 3 [[cIs x.seen,cIs x.next,.own 50 1]]),(18,.row 71 4 ((ts++[(TkD.mk x.next [] [] (ps.length:Int))]).map dO))] (by kernel_rfl) (fun n_ h_=>by cases h_) h fun a w h=>qV ?_
 have hi9:zbf (zdd x) ps 0<0:=by rw [hI2,bY (by omega)];show (-1:Int)<0;decide
 have hf9:=fin_new hi9 (by have:=hc8;simp at this;omega)
 replace h:=atST (zdl _ _) (sl':=[(4,vb true)]) (lc':=[(52,.rowc 113 3 (nsH (nmP ps.length 50) (plN (ps++[(zas.mk x.seen x.next [x.frm])])))),(50,.row 3 1 ([x.frm].map za3)),(0,.box ([.d (.sl 3 ((al.map dN).map dP)),.d (.sl 2 (kids.map prI)),.own 52 (ps.length+1),.own 18 (ts++[(TkD.mk x.next [] [] (ps.length:Int))]).length])),(18,.row 71 4 ((ts++[(TkD.mk x.next [] [] (ps.length:Int))]).map dO))]) h (by kernel_rfl) (by kernel_rfl) (by kernel_rfl)
 have hl9:(ps++[(zas.mk x.seen x.next [x.frm])]).length=ps.length+1:=by simp
 replace h:=h.conv (f':=F.oft [(4,vb true)] [(52,.rowc 113 3 (nsH (nmP ps.length 50) (plN (ps++[(zas.mk x.seen x.next [x.frm])])))),(50,.row 3 1 ([x.frm].map za3)),(0,.box ([.d (.sl 3 ((al.map dN).map dP)),.d (.sl 2 (kids.map prI)),.own 52 (ps++[(zas.mk x.seen x.next [x.frm])]).length,.own 18 (ts++[TkD.mk x.next [] [] (ps.length:Int)]).length])),(18,.row 71 4 ((ts++[TkD.mk x.next [] [] (ps.length:Int)]).map dO))] (nsN 113 3 3 1 none (nmP ps.length 50) (plN (ps++[(zas.mk x.seen x.next [x.frm])])))) (by rw [hl9]; try kernel_rfl)
 have hq9:finQ al kids ts ps x=nsL 113 3 3 1 52 (nmP ps.length 50) (plN (ps++[(zas.mk x.seen x.next [x.frm])])) [(0,.box ([.d (.sl 3 ((al.map dN).map dP)),.d (.sl 2 (kids.map prI)),.own 52 (ps++[(zas.mk x.seen x.next [x.frm])]).length,.own 18 (ts++[TkD.mk x.next [] [] (ps.length:Int)]).length])),(18,.row 71 4 ((ts++[TkD.mk x.next [] [] (ps.length:Int)]).map dO))]:=by unfold finQ;rw [hf9];show nsL _ _ _ _ _ (nmP (finI ps x) 50) _ _=_;rw [finI_new hi9]
 rw [hq9]
 exact ns_ret [.c (cB true)] rfl rfl (by decide) (zfb (by rw [dA (bZ _),Nat.sub_self];rfl)) h rfl rfl (by kernel_rfl) Exit.ret (.inl rfl) rfl ⟨vT9,trivial⟩ (by rw [hf9];rfl) (by kernel_rfl) (by kernel_rfl)
def InZ (m:Nat) (i:Int):Prop:=0<=i/\i<m
structure TkOk (m B:Nat) (t:TkD):Prop where
  look:∀ i ∈ t.look,InZ m i
  next:∀ i ∈ t.next,InZ m i
  seen:SRi t.seen
  sz:∀ i ∈ t.seen,InZ m i
  ll:t.look.length<=2*B+1
  ls:t.seen.length<=B
  ln:t.next.length<=B
structure PlOk (m B:Nat) (p:zas):Prop where
  lf:p.frm.length<=B+1
  ls:p.seen.length<=B
  ln:p.next.length<=B
  seen:SRi p.seen
  sz:∀ i ∈ p.seen,InZ m i
structure RIv (m B:Nat) (s:TbS):Prop where
  tk:∀ t ∈ s.tasks,TkOk m B t
  pl:∀ p ∈ s.places,PlOk m B p
  pn:s.places.length<=4096
  tn:s.tasks.length<=B+1
structure KdOk (al:List PF) (kids:List (Int × Int)):Prop where
  len:kids.length=al.length
  tab:∀ (j:Nat) (f:PF) (k:Int × Int),al[j]?=some f->kids[j]?=some k->TabP al k f
theorem AtP.inz {p:PF} (h:AtP al k p):InZ al.length k:=⟨h.1,by
 have:=(bG.1 h.2).1
 have:=h.1
 omega⟩
theorem TkOk.mono {C:Nat} {t:TkD} (h:TkOk m B t) (hc:B<=C):TkOk m C t:=⟨h.look,h.next,h.seen,h.sz,by have:=h.ll;omega,by have:=h.ls;omega,by have:=h.ln;omega⟩
theorem PlOk.mono {C:Nat} (h:PlOk m B p) (hc:B<=C):PlOk m C p:=⟨by have:=h.lf;omega,by have:=h.ls;omega,by have:=h.ln;omega,h.seen,h.sz⟩
theorem TkOk.more {rest seen ns:List Int} {fr:Int} (h1:∀ i ∈ rest,InZ m i) (h2:∀ i ∈ next,InZ m i) (h3:SRi seen) (h3z:∀ i ∈ seen,InZ m i) (h4:rest.length<=2*B) (h5:seen.length<=B+1) (h6:next.length<=B+1) (hn:∀ i ∈ ns,InZ m i) (hl:ns.length<=2):TkOk m (B+1) ((⟨rest,seen,next,fr⟩:TkD).more ns) :=
 ⟨fun i hi=>by
  have hi:=(zb4 _ i).1 hi
  rcases bK.1 hi with h | h
  ·exact h1 i h
  ·exact hn i h,h2,h3,h3z,by
  have:=zay (rest++ns)
  rw [bB] at this
  show (zad (rest++ns)).length<=_
  omega,h5,h6⟩
theorem zgb {n:Int} (h:∀ i ∈ next,InZ m i) (hn:InZ m n):∀ i ∈ zad (next++[n]),InZ m i:=fun i hi=>by
 have hi:=(zb4 _ i).1 hi
 rcases bK.1 hi with h' | h'
 ·exact h i h'
 ·rw [bE.1 h'];exact hn
theorem lk_ok {kids:List (Int × Int)} {i:Int} {rest seen:List Int} {fr:Int} (hk:KdOk al kids) (h:TkOk al.length B ⟨i :: rest,seen,next,fr⟩):(∀ y ∈ lkT al kids ⟨i :: rest,seen,next,fr⟩,TkOk al.length (B+1) y)/\(lkT al kids ⟨i :: rest,seen,next,fr⟩).length<=2:=by
 obtain ⟨q1,q2,q3,q3z,q4,q5,q6⟩:=h
 have q1r:∀ j ∈ rest,InZ al.length j:=fun j hj=>q1 j (List.mem_cons_of_mem _ hj)
 have qi:InZ al.length i:=q1 i (cR ..)
 simp only [List.length_cons] at q4
 replace q4:rest.length+1<=2*B+1:=q4
 replace q5:seen.length<=B:=q5
 replace q6:next.length<=B:=q6
 by_cases hs:decide (i ∈ seen)=true
 ·rw [lkT_kn hs]
  refine ⟨fun y hy=>?_,by simp⟩
  rw [bE.1 hy]
  exact ⟨q1r,q2,q3,q3z,by show rest.length<=_;omega,by show seen.length<=_;omega,by show next.length<=_;omega⟩
 ·have hs:decide (i ∈ seen)=false:=by simpa using hs
  rw [ze5 hs]
  have hsl:=zay (seen++[i])
  rw [bB,bO] at hsl
  have hsr:=zex (seen++[i])
  have hsz:∀ j ∈ zad (seen++[i]),InZ al.length j:=zgb q3z qi
  obtain ⟨n,rfl⟩:∃ n:Nat,i=(n:Int):=⟨i.toNat,by have:=qi.1;omega⟩
  have hn:n<al.length:=by have:=qi.2;omega
  have hi:al[n]?=some al[n]:=bI hn
  have hkk:kids[n]?=some (kids[n]'(by rw [hk.len];exact hn)):=bI _
  have ht:=hk.tab n _ _ hi hkk
  have hself:TkOk al.length (B+1) ⟨rest,zad (seen++[(n:Int)]),next,fr⟩:=⟨q1r,q2,hsr,hsz,by show rest.length<=_;omega,by show (zad _).length<=_;omega,by show next.length<=_;omega⟩
  have hmore:∀ ns:List Int,(∀ j ∈ ns,InZ al.length j)->ns.length<=2->TkOk al.length (B+1) ((⟨rest,zad (seen++[(n:Int)]),next,fr⟩:TkD).more ns):=fun ns h1 h2=>TkOk.more q1r q2 hsr hsz (by omega) (by omega) (by omega) h1 h2
  have hlen:=zay (next++[(n:Int)])
  rw [bB,bO] at hlen
  have hlm:∀ ns:List Int,(∀ j ∈ ns,InZ al.length j)->ns.length<=2->TkOk al.length (B+1) (((⟨rest,zad (seen++[(n:Int)]),next,fr⟩:TkD).more ns).later n):=fun ns h1 h2 =>
   have h3:=hmore ns h1 h2
   ⟨h3.look,zgb q2 qi,h3.seen,h3.sz,h3.ll,h3.ls,by show (zad (next++[(n:Int)])).length<=_;omega⟩
  unfold lk1
  rw [zdc hi,zgd hkk]
  have one:∀ y:TkD,TkOk al.length (B+1) y->(∀ z ∈ [y],TkOk al.length (B+1) z)/\[y].length<=2:=fun y hy=>⟨fun z hz=>by rw [bE.1 hz];exact hy,by simp⟩
  have two:∀ y y':TkD,TkOk al.length (B+1) y->TkOk al.length (B+1) y'->(∀ z ∈ [y,y'],TkOk al.length (B+1) z)/\[y,y'].length<=2:=fun y y' hy hy'=>⟨fun z hz=>by
   rcases cH.1 hz with rfl | hz
   ·exact hy
   ·rw [bE.1 hz];exact hy', by simp⟩
  have in1:∀ a:Int,InZ al.length a->∀ j ∈ [a],InZ al.length j:=fun a ha j hj=>by rw [bE.1 hj];exact ha
  have in2:∀ a b:Int,InZ al.length a->InZ al.length b->∀ j ∈ [a,b],InZ al.length j:=fun a b ha hb j hj=>by
   rcases cH.1 hj with rfl | hj
   ·exact ha
   ·rw [bE.1 hj];exact hb
  generalize al[n]=f at hi ht ⊢
  generalize hkk':kids[n]'_=kk at hkk ht ⊢
  cases f with
  | tt=>exact one _ hself
  | ff=>exact ⟨fun y hy=>(by cases hy),by simp⟩
  | pa p =>
   dsimp only
   split <;> first | exact one _ hself | exact ⟨fun y hy=>(by cases hy),by simp⟩
  | na p =>
   dsimp only
   split <;> first | exact one _ hself | exact ⟨fun y hy=>(by cases hy),by simp⟩
  | and p q=>exact one _ (hmore _ (in2 _ _ ht.1.inz ht.2.inz) (by simp))
  | or p q=>exact two _ _ (hmore _ (in1 _ ht.2.inz) (by simp)) (hmore _ (in1 _ ht.1.inz) (by simp))
  | nx p =>
   have hlen2:=zay (next++[kk.1])
   rw [bB,bO] at hlen2
   exact one _ ⟨hself.look,zgb q2 (AtP.inz ht),hsr,hsz,hself.ll,hself.ls,by show (zad (next++[kk.1])).length<=_;omega⟩
  | un p q=>exact two _ _ (hlm _ (in1 _ ht.1.inz) (by simp)) (hmore _ (in1 _ ht.2.inz) (by simp))
  | fr p q=>exact two _ _ (hlm _ (in1 _ ht.2.inz) (by simp)) (hmore _ (in2 _ _ ht.1.inz ht.2.inz) (by simp))
theorem fin_ok {s:TbS} {r:List zas × List TkD} (h:RIv m B s) (hx:TkOk m B x) (hf:finT s.places x=some r):(∀ p ∈ r.1,PlOk m (B+1) p)/\r.1.length<=4096/\(∀ t ∈ r.2,TkOk m (B+1) t)/\r.2.length<=1:=by
 unfold finT at hf
 split at hf
 ·split at hf
  ·cases hf
  ·rename_i h1 h2
   have hf:=Option.some.inj hf
   subst hf
   refine ⟨fun p hp=>?_,by have:=h.pn;simp;omega,fun t ht=>?_,by simp⟩
   ·rcases bK.1 hp with h3 | h3
    ·exact (h.pl p h3).mono (by omega)
    ·rw [bE.1 h3]
     exact ⟨by simp,by have:=hx.ls;show x.seen.length<=_;omega,by have:=hx.ln;show x.next.length<=_;omega,hx.seen,hx.sz⟩
   ·rw [bE.1 ht]
    exact ⟨hx.next,fun i hi=>(by cases hi),List.Pairwise.nil,fun i hi=>(by cases hi),by have:=hx.ln;show x.next.length<=_;omega,by simp,by simp⟩
 ·have hf:=Option.some.inj hf
  subst hf
  refine ⟨fun p hp=>?_,by rw [List.length_modify];exact h.pn,fun t ht=>(by cases ht),by simp⟩
  obtain ⟨j,hj⟩:=dB.1 hp
  rw [cF] at hj
  cases e:s.places[j]? with
  | none=>rw [e] at hj;cases hj
  | some p0 =>
   rw [e] at hj
   have h4:=h.pl p0 (bJ e)
   simp only [cT,bU] at hj
   have hj:=Option.some.inj hj
   split at hj
   ·rw [<- hj]
    exact ⟨by have:=h4.lf;show (p0.frm++[x.frm]).length<=_;simp;omega,by have:=h4.ls;show p0.seen.length<=_;omega,by have:=h4.ln;show p0.next.length<=_;omega,h4.seen,h4.sz⟩
   ·rw [<- hj];exact h4.mono (by omega)
theorem stp_ok {kids:List (Int × Int)} {s s':TbS} (hk:KdOk al kids) (h:RIv al.length B s) (hx:s.tasks.getLast?=some x) (hs:stpT al kids s x=some s'):RIv al.length (B+1) s':=by
 have hne:s.tasks≠[]:=fun e=>by rw [e] at hx;cases hx
 have hxm:x ∈ s.tasks:=List.mem_of_getLast? hx
 have hxo:=h.tk x hxm
 have hdl:s.tasks.dropLast.length=s.tasks.length - 1:=bM
 have hpos:0<s.tasks.length:=List.length_pos_iff.2 hne
 have hdm:∀ t ∈ s.tasks.dropLast,TkOk al.length (B+1) t:=fun t ht=>(h.tk t (b9 _ ht)).mono (by omega)
 unfold stpT at hs
 cases hl:x.look with
 | nil =>
  rw [hl] at hs
  obtain ⟨r,h1,h2⟩:=Option.map_eq_some_iff.1 hs
  subst h2
  obtain ⟨f1,f2,f3,f4⟩:=fin_ok h hxo h1
  exact ⟨fun t ht=>by
   rcases bK.1 ht with h3 | h3
   ·exact hdm t h3
   ·exact f3 t h3,f1,f2,by have:=h.tn;show (s.tasks.dropLast++r.2).length<=_;rw [bB,hdl];omega⟩
 | cons i rest =>
  rw [hl] at hs
  have hs:=Option.some.inj hs
  subst hs
  have hxe:x=⟨i :: rest,x.seen,x.next,x.frm⟩:=by rw [<- hl]
  rw [hxe] at hxo
  obtain ⟨f3,f4⟩:=lk_ok hk hxo
  rw [<- hxe] at f3 f4
  exact ⟨fun t ht=>by
   rcases bK.1 ht with h3 | h3
   ·exact hdm t h3
   ·exact f3 t h3,fun p hp=>(h.pl p hp).mono (by omega),h.pn,by have:=h.tn;show (s.tasks.dropLast++lkT al kids x).length<=_;rw [bB,hdl];omega⟩
theorem runT_none {kids:List (Int × Int)} {s:TbS} (h:s.tasks.getLast?=none):runT9 al kids n s=some s.places:=by cases n <;> (rw [runT9,h])
theorem runT_zero {kids:List (Int × Int)} {s:TbS} (h:s.tasks.getLast?=some x):runT9 al kids 0 s=none:=by rw [runT9,h]
theorem zd6 {kids:List (Int × Int)} {s:TbS} (h:s.tasks.getLast?=some x):runT9 al kids (n+1) s=(stpT al kids s x).bind (runT9 al kids n):=by
 conv=>lhs;rw [runT9,h]
theorem last_at {xs:List α} {x:α} (h:xs[xs.length - 1]?=some x):xs.getLast?=some x:=by rw [List.getLast?_eq_getElem?];exact h
theorem run_ok {kids:List (Int × Int)} (hk:KdOk al kids):∀ (n B:Nat) (s:TbS) (ps:List zas),RIv al.length B s->runT9 al kids n s=some ps->(∀ p ∈ ps,PlOk al.length (B+n) p)/\ps.length<=4096
 | n,B,s,ps,h,hr=>by
  cases e:s.tasks.getLast? with
  | none =>
   rw [runT_none e] at hr
   have hr:=Option.some.inj hr
   subst hr
   exact ⟨fun p hp=>(h.pl p hp).mono (by omega),h.pn⟩
  | some x =>
   cases n with
   | zero=>rw [runT_zero e] at hr;cases hr
   | succ n =>
    rw [zd6 e] at hr
    cases e2:stpT al kids s x with
    | none=>rw [e2] at hr;cases hr
    | some s' =>
     rw [e2] at hr
     have:=run_ok hk n (B+1) s' ps (stp_ok hk h e e2) hr
     exact ⟨fun p hp=>by have h9:=this.1 p hp;rwa [show B+(n+1)=B+1+n by omega],this.2⟩
theorem vb7_0:SlT dJ 64 71 4:=SlT.mk' Tryz.underlying64 (by kernel_rfl)
theorem vb7_3:zax dJ 62:=zax.mk' (by kernel_rfl)
theorem SLookV (v2:Value) {kids:List (Int × Int)} (ts:List TkD) (x:TkD) (hk:KdOk al kids) (hal:al.length<=100000) (hB:B<=70000) (hx:TkOk al.length B x) (hne:0<x.look.length) (hts:ts.length<=100000):Fn dJ 61 [(0,.box [.d (.sl 3 ((al.map dN).map dP)),.d (.sl 2 (kids.map prI)),.d (.raw v2),.own 8 ts.length]),(8,.row 71 4 (ts.map dO))] [vp 0 0,vG [cIs x.look,cIs x.seen,cIs x.next,cI x.frm]] (.tup []) [(0,.box [.d (.sl 3 ((al.map dN).map dP)),.d (.sl 2 (kids.map prI)),.d (.raw v2),.own 18 (ts++lkT al kids x).length]),(18,.row 71 4 ((ts++lkT al kids x).map dO))]:=by
 obtain ⟨lo,se,ne,fr⟩:=x
 cases lo with
 | nil=>simp at hne
 | cons i rest =>
  obtain ⟨n,rfl⟩:∃ n:Nat,i=(n:Int):=⟨i.toNat,by have:=(hx.look i (cR ..)).1;omega⟩
  have hn:n<al.length:=by have:=(hx.look n (cR ..)).2;omega
  have h1:rest.length+1<=2*B+1:=hx.ll
  have h2:se.length<=B:=hx.ls
  have h3:ne.length<=B:=hx.ln
  exact SLook v2 al kids ts n rest se ne fr al[n] (kids[n]'(by rw [hk.len];exact hn)) (bI hn) (bI _) (by omega) (by omega) (by omega) hx.seen (by omega) (by omega)
theorem SLookR (m:Nat) {kids:List (Int × Int)} (ts:List TkD) (x:TkD) (hk:KdOk al kids) (hal:al.length<=100000) (hB:B<=70000) (hx:TkOk al.length B x) (hne:0<x.look.length) (hts:ts.length<=100000):Fn dJ 61 [(0,.box [.d (.sl 3 ((al.map dN).map dP)),.d (.sl 2 (kids.map prI)),.own 999 m,.own 9 ts.length]),(9,.row 71 4 (ts.map dO))] [vp 0 0,vG [cIs x.look,cIs x.seen,cIs x.next,cI x.frm]] (.tup []) [(0,.box [.d (.sl 3 ((al.map dN).map dP)),.d (.sl 2 (kids.map prI)),.own 999 m,.own 18 (ts++lkT al kids x).length]),(18,.row 71 4 ((ts++lkT al kids x).map dO))]:=by
 refine Fn.renP (args':=[vp 0 0,vG [cIs x.look,cIs x.seen,cIs x.next,cI x.frm]]) 8 9 (show Fn dJ 61 [(0,.box [.d (.sl 3 ((al.map dN).map dP)),.d (.sl 2 (kids.map prI)),.own 999 m,.own 8 ts.length]),(8,.row 71 4 (ts.map dO))] [vp 0 0,vG [cIs x.look,cIs x.seen,cIs x.next,cI x.frm]] (.tup []) [(0,.box [.d (.sl 3 ((al.map dN).map dP)),.d (.sl 2 (kids.map prI)),.own 999 m,.own 18 (ts++lkT al kids x).length]),(18,.row 71 4 ((ts++lkT al kids x).map dO))] from Fn.idle (j:=2) (x:=.own 999 m) (fun v2 _=>SLookV v2 ts x hk hal hB hx hne hts) rfl rfl rfl) (by decide) rfl rfl ?_ ?_ <;> kernel_rfl
theorem fin_in {ps:List zas} {r:List zas × List TkD} (h:finT ps x=some r):∃ q,r.1[finI ps x]?=some q:=by
 unfold finT at h
 unfold finI
 split at h
 ·rename_i h1
  rw [if_pos h1]
  split at h
  ·cases h
  ·have h:=Option.some.inj h
   subst h
   exact ⟨_,by rw [dA (bZ _),Nat.sub_self];rfl⟩
 ·rename_i h1
  rw [if_neg h1]
  have h:=Option.some.inj h
  subst h
  rcases zc2 (zdd x) ps 0 with ⟨h2,_⟩ | ⟨k,p,h2,h3,_⟩
  ·rw [h2] at h1;exact absurd (by decide) h1
  ·rw [h2,cJ,bT]
   exact ⟨_,by show (ps.modify k _)[k]?=_;rw [zga h3];exact cG (bG.1 h3).1⟩
theorem fin_lt {ps:List zas} {r:List zas × List TkD} (h:finT ps x=some r) (hj:j<(plN r.1).length) (hji:j≠finI ps x):j<(plN ps).length:=by
 rw [plN_len] at hj ⊢
 unfold finT at h
 unfold finI at hji
 split at h
 ·rename_i h1
  rw [if_pos h1] at hji
  split at h
  ·cases h
  ·have h:=Option.some.inj h
   subst h
   simp at hj;omega
 ·have h:=Option.some.inj h
  subst h
  simpa using hj
theorem app1_tags {ns:List Nat} {i:I} (h:(ns.all fun n=>!zcm i.wtags n)=true) (hn:n ∈ ns):zcm i.wtags n=false:=by
 have:=cK.1 h n hn
 simpa using this
def runQ (al:List PF) (kids:List (Int × Int)) (r:Option (List zas)):List (Nat × L):=match r with
  | some ps=>nsL 113 3 3 1 999 nm0 (plN ps) [(0,.box [.d (.sl 3 ((al.map dN).map dP)),.d (.sl 2 (kids.map prI)),.own 999 ps.length,.any])]
  | none=>[(0,.box [.d (.sl 3 ((al.map dN).map dP)),.d (.sl 2 (kids.map prI)),.any,.any])]
abbrev q9 (al:List PF) (kids:List (Int × Int)):L:=.box [.d (.sl 3 ((al.map dN).map dP)),.d (.sl 2 (kids.map prI)),.any,.any]
theorem SRun {kids:List (Int × Int)} (ts:List TkD) (hk:KdOk al kids) (hal:al.length<=100000) (hiv:RIv al.length 0 ⟨[],ts⟩):Fn dJ 28 [(0,.box [.d (.sl 3 ((al.map dN).map dP)),.d (.sl 2 (kids.map prI)),.d (.raw za6),.own 8 ts.length]),(8,.row 71 4 (ts.map dO))] [vp 0 0] (vb (runT9 al kids 65536 ⟨[],ts⟩).isSome) (runQ al kids (runT9 al kids 65536 ⟨[],ts⟩)):=by
 refine fB Tryz.func28 rfl 49 fun w H B a h=>?_
 refine Jq 70 [] [(0,vp 0 0),(2,vb false)] [(0,.box [.d (.sl 3 ((al.map dN).map dP)),.d (.sl 2 (kids.map prI)),.d (.raw za6),.own 8 ts.length]),(8,.row 71 4 (ts.map dO))] h fun a w h=>?_;refine qW (Je 70 [] [] [(3,vI 0)] h fun a w h=>?_);refine qZ ?_;replace h:=zft 0 2 70 3 113 [.d (.sl 3 ((al.map dN).map dP)),.d (.sl 2 (kids.map prI)),.d (.raw za6),.own 8 ts.length] h;replace h:=zb7 70 999 h;replace h:=zb7 8 9 h;replace h:=atS (sl':=[(0,vp 0 0),(2,vb false),(3,vI 0)]) (lc':=[(999,.row 113 3 ([].map zas.d)),(0,.box [.d (.sl 3 ((al.map dN).map dP)),.d (.sl 2 (kids.map prI)),.own 999 0,.own 9 ts.length]),(9,.row 71 4 (ts.map dO))]) h;replace h:=ns_begin (X:=[]) (ty:=3) (es:=1) h (by kernel_rfl) (by kernel_rfl) (by kernel_rfl);replace h:St _ (F.oft [(0,vp 0 0),(2,vb false),(3,vI 0)] [(0,.box [.d (.sl 3 ((al.map dN).map dP)),.d (.sl 2 (kids.map prI)),.own 999 0,.own 9 ts.length]),(9,.row 71 4 (ts.map dO))] (nsT 113 3 3 1 (plN []))) a w:=h
 refine loopST (ι:=(Nat) × (TbS)) (fun (k,st)=>RIv al.length k st/\k<=65536/\runT9 al kids (65536 - k) st=runT9 al kids 65536 ⟨[],ts⟩)
   (fun (k,st)=>[(0,vp 0 0),(3,vN k)])
   (fun (k,st)=>[(0,.box [.d (.sl 3 ((al.map dN).map dP)),.d (.sl 2 (kids.map prI)),.own 999 st.places.length,.own 9 st.tasks.length]),(9,.row 71 4 (st.tasks.map dO))])
   (fun (k,st)=>nsT 113 3 3 1 (plN st.places))
   (fun (k,st)=>65536 - k) (0,TbS.mk [] ts) ?_ (zap _) h (by kernel_rfl) (by kernel_rfl) (by kernel_rfl) ?_
 ·exact ⟨hiv,by omega,rfl⟩
 clear h;rintro ⟨k,st⟩ a w hI h;change St _ (F.oft [(0,vp 0 0),(3,vN k)] [(0,.box [.d (.sl 3 ((al.map dN).map dP)),.d (.sl 2 (kids.map prI)),.own 999 st.places.length,.own 9 st.tasks.length]),(9,.row 71 4 (st.tasks.map dO))] (nsT 113 3 3 1 (plN st.places))) a w at h;obtain ⟨hI1,hI2,hI3⟩:=hI;have hstn:=hI1.tn;have hspn:=hI1.pn;refine qW ?_;refine zb8 zak (zap _) 71 [(1,.g (dM (d:=7) (t:=6) (n:=0) (o:=0)))] [] [(0,vp 0 0),(3,vN k),(11,vb (decide ((st.tasks.length:Int)>0)))] [(0,.box [.d (.sl 3 ((al.map dN).map dP)),.d (.sl 2 (kids.map prI)),.own 999 st.places.length,.own 9 st.tasks.length]),(9,.row 71 4 (st.tasks.map dO))] (by kernel_rfl) (fun n_ h_=>by cases h_) h fun a w h=>?_;refine ze6 (decide ((st.tasks.length:Int)>0)) h rfl (fun hc1=>?_) (fun hc6=>?_)
 ·have hc1':=dT hc1;refine qU (za1 (qW (qZ (qW ?_))));refine zb8 zak (zap _) 71 [] [] [(0,vp 0 0),(3,vN k),(15,vb ((k:Int) == 65536))] [(0,.box [.d (.sl 3 ((al.map dN).map dP)),.d (.sl 2 (kids.map prI)),.own 999 st.places.length,.own 9 st.tasks.length]),(9,.row 71 4 (st.tasks.map dO))] (by kernel_rfl) (fun n_ h_=>by cases h_) h fun a w h=>?_;refine ze6 ((k:Int) == 65536) h rfl (fun hc2=>?_) (fun hc3=>?_)
  ·have hc2':=hc2;(try simp at hc2');refine zb8 zak (zap _) 71 [] [] [(0,vp 0 0),(2,vb false),(3,vN k)] [(0,.box [.d (.sl 3 ((al.map dN).map dP)),.d (.sl 2 (kids.map prI)),.own 999 st.places.length,.own 9 st.tasks.length]),(9,.row 71 4 (st.tasks.map dO))] (by kernel_rfl) (fun n_ h_=>by cases h_) h fun a w h=>?_;refine qV (za5 (zaa (za5 (za5 (zaa (za5 ?_))))));have hR9:runT9 al kids 65536 ⟨[],ts⟩=none:=by rw [<- hI3,show 65536 - k=0 by omega];obtain ⟨x9,hx9⟩:∃ x,st.tasks.getLast?=some x:=⟨_,List.getLast?_eq_some_getLast (List.ne_nil_of_length_pos (by have:=dT hc1;omega))⟩;exact runT_zero hx9
   have hq9:runQ al kids (runT9 al kids 65536 ⟨[],ts⟩)=[(0,q9 al kids)]:=by rw [hR9];rfl
   rw [hq9];refine ns_retN [.c (.d (.raw (.bool false)))] (sl:=[(0,vp 0 0),(2,vb false),(3,vN k)]) (lc:=[(0,q9 al kids)]) (tl:=fun _=>none) ?_ Exit.ret (.inl rfl) rfl ⟨vT9,trivial⟩ (by rw [hR9];rfl) (by kernel_rfl) (by kernel_rfl);exact ns_forget2 (c2:=.own 999 st.places.length) (c3:=.own 9 st.tasks.length) h (by kernel_rfl)
  have hc3':=hc3;(try simp at hc3');refine qU (za1 ?_);refine zb8 zak (zap _) 71 [(1,.g (dM (d:=17) (t:=16) (n:=0) (o:=0))),(5,.g (Op.arith (op:=.sub) (d:=21) (xt:=3) (yt:=3) (k:=.i64) (m:=(st.tasks.length:Int)) (n:=1) (r:=((st.tasks.length - 1:Nat):Int)) (dL 20 _) (OV.const (.int .i64 1) rfl) (.inr (.inl ⟨rfl,(by have:=dT hc1;omega)⟩)) i6))] [] [(0,vp 0 0),(3,vN k),(4,vI ((st.tasks.length - 1:Nat):Int))] [(0,.box [.d (.sl 3 ((al.map dN).map dP)),.d (.sl 2 (kids.map prI)),.own 999 st.places.length,.own 9 st.tasks.length]),(9,.row 71 4 (st.tasks.map dO))] (by kernel_rfl) (fun n_ h_=>by cases h_) h fun a w h=>?_;obtain ⟨x1,hx1⟩:=gl st.tasks (st.tasks.length - 1);have hla:st.tasks.getLast?=some x1:=last_at hx1;refine zb8 zak (zap _) 71 [(1,.g (dM (d:=23) (t:=22) (n:=0) (o:=0))),(5,.g (xO 27 25 9 st.tasks.length (st.tasks.length - 1) vb7_0 (dL 26 _))),(6,.g (Op.loadR_agg (d:=28) (t:=27) (n:=9) (i:=(st.tasks.length - 1)) (fo:=0) (rty:=71) (es:=4) (xs:=[.sl 1 (x1.look.map za3),.sl 1 (x1.seen.map za3),.sl 1 (x1.next.map za3),.raw (.int .i64 x1.frm)]) vb2_7 rfl (zab hx1 (f:=dO)) rfl rfl))] [71] [(0,vp 0 0),(3,vN k),(4,vI ((st.tasks.length - 1:Nat):Int)),(5,vp 71 0)] [(0,.box [.d (.sl 3 ((al.map dN).map dP)),.d (.sl 2 (kids.map prI)),.own 999 st.places.length,.own 9 st.tasks.length]),(9,.row 71 4 (st.tasks.map dO)),(71,.box [.d (.sl 1 (x1.look.map za3)),.d (.sl 1 (x1.seen.map za3)),.d (.sl 1 (x1.next.map za3)),.d (.raw (.int .i64 x1.frm))])] (by kernel_rfl) (zdf [0,8] (fun n_ _ h_=>h_) (by kernel_rfl)) h fun a w h=>?_;refine zb8 zak (zap _) 72 [(2,.g (dM (d:=31) (t:=30) (n:=0) (o:=0))),(6,.g (Op.sliceHi (d:=35) (t:=33) (k:=.i64) (n:=9) (len:=st.tasks.length) (h:=(st.tasks.length - 1)) (rows:=st.tasks.map dO) (rty:=71) vb7_0 (by first | omega | (simp;done) | (simp at *;omega)) (dL 34 _))),(7,.g (dM (d:=36) (t:=29) (n:=0) (o:=0)))] [] [(0,vp 0 0),(3,vN k),(5,vp 71 0)] [(0,.box [.d (.sl 3 ((al.map dN).map dP)),.d (.sl 2 (kids.map prI)),.own 999 st.places.length,.own 9 (st.tasks.length - 1)]),(9,.row 71 4 (st.tasks.map dO)),(71,.box [.d (.sl 1 (x1.look.map za3)),.d (.sl 1 (x1.seen.map za3)),.d (.sl 1 (x1.next.map za3)),.d (.raw (.int .i64 x1.frm))])] (by kernel_rfl) (fun n_ h_=>by cases h_) h fun a w h=>?_;replace h:=cutST 9 (st.tasks.length - 1) 4 [(0,.box [.d (.sl 3 ((al.map dN).map dP)),.d (.sl 2 (kids.map prI)),.own 999 st.places.length,.own 9 (st.tasks.length - 1)]),(9,.row 71 4 ((st.tasks.map dO).take (st.tasks.length - 1))),(71,.box [.d (.sl 1 (x1.look.map za3)),.d (.sl 1 (x1.seen.map za3)),.d (.sl 1 (x1.next.map za3)),.d (.raw (.int .i64 x1.frm))])] (zap _) rfl h rfl rfl;have hdl:(st.tasks.map dO).take (st.tasks.length - 1)=st.tasks.dropLast.map dO:=by rw [cU,List.map_take]
  have hdn:st.tasks.length - 1=st.tasks.dropLast.length:=by rw [bM]
  replace h:=h.conv (f':=F.oft [(0,vp 0 0),(3,vN k),(5,vp 71 0)] [(0,.box [.d (.sl 3 ((al.map dN).map dP)),.d (.sl 2 (kids.map prI)),.own 999 st.places.length,.own 9 st.tasks.dropLast.length]),(9,.row 71 4 (st.tasks.dropLast.map dO)),(71,.box [.d (.sl 1 (x1.look.map za3)),.d (.sl 1 (x1.seen.map za3)),.d (.sl 1 (x1.next.map za3)),.d (.raw (.int .i64 x1.frm))])] (nsT 113 3 3 1 (plN st.places))) (by rw [hdl,hdn]; try kernel_rfl);refine zb8 zak (zap _) 72 [(2,.len (za9 1 za3 x1.look))] [] [(0,vp 0 0),(3,vN k),(5,vp 71 0),(41,vb (decide ((x1.look.length:Int)>0)))] [(0,.box [.d (.sl 3 ((al.map dN).map dP)),.d (.sl 2 (kids.map prI)),.own 999 st.places.length,.own 9 st.tasks.dropLast.length]),(9,.row 71 4 (st.tasks.dropLast.map dO)),(71,.box [.d (.sl 1 (x1.look.map za3)),.d (.sl 1 (x1.seen.map za3)),.d (.sl 1 (x1.next.map za3)),.d (.raw (.int .i64 x1.frm))])] (by kernel_rfl) (fun n_ h_=>by cases h_) h fun a w h=>?_;refine ze6 (decide ((x1.look.length:Int)>0)) h rfl (fun hc4=>?_) (fun hc5=>?_)
  ·have hc4':=dT hc4;refine rSTn zak (zap _) 72 [(2,.call (SLookR st.places.length st.tasks.dropLast x1 hk hal (B:=k) (by omega) (hI1.tk x1 (lM hx1)) (by have:=dT hc4;omega) (by rw [bM];omega)))] [18] [(0,vp 0 0),(3,vN k)] [(0,.box ([.d (.sl 3 ((al.map dN).map dP)),.d (.sl 2 (kids.map prI)),.own 999 st.places.length,.own 18 (st.tasks.dropLast++lkT al kids x1).length])),(18,.row 71 4 ((st.tasks.dropLast++lkT al kids x1).map dO))] (by kernel_rfl) (zdf [0,8] (fun n_ _ h_=>h_) (by kernel_rfl)) h fun a w h=>?_;refine za7 (za1 ?_);replace h:=ns_ren0 18 9 rfl rfl (by simp) h (by kernel_rfl) [(0,vp 0 0),(3,vN k)] [(0,.box ([.d (.sl 3 ((al.map dN).map dP)),.d (.sl 2 (kids.map prI)),.own 999 st.places.length,.own 9 (st.tasks.dropLast++lkT al kids x1).length])),(9,.row 71 4 ((st.tasks.dropLast++lkT al kids x1).map dO))] (by kernel_rfl) (by kernel_rfl) (by kernel_rfl)
   have hst:stpT al kids st x1=some (TbS.mk st.places (st.tasks.dropLast++lkT al kids x1)):=by unfold stpT;cases hl9:x1.look with
    | nil=>have:=dT hc4;rw [hl9] at this;simp at this
    | cons i9 r9=>rfl
   refine rSTn zak (zap _) 72 [(1,.add .i64 (m:=(k:Int)) (n:=1) i6)] [] [(0,vp 0 0),(3,vI ((k:Int)+1))] [(0,.box ([.d (.sl 3 ((al.map dN).map dP)),.d (.sl 2 (kids.map prI)),.own 999 st.places.length,.own 9 (st.tasks.dropLast++lkT al kids x1).length])),(9,.row 71 4 ((st.tasks.dropLast++lkT al kids x1).map dO))] (by kernel_rfl) (fun n_ h_=>by cases h_) h fun a w h=>?_;refine za1 ?_;refine zeb (x:=(k,st)) (y:=(k+1,(TbS.mk st.places (st.tasks.dropLast++lkT al kids x1)))) (zap _) h ?_ ?_ (by kernel_rfl) (by kernel_rfl) (by kernel_rfl)
   ·have hsp:stpT al kids st x1=some (TbS.mk st.places (st.tasks.dropLast++lkT al kids x1)):=hst;exact ⟨stp_ok hk hI1 hla hsp,by omega,by rw [<- hI3,show 65536 - k=(65536 - (k+1))+1 by omega,zd6 hla,hsp];rfl⟩
   show 65536 - (k+1)<65536 - k;omega
  have hc5':=dF hc5;have hxo:=hI1.tk x1 (lM hx1);have hll:=hxo.ll;have hls:=hxo.ls;have hln:=hxo.ln;have hl0:x1.look=[]:=cV.1 (by have:=dF hc5;omega);have hst:stpT al kids st x1=(finT st.places x1).map fun r=>⟨r.1,st.tasks.dropLast++r.2⟩:=by unfold stpT;rw [hl0]
  have hfc:=SFinished al kids st.tasks.dropLast st.places x1 hI1.pn (by rw [bM];have:=hI1.tn;omega) (fun p hp=>⟨by have:=(hI1.pl p hp).lf;omega,by have:=(hI1.pl p hp).ls;omega,by have:=(hI1.pl p hp).ln;omega⟩) (by omega) (by omega);replace h:=atST (zap _) (sl':=[(0,vp 0 0),(3,vN k),(5,vp 71 0),(41,vb (decide ((x1.look.length:Int)>0)))]) (lc':=[(0,.box [.d (.sl 3 ((al.map dN).map dP)),.d (.sl 2 (kids.map prI)),.own 999 st.places.length,.own 9 st.tasks.dropLast.length]),(9,.row 71 4 (st.tasks.dropLast.map dO)),(71,.box [.d (.sl 1 (x1.look.map za3)),.d (.sl 1 (x1.seen.map za3)),.d (.sl 1 (x1.next.map za3)),.d (.raw (.int .i64 x1.frm))])]) h (by kernel_rfl) (by kernel_rfl) (by kernel_rfl)
  cases hfin:finT st.places x1 with
  | none =>
   have hfd:Fn dJ 62 (nsL 113 3 3 1 999 nm0 (plN st.places) [(0,.box [.d (.sl 3 ((al.map dN).map dP)),.d (.sl 2 (kids.map prI)),.own 999 st.places.length,.own 9 st.tasks.dropLast.length]),(9,.row 71 4 (st.tasks.dropLast.map dO))]) [vp 0 0,.t (.agg [.d (.sl 1 (x1.look.map za3)),.d (.sl 1 (x1.seen.map za3)),.d (.sl 1 (x1.next.map za3)),.d (.raw (.int .i64 x1.frm))])] (vb false) ([(0,q9 al kids)]):=by unfold finQ at hfc;rw [hfin] at hfc;exact hfc
   refine qW (regionC (g:=F.oft [(0,vp 0 0),(3,vN k),(48,vb true)] [(0,q9 al kids)] (fun _=>none)) ?_ h ?_)
   ·show Chn _ _ _ _ _ [0,1,2,3];refine .cons { rs:=[(0,vp 0 0)],ws:=[(45,some (vp 0 0))] } rfl (.run rfl (Op.move (dL 0 _))) (zfw (by kernel_rfl) rfl) (rd (by kernel_rfl) (by kernel_rfl)) (fun n hn=>by cases hn) ?_;refine .cons { rs:=[(5,vp 71 0)],rl:=[(71,.box [.d (.sl 1 (x1.look.map za3)),.d (.sl 1 (x1.seen.map za3)),.d (.sl 1 (x1.next.map za3)),.d (.raw (.int .i64 x1.frm))])],ws:=[(46,some (.t (.agg [.d (.sl 1 (x1.look.map za3)),.d (.sl 1 (x1.seen.map za3)),.d (.sl 1 (x1.next.map za3)),.d (.raw (.int .i64 x1.frm))])))] } rfl (.run rfl (Op.load_agg vb2_7 rfl rfl)) (zfw (by kernel_rfl) rfl) (rd (by kernel_rfl) (by kernel_rfl)) (fun n hn=>by cases hn) ?_;refine .cons (zcn [(45,vp 0 0),(46,.t (.agg [.d (.sl 1 (x1.look.map za3)),.d (.sl 1 (x1.seen.map za3)),.d (.sl 1 (x1.next.map za3)),.d (.raw (.int .i64 x1.frm))]))] (nsL 113 3 3 1 999 nm0 (plN st.places) [(0,.box [.d (.sl 3 ((al.map dN).map dP)),.d (.sl 2 (kids.map prI)),.own 999 st.places.length,.own 9 st.tasks.dropLast.length]),(9,.row 71 4 (st.tasks.dropLast.map dO))]) ([(0,q9 al kids)]) 47 (vb false)) rfl (.run rfl (Op.call hfd vb7_3 (OVs.cons (dL 45 _) (OVs.cons (dL 46 _) .nil)))) (zfw (by kernel_rfl) rfl) ⟨fun p hp=>zam (show ([(45,vp 0 0),(46,.t (.agg [.d (.sl 1 (x1.look.map za3)),.d (.sl 1 (x1.seen.map za3)),.d (.sl 1 (x1.next.map za3)),.d (.raw (.int .i64 x1.frm))]))]).map (fun p=>(((F.oft [(0,vp 0 0),(3,vN k),(5,vp 71 0),(41,vb (decide ((x1.look.length:Int)>0)))] [(0,.box [.d (.sl 3 ((al.map dN).map dP)),.d (.sl 2 (kids.map prI)),.own 999 st.places.length,.own 9 st.tasks.dropLast.length]),(9,.row 71 4 (st.tasks.dropLast.map dO)),(71,.box [.d (.sl 1 (x1.look.map za3)),.d (.sl 1 (x1.seen.map za3)),.d (.sl 1 (x1.next.map za3)),.d (.raw (.int .i64 x1.frm))])] (nsT 113 3 3 1 (plN st.places))).app { rs:=[(0,vp 0 0)],ws:=[(45,some (vp 0 0))] }).app { rs:=[(5,vp 71 0)],rl:=[(71,.box [.d (.sl 1 (x1.look.map za3)),.d (.sl 1 (x1.seen.map za3)),.d (.sl 1 (x1.next.map za3)),.d (.raw (.int .i64 x1.frm))])],ws:=[(46,some (.t (.agg [.d (.sl 1 (x1.look.map za3)),.d (.sl 1 (x1.seen.map za3)),.d (.sl 1 (x1.next.map za3)),.d (.raw (.int .i64 x1.frm))])))] }).s p.1)=([(45,vp 0 0),(46,.t (.agg [.d (.sl 1 (x1.look.map za3)),.d (.sl 1 (x1.seen.map za3)),.d (.sl 1 (x1.next.map za3)),.d (.raw (.int .i64 x1.frm))]))]).map (fun p=>some p.2) by kernel_rfl) p hp,ns_reads (sl:=[]) (fun _=>rfl) (by kernel_rfl) (by kernel_rfl)⟩ (fun n hn=>by simp only [zcn,List.mem_filter,List.map_cons,List.map_nil,bE] at hn;obtain ⟨rfl,h9⟩:=hn;rw [show zcm (List.map (·.1) (nsL 113 3 3 1 999 nm0 (plN st.places) [(0,.box [.d (.sl 3 ((al.map dN).map dP)),.d (.sl 2 (kids.map prI)),.own 999 st.places.length,.own 9 st.tasks.dropLast.length]),(9,.row 71 4 (st.tasks.dropLast.map dO))])) 0=true from zb5.2 (zcc.2 (.inl (by simp)))] at h9;cases h9) ?_;refine .cons { rs:=[(47,vb false)],ws:=[(48,some (vb true))] } rfl (.run rfl (Op.not (dL 47 _))) (zfw (by kernel_rfl) rfl) (rd (by kernel_rfl) (by kernel_rfl)) (fun n hn=>by cases hn) ?_;refine .nil ⟨fun t v hv=>zam (show leS _ [(0,vp 0 0),(3,vN k),(48,vb true)]=([(0,vp 0 0),(3,vN k),(48,vb true)]).map (fun p=>some p.2) by kernel_rfl) _ (zae hv),fun n l hn=>?_⟩;show ((((F.oft [(0,vp 0 0),(3,vN k),(5,vp 71 0),(41,vb (decide ((x1.look.length:Int)>0)))] [(0,.box [.d (.sl 3 ((al.map dN).map dP)),.d (.sl 2 (kids.map prI)),.own 999 st.places.length,.own 9 st.tasks.dropLast.length]),(9,.row 71 4 (st.tasks.dropLast.map dO)),(71,.box [.d (.sl 1 (x1.look.map za3)),.d (.sl 1 (x1.seen.map za3)),.d (.sl 1 (x1.next.map za3)),.d (.raw (.int .i64 x1.frm))])] (nsT 113 3 3 1 (plN st.places))).app { rs:=[(0,vp 0 0)],ws:=[(45,some (vp 0 0))] }).app { rs:=[(5,vp 71 0)],rl:=[(71,.box [.d (.sl 1 (x1.look.map za3)),.d (.sl 1 (x1.seen.map za3)),.d (.sl 1 (x1.next.map za3)),.d (.raw (.int .i64 x1.frm))])],ws:=[(46,some (.t (.agg [.d (.sl 1 (x1.look.map za3)),.d (.sl 1 (x1.seen.map za3)),.d (.sl 1 (x1.next.map za3)),.d (.raw (.int .i64 x1.frm))])))] }).app (zcn _ _ _ _ _)).l n=_;rw [callI_l]
    rcases zaz hn with h_ | ⟨_,h_⟩
    ·rw [h_]
    cases h_
   clear h;intro a w h;rw [oft_none] at h;refine cS true h (fun _=>?_) nofun
   refine Jq 72 [] [(0,vp 0 0),(2,vb false),(3,vN k)] [(0,q9 al kids)] h fun a w h=>?_;refine qV (zaa (za5 (za5 (zaa (za5 ?_)))));have hR9:runT9 al kids 65536 ⟨[],ts⟩=none:=by rw [<- hI3,show 65536 - k=(65535 - k)+1 by omega,zd6 hla,show stpT al kids st x1=none from (by rw [hst,hfin];rfl)];rfl
   have hq9:runQ al kids (runT9 al kids 65536 ⟨[],ts⟩)=[(0,q9 al kids)]:=by rw [hR9];rfl
   rw [hq9];rw [<- oft_none] at h;exact ns_retN [.c (.d (.raw (.bool false)))] h Exit.ret (.inl rfl) rfl ⟨vT9,trivial⟩ (by rw [hR9];rfl) (by kernel_rfl) (by kernel_rfl)
  | some r =>
   have hfd:Fn dJ 62 (nsL 113 3 3 1 999 nm0 (plN st.places) [(0,.box [.d (.sl 3 ((al.map dN).map dP)),.d (.sl 2 (kids.map prI)),.own 999 st.places.length,.own 9 st.tasks.dropLast.length]),(9,.row 71 4 (st.tasks.dropLast.map dO))]) [vp 0 0,.t (.agg [.d (.sl 1 (x1.look.map za3)),.d (.sl 1 (x1.seen.map za3)),.d (.sl 1 (x1.next.map za3)),.d (.raw (.int .i64 x1.frm))])] (vb true) (nsL 113 3 3 1 52 (nmP (finI st.places x1) 50) (plN r.1) [(0,.box ([.d (.sl 3 ((al.map dN).map dP)),.d (.sl 2 (kids.map prI)),.own 52 r.1.length,.own 18 (st.tasks.dropLast++r.2).length])),(18,.row 71 4 ((st.tasks.dropLast++r.2).map dO))]):=by unfold finQ at hfc;rw [hfin] at hfc;exact hfc
   obtain ⟨q9,hq9⟩:∃ q,r.1[finI st.places x1]?=some q:=fin_in hfin;refine qW (regionC (g:=F.oft [(0,vp 0 0),(3,vN k),(48,vb false)] [(52,.rowc 113 3 (nsH (nmP (finI st.places x1) 50) (plN r.1))),(50,.row 3 1 (q9.frm.map za3)),(0,.box ([.d (.sl 3 ((al.map dN).map dP)),.d (.sl 2 (kids.map prI)),.own 52 r.1.length,.own 18 (st.tasks.dropLast++r.2).length])),(18,.row 71 4 ((st.tasks.dropLast++r.2).map dO))] (nsN 113 3 3 1 none (nmP (finI st.places x1) 50) (plN r.1))) ?_ h ?_)
   ·show Chn _ _ _ _ _ [0,1,2,3];refine .cons { rs:=[(0,vp 0 0)],ws:=[(45,some (vp 0 0))] } rfl (.run rfl (Op.move (dL 0 _))) (zfw (by kernel_rfl) rfl) (rd (by kernel_rfl) (by kernel_rfl)) (fun n hn=>by cases hn) ?_;refine .cons { rs:=[(5,vp 71 0)],rl:=[(71,.box [.d (.sl 1 (x1.look.map za3)),.d (.sl 1 (x1.seen.map za3)),.d (.sl 1 (x1.next.map za3)),.d (.raw (.int .i64 x1.frm))])],ws:=[(46,some (.t (.agg [.d (.sl 1 (x1.look.map za3)),.d (.sl 1 (x1.seen.map za3)),.d (.sl 1 (x1.next.map za3)),.d (.raw (.int .i64 x1.frm))])))] } rfl (.run rfl (Op.load_agg vb2_7 rfl rfl)) (zfw (by kernel_rfl) rfl) (rd (by kernel_rfl) (by kernel_rfl)) (fun n hn=>by cases hn) ?_;have hnw9:∀ n ∈ [52,50,18],New [0,8] (((F.oft [(0,vp 0 0),(3,vN k),(5,vp 71 0),(41,vb (decide ((x1.look.length:Int)>0)))] [(0,.box [.d (.sl 3 ((al.map dN).map dP)),.d (.sl 2 (kids.map prI)),.own 999 st.places.length,.own 9 st.tasks.dropLast.length]),(9,.row 71 4 (st.tasks.dropLast.map dO)),(71,.box [.d (.sl 1 (x1.look.map za3)),.d (.sl 1 (x1.seen.map za3)),.d (.sl 1 (x1.next.map za3)),.d (.raw (.int .i64 x1.frm))])] (nsT 113 3 3 1 (plN st.places))).app { rs:=[(0,vp 0 0)],ws:=[(45,some (vp 0 0))] }).app { rs:=[(5,vp 71 0)],rl:=[(71,.box [.d (.sl 1 (x1.look.map za3)),.d (.sl 1 (x1.seen.map za3)),.d (.sl 1 (x1.next.map za3)),.d (.raw (.int .i64 x1.frm))])],ws:=[(46,some (.t (.agg [.d (.sl 1 (x1.look.map za3)),.d (.sl 1 (x1.seen.map za3)),.d (.sl 1 (x1.next.map za3)),.d (.raw (.int .i64 x1.frm))])))] }) n:=fun n hn=>((zdf [0,8] (fun _ _ h_=>h_) (ns:=[52,50,18]) (by kernel_rfl) n hn).app1 (app1_tags (by kernel_rfl) hn)).app1 (app1_tags (by kernel_rfl) hn)
    refine .cons (zcn [(45,vp 0 0),(46,.t (.agg [.d (.sl 1 (x1.look.map za3)),.d (.sl 1 (x1.seen.map za3)),.d (.sl 1 (x1.next.map za3)),.d (.raw (.int .i64 x1.frm))]))] (nsL 113 3 3 1 999 nm0 (plN st.places) [(0,.box [.d (.sl 3 ((al.map dN).map dP)),.d (.sl 2 (kids.map prI)),.own 999 st.places.length,.own 9 st.tasks.dropLast.length]),(9,.row 71 4 (st.tasks.dropLast.map dO))]) (nsL 113 3 3 1 52 (nmP (finI st.places x1) 50) (plN r.1) [(0,.box ([.d (.sl 3 ((al.map dN).map dP)),.d (.sl 2 (kids.map prI)),.own 52 r.1.length,.own 18 (st.tasks.dropLast++r.2).length])),(18,.row 71 4 ((st.tasks.dropLast++r.2).map dO))]) 47 (vb true)) rfl (.run rfl (Op.call hfd vb7_3 (OVs.cons (dL 45 _) (OVs.cons (dL 46 _) .nil)))) (zfw (by kernel_rfl) rfl) ⟨fun p hp=>zam (show ([(45,vp 0 0),(46,.t (.agg [.d (.sl 1 (x1.look.map za3)),.d (.sl 1 (x1.seen.map za3)),.d (.sl 1 (x1.next.map za3)),.d (.raw (.int .i64 x1.frm))]))]).map (fun p=>(((F.oft [(0,vp 0 0),(3,vN k),(5,vp 71 0),(41,vb (decide ((x1.look.length:Int)>0)))] [(0,.box [.d (.sl 3 ((al.map dN).map dP)),.d (.sl 2 (kids.map prI)),.own 999 st.places.length,.own 9 st.tasks.dropLast.length]),(9,.row 71 4 (st.tasks.dropLast.map dO)),(71,.box [.d (.sl 1 (x1.look.map za3)),.d (.sl 1 (x1.seen.map za3)),.d (.sl 1 (x1.next.map za3)),.d (.raw (.int .i64 x1.frm))])] (nsT 113 3 3 1 (plN st.places))).app { rs:=[(0,vp 0 0)],ws:=[(45,some (vp 0 0))] }).app { rs:=[(5,vp 71 0)],rl:=[(71,.box [.d (.sl 1 (x1.look.map za3)),.d (.sl 1 (x1.seen.map za3)),.d (.sl 1 (x1.next.map za3)),.d (.raw (.int .i64 x1.frm))])],ws:=[(46,some (.t (.agg [.d (.sl 1 (x1.look.map za3)),.d (.sl 1 (x1.seen.map za3)),.d (.sl 1 (x1.next.map za3)),.d (.raw (.int .i64 x1.frm))])))] }).s p.1)=([(45,vp 0 0),(46,.t (.agg [.d (.sl 1 (x1.look.map za3)),.d (.sl 1 (x1.seen.map za3)),.d (.sl 1 (x1.next.map za3)),.d (.raw (.int .i64 x1.frm))]))]).map (fun p=>some p.2) by kernel_rfl) p hp,ns_reads (sl:=[]) (fun _=>rfl) (by kernel_rfl) (by kernel_rfl)⟩ (ns_nw (M':=plN r.1) (fun j hj hji=>fin_lt hfin hj hji) (fun n hn h1 h2=>hnw9 n (by simp at hn h1 ⊢;omega))) ?_;refine .cons { rs:=[(47,vb true)],ws:=[(48,some (vb false))] } rfl (.run rfl (Op.not (dL 47 _))) (zfw (by kernel_rfl) rfl) (rd (by kernel_rfl) (by kernel_rfl)) (fun n hn=>by cases hn) ?_;refine .nil ⟨fun t v hv=>zam (show leS _ [(0,vp 0 0),(3,vN k),(48,vb false)]=([(0,vp 0 0),(3,vN k),(48,vb false)]).map (fun p=>some p.2) by kernel_rfl) _ (zae hv),fun n l hn=>?_⟩;exact ns_after (lc1:=[]) rfl rfl (zfb hq9) rfl rfl (by decide) (by kernel_rfl) rfl (fun n l h_=>by cases h_) rfl hn
   clear h;intro a w h;replace h:=ns_head 52 999 rfl rfl (by decide) (by decide) (by decide) (by simp) h (by kernel_rfl) rfl [(0,vp 0 0),(3,vN k),(48,vb false)] [(0,.box ([.d (.sl 3 ((al.map dN).map dP)),.d (.sl 2 (kids.map prI)),.own 999 r.1.length,.own 18 (st.tasks.dropLast++r.2).length])),(18,.row 71 4 ((st.tasks.dropLast++r.2).map dO))] (by kernel_rfl) (by kernel_rfl) (by kernel_rfl);replace h:=ns_shut (finI st.places x1) 50 (zfb hq9) rfl (by simp) h (by kernel_rfl) (by kernel_rfl) (by kernel_rfl);replace h:=ns_ren0 18 9 rfl rfl (by simp) h (by kernel_rfl) [(0,vp 0 0),(3,vN k),(48,vb false)] [(0,.box ([.d (.sl 3 ((al.map dN).map dP)),.d (.sl 2 (kids.map prI)),.own 999 r.1.length,.own 9 (st.tasks.dropLast++r.2).length])),(9,.row 71 4 ((st.tasks.dropLast++r.2).map dO))] (by kernel_rfl) (by kernel_rfl) (by kernel_rfl);replace h:St _ (F.oft [(0,vp 0 0),(3,vN k),(48,vb false)] [(0,.box ([.d (.sl 3 ((al.map dN).map dP)),.d (.sl 2 (kids.map prI)),.own 999 r.1.length,.own 9 (st.tasks.dropLast++r.2).length])),(9,.row 71 4 ((st.tasks.dropLast++r.2).map dO))] (nsT 113 3 3 1 (plN r.1))) a w:=h;refine ze6 false h rfl nofun (fun _=>?_)
   refine qU (za7 (za1 ?_));refine rSTn zak (zap _) 72 [(1,.add .i64 (m:=(k:Int)) (n:=1) i6)] [] [(0,vp 0 0),(3,vI ((k:Int)+1))] [(0,.box ([.d (.sl 3 ((al.map dN).map dP)),.d (.sl 2 (kids.map prI)),.own 999 r.1.length,.own 9 (st.tasks.dropLast++r.2).length])),(9,.row 71 4 ((st.tasks.dropLast++r.2).map dO))] (by kernel_rfl) (fun n_ h_=>by cases h_) h fun a w h=>?_;refine za1 ?_;refine zeb (x:=(k,st)) (y:=(k+1,(TbS.mk r.1 (st.tasks.dropLast++r.2)))) (zap _) h ?_ ?_ (by kernel_rfl) (by kernel_rfl) (by kernel_rfl)
   ·have hsp:stpT al kids st x1=some (TbS.mk r.1 (st.tasks.dropLast++r.2)):=(by rw [hst,hfin];rfl);exact ⟨stp_ok hk hI1 hla hsp,by omega,by rw [<- hI3,show 65536 - k=(65536 - (k+1))+1 by omega,zd6 hla,hsp];rfl⟩
   show 65536 - (k+1)<65536 - k;omega
 have hc6':=dF hc6;refine exA ?_;refine zb8 zak (zap _) 72 [] [] [(2,vb true)] [(0,.box [.d (.sl 3 ((al.map dN).map dP)),.d (.sl 2 (kids.map prI)),.own 999 st.places.length,.own 9 st.tasks.length]),(9,.row 71 4 (st.tasks.map dO))] (by kernel_rfl) (fun n_ h_=>by cases h_) h fun a w h=>?_;refine qV ?_;have hR9:runT9 al kids 65536 ⟨[],ts⟩=some st.places:=by rw [<- hI3];exact runT_none (by rw [List.getLast?_eq_none_iff];exact cV.1 (by have:=dF hc6;omega))
 replace h:=anyST 0 3 (cs:=[.d (.sl 3 ((al.map dN).map dP)),.d (.sl 2 (kids.map prI)),.own 999 st.places.length,.own 9 st.tasks.length]) (c:=.own 9 st.tasks.length) [(0,.box [.d (.sl 3 ((al.map dN).map dP)),.d (.sl 2 (kids.map prI)),.own 999 st.places.length,.any]),(9,.row 71 4 (st.tasks.map dO))] (zap _) rfl h rfl rfl rfl;have hq9:runQ al kids (runT9 al kids 65536 ⟨[],ts⟩)=nsL 113 3 3 1 999 nm0 (plN st.places) [(0,.box [.d (.sl 3 ((al.map dN).map dP)),.d (.sl 2 (kids.map prI)),.own 999 st.places.length,.any])]:=by rw [hR9];rfl
 rw [hq9];exact ns_ret0 [.c (.d (.raw (.bool true)))] h (by kernel_rfl) Exit.ret (.inl rfl) rfl ⟨vT9,trivial⟩ (by rw [hR9];rfl) (by kernel_rfl) (by kernel_rfl)
theorem vb8_5:Sz dJ 83 3 true:=Sz.mk' (by kernel_rfl) Tryz.underlying83 _ rfl
theorem vb8_9:ArT dJ 110 3 2 1:=ArT.mk' Tryz.underlying110 (by kernel_rfl)
theorem zce {β:Type} {f:α->Option β} {xs:List α} {x:α} (h:xs[j]?=some x):(xs.take (j+1)).filterMap f=(xs.take j).filterMap f++(f x).toList:=by
 rw [bP,h]
 simp only [cA,List.filterMap_append,List.filterMap_cons,List.filterMap_nil]
 cases f x <;> rfl
def naV (f:PF):Int:=match f with
  | .na v=>v
  | _=>0
theorem pa_of (h:al[n]?=some f) (k:f.l.kind=2):paT al (n:Int)=some f.l.prop:=by
 unfold paT;rw [zdc h];cases f <;> first | rfl | (simp [dN,dQ] at k)
theorem pa_no (h:al[n]?=some f) (k:¬ f.l.kind=2):paT al (n:Int)=none:=by
 unfold paT;rw [zdc h];cases f <;> first | rfl | (simp [dN,dQ] at k)
theorem na_of (h:al[n]?=some f) (k:f.l.kind=3):naT al (n:Int)=some (naV f):=by
 unfold naT;rw [zdc h];cases f <;> first | rfl | (simp [dN,dQ] at k)
theorem na_no (h:al[n]?=some f) (k:¬ f.l.kind=3):naT al (n:Int)=none:=by
 unfold naT;rw [zdc h];cases f <;> first | rfl | (simp [dN,dQ] at k)
theorem na_kid (k:f.l.kind=3):f.l.kids[0]?=some (za2.mk 2 (naV f) []):=by
 cases f <;> first | rfl | (simp [dN,dQ] at k)
theorem nat_at {xs:List Int} (h:∀ i ∈ xs,InZ m i) (hj:j<xs.length):∃ n:Nat,xs[j]?=some (n:Int)/\n<m:=by
 have h1:=h xs[j] (cL hj)
 exact ⟨xs[j].toNat,by rw [bI hj];congr 1;have:=h1.1;omega,by have:=h1.2;have:=h1.1;omega⟩
def zeo (ps:List zas) (kids:List (Int × Int)) (i:Int) (j:Nat):List Int:=((ps.zipIdx.take j).filter fun q=>fulB kids i q.1).map fun q=>((q.2:Nat):Int)
theorem ful_step {ps:List zas} {kids:List (Int × Int)} {i:Int} (h:ps[j]?=some p):zeo ps kids i (j+1)=zeo ps kids i j++if fulB kids i p=true then [(j:Int)] else []:=by
 unfold zeo
 have hz:ps.zipIdx[j]?=some (p,j):=by rw [cM,h];simp
 rw [bP,hz]
 simp only [cA,cW,bS]
 congr 1
 by_cases e:fulB kids i p=true
 ·rw [if_pos e];simp [e]
 ·rw [if_neg e];simp [e]
theorem ful_all (ps:List zas) (kids:List (Int × Int)) (i:Int):zeo ps kids i ps.length=zhe ps kids i:=by unfold zeo zhe;rw [bN (by simp)]
theorem ful_le (ps:List zas) (kids:List (Int × Int)) (i:Int) (j:Nat):(zeo ps kids i j).length<=j:=by
 unfold zeo;rw [bA]
 refine bL (cX _ _) ?_
 rw [bQ];omega
structure NdN where
  must:List Int
  never:List Int
def NdN.d (x:NdN):List D:=[.sl 1 (x.must.map za3),.sl 1 (x.never.map za3),.raw za6]
noncomputable def ndA (al:List PF) (p:zas):NdN:=⟨zb2 (p.seen.filterMap (paT al)),zb2 (p.seen.filterMap (naT al))⟩
theorem SSortN20 (xs:List Int) (hl:xs.length<=1000000):Fn dJ 68 [(20,.row 3 1 (xs.map za3))] [vO 20 xs.length] (.tup []) [(20,.row 3 1 ((zb2 xs).map za3))] :=
 Fn.renA 0 20 (SSortI xs hl) rfl rfl rfl rfl rfl rfl rfl
theorem SSortN21 (xs:List Int) (hl:xs.length<=1000000):Fn dJ 68 [(21,.row 3 1 (xs.map za3))] [vO 21 xs.length] (.tup []) [(21,.row 3 1 ((zb2 xs).map za3))] :=
 Fn.renA 0 21 (SSortI xs hl) rfl rfl rfl rfl rfl rfl rfl
theorem SNode (v1 v2 v3:Value) (al:List PF) (p:zas) (hal:al.length<=1000000) (hin:∀ i ∈ p.seen,InZ al.length i) (hsl:p.seen.length<=1000000):Fn dJ 63 [(0,.box [.d (.sl 3 ((al.map dN).map dP)),.d (.raw v1),.d (.raw v2),.d (.raw v3)])] [vp 0 0,vG [cIs p.seen,cIs p.next,cIs p.frm]] (vG [cIs (ndA al p).must,cIs (ndA al p).never,nCl]) [(0,.box [.d (.sl 3 ((al.map dN).map dP)),.d (.raw v1),.d (.raw v2),.d (.raw v3)])]:=by
 have hlm:(al.map dN).length=al.length:=bA _;refine fB Tryz.func63 rfl 54 fun w H B a h=>Jq 30 [] [(0,vp 0 0),(3,vp 30 0),(4,vp 31 0)] [(0,.box [.d (.sl 3 ((al.map dN).map dP)),.d (.raw v1),.d (.raw v2),.d (.raw v3)]),(30,.box [cIs p.seen,cIs p.next,cIs p.frm]),(31,.box [nCl,nCl,nCl])] h fun a w h=>Jg 32 [] [] [(5,vp 32 0)] [] [(32,.box [nCl,nCl,nCl])] h fun a w h=>qW (Jg 33 [(2,.len (za9 1 za3 p.seen))] [3] [(10,(vIs p.seen)),(11,vN p.seen.length),(12,vI 0)] [30] [] h fun a w h=>qZ ?_)
 replace h:=zft 32 0 33 1 3 [nCl,nCl,nCl] h;replace h:=zft 32 1 34 1 3 [.own 33 0,nCl,nCl] h;replace h:=zb7 33 20 h;replace h:=zb7 34 21 h;replace h:=cvM [] [] [] [(32,.box [.own 20 ((p.seen.take 0).filterMap (paT al)).length,.own 21 ((p.seen.take 0).filterMap (naT al)).length,nCl]),(20,.row 3 1 (((p.seen.take 0).filterMap (paT al)).map za3)),(21,.row 3 1 (((p.seen.take 0).filterMap (naT al)).map za3))] (by kernel_rfl) h
 refine zdp (ι:=(Nat)) (fun j=>j<=p.seen.length)
   [] (fun j=>[(12,vN j)])
   [] (fun j=>[(32,.box [.own 20 ((p.seen.take j).filterMap (paT al)).length,.own 21 ((p.seen.take j).filterMap (naT al)).length,nCl]),(20,.row 3 1 (((p.seen.take j).filterMap (paT al)).map za3)),(21,.row 3 1 (((p.seen.take j).filterMap (naT al)).map za3))])
   (fun j=>p.seen.length - j) 0 ?_ h ?_
 ·exact bF _
 clear h;rintro j a w hI h;have hmj:=cN (paT al) (p.seen.take j);rw [bQ] at hmj;have hnj:=cN (naT al) (p.seen.take j);rw [bQ] at hnj;refine Je 35 [] [] [(13,vb (decide ((j:Int)<(p.seen.length:Int))))] h fun a w h=>qW (zav ((j:Int)<(p.seen.length:Int)) h (fun hc1 hc1'=>?_) (fun hc6 hc6'=>?_))
 ·refine qU (za1 (qW (qZ ?_)));obtain ⟨n1,hn1,bn1⟩:=nat_at hin (j:=j) (by first | omega | (simp at *;omega));refine Jp 35 [(0,.g (xD 14 10 zcz (zab hn1 (f:=za3)) (dL 12 _)))] [(0,vp 0 0),(4,vp 31 0),(5,vp 32 0),(7,vN n1),(10,(vIs p.seen)),(11,vN p.seen.length),(12,vN j)] h fun a w h=>?_;obtain ⟨fn1,hfn1⟩:∃ f,al[n1]?=some f:=⟨_,bI bn1⟩;obtain ⟨fn1,hfn1⟩:∃ f,al[n1]?=some f:=⟨_,bI bn1⟩;refine Jd 35 [(1,.g (dM (d:=17) (t:=16) (n:=0) (o:=0))),(5,.g (xD 21 19 zha ((zab (show (al.map dN)[n1]?=some fn1.l by rw [bX,hfn1];rfl) (f:=dP)).trans (congrArg some (za2.d_eq fn1.l))) (dL 20 _)))] [7] [(8,vp 35 0)] [(0,.box [.d (.sl 3 ((al.map dN).map dP)),.d (.raw v1),.d (.raw v2),.d (.raw v3)]),(31,.box [nCl,nCl,nCl]),(32,.box [.own 20 ((p.seen.take j).filterMap (paT al)).length,.own 21 ((p.seen.take j).filterMap (naT al)).length,nCl]),(20,.row 3 1 (((p.seen.take j).filterMap (paT al)).map za3)),(21,.row 3 1 (((p.seen.take j).filterMap (naT al)).map za3)),(35,.box [cI fn1.l.kind,cI fn1.l.prop,.d (.sl 3 (fn1.l.kids.map dP))])] h fun a w h=>?_;refine Je 36 [] [] [(24,vI fn1.l.kind)] h fun a w h=>qZ (Je 36 [] [] [(25,vb (fn1.l.kind == 2))] h fun a w h=>cS (fn1.l.kind == 2) h (fun hc2=>?_) (fun hc3=>?_))
  ·refine Jh 36 [(4,.g (bD 31 ([fn1.l.prop].map za3) [(30,vI fn1.l.prop)] zgv (.cons (i:=0) (dL 30 _) (.nil)) (by kernel_rfl) (by simp [za3]))),(5,.g (Op.appOD (d:=32) (t:=28) (u:=31) (n:=20) (n':=36) (len:=((p.seen.take j).filterMap (paT al)).length) (len':=(((p.seen.take j).filterMap (paT al))++[fn1.l.prop]).length) (rows:=((p.seen.take j).filterMap (paT al)).map za3) (rows2:=[fn1.l.prop].map za3) (rows':=(((p.seen.take j).filterMap (paT al))++[fn1.l.prop]).map za3) tb_2 (by first | exact (bA _).symm | simp) (by first | (rw [bB,bA];done) | (simp;done) | (simp;omega)) (by simp) (by simp [za3]) (by first | omega | (simp at *;done) | (simp at *;omega))))] [8,24,25] [] [20,35] [(32,.box ([.own 36 (((p.seen.take j).filterMap (paT al))++[fn1.l.prop]).length,.own 21 ((p.seen.take j).filterMap (naT al)).length,nCl])),(36,.row 3 1 ((((p.seen.take j).filterMap (paT al))++[fn1.l.prop]).map za3))] h fun a w h=>za7 (za7 (za1 (Jf 37 [(0,.j1 j)] [] [(12,vI ((j:Int)+1))] h fun a w h=>za1 ?_)));replace h:=zb7 36 20 h;have hm1:(((p.seen.take j).filterMap (paT al))++[fn1.l.prop])=((p.seen.take (j+1)).filterMap (paT al)):=by rw [zce (f:=paT al) hn1,pa_of hfn1 (by have:=hc2;simpa using this)];first | done | rfl | exact (bC _).symm
   have hm2:((p.seen.take j).filterMap (naT al))=((p.seen.take (j+1)).filterMap (naT al)):=by rw [zce (f:=naT al) hn1,na_no hfn1 (by have:=hc2;simp at this;omega)];first | done | rfl | exact (bC _).symm
   replace h:=cvM [] [] [] [(32,.box [.own 20 ((p.seen.take (j+1)).filterMap (paT al)).length,.own 21 ((p.seen.take (j+1)).filterMap (naT al)).length,nCl]),(21,.row 3 1 (((p.seen.take (j+1)).filterMap (naT al)).map za3)),(20,.row 3 1 (((p.seen.take (j+1)).filterMap (paT al)).map za3))] (by rw [hm1,hm2]; try kernel_rfl) h;refine zaj (x:=j) (y:=j+1) h ?_ ?_
   ·have:=zal hn1;show j+1<=p.seen.length;omega
   have:=zal hn1;show p.seen.length - (j+1)<p.seen.length - j;omega
  refine Je 37 [] [24,25] [(34,vb (fn1.l.kind == 3))] h fun a w h=>cS (fn1.l.kind == 3) h (fun hc4=>?_) (fun hc5=>?_)
  ·refine Jh 37 [(4,.g (xD 40 39 zha ((zab (na_kid (by have:=hc4;simpa using this)) (f:=dP)).trans (congrArg some (za2.d_eq (za2.mk 2 (naV fn1) [])))) (OV.const (.int .i64 0) rfl))),(7,.g (bD 43 ([(za2.mk 2 (naV fn1) []).prop].map za3) [(42,vI (za2.mk 2 (naV fn1) []).prop)] zgv (.cons (i:=0) (dL 42 _) (.nil)) (by kernel_rfl) (by simp [za3]))),(8,.g (Op.appOD (d:=44) (t:=37) (u:=43) (n:=21) (n':=37) (len:=((p.seen.take j).filterMap (naT al)).length) (len':=(((p.seen.take j).filterMap (naT al))++[(za2.mk 2 (naV fn1) []).prop]).length) (rows:=((p.seen.take j).filterMap (naT al)).map za3) (rows2:=[(za2.mk 2 (naV fn1) []).prop].map za3) (rows':=(((p.seen.take j).filterMap (naT al))++[(za2.mk 2 (naV fn1) []).prop]).map za3) tb_2 (by first | exact (bA _).symm | simp) (by first | (rw [bB,bA];done) | (simp;done) | (simp;omega)) (by simp) (by simp [za3]) (by first | omega | (simp at *;done) | (simp at *;omega))))] [8,34] [] [21,35] [(32,.box ([.own 20 ((p.seen.take j).filterMap (paT al)).length,.own 37 (((p.seen.take j).filterMap (naT al))++[(za2.mk 2 (naV fn1) []).prop]).length,nCl])),(37,.row 3 1 ((((p.seen.take j).filterMap (naT al))++[(za2.mk 2 (naV fn1) []).prop]).map za3))] h fun a w h=>za7 (za7 (za1 (Jf 38 [(0,.j1 j)] [] [(12,vI ((j:Int)+1))] h fun a w h=>za1 ?_)));replace h:=zb7 37 21 h;have hm1:((p.seen.take j).filterMap (paT al))=((p.seen.take (j+1)).filterMap (paT al)):=by rw [zce (f:=paT al) hn1,pa_no hfn1 (by have:=hc3;simpa using this)];first | done | rfl | exact (bC _).symm
   have hm2:(((p.seen.take j).filterMap (naT al))++[(za2.mk 2 (naV fn1) []).prop])=((p.seen.take (j+1)).filterMap (naT al)):=by rw [zce (f:=naT al) hn1,na_of hfn1 (by have:=hc4;simpa using this)];first | done | rfl | exact (bC _).symm
   replace h:=cvM [] [] [] [(32,.box [.own 20 ((p.seen.take (j+1)).filterMap (paT al)).length,.own 21 ((p.seen.take (j+1)).filterMap (naT al)).length,nCl]),(20,.row 3 1 (((p.seen.take (j+1)).filterMap (paT al)).map za3)),(21,.row 3 1 (((p.seen.take (j+1)).filterMap (naT al)).map za3))] (by rw [hm1,hm2]; try kernel_rfl) h;refine zaj (x:=j) (y:=j+1) h ?_ ?_
   ·have:=zal hn1;show j+1<=p.seen.length;omega
   have:=zal hn1;show p.seen.length - (j+1)<p.seen.length - j;omega
  refine qU (za7 (za7 (za1 (Jh 38 [(0,.j1 j)] [8,34] [(12,vI ((j:Int)+1))] [35] [] h fun a w h=>za1 ?_))));have hm1:((p.seen.take j).filterMap (paT al))=((p.seen.take (j+1)).filterMap (paT al)):=by rw [zce (f:=paT al) hn1,pa_no hfn1 (by have:=hc3;simpa using this)];first | done | rfl | exact (bC _).symm
  have hm2:((p.seen.take j).filterMap (naT al))=((p.seen.take (j+1)).filterMap (naT al)):=by rw [zce (f:=naT al) hn1,na_no hfn1 (by have:=hc5;simpa using this)];first | done | rfl | exact (bC _).symm
  replace h:=cvM [] [] [] [(32,.box [.own 20 ((p.seen.take (j+1)).filterMap (paT al)).length,.own 21 ((p.seen.take (j+1)).filterMap (naT al)).length,nCl]),(20,.row 3 1 (((p.seen.take (j+1)).filterMap (paT al)).map za3)),(21,.row 3 1 (((p.seen.take (j+1)).filterMap (naT al)).map za3))] (by rw [hm1,hm2]; try kernel_rfl) h;refine zaj (x:=j) (y:=j+1) h ?_ ?_
  ·have:=zal hn1;show j+1<=p.seen.length;omega
  have:=zal hn1;show p.seen.length - (j+1)<p.seen.length - j;omega
 refine exA ?_;have hjl:p.seen.take j=p.seen:=bN (by have:=dF hc6;omega);replace h:=cvM [] [] [] [(32,.box [.own 20 (p.seen.filterMap (paT al)).length,.own 21 (p.seen.filterMap (naT al)).length,nCl]),(20,.row 3 1 ((p.seen.filterMap (paT al)).map za3)),(21,.row 3 1 ((p.seen.filterMap (naT al)).map za3))] (by rw [hjl]; try kernel_rfl) h;have hmA:(p.seen.filterMap (paT al)).length<=1000000:=by have:=cN (paT al) p.seen;omega
 have hmB:(p.seen.filterMap (naT al)).length<=1000000:=by have:=cN (naT al) p.seen;omega
 refine Jg 38 [(2,.call (SSortN20 (p.seen.filterMap (paT al)) (by omega)))] [0,10,11,12,13] [] [] [(20,.row 3 1 ((zb2 (p.seen.filterMap (paT al))).map za3))] h fun a w h=>Jg 38 [(2,.call (SSortN21 (p.seen.filterMap (naT al)) (by omega)))] [] [] [] [(21,.row 3 1 ((zb2 (p.seen.filterMap (naT al))).map za3))] h fun a w h=>Jg 38 [] [5] [] [32] [(31,.box [.own 20 (p.seen.filterMap (paT al)).length,.own 21 (p.seen.filterMap (naT al)).length,nCl])] h fun a w h=>qV ?_;replace h:=cvM [] [] [] [(31,.box [.own 20 (zb2 (p.seen.filterMap (paT al))).length,.own 21 (zb2 (p.seen.filterMap (naT al))).length,nCl])] (by rw [zbs,zbs]; try kernel_rfl) h;replace h:=pubKX 20 1 3 ((zb2 (p.seen.filterMap (paT al))).map za3) h [(zb2 (p.seen.filterMap (paT al))).length] ⟨by first | exact (bA _).symm | (simp;done) | (simp;omega),trivial⟩;replace h:=pubKX 21 1 3 ((zb2 (p.seen.filterMap (naT al))).map za3) h [(zb2 (p.seen.filterMap (naT al))).length] ⟨by first | exact (bA _).symm | (simp;done) | (simp;omega),trivial⟩;refine rA 31 [cIs (zb2 (p.seen.filterMap (paT al))),cIs (zb2 (p.seen.filterMap (naT al))),nCl] h vb8_5 rfl ?_;rfl
theorem SFulfilled (v0 v3:Value) (kids:List (Int × Int)) (ps:List zas) (n:Nat) (kk:Int × Int) (hk:kids[n]?=some kk) (hpl:ps.length<=1000000) (hps:∀ p ∈ ps,SRi p.seen/\p.seen.length<=1000000):Fn dJ 65 [(0,.box [.d (.raw v0),.d (.sl 2 (kids.map prI)),.d (.sl 3 (ps.map zas.d)),.d (.raw v3)])] [vp 0 0,vN n] (vIs (zhe ps kids (n:Int))) [(0,.box [.d (.raw v0),.d (.sl 2 (kids.map prI)),.d (.sl 3 (ps.map zas.d)),.d (.raw v3)])]:=by
 refine fB Tryz.func65 rfl 42 fun w H B a h=>Jq 30 [] [(0,vp 0 0),(1,vN n),(4,vW za6)] [(0,.box [.d (.raw v0),.d (.sl 2 (kids.map prI)),.d (.sl 3 (ps.map zas.d)),.d (.raw v3)])] h fun a w h=>Je 30 [] [] [(5,vW za6)] h fun a w h=>qW (Je 30 [(1,.g (dM (d:=9) (t:=8) (n:=0) (o:=0))),(4,.len (za9 3 zas.d ps))] [] [(11,vS 3 (ps.map zas.d)),(12,vN ps.length),(13,vI 0)] h fun a w h=>qZ ?_)
 replace h:=zdb 5 0 30 1 3 (vW za6) h;replace h:=zb7 30 20 h;replace h:=cvM [] [(5,vO 20 (zeo ps kids (n:Int) 0).length)] [] [(20,.row 3 1 ((zeo ps kids (n:Int) 0).map za3))] (by kernel_rfl) h
 refine zdp (ι:=(Nat)) (fun j=>j<=ps.length)
   [] (fun j=>[(5,vO 20 (zeo ps kids (n:Int) j).length),(13,vN j)])
   [] (fun j=>[(20,.row 3 1 ((zeo ps kids (n:Int) j).map za3))])
   (fun j=>ps.length - j) 0 ?_ h ?_
 ·exact bF _
 clear h;rintro j a w hI h;have hfl:=ful_le ps kids (n:Int) j;refine Je 31 [] [] [(14,vb (decide ((j:Int)<(ps.length:Int))))] h fun a w h=>qW (zav ((j:Int)<(ps.length:Int)) h (fun hc1 hc1'=>?_) (fun hc6 hc6'=>?_))
 ·refine qU (za1 (qW (qZ ?_)));obtain ⟨x1,hx1⟩:=gl ps j;refine Jg 31 [(1,.g (xD 16 11 vb6_0 (zab hx1 (f:=zas.d)) (dL 13 _)))] [14] [(6,vN j),(7,vp 31 0)] [] [(31,.box [cIs x1.seen,cIs x1.next,cIs x1.frm])] h fun a w h=>?_
  rcases bH (decide ((n:Int) ∈ x1.seen)) with hc2 | hc5
  ·have hc2':=dT hc2;refine Jg 32 [(3,.call (Fn.cast (SHas x1.seen (n:Int) (hps x1 (lM hx1)).1 (hps x1 (lM hx1)).2) (congrArg vb hc2))),(9,.g (dM (d:=27) (t:=26) (n:=0) (o:=0))),(13,.g (xD 31 29 vb3_14 (zab hk (f:=prI)) (dL 30 _))),(14,.g (Op.idxAE (d:=32) (t:=31) (i:=1) (k:=.i64) (xs:=[.raw (.int .i64 kk.1),.raw (.int .i64 kk.2)]) vb8_9 (by decide) (OV.const (.int .i64 1) rfl) _ rfl)),(16,.call (SHas x1.seen kk.2 (hps x1 (lM hx1)).1 (hps x1 (lM hx1)).2))] [7] [(35,vb (decide (kk.2 ∈ x1.seen)))] [31] [] h fun a w h=>zav (kk.2 ∈ x1.seen) h (fun hc3 hc3'=>?_) (fun hc4 hc4'=>?_)
   ·refine Jh 32 [(2,.g (bD 38 ([(j:Int)].map za3) [(37,vN j)] zgv (.cons (i:=0) (dL 37 _) (.nil)) (by kernel_rfl) (by simp [za3]))),(3,.g (Op.appOD (d:=39) (t:=36) (u:=38) (n:=20) (n':=32) (len:=(zeo ps kids (n:Int) j).length) (len':=((zeo ps kids (n:Int) j)++[(j:Int)]).length) (rows:=(zeo ps kids (n:Int) j).map za3) (rows2:=[(j:Int)].map za3) (rows':=((zeo ps kids (n:Int) j)++[(j:Int)]).map za3) tb_2 (by first | exact (bA _).symm | simp) (by first | (rw [bB,bA];done) | (simp;done) | (simp;omega)) (by simp) (by simp [za3]) (by first | omega | (simp at *;done) | (simp at *;omega))))] [6,35] [(5,vO 32 ((zeo ps kids (n:Int) j)++[(j:Int)]).length)] [20] [(32,.row 3 1 (((zeo ps kids (n:Int) j)++[(j:Int)]).map za3))] h fun a w h=>za7 (za1 (Jf 33 [(0,.j1 j)] [] [(13,vI ((j:Int)+1))] h fun a w h=>za1 ?_));replace h:=zb7 32 20 h;have hfb:fulB kids (n:Int) x1=true:=by unfold fulB;rw [zgd hk,b7,b7,hc2,hc3];rfl
    have hrw:((zeo ps kids (n:Int) j)++[(j:Int)])=(zeo ps kids (n:Int) (j+1)):=by rw [ful_step hx1,hfb];first | done | rfl | exact (bC _).symm
    replace h:=cvM [] [(5,vO 20 (zeo ps kids (n:Int) (j+1)).length)] [] [(20,.row 3 1 ((zeo ps kids (n:Int) (j+1)).map za3))] (by rw [hrw]; try kernel_rfl) h;refine zaj (x:=j) (y:=j+1) h ?_ ?_
    ·have:=zal hx1;show j+1<=ps.length;omega
    have:=zal hx1;show ps.length - (j+1)<ps.length - j;omega
   refine qU (za7 (za1 (Jf 33 [(0,.j1 j)] [6,35] [(13,vI ((j:Int)+1))] h fun a w h=>za1 ?_)));have hfb:fulB kids (n:Int) x1=false:=by unfold fulB;rw [zgd hk,b7,b7,hc2,hc4];rfl
   have hrw:(zeo ps kids (n:Int) j)=(zeo ps kids (n:Int) (j+1)):=by rw [ful_step hx1,hfb];first | done | rfl | exact (bC _).symm
   replace h:=cvM [] [(5,vO 20 (zeo ps kids (n:Int) (j+1)).length)] [] [(20,.row 3 1 ((zeo ps kids (n:Int) (j+1)).map za3))] (by rw [hrw]; try kernel_rfl) h;refine zaj (x:=j) (y:=j+1) h ?_ ?_
   ·have:=zal hx1;show j+1<=ps.length;omega
   have:=zal hx1;show ps.length - (j+1)<ps.length - j;omega
  have hc5':=dF hc5;refine Jg 33 [(3,.call (Fn.cast (SHas x1.seen (n:Int) (hps x1 (lM hx1)).1 (hps x1 (lM hx1)).2) (congrArg vb hc5)))] [7] [(35,vb true)] [31] [] h fun a w h=>cS true h (fun _=>?_) nofun
  refine Jh 33 [(2,.g (bD 38 ([(j:Int)].map za3) [(37,vN j)] zgv (.cons (i:=0) (dL 37 _) (.nil)) (by kernel_rfl) (by simp [za3]))),(3,.g (Op.appOD (d:=39) (t:=36) (u:=38) (n:=20) (n':=33) (len:=(zeo ps kids (n:Int) j).length) (len':=((zeo ps kids (n:Int) j)++[(j:Int)]).length) (rows:=(zeo ps kids (n:Int) j).map za3) (rows2:=[(j:Int)].map za3) (rows':=((zeo ps kids (n:Int) j)++[(j:Int)]).map za3) tb_2 (by first | exact (bA _).symm | simp) (by first | (rw [bB,bA];done) | (simp;done) | (simp;omega)) (by simp) (by simp [za3]) (by first | omega | (simp at *;done) | (simp at *;omega))))] [6,35] [(5,vO 33 ((zeo ps kids (n:Int) j)++[(j:Int)]).length)] [20] [(33,.row 3 1 (((zeo ps kids (n:Int) j)++[(j:Int)]).map za3))] h fun a w h=>za7 (za1 (Jf 34 [(0,.j1 j)] [] [(13,vI ((j:Int)+1))] h fun a w h=>za1 ?_));replace h:=zb7 33 20 h;have hfb:fulB kids (n:Int) x1=true:=by unfold fulB;rw [zgd hk,b7,b7,hc5];rfl
  have hrw:((zeo ps kids (n:Int) j)++[(j:Int)])=(zeo ps kids (n:Int) (j+1)):=by rw [ful_step hx1,hfb];first | done | rfl | exact (bC _).symm
  replace h:=cvM [] [(5,vO 20 (zeo ps kids (n:Int) (j+1)).length)] [] [(20,.row 3 1 ((zeo ps kids (n:Int) (j+1)).map za3))] (by rw [hrw]; try kernel_rfl) h;refine zaj (x:=j) (y:=j+1) h ?_ ?_
  ·have:=zal hx1;show j+1<=ps.length;omega
  have:=zal hx1;show ps.length - (j+1)<ps.length - j;omega
 refine exA (Jp 34 [] [(4,vO 20 (zeo ps kids (n:Int) j).length)] h fun a w h=>qV ?_);have hft:(zeo ps kids (n:Int) j)=(zhe ps kids (n:Int)):=by rw [<- ful_all,show j=ps.length by have:=dF hc6;omega]
 replace h:=cvM [] [(4,vO 20 (zhe ps kids (n:Int)).length)] [] [(20,.row 3 1 ((zhe ps kids (n:Int)).map za3))] (by rw [hft]; try kernel_rfl) h;replace h:=pubKX 20 1 3 ((zhe ps kids (n:Int)).map za3) h [(zhe ps kids (n:Int)).length] ⟨by first | exact (bA _).symm | (simp;done) | (simp;omega),trivial⟩;refine rT (.c (cIs (zhe ps kids (n:Int)))) h rfl ?_;rfl
structure GS where
  nodes:List za4
  first:List Int
def addF (s:GS) (i:Nat) (f:Int):GS:=if f<0 then ⟨s.nodes,s.first++[(i:Int)]⟩ else ⟨s.nodes.modify f.toNat fun nd=>⟨nd.must,nd.never,nd.next++[(i:Int)]⟩,s.first⟩
def zah (s:GS) (i:Nat) (fs:List Int):GS:=fs.foldl (fun s f=>addF s i f) s
noncomputable def gs0 (al:List PF) (ps:List zas):GS:=⟨ps.map fun p=>⟨(ndA al p).must,(ndA al p).never,[]⟩,[]⟩
noncomputable def gsJ (al:List PF) (ps:List zas) (j:Nat):GS:=(ps.zipIdx.take j).foldl (fun s q=>zah s q.2 (zad q.1.frm)) (gs0 al ps)
theorem zgn {s:GS} {fs:List Int} {f:Int} (h:fs[m]?=some f):zah s i (fs.take (m+1))=addF (zah s i (fs.take m)) i f:=by
 unfold zah;rw [bP,h,cY];rfl
theorem gsJ_snoc {ps:List zas} (h:ps[j]?=some p):gsJ al ps (j+1)=zah (gsJ al ps j) j (zad p.frm):=by
 have hz:ps.zipIdx[j]?=some (p,j):=by rw [cM,h];simp
 unfold gsJ;rw [bP,hz,cY];rfl
theorem addF_neg {s:GS} {f:Int} (h:f<0):addF s i f=⟨s.nodes,s.first++[(i:Int)]⟩:=if_pos h
theorem addF_pos {s:GS} {k:Nat} {nd:za4} (h:s.nodes[k]?=some nd):addF s i (k:Int)=⟨s.nodes.set k ⟨nd.must,nd.never,nd.next++[(i:Int)]⟩,s.first⟩:=by
 unfold addF;rw [if_neg (by omega),bT,zga h]
structure GOk (n c:Nat) (s:GS):Prop where
  len:s.nodes.length=n
  fst:s.first.length<=c
  nxt:∀ nd ∈ s.nodes,nd.next.length<=c
theorem GOk.mono {c d:Nat} {s:GS} (h:GOk n c s) (hd:c<=d):GOk n d s:=⟨h.len,bL h.fst hd,fun nd hn=>bL (h.nxt nd hn) hd⟩
theorem addF_ok {c:Nat} {s:GS} {f:Int} (h:GOk n c s):GOk n (c+1) (addF s i f):=by
 unfold addF
 split
 ·exact ⟨h.len,by have:=h.fst;simp;omega,fun nd hn=>by have:=h.nxt nd hn;omega⟩
 ·refine ⟨by rw [List.length_modify];exact h.len,by have:=h.fst;show s.first.length<=_;omega,fun nd hn=>?_⟩
  obtain ⟨j,hj⟩:=dB.1 hn
  rw [cF] at hj
  cases e:s.nodes[j]? with
  | none=>rw [e] at hj;cases hj
  | some p0 =>
   rw [e] at hj
   have h4:=h.nxt p0 (bJ e)
   simp only [cT,bU] at hj
   have hj:=Option.some.inj hj
   split at hj
   ·rw [<- hj];show (p0.next++[(i:Int)]).length<=_;simp;omega
   ·rw [<- hj];omega
theorem gs0_ok (al:List PF) (ps:List zas):GOk ps.length 0 (gs0 al ps):=⟨by simp [gs0],by simp [gs0],fun nd hn=>by
 unfold gs0 at hn
 obtain ⟨p,_,rfl⟩:=bV.1 hn
 exact bZ _⟩
theorem addF_at {s:GS} {f:Int} (n:Nat):(addF s i f).nodes[n]?=(s.nodes[n]?).map fun nd=>⟨nd.must,nd.never,nd.next++if f=(n:Int) then [(i:Int)] else []⟩:=by
 unfold addF
 split
 ·cases s.nodes[n]? with
  | none=>rfl
  | some nd=>simp only [bU];rw [if_neg (by omega),bC]
 ·dsimp only
  rw [cF]
  cases s.nodes[n]? with
  | none=>rfl
  | some nd =>
   simp only [cT,bU]
   by_cases e:f=(n:Int)
   ·rw [if_pos e,if_pos (by omega)]
   ·rw [if_neg e,if_neg (by omega),bC]
theorem addF_first {s:GS} {f:Int}:(addF s i f).first=s.first++if f<0 then [(i:Int)] else []:=by
 unfold addF
 split
 ·rfl
 ·exact (bC _).symm
theorem addFs_at (n:Nat):∀ (fs:List Int) (s:GS),(zah s i fs).nodes[n]?=(s.nodes[n]?).map fun nd=>⟨nd.must,nd.never,nd.next++(fs.filter fun x=>decide (x=(n:Int))).map fun _=>(i:Int)⟩
 | [],s=>by
  show s.nodes[n]?=_
  cases s.nodes[n]? with
  | none=>rfl
  | some nd=>simp
 | f :: fs,s=>by
  show (zah (addF s i f) i fs).nodes[n]?=_
  rw [addFs_at n fs,addF_at]
  cases s.nodes[n]? with
  | none=>rfl
  | some nd =>
   simp only [bU]
   by_cases e:f=(n:Int)
   ·rw [if_pos e,dC (by simpa using e),cO];rfl
   ·rw [if_neg e,dD (by simpa using e),bC]
theorem addFs_first:∀ (fs:List Int) (s:GS),(zah s i fs).first=s.first++(fs.filter fun x=>decide (x<0)).map fun _=>(i:Int)
 | [],s=>(bC _).symm
 | f :: fs,s=>by
  show (zah (addF s i f) i fs).first=_
  rw [addFs_first fs,addF_first]
  by_cases e:f<0
  ·rw [if_pos e,dC (by simpa using e),cO];rfl
  ·rw [if_neg e,dD (by simpa using e),bC]
theorem fold_at (n:Nat):∀ (zs:List (zas × Nat)) (s:GS),(zs.foldl (fun s q=>zah s q.2 (zad q.1.frm)) s).nodes[n]?=(s.nodes[n]?).map fun nd=>⟨nd.must,nd.never,nd.next++zs.flatMap fun q=>(fromI q.1 (n:Int)).map fun _=>((q.2:Nat):Int)⟩
 | [],s=>by
  show s.nodes[n]?=_
  cases s.nodes[n]? with
  | none=>rfl
  | some nd=>simp
 | q :: zs,s=>by
  rw [cZ,fold_at n zs,addFs_at]
  cases s.nodes[n]? with
  | none=>rfl
  | some nd=>simp only [bU];rw [List.flatMap_cons,cO];rfl
theorem fold_first:∀ (zs:List (zas × Nat)) (s:GS),(zs.foldl (fun s q=>zah s q.2 (zad q.1.frm)) s).first=s.first++zs.flatMap fun q=>((zad q.1.frm).filter fun x=>decide (x<0)).map fun _=>((q.2:Nat):Int)
 | [],s=>(bC _).symm
 | q :: zs,s=>by
  rw [cZ,fold_first zs,addFs_first,List.flatMap_cons,cO]
theorem gs_nodes (al:List PF) (kids:List (Int × Int)) (ps:List zas):(gsJ al ps ps.length).nodes=(gbT al kids ps).nodes:=List.ext_getElem? fun n=>by
 unfold gsJ
 rw [bN (by simp),fold_at]
 unfold gs0 gbT
 dsimp only
 rw [bX,bX,cM]
 cases e:ps[n]? with
 | none=>rfl
 | some p=>simp only [bU,cJ];rfl
theorem gs_first (al:List PF) (kids:List (Int × Int)) (ps:List zas):(gsJ al ps ps.length).first=(gbT al kids ps).first:=by
 unfold gsJ
 rw [bN (by simp),fold_first];rfl
def zg2 (al:List PF) (kids:List (Int × Int)) (ps:List zas) (j:Nat):List (List Int):=((al.zipIdx.take j).filter fun q=>isU q.1).map fun q=>zhe ps kids ((q.2:Nat):Int)
theorem set_step {kids:List (Int × Int)} {ps:List zas} (h:al[j]?=some f):zg2 al kids ps (j+1)=zg2 al kids ps j++if isU f=true then [zhe ps kids (j:Int)] else []:=by
 unfold zg2
 have hz:al.zipIdx[j]?=some (f,j):=by rw [cM,h];simp
 rw [bP,hz]
 simp only [cA,cW,bS]
 congr 1
 by_cases e:isU f=true
 ·rw [if_pos e];simp [e]
 ·rw [if_neg e];simp [e]
theorem set_all (al:List PF) (kids:List (Int × Int)) (ps:List zas):zg2 al kids ps al.length=(gbT al kids ps).sets:=by unfold zg2;rw [bN (by simp)];rfl
theorem set_le (al:List PF) (kids:List (Int × Int)) (ps:List zas) (j:Nat):(zg2 al kids ps j).length<=j:=by
 unfold zg2;rw [bA]
 refine bL (cX _ _) ?_
 rw [bQ];omega
theorem isU_of (h:f.l.kind=11):isU f=true:=by cases f <;> first | rfl | (simp [dN,dQ] at h)
theorem isU_no (h:¬ f.l.kind=11):isU f=false:=by cases f <;> first | rfl | (simp [dN,dQ] at h)
def ndR (x:za4):List D × List (List D):=([.sl 1 (x.must.map za3),.sl 1 (x.never.map za3)],x.next.map za3)
def ndN (xs:List za4):zgq:=xs.map ndR
theorem zei {xs:List za4} {x:za4} (h:xs[i]?=some x):(ndN xs)[i]?=some (ndR x):=by unfold ndN;rw [bX,h];rfl
theorem ndN_set (xs:List za4) (i:Nat) (x:za4):(ndN xs).set i (ndR x)=ndN (xs.set i x):=by unfold ndN;rw [List.map_set]
theorem ndN_pub (xs:List za4):((ndN xs).map fun r=>r.1++[D.sl 1 r.2])=xs.map dR:=by unfold ndN;rw [bW];rfl
def ndX (xs:List NdN):List (List D):=xs.map fun x=>[D.sl 1 (x.must.map za3),D.sl 1 (x.never.map za3)]
theorem ndX_row (xs:List NdN):(ndX xs).map (fun p=>p++[D.raw za6])=xs.map NdN.d:=by unfold ndX;rw [bW];rfl
theorem ndX_nest (al:List PF) (ps:List zas):((ndX (ps.map (ndA al))).map fun p=>(p,([]:List (List D))))=ndN (gs0 al ps).nodes:=by
 unfold ndX ndN gs0
 rw [bW,bW,bW];rfl
theorem vb9_2:ElZ dJ 33 83 3:=ElZ.mk' Tryz.underlying33 _ _ rfl rfl
theorem vb9_3:ElT dJ 33 83 3 72:=ElT.mk' Tryz.underlying33 _ _ rfl rfl
theorem zh8:SlT dJ 33 83 3:=SlT.mk' Tryz.underlying33 (by kernel_rfl)
theorem vb9_12:ElZ dJ 48 34 1:=ElZ.mk' Tryz.underlying48 _ _ rfl rfl
theorem vb9_13:ElT dJ 48 34 1 24:=ElT.mk' Tryz.underlying48 _ _ rfl rfl
theorem vb9_14:Sz dJ 50 3 true:=Sz.mk' (by kernel_rfl) Tryz.underlying50 _ rfl
def GbD.d (x:GbD):List D:=[.sl 3 (x.nodes.map dR),.sl 1 (x.first.map za3),.sl 1 (x.sets.map (slD 1 za3))]
theorem SNodeG (kids:List (Int × Int)) (ps:List zas) (p:zas) (hal:al.length<=1000000) (hin:∀ i ∈ p.seen,InZ al.length i) (hsl:p.seen.length<=1000000):Fn dJ 63 [(0,.box [.d (.sl 3 ((al.map dN).map dP)),.d (.sl 2 (kids.map prI)),.d (.sl 3 (ps.map zas.d)),.any])] [vp 0 0,vG [cIs p.seen,cIs p.next,cIs p.frm]] (vG [cIs (ndA al p).must,cIs (ndA al p).never,nCl]) [(0,.box [.d (.sl 3 ((al.map dN).map dP)),.d (.sl 2 (kids.map prI)),.d (.sl 3 (ps.map zas.d)),.any])] :=
 Fn.idle (j:=1) (fun v1 _=>Fn.idle (j:=2) (fun v2 _=>Fn.idle (j:=3) (fun v3 _=>SNode v1 v2 v3 al p hal hin hsl) rfl rfl rfl) rfl rfl rfl) rfl rfl rfl
theorem SFulG (al:List PF) {kids:List (Int × Int)} {ps:List zas} (n:Nat) (kk:Int × Int) (hk:kids[n]?=some kk) (hpl:ps.length<=1000000) (hps:∀ p ∈ ps,SRi p.seen/\p.seen.length<=1000000):Fn dJ 65 [(0,.box [.d (.sl 3 ((al.map dN).map dP)),.d (.sl 2 (kids.map prI)),.d (.sl 3 (ps.map zas.d)),.any])] [vp 0 0,vi .i64 (n:Int)] (vIs (zhe ps kids (n:Int))) [(0,.box [.d (.sl 3 ((al.map dN).map dP)),.d (.sl 2 (kids.map prI)),.d (.sl 3 (ps.map zas.d)),.any])] :=
 Fn.idle (j:=0) (fun v0 _=>Fn.idle (j:=3) (fun v3 _=>SFulfilled v0 v3 kids ps n kk hk hpl hps) rfl rfl rfl) rfl rfl rfl
abbrev q10 (al:List PF) (kids:List (Int × Int)) (ps:List zas):L:=.box [.d (.sl 3 ((al.map dN).map dP)),.d (.sl 2 (kids.map prI)),.d (.sl 3 (ps.map zas.d)),.any]
abbrev q11:L:=.box [.d (.raw za6),.d (.raw za6),.d (.raw za6)]
abbrev q12 (ps:List zas):V:=.t (.c (.d (.sl 3 (ps.map zas.d))))
theorem SGba {kids:List (Int × Int)} {ps:List zas} (hal:al.length<=100000) (hkl:kids.length=al.length) (hpn:ps.length<=4096) (hin:∀ p ∈ ps,∀ i ∈ p.seen,InZ al.length i) (hps:∀ p ∈ ps,SRi p.seen/\p.seen.length<=1000000) (hfz:∀ p ∈ ps,p.frm.length<=100000) (hfr:∀ p ∈ ps,∀ f ∈ p.frm,f<ps.length):Fn dJ 29 [(0,.box [.d (.sl 3 ((al.map dN).map dP)),.d (.sl 2 (kids.map prI)),.d (.sl 3 (ps.map zas.d)),.any])] [vp 0 0] (.t (.agg [.d (.sl 3 ((gbT al kids ps).nodes.map dR)),.d (.sl 1 ((gbT al kids ps).first.map za3)),.d (.sl 1 ((gbT al kids ps).sets.map (slD 1 za3)))])) [(0,.box [.d (.sl 3 ((al.map dN).map dP)),.d (.sl 2 (kids.map prI)),.d (.sl 3 (ps.map zas.d)),.any])]:=by
 have hlm:(al.map dN).length=al.length:=bA _;refine fB Tryz.func29 rfl 95 fun w H B a h=>Jq 100 [] [(0,vp 0 0),(2,vp 100 0)] [(0,q10 al kids ps),(100,q11)] h fun a w h=>Jg 101 [] [] [(3,vp 101 0)] [] [(101,q11)] h fun a w h=>qW (Je 102 [(1,.g (dM (d:=13) (t:=12) (n:=0) (o:=0))),(4,.len (za9 3 zas.d ps))] [] [(15,q12 ps),(16,vN ps.length),(17,vI 0)] h fun a w h=>qZ ?_)
 replace h:=zft 101 0 102 3 83 [.d (.raw za6),.d (.raw za6),.d (.raw za6)] h;replace h:=zb7 102 30 h;replace h:=cvM [] [] [] [(101,.box [.own 30 ((ps.take 0).map (ndA al)).length,.d (.raw za6),.d (.raw za6)]),(30,.row 83 3 (((ps.take 0).map (ndA al)).map NdN.d))] (by kernel_rfl) h
 refine zdp (ι:=(Nat)) (fun i=>i<=ps.length)
   [] (fun i=>[(17,vN i)])
   [] (fun i=>[(101,.box [.own 30 ((ps.take i).map (ndA al)).length,.d (.raw za6),.d (.raw za6)]),(30,.row 83 3 (((ps.take i).map (ndA al)).map NdN.d))])
   (fun i=>ps.length - i) 0 ?_ h ?_
 ·exact bF _
 clear h;rintro i a w hI h;have hl1:((ps.take i).map (ndA al)).length=i:=by rw [bA,bQ];omega
 refine Je 103 [] [] [(18,vb (decide ((i:Int)<(ps.length:Int))))] h fun a w h=>qW (zav ((i:Int)<(ps.length:Int)) h (fun hc1 hc1'=>?_) (fun hc2 hc2'=>?_))
 ·refine qU (za1 (qW (qZ ?_)));obtain ⟨x1,hx1⟩:=gl ps i;refine Jg 103 [(0,.g (xD 19 15 vb6_0 (zab hx1 (f:=zas.d)) (dL 17 _)))] [18] [(5,vp 103 0)] [] [(103,.box [.d (.sl 1 (x1.seen.map za3)),.d (.sl 1 (x1.next.map za3)),.d (.sl 1 (x1.frm.map za3))])] h fun a w h=>Jh 104 [(4,.call (SNodeG kids ps x1 (by omega) (hin x1 (lM hx1)) (by have:=(hps x1 (lM hx1)).2;omega))),(5,.g (bD 26 ([(ndA al x1)].map NdN.d) [(25,.t (.agg [.d (.sl 1 ((ndA al x1).must.map za3)),.d (.sl 1 ((ndA al x1).never.map za3)),.d (.raw za6)]))] vb9_2 (.cons (i:=0) (dL 25 _) (.nil)) (by kernel_rfl) (by simp [NdN.d]))),(6,.g (Op.appOD (d:=27) (t:=22) (u:=26) (n:=30) (n':=104) (len:=((ps.take i).map (ndA al)).length) (len':=(((ps.take i).map (ndA al))++[(ndA al x1)]).length) (rows:=((ps.take i).map (ndA al)).map NdN.d) (rows2:=[(ndA al x1)].map NdN.d) (rows':=(((ps.take i).map (ndA al))++[(ndA al x1)]).map NdN.d) vb9_3 (by first | exact (bA _).symm | simp) (by first | (rw [bB,bA];done) | (simp;done) | (simp;omega)) (by simp) (by simp [NdN.d]) (by first | omega | (simp at *;done) | (simp at *;omega))))] [5] [] [30,103] [(101,.box ([.own 104 (((ps.take i).map (ndA al))++[(ndA al x1)]).length,.d (.raw za6),.d (.raw za6)])),(104,.row 83 3 ((((ps.take i).map (ndA al))++[(ndA al x1)]).map NdN.d))] h fun a w h=>za7 (za1 (Jf 105 [(0,.j1 i)] [] [(17,vI ((i:Int)+1))] h fun a w h=>za1 ?_));replace h:=zb7 104 30 h;have hT1:(((ps.take i).map (ndA al))++[(ndA al x1)])=((ps.take (i+1)).map (ndA al)):=by rw [bP,hx1,bS];rfl
  replace h:=cvM [] [] [] [(101,.box [.own 30 ((ps.take (i+1)).map (ndA al)).length,.d (.raw za6),.d (.raw za6)]),(30,.row 83 3 (((ps.take (i+1)).map (ndA al)).map NdN.d))] (by rw [hT1]; try kernel_rfl) h;refine zaj (x:=i) (y:=i+1) h ?_ ?_
  ·have:=zal hx1;show i+1<=ps.length;omega
  have:=zal hx1;show ps.length - (i+1)<ps.length - i;omega
 refine exA (qW (Je 105 [(1,.g (dM (d:=31) (t:=30) (n:=0) (o:=0))),(4,.len (za9 3 zas.d ps))] [15,16,17,18] [(33,q12 ps),(34,vN ps.length),(35,vI 0)] h fun a w h=>qZ ?_));have hT2:(ps.take i).map (ndA al)=(ps.map (ndA al)):=by rw [bN (by have:=dF hc2;omega)]
 replace h:=cvM [] [] [] [(101,.box [.own 30 (ps.map (ndA al)).length,.d (.raw za6),.d (.raw za6)]),(30,.row 83 3 ((ps.map (ndA al)).map NdN.d))] (by rw [hT2]; try kernel_rfl) h;have hT3:(ps.map (ndA al)).length=ps.length:=bA _;replace h:=cvM [] [] [] [(101,.box [.own 30 ps.length,.d (.raw za6),.d (.raw za6)])] (by rw [hT3]; try kernel_rfl) h;replace h:=zft 101 1 105 1 3 [.own 30 ps.length,.d (.raw za6),.d (.raw za6)] h;replace h:=zb7 105 31 h;replace h:=zb7 30 999 h;replace h:=atS (sl':=[(0,vp 0 0),(2,vp 100 0),(3,vp 101 0),(33,q12 ps),(34,vN ps.length),(35,vI 0)]) (lc':=[(999,.row 83 3 ((ps.map (ndA al)).map NdN.d)),(0,q10 al kids ps),(100,q11),(101,.box [.own 999 ps.length,.own 31 0,.d (.raw za6)]),(31,.row 3 1 ([].map za3))]) h;rw [show (ps.map (ndA al)).map NdN.d=(ndX (ps.map (ndA al))).map (fun p=>p++[D.raw za6]) from (ndX_row _).symm] at h;replace h:=ns_begin (ty:=3) (es:=1) _ h (by kernel_rfl) (by kernel_rfl) (by kernel_rfl);rw [ndX_nest] at h;replace h:St _ (F.oft [(0,vp 0 0),(2,vp 100 0),(3,vp 101 0),(33,q12 ps),(34,vN ps.length),(35,vI 0)] [(0,q10 al kids ps),(100,q11),(101,.box [.own 999 ps.length,.own 31 0,.d (.raw za6)]),(31,.row 3 1 ([].map za3))] (nsT 83 3 3 1 (ndN (gsJ al ps 0).nodes))) a w:=h;replace h:=cvT [] [] [] [(101,.box [.own 999 ps.length,.own 31 (gsJ al ps 0).first.length,.d (.raw za6)]),(31,.row 3 1 ((gsJ al ps 0).first.map za3))] (nsT 83 3 3 1 (ndN (gsJ al ps 0).nodes)) (by kernel_rfl) h
 refine loopST (ι:=(Nat)) (fun j=>j<=ps.length/\GOk ps.length (j*100000) (gsJ al ps j))
   (fun j=>[(0,vp 0 0),(2,vp 100 0),(3,vp 101 0),(33,q12 ps),(34,vN ps.length),(35,vN j)])
   (fun j=>[(0,q10 al kids ps),(100,q11),(101,.box [.own 999 ps.length,.own 31 (gsJ al ps j).first.length,.d (.raw za6)]),(31,.row 3 1 ((gsJ al ps j).first.map za3))])
   (fun j=>nsT 83 3 3 1 (ndN (gsJ al ps j).nodes))
   (fun j=>ps.length - j) 0 ?_ (zap _) h (by kernel_rfl) (by kernel_rfl) (by kernel_rfl) ?_
 ·exact ⟨bF _,by rw [Nat.zero_mul];exact gs0_ok al ps⟩
 clear h;rintro j a w hI h
 skip
 obtain ⟨hI1,hG⟩:=hI;refine zb8 zak (zap _) 106 [] [] [(0,vp 0 0),(2,vp 100 0),(3,vp 101 0),(33,q12 ps),(34,vN ps.length),(35,vN j),(36,vb (decide ((j:Int)<(ps.length:Int))))] [(0,q10 al kids ps),(100,q11),(101,.box [.own 999 ps.length,.own 31 (gsJ al ps j).first.length,.d (.raw za6)]),(31,.row 3 1 ((gsJ al ps j).first.map za3))] (by kernel_rfl) (fun n_ h_=>by cases h_) h fun a w h=>qW (ze6 (decide ((j:Int)<(ps.length:Int))) h rfl (fun hc3=>?_) (fun hc8=>?_))
 ·have hc3':=dT hc3;refine qU (za1 (qW (qZ ?_)));obtain ⟨x3,hx3⟩:=gl ps j;refine zb8 zak (zap _) 106 [(1,.g (xD 38 33 vb6_0 (zab hx3 (f:=zas.d)) (dL 35 _)))] [106] [(0,vp 0 0),(2,vp 100 0),(3,vp 101 0),(6,vN j),(7,vp 106 0),(33,q12 ps),(34,vN ps.length),(35,vN j)] [(0,q10 al kids ps),(100,q11),(101,.box [.own 999 ps.length,.own 31 (gsJ al ps j).first.length,.d (.raw za6)]),(31,.row 3 1 ((gsJ al ps j).first.map za3)),(106,.box [.d (.sl 1 (x3.seen.map za3)),.d (.sl 1 (x3.next.map za3)),.d (.sl 1 (x3.frm.map za3))])] (by kernel_rfl) (zdf [0] (fun n_ _ h_=>h_) (by kernel_rfl)) h fun a w h=>zb8 zak (zap _) 107 [(2,.call (Fn.argw (SWith [] x3.frm (by have:=hfz x3 (lM hx3);rw [List.length_nil];omega)) (.cons _ _ _ _ (.c _ _ (.nil _)) (.cons _ _ _ _ (.refl _) .nil)))),(3,.len (za9 1 za3 (zad x3.frm)))] [] [(0,vp 0 0),(2,vp 100 0),(3,vp 101 0),(6,vN j),(33,q12 ps),(34,vN ps.length),(35,vN j),(42,.t (.c (.d (.sl 1 ((zad x3.frm).map za3))))),(43,vI ((zad x3.frm).length:Int)),(44,vI 0)] [(0,q10 al kids ps),(100,q11),(101,.box [.own 999 ps.length,.own 31 (gsJ al ps j).first.length,.d (.raw za6)]),(31,.row 3 1 ((gsJ al ps j).first.map za3))] (by kernel_rfl) (fun n_ h_=>by cases h_) h fun a w h=>qZ ?_;have hfz9:=hfz x3 (lM hx3);have hfk:∀ f ∈ zad x3.frm,f<ps.length:=fun f hf=>hfr x3 (lM hx3) f ((zb4 _ _).1 hf)
  have hfl8:=zay x3.frm;replace h:=cvT [] [(6,vN j),(42,.t (.c (.d (.sl 1 ((zad x3.frm).map za3))))),(43,vI ((zad x3.frm).length:Int)),(44,vI 0)] [] [(101,.box [.own 999 ps.length,.own 31 (zah (gsJ al ps j) j ((zad x3.frm).take 0)).first.length,.d (.raw za6)]),(31,.row 3 1 ((zah (gsJ al ps j) j ((zad x3.frm).take 0)).first.map za3))] (nsT 83 3 3 1 (ndN (zah (gsJ al ps j) j ((zad x3.frm).take 0)).nodes)) (by kernel_rfl) h
  refine loopST (ι:=(Nat)) (fun m=>m<=(zad x3.frm).length/\GOk ps.length (j*100000+m) (zah (gsJ al ps j) j ((zad x3.frm).take m)))
    (fun m=>[(0,vp 0 0),(2,vp 100 0),(3,vp 101 0),(6,vN j),(33,q12 ps),(34,vN ps.length),(35,vN j),(42,.t (.c (.d (.sl 1 ((zad x3.frm).map za3))))),(43,vI ((zad x3.frm).length:Int)),(44,vN m)])
    (fun m=>[(0,q10 al kids ps),(100,q11),(101,.box [.own 999 ps.length,.own 31 (zah (gsJ al ps j) j ((zad x3.frm).take m)).first.length,.d (.raw za6)]),(31,.row 3 1 ((zah (gsJ al ps j) j ((zad x3.frm).take m)).first.map za3))])
    (fun m=>nsT 83 3 3 1 (ndN (zah (gsJ al ps j) j ((zad x3.frm).take m)).nodes))
    (fun m=>(zad x3.frm).length - m) 0 ?_ (zap _) h (by kernel_rfl) (by kernel_rfl) (by kernel_rfl) ?_
  ·exact ⟨bF _,GOk.mono (show GOk _ _ (zah _ _ (List.take 0 _)) from hG) (Nat.le_add_right _ _)⟩
  clear h;rintro m a w hI h
  skip
  obtain ⟨hJ1,hJ⟩:=hI;have hJf:=hJ.fst;have hJn:=hJ.nxt;refine zb8 zak (zap _) 107 [] [] [(0,vp 0 0),(2,vp 100 0),(3,vp 101 0),(6,vN j),(33,q12 ps),(34,vN ps.length),(35,vN j),(42,.t (.c (.d (.sl 1 ((zad x3.frm).map za3))))),(43,vI ((zad x3.frm).length:Int)),(44,vN m),(45,vb (decide ((m:Int)<((zad x3.frm).length:Int))))] [(0,q10 al kids ps),(100,q11),(101,.box [.own 999 ps.length,.own 31 (zah (gsJ al ps j) j ((zad x3.frm).take m)).first.length,.d (.raw za6)]),(31,.row 3 1 ((zah (gsJ al ps j) j ((zad x3.frm).take m)).first.map za3))] (by kernel_rfl) (fun n_ h_=>by cases h_) h fun a w h=>qW (ze6 (decide ((m:Int)<((zad x3.frm).length:Int))) h rfl (fun hc4=>?_) (fun hc7=>?_))
  ·have hc4':=dT hc4;refine qU (za1 (qW (qZ ?_)));obtain ⟨x5,hx5⟩:=gl (zad x3.frm) m;have hfmx5:=lM hx5;refine zb8 zak (zap _) 107 [(0,.g (xD 46 42 zcz (zab hx5 (f:=za3)) (dL 44 _)))] [] [(0,vp 0 0),(2,vp 100 0),(3,vp 101 0),(6,vN j),(9,vI x5),(33,q12 ps),(34,vN ps.length),(35,vN j),(42,.t (.c (.d (.sl 1 ((zad x3.frm).map za3))))),(43,vI ((zad x3.frm).length:Int)),(44,vN m)] [(0,q10 al kids ps),(100,q11),(101,.box [.own 999 ps.length,.own 31 (zah (gsJ al ps j) j ((zad x3.frm).take m)).first.length,.d (.raw za6)]),(31,.row 3 1 ((zah (gsJ al ps j) j ((zad x3.frm).take m)).first.map za3))] (by kernel_rfl) (fun n_ h_=>by cases h_) h fun a w h=>zb8 zak (zap _) 107 [] [] [(0,vp 0 0),(2,vp 100 0),(3,vp 101 0),(6,vN j),(9,vI x5),(33,q12 ps),(34,vN ps.length),(35,vN j),(42,.t (.c (.d (.sl 1 ((zad x3.frm).map za3))))),(43,vI ((zad x3.frm).length:Int)),(44,vN m),(49,vb (decide (x5<0)))] [(0,q10 al kids ps),(100,q11),(101,.box [.own 999 ps.length,.own 31 (zah (gsJ al ps j) j ((zad x3.frm).take m)).first.length,.d (.raw za6)]),(31,.row 3 1 ((zah (gsJ al ps j) j ((zad x3.frm).take m)).first.map za3))] (by kernel_rfl) (fun n_ h_=>by cases h_) h fun a w h=>ze6 (decide (x5<0)) h rfl (fun hc5=>?_) (fun hc6=>?_)
   ·have hc5':=dT hc5;refine rSTn zak (zap _) 107 [(3,.g (bD 53 ([(j:Int)].map za3) [(52,vN j)] zgv (.cons (i:=0) (dL 52 _) (.nil)) (by kernel_rfl) (by simp [za3]))),(4,.g (Op.appOD (d:=54) (t:=51) (u:=53) (n:=31) (n':=107) (len:=(zah (gsJ al ps j) j ((zad x3.frm).take m)).first.length) (len':=((zah (gsJ al ps j) j ((zad x3.frm).take m)).first++[(j:Int)]).length) (rows:=(zah (gsJ al ps j) j ((zad x3.frm).take m)).first.map za3) (rows2:=[(j:Int)].map za3) (rows':=((zah (gsJ al ps j) j ((zad x3.frm).take m)).first++[(j:Int)]).map za3) tb_2 (by first | exact (bA _).symm | simp) (by first | (rw [bB,bA];done) | (simp;done) | (simp;omega)) (by simp) (by simp [za3]) (by first | omega | (simp at *;done) | (simp at *;omega))))] [107] [(0,vp 0 0),(2,vp 100 0),(3,vp 101 0),(6,vN j),(33,q12 ps),(34,vN ps.length),(35,vN j),(42,.t (.c (.d (.sl 1 ((zad x3.frm).map za3))))),(43,vI ((zad x3.frm).length:Int)),(44,vN m)] [(0,q10 al kids ps),(100,q11),(101,.box ([.own 999 ps.length,.own 107 ((zah (gsJ al ps j) j ((zad x3.frm).take m)).first++[(j:Int)]).length,.d (.raw za6)])),(107,.row 3 1 (((zah (gsJ al ps j) j ((zad x3.frm).take m)).first++[(j:Int)]).map za3))] (by kernel_rfl) (zdf [0] (fun n_ _ h_=>h_) (by kernel_rfl)) h fun a w h=>za7 (za1 (rSTn zak (zap _) 108 [(0,.add .i64 (m:=(m:Int)) (n:=1) i6)] [] [(0,vp 0 0),(2,vp 100 0),(3,vp 101 0),(6,vN j),(33,q12 ps),(34,vN ps.length),(35,vN j),(42,.t (.c (.d (.sl 1 ((zad x3.frm).map za3))))),(43,vI ((zad x3.frm).length:Int)),(44,vI ((m:Int)+1))] [(0,q10 al kids ps),(100,q11),(101,.box ([.own 999 ps.length,.own 107 ((zah (gsJ al ps j) j ((zad x3.frm).take m)).first++[(j:Int)]).length,.d (.raw za6)])),(107,.row 3 1 (((zah (gsJ al ps j) j ((zad x3.frm).take m)).first++[(j:Int)]).map za3))] (by kernel_rfl) (fun n_ h_=>by cases h_) h fun a w h=>za1 ?_));have hS9:(zah (gsJ al ps j) j ((zad x3.frm).take (m+1)))=addF (zah (gsJ al ps j) j ((zad x3.frm).take m)) j x5:=zgn hx5;replace h:=ns_ren0 107 31 rfl rfl (by simp) h (by kernel_rfl) [(0,vp 0 0),(2,vp 100 0),(3,vp 101 0),(6,vN j),(33,q12 ps),(34,vN ps.length),(35,vN j),(42,.t (.c (.d (.sl 1 ((zad x3.frm).map za3))))),(43,vI ((zad x3.frm).length:Int)),(44,vI ((m:Int)+1))] [(0,q10 al kids ps),(100,q11),(101,.box ([.own 999 ps.length,.own 31 ((zah (gsJ al ps j) j ((zad x3.frm).take m)).first++[(j:Int)]).length,.d (.raw za6)])),(31,.row 3 1 (((zah (gsJ al ps j) j ((zad x3.frm).take m)).first++[(j:Int)]).map za3))] (by kernel_rfl) (by kernel_rfl) (by kernel_rfl);have hS8:addF (zah (gsJ al ps j) j ((zad x3.frm).take m)) j x5=⟨(zah (gsJ al ps j) j ((zad x3.frm).take m)).nodes,((zah (gsJ al ps j) j ((zad x3.frm).take m)).first++[(j:Int)])⟩:=addF_neg (dT hc5);have hS1:(zah (gsJ al ps j) j ((zad x3.frm).take m)).nodes=(zah (gsJ al ps j) j ((zad x3.frm).take (m+1))).nodes:=by rw [hS9,hS8]
    have hS2:((zah (gsJ al ps j) j ((zad x3.frm).take m)).first++[(j:Int)])=(zah (gsJ al ps j) j ((zad x3.frm).take (m+1))).first:=by rw [hS9,hS8]
    replace h:=h.conv (f':=F.oft [(0,vp 0 0),(2,vp 100 0),(3,vp 101 0),(6,vN j),(33,q12 ps),(34,vN ps.length),(35,vN j),(42,.t (.c (.d (.sl 1 ((zad x3.frm).map za3))))),(43,vI ((zad x3.frm).length:Int)),(44,vI ((m:Int)+1))] [(0,q10 al kids ps),(100,q11),(101,.box [.own 999 ps.length,.own 31 (zah (gsJ al ps j) j ((zad x3.frm).take (m+1))).first.length,.d (.raw za6)]),(31,.row 3 1 ((zah (gsJ al ps j) j ((zad x3.frm).take (m+1))).first.map za3))] (nsT 83 3 3 1 (ndN (zah (gsJ al ps j) j ((zad x3.frm).take (m+1))).nodes))) (by rw [hS1,hS2]; try kernel_rfl);refine zeb (x:=m) (y:=m+1) (zap _) h ?_ ?_ (by kernel_rfl) (by kernel_rfl) (by kernel_rfl)
    ·have:=zal hx5;exact ⟨by omega,by rw [hS9];exact (addF_ok hJ).mono (by omega)⟩
    have:=zal hx5;show (zad x3.frm).length - (m+1)<(zad x3.frm).length - m;omega
   have hc6':=dF hc6;obtain ⟨k9,hk9⟩:∃ k:Nat,x5=(k:Int):=⟨(x5).toNat,by have:=dF hc6;omega⟩;replace h:=cvT [] [(9,vN k9),(49,vb (decide (x5<0)))] [] [] (nsT 83 3 3 1 (ndN (zah (gsJ al ps j) j ((zad x3.frm).take m)).nodes)) (by rw [hk9]; try kernel_rfl) h;have hk8:k9<(zah (gsJ al ps j) j ((zad x3.frm).take m)).nodes.length:=by rw [hJ.len];have:=hfk x5 hfmx5;omega
   have hk7:k9<ps.length:=by rw [hJ.len] at hk8;exact hk8
   obtain ⟨x6,hx6⟩:=gl ((zah (gsJ al ps j) j ((zad x3.frm).take m)).nodes) k9;replace h:=ns_open k9 5 (zei hx6) rfl (by simp) h (by kernel_rfl) (by kernel_rfl) (by kernel_rfl);replace h:St _ (F.oft [(0,vp 0 0),(2,vp 100 0),(3,vp 101 0),(6,vN j),(9,vN k9),(33,q12 ps),(34,vN ps.length),(35,vN j),(42,.t (.c (.d (.sl 1 ((zad x3.frm).map za3))))),(43,vI ((zad x3.frm).length:Int)),(44,vN m),(49,vb (decide (x5<0)))] [(999,.rowc 83 3 (nsH (nmP k9 5) (ndN (zah (gsJ al ps j) j ((zad x3.frm).take m)).nodes))),(5,.row 3 1 (x6.next.map za3)),(0,q10 al kids ps),(100,q11),(101,.box [.own 999 ps.length,.own 31 (zah (gsJ al ps j) j ((zad x3.frm).take m)).first.length,.d (.raw za6)]),(31,.row 3 1 ((zah (gsJ al ps j) j ((zad x3.frm).take m)).first.map za3))] (nsN 83 3 3 1 none (nmP k9 5) (ndN (zah (gsJ al ps j) j ((zad x3.frm).take m)).nodes))) a w:=h;have hxn9:=hJn x6 (lM hx6);refine rSTn zak (zdl _ _) 108 [(6,.g (xO 62 60 999 ps.length k9 zh8 (dL 61 _))),(8,.g (Op.loadC_c (d:=64) (t:=63) (n:=999) (i:=k9) (fo:=2) (es:=3) (rty:=83) (rows:=(nsH (nmP k9 5) (ndN (zah (gsJ al ps j) j ((zad x3.frm).take m)).nodes))) (x:=.own 5 x6.next.length) vb6_3 rfl ((zfd (nm:=(nmP k9 5)) (zei hx6)).trans (by unfold nsR ndR;rw [zc3,bA])) rfl)),(10,.g (bD 66 ([(j:Int)].map za3) [(65,vN j)] zgv (.cons (i:=0) (dL 65 _) (.nil)) (by kernel_rfl) (by simp [za3]))),(11,.g (Op.appOD (d:=67) (t:=64) (u:=66) (n:=5) (n':=50) (len:=x6.next.length) (len':=(x6.next++[(j:Int)]).length) (rows:=x6.next.map za3) (rows2:=[(j:Int)].map za3) (rows':=(x6.next++[(j:Int)]).map za3) tb_2 (by first | exact (bA _).symm | simp) (by first | (rw [bB,bA];done) | (simp;done) | (simp;omega)) (by simp) (by simp [za3]) (by first | omega | (simp at *;done) | (simp at *;omega)))),(12,.g (xO 68 57 999 ps.length k9 zh8 (dL 58 _))),(14,.g (Op.storeC (t:=69) (n:=999) (i:=k9) (fo:=2) (es:=3) (rty:=83) (c:=.own 50 (x6.next++[(j:Int)]).length) (rs:=[(67,.t (.c (.own 50 (x6.next++[(j:Int)]).length)))]) (rows:=(nsH (nmP k9 5) (ndN (zah (gsJ al ps j) j ((zad x3.frm).take m)).nodes))) (rows':=((nsH (nmP k9 5) (ndN (zah (gsJ al ps j) j ((zad x3.frm).take m)).nodes)).set k9 ((ndR x6).1.map C.d++[.own 50 (x6.next++[(j:Int)]).length]))) vb6_3 (dL 67 _) rfl (zfd (nm:=(nmP k9 5)) (zei hx6)) (show 2<3 by decide) rfl))] [50] [(0,vp 0 0),(2,vp 100 0),(3,vp 101 0),(6,vN j),(33,q12 ps),(34,vN ps.length),(35,vN j),(42,.t (.c (.d (.sl 1 ((zad x3.frm).map za3))))),(43,vI ((zad x3.frm).length:Int)),(44,vN m)] [(999,.rowc 83 3 ((nsH (nmP k9 5) (ndN (zah (gsJ al ps j) j ((zad x3.frm).take m)).nodes)).set k9 ((ndR x6).1.map C.d++[.own 50 (x6.next++[(j:Int)]).length]))),(0,q10 al kids ps),(100,q11),(101,.box [.own 999 ps.length,.own 31 (zah (gsJ al ps j) j ((zad x3.frm).take m)).first.length,.d (.raw za6)]),(31,.row 3 1 ((zah (gsJ al ps j) j ((zad x3.frm).take m)).first.map za3)),(50,.row 3 1 ((x6.next++[(j:Int)]).map za3))] (by kernel_rfl) (zhm [0] (fun n_ _ h_=>h_) zf1 (by kernel_rfl)) h fun a w h=>za7 (za1 (rSTn zak (zdl _ _) 108 [(0,.add .i64 (m:=(m:Int)) (n:=1) i6)] [] [(0,vp 0 0),(2,vp 100 0),(3,vp 101 0),(6,vN j),(33,q12 ps),(34,vN ps.length),(35,vN j),(42,.t (.c (.d (.sl 1 ((zad x3.frm).map za3))))),(43,vI ((zad x3.frm).length:Int)),(44,vI ((m:Int)+1))] [(999,.rowc 83 3 ((nsH (nmP k9 5) (ndN (zah (gsJ al ps j) j ((zad x3.frm).take m)).nodes)).set k9 ((ndR x6).1.map C.d++[.own 50 (x6.next++[(j:Int)]).length]))),(0,q10 al kids ps),(100,q11),(101,.box [.own 999 ps.length,.own 31 (zah (gsJ al ps j) j ((zad x3.frm).take m)).first.length,.d (.raw za6)]),(31,.row 3 1 ((zah (gsJ al ps j) j ((zad x3.frm).take m)).first.map za3)),(50,.row 3 1 ((x6.next++[(j:Int)]).map za3))] (by kernel_rfl) (fun n_ h_=>by cases h_) h fun a w h=>za1 ?_));have hS9:(zah (gsJ al ps j) j ((zad x3.frm).take (m+1)))=addF (zah (gsJ al ps j) j ((zad x3.frm).take m)) j x5:=zgn hx5;replace h:=atST (zdl _ _) (sl':=[(0,vp 0 0),(2,vp 100 0),(3,vp 101 0),(6,vN j),(33,q12 ps),(34,vN ps.length),(35,vN j),(42,.t (.c (.d (.sl 1 ((zad x3.frm).map za3))))),(43,vI ((zad x3.frm).length:Int)),(44,vI ((m:Int)+1))]) (lc':=[(999,.rowc 83 3 ((nsH (nmP k9 5) (ndN (zah (gsJ al ps j) j ((zad x3.frm).take m)).nodes)).set k9 ((ndR x6).1.map C.d++[.own 50 (x6.next++[(j:Int)]).length]))),(50,.row 3 1 ((x6.next++[(j:Int)]).map za3)),(0,q10 al kids ps),(100,q11),(101,.box [.own 999 ps.length,.own 31 (zah (gsJ al ps j) j ((zad x3.frm).take m)).first.length,.d (.raw za6)]),(31,.row 3 1 ((zah (gsJ al ps j) j ((zad x3.frm).take m)).first.map za3))]) h (by kernel_rfl) (by kernel_rfl) (by kernel_rfl);have hup:((nsH (nmP k9 5) (ndN (zah (gsJ al ps j) j ((zad x3.frm).take m)).nodes)).set k9 ((ndR x6).1.map C.d++[.own 50 (x6.next++[(j:Int)]).length]))=nsH (nmP k9 50) (ndN ((zah (gsJ al ps j) j ((zad x3.frm).take m)).nodes.set k9 (za4.mk x6.must x6.never (x6.next++[(j:Int)])))):=by rw [<- ndN_set];have h9:=nsH_upd (p:=5) (q:=50) (zei hx6) (ndR (za4.mk x6.must x6.never (x6.next++[(j:Int)]))).2;rw [show (ndR (za4.mk x6.must x6.never (x6.next++[(j:Int)]))).2.length=(x6.next++[(j:Int)]).length from bA _] at h9;exact h9
   have hut:nsN 83 3 3 1 none (nmP k9 5) (ndN (zah (gsJ al ps j) j ((zad x3.frm).take m)).nodes)=nsN 83 3 3 1 none (nmP k9 50) (ndN ((zah (gsJ al ps j) j ((zad x3.frm).take m)).nodes.set k9 (za4.mk x6.must x6.never (x6.next++[(j:Int)])))):=by rw [<- ndN_set];exact nsN_upd (zei hx6) (by decide) (by decide) (ndR (za4.mk x6.must x6.never (x6.next++[(j:Int)]))).2
   replace h:=h.conv (f':=F.oft [(0,vp 0 0),(2,vp 100 0),(3,vp 101 0),(6,vN j),(33,q12 ps),(34,vN ps.length),(35,vN j),(42,.t (.c (.d (.sl 1 ((zad x3.frm).map za3))))),(43,vI ((zad x3.frm).length:Int)),(44,vI ((m:Int)+1))] [(999,.rowc 83 3 (nsH (nmP k9 50) (ndN ((zah (gsJ al ps j) j ((zad x3.frm).take m)).nodes.set k9 (za4.mk x6.must x6.never (x6.next++[(j:Int)])))))),(50,.row 3 1 ((x6.next++[(j:Int)]).map za3)),(0,q10 al kids ps),(100,q11),(101,.box [.own 999 ps.length,.own 31 (zah (gsJ al ps j) j ((zad x3.frm).take m)).first.length,.d (.raw za6)]),(31,.row 3 1 ((zah (gsJ al ps j) j ((zad x3.frm).take m)).first.map za3))] (nsN 83 3 3 1 none (nmP k9 50) (ndN ((zah (gsJ al ps j) j ((zad x3.frm).take m)).nodes.set k9 (za4.mk x6.must x6.never (x6.next++[(j:Int)])))))) (by rw [hup,hut]; try kernel_rfl);replace h:=ns_shut k9 50 (zei (cG (zal hx6))) rfl (by simp) h (by kernel_rfl) (by kernel_rfl) (by kernel_rfl);replace h:St _ (F.oft [(0,vp 0 0),(2,vp 100 0),(3,vp 101 0),(6,vN j),(33,q12 ps),(34,vN ps.length),(35,vN j),(42,.t (.c (.d (.sl 1 ((zad x3.frm).map za3))))),(43,vI ((zad x3.frm).length:Int)),(44,vI ((m:Int)+1))] [(0,q10 al kids ps),(100,q11),(101,.box [.own 999 ps.length,.own 31 (zah (gsJ al ps j) j ((zad x3.frm).take m)).first.length,.d (.raw za6)]),(31,.row 3 1 ((zah (gsJ al ps j) j ((zad x3.frm).take m)).first.map za3))] (nsT 83 3 3 1 (ndN ((zah (gsJ al ps j) j ((zad x3.frm).take m)).nodes.set k9 (za4.mk x6.must x6.never (x6.next++[(j:Int)])))))) a w:=h;have hS8:addF (zah (gsJ al ps j) j ((zad x3.frm).take m)) j x5=⟨((zah (gsJ al ps j) j ((zad x3.frm).take m)).nodes.set k9 (za4.mk x6.must x6.never (x6.next++[(j:Int)]))),(zah (gsJ al ps j) j ((zad x3.frm).take m)).first⟩:=by rw [hk9];exact addF_pos hx6
   have hS1:((zah (gsJ al ps j) j ((zad x3.frm).take m)).nodes.set k9 (za4.mk x6.must x6.never (x6.next++[(j:Int)])))=(zah (gsJ al ps j) j ((zad x3.frm).take (m+1))).nodes:=by rw [hS9,hS8]
   have hS2:(zah (gsJ al ps j) j ((zad x3.frm).take m)).first=(zah (gsJ al ps j) j ((zad x3.frm).take (m+1))).first:=by rw [hS9,hS8]
   replace h:=cvT [] [] [] [(101,.box [.own 999 ps.length,.own 31 (zah (gsJ al ps j) j ((zad x3.frm).take (m+1))).first.length,.d (.raw za6)]),(31,.row 3 1 ((zah (gsJ al ps j) j ((zad x3.frm).take (m+1))).first.map za3))] (nsT 83 3 3 1 (ndN (zah (gsJ al ps j) j ((zad x3.frm).take (m+1))).nodes)) (by rw [hS1,hS2]; try kernel_rfl) h;refine zeb (x:=m) (y:=m+1) (zap _) h ?_ ?_ (by kernel_rfl) (by kernel_rfl) (by kernel_rfl)
   ·have:=zal hx5;exact ⟨by omega,by rw [hS9];exact (addF_ok hJ).mono (by omega)⟩
   have:=zal hx5;show (zad x3.frm).length - (m+1)<(zad x3.frm).length - m;omega
  have hc7':=dF hc7;refine wp_exit (zgt (zgt (zdt (za7 (za1 (rSTn zak (zap _) 108 [(0,.j1 j)] [] [(0,vp 0 0),(2,vp 100 0),(3,vp 101 0),(33,q12 ps),(34,vN ps.length),(35,vI ((j:Int)+1))] [(0,q10 al kids ps),(100,q11),(101,.box [.own 999 ps.length,.own 31 (zah (gsJ al ps j) j ((zad x3.frm).take m)).first.length,.d (.raw za6)]),(31,.row 3 1 ((zah (gsJ al ps j) j ((zad x3.frm).take m)).first.map za3))] (by kernel_rfl) (fun n_ h_=>by cases h_) h fun a w h=>za1 ?_))))));have hG9:(zah (gsJ al ps j) j ((zad x3.frm).take m))=(gsJ al ps (j+1)):=by rw [gsJ_snoc hx3,bN (by have:=dF hc7;omega)]
  replace h:=cvT [6,42,43,44] [(35,vI ((j:Int)+1))] [] [(101,.box [.own 999 ps.length,.own 31 (gsJ al ps (j+1)).first.length,.d (.raw za6)]),(31,.row 3 1 ((gsJ al ps (j+1)).first.map za3))] (nsT 83 3 3 1 (ndN (gsJ al ps (j+1)).nodes)) (by rw [hG9]; try kernel_rfl) h;refine zeb (x:=j) (y:=j+1) (zap _) h ?_ ?_ (by kernel_rfl) (by kernel_rfl) (by kernel_rfl)
  ·have:=zal hx3;have hfl8:=zay x3.frm;have hfl9:=hfz x3 (lM hx3);exact ⟨by omega,hG9 ▸ hJ.mono (by have:=dF hc7;omega)⟩
  have:=zal hx3;show ps.length - (j+1)<ps.length - j;omega
 have hc8':=dF hc8;refine exA (qW (zb8 zak (zap _) 108 [(1,.g (dM (d:=73) (t:=72) (n:=0) (o:=0))),(4,.len (za9 3 dP (al.map dN)))] [] [(0,vp 0 0),(2,vp 100 0),(3,vp 101 0),(75,.t (.c (.d (.sl 3 ((al.map dN).map dP))))),(76,vI ((al.map dN).length:Int)),(77,vI 0)] [(0,q10 al kids ps),(100,q11),(101,.box [.own 999 ps.length,.own 31 (gsJ al ps j).first.length,.d (.raw za6)]),(31,.row 3 1 ((gsJ al ps j).first.map za3))] (by kernel_rfl) (fun n_ h_=>by cases h_) h fun a w h=>qZ ?_));have hjp:j=ps.length:=by have:=dF hc8;omega
 have hGn:(gsJ al ps j).nodes=(gbT al kids ps).nodes:=by rw [hjp];exact gs_nodes al kids ps
 have hGf:(gsJ al ps j).first=(gbT al kids ps).first:=by rw [hjp];exact gs_first al kids ps
 have hnl9:ps.length=(gbT al kids ps).nodes.length:=by rw [<- hGn];exact hG.len.symm
 replace h:=cvT [33,34,35] [(75,.t (.c (.d (.sl 3 ((al.map dN).map dP))))),(76,vI ((al.map dN).length:Int)),(77,vI 0)] [] [(101,.box [.own 999 ps.length,.own 31 (gbT al kids ps).first.length,.d (.raw za6)]),(31,.row 3 1 ((gbT al kids ps).first.map za3))] (nsT 83 3 3 1 (ndN (gbT al kids ps).nodes)) (by rw [hGn,hGf]; try kernel_rfl) h;have hgfl:(gbT al kids ps).first.length<=j*100000:=by rw [<- hGf];exact hG.fst
 replace h:=ns_pub h (by kernel_rfl) (by kernel_rfl) (by kernel_rfl);rw [ndN_pub] at h;replace h:=h.conv (f':=F.of [(0,vp 0 0),(2,vp 100 0),(3,vp 101 0),(75,.t (.c (.d (.sl 3 ((al.map dN).map dP))))),(76,vI ((al.map dN).length:Int)),(77,vI 0)] [(999,.row 83 3 ((gbT al kids ps).nodes.map dR)),(0,q10 al kids ps),(100,q11),(101,.box [.own 999 (gbT al kids ps).nodes.length,.own 31 (gbT al kids ps).first.length,.d (.raw za6)]),(31,.row 3 1 ((gbT al kids ps).first.map za3))]) (by first | (rw [<- hnl9];first | done | kernel_rfl) | (rw [hnl9];first | done | kernel_rfl));replace h:=pubKX 999 3 83 ((gbT al kids ps).nodes.map dR) h [(gbT al kids ps).nodes.length] ⟨by first | exact (bA _).symm | (simp;done) | (simp;omega),trivial⟩;replace h:=pubKX 31 1 3 ((gbT al kids ps).first.map za3) h [(gbT al kids ps).first.length] ⟨by first | exact (bA _).symm | (simp;done) | (simp;omega),trivial⟩;replace h:=zft 101 2 108 1 34 [.d (.sl 3 ((gbT al kids ps).nodes.map dR)),.d (.sl 1 ((gbT al kids ps).first.map za3)),.d (.raw za6)] h;replace h:=zb7 108 32 h;replace h:=cvM [] [] [] [(101,.box [.d (.sl 3 ((gbT al kids ps).nodes.map dR)),.d (.sl 1 ((gbT al kids ps).first.map za3)),.own 32 (zg2 al kids ps 0).length]),(32,.row 34 1 ((zg2 al kids ps 0).map (slD 1 za3)))] (by kernel_rfl) h
 refine zdp (ι:=(Nat)) (fun q=>q<=al.length)
   [] (fun q=>[(77,vN q)])
   [] (fun q=>[(101,.box [.d (.sl 3 ((gbT al kids ps).nodes.map dR)),.d (.sl 1 ((gbT al kids ps).first.map za3)),.own 32 (zg2 al kids ps q).length]),(32,.row 34 1 ((zg2 al kids ps q).map (slD 1 za3)))])
   (fun q=>al.length - q) 0 ?_ h ?_
 ·exact bF _
 clear h;rintro q a w hI h;have hsle:=set_le al kids ps q;refine Je 109 [] [] [(78,vb (decide ((q:Int)<((al.map dN).length:Int))))] h fun a w h=>qW (zav ((q:Int)<((al.map dN).length:Int)) h (fun hc9 hc9'=>?_) (fun hc12 hc12'=>?_))
 ·refine qU (za1 (qW (qZ ?_)));obtain ⟨f_q,hf_q⟩:∃ f,al[q]?=some f:=⟨_,bI (by have:=dT hc9;rw [hlm] at this;omega)⟩;refine Jg 109 [(1,.g (xD 80 75 zha ((zab (show (al.map dN)[q]?=some f_q.l by rw [bX,hf_q];rfl) (f:=dP)).trans (congrArg some (za2.d_eq f_q.l))) (dL 77 _)))] [78] [(10,vN q),(11,vp 109 0)] [] [(109,.box [.d (.raw (.int .i64 f_q.l.kind)),.d (.raw (.int .i64 f_q.l.prop)),.d (.sl 3 (f_q.l.kids.map dP))])] h fun a w h=>?_;refine Jg 110 [] [11] [(84,vb (f_q.l.kind == 11))] [109] [] h fun a w h=>cS (f_q.l.kind == 11) h (fun hc10=>?_) (fun hc11=>?_)
  ·refine Jh 110 [(4,.call (SFulG al q (kids[q]'(by have:=zal hf_q;rw [hkl];omega)) (bI _) (by omega) hps)),(5,.g (bD 90 ([(zhe ps kids (q:Int))].map (slD 1 za3)) [(89,.t (.c (.d (.sl 1 ((zhe ps kids (q:Int)).map za3)))))] vb9_12 (.cons (i:=0) (dL 89 _) (.nil)) (by kernel_rfl) (by simp [slD]))),(6,.g (Op.appOD (d:=91) (t:=86) (u:=90) (n:=32) (n':=110) (len:=(zg2 al kids ps q).length) (len':=((zg2 al kids ps q)++[(zhe ps kids (q:Int))]).length) (rows:=(zg2 al kids ps q).map (slD 1 za3)) (rows2:=[(zhe ps kids (q:Int))].map (slD 1 za3)) (rows':=((zg2 al kids ps q)++[(zhe ps kids (q:Int))]).map (slD 1 za3)) vb9_13 (by first | exact (bA _).symm | simp) (by first | (rw [bB,bA];done) | (simp;done) | (simp;omega)) (by simp) (by simp [slD]) (by first | omega | (simp at *;done) | (simp at *;omega))))] [10,84] [] [32] [(101,.box ([.d (.sl 3 ((gbT al kids ps).nodes.map dR)),.d (.sl 1 ((gbT al kids ps).first.map za3)),.own 110 ((zg2 al kids ps q)++[(zhe ps kids (q:Int))]).length])),(110,.row 34 1 (((zg2 al kids ps q)++[(zhe ps kids (q:Int))]).map (slD 1 za3)))] h fun a w h=>?_;refine za7 (za1 (Jf 111 [(0,.add .i64 (m:=(q:Int)) (n:=1) i6)] [] [(77,vI ((q:Int)+1))] h fun a w h=>za1 ?_));replace h:=zb7 110 32 h;have hiu:isU f_q=true:=isU_of (by have:=hc10;simpa using this);have hsj:((zg2 al kids ps q)++[(zhe ps kids (q:Int))])=(zg2 al kids ps (q+1)):=by rw [set_step hf_q,hiu];first | done | rfl | exact (bC _).symm
   replace h:=cvM [] [] [] [(101,.box [.d (.sl 3 ((gbT al kids ps).nodes.map dR)),.d (.sl 1 ((gbT al kids ps).first.map za3)),.own 32 (zg2 al kids ps (q+1)).length]),(32,.row 34 1 ((zg2 al kids ps (q+1)).map (slD 1 za3)))] (by rw [hsj]; try kernel_rfl) h;refine zaj (x:=q) (y:=q+1) h ?_ ?_
   ·have:=zal hf_q;show q+1<=al.length;omega
   have:=zal hf_q;show al.length - (q+1)<al.length - q;omega
  refine qU (za7 (za1 (Jf 111 [(0,.add .i64 (m:=(q:Int)) (n:=1) i6)] [10,84] [(77,vI ((q:Int)+1))] h fun a w h=>za1 ?_)));have hiu:isU f_q=false:=isU_no (by have:=hc11;simpa using this);have hsj:(zg2 al kids ps q)=(zg2 al kids ps (q+1)):=by rw [set_step hf_q,hiu];first | done | rfl | exact (bC _).symm
  replace h:=cvM [] [] [] [(101,.box [.d (.sl 3 ((gbT al kids ps).nodes.map dR)),.d (.sl 1 ((gbT al kids ps).first.map za3)),.own 32 (zg2 al kids ps (q+1)).length]),(32,.row 34 1 ((zg2 al kids ps (q+1)).map (slD 1 za3)))] (by rw [hsj]; try kernel_rfl) h;refine zaj (x:=q) (y:=q+1) h ?_ ?_
  ·have:=zal hf_q;show q+1<=al.length;omega
  have:=zal hf_q;show al.length - (q+1)<al.length - q;omega
 refine exA (Jg 111 [] [0,3,75,76,77,78] [] [101] [(100,.box [.d (.sl 3 ((gbT al kids ps).nodes.map dR)),.d (.sl 1 ((gbT al kids ps).first.map za3)),.own 32 (zg2 al kids ps q).length])] h fun a w h=>qV ?_);have hse:zg2 al kids ps q=(gbT al kids ps).sets:=by rw [<- set_all,show q=al.length by have:=dF hc12;rw [hlm] at this;omega]
 replace h:=cvM [] [] [] [(100,.box [.d (.sl 3 ((gbT al kids ps).nodes.map dR)),.d (.sl 1 ((gbT al kids ps).first.map za3)),.own 32 (gbT al kids ps).sets.length]),(32,.row 34 1 ((gbT al kids ps).sets.map (slD 1 za3)))] (by rw [hse]; try kernel_rfl) h;replace h:=pubKX 32 1 34 ((gbT al kids ps).sets.map (slD 1 za3)) h [(gbT al kids ps).sets.length] ⟨by first | exact (bA _).symm | (simp;done) | (simp;omega),trivial⟩;refine rA 100 [.d (.sl 3 ((gbT al kids ps).nodes.map dR)),.d (.sl 1 ((gbT al kids ps).first.map za3)),.d (.sl 1 ((gbT al kids ps).sets.map (slD 1 za3)))] h vb9_14 rfl ?_;rfl
theorem vc0_4:zax dJ 28:=zax.mk' (by kernel_rfl)
def gz (r:Option GbD):GbD:=r.getD ⟨[],[],[]⟩
def ge {α:Type} (r:Option α):Int:=if r.isSome=true then 0 else 3
theorem tab_kd (p:PF):KdOk (zb1 p).al (zb1 p).kids:=⟨(zbq p ⟨[],[]⟩ rfl).len,fun j f k h1 h2=>(zbq p ⟨[],[]⟩ rfl).new j f k (bF _) h1 h2⟩
theorem tab_len (p:PF):(zb1 p).al.length<=psz p:=by have h9:=zcu p ⟨[],[]⟩;unfold zb1;simpa using h9
theorem tab_top (p:PF):InZ (zb1 p).al.length (zbv p):=(zbq p ⟨[],[]⟩ rfl).at_.inz
theorem tab_iv (p:PF):RIv (zb1 p).al.length 0 ⟨[],[⟨[zbv p],[],[],-1⟩]⟩:=⟨fun t ht=>by
  rw [bE.1 ht]
  exact ⟨fun i hi=>by rw [bE.1 hi];exact tab_top p,fun i hi=>(by cases hi),List.Pairwise.nil,fun i hi=>(by cases hi),by simp,by simp,by simp⟩,
 fun p hp=>(by cases hp),by simp,by simp⟩
theorem places_ok {p:PF} {ps:List zas} (h:runT9 (zb1 p).al (zb1 p).kids 65536 ⟨[],[⟨[zbv p],[],[],-1⟩]⟩=some ps):(∀ q ∈ ps,PlOk (zb1 p).al.length 65536 q)/\ps.length<=4096/\∀ q ∈ ps,∀ f ∈ q.frm,f<ps.length:=by
 obtain ⟨h1,h2⟩:=run_ok (tab_kd p) _ 0 _ ps (tab_iv p) h
 rw [cJ] at h1
 refine ⟨h1,h2,fun q hq f hf=>?_⟩
 have h3:=run_inv (tab_ok p).1 _ _ _ (start_inv (zbv p)) h
 rcases (h3.pok q hq).2 f hf with ⟨e,_⟩ | ⟨k,r,e,e2,_⟩
 ·omega
 ·have:=(bG.1 e2).1;rw [e];exact Int.ofNat_lt.2 this
theorem gba_some {p:PF} {ps:List zas} (h:runT9 (zb1 p).al (zb1 p).kids 65536 ⟨[],[⟨[zbv p],[],[],-1⟩]⟩=some ps):gbaF p=some (gbT (zb1 p).al (zb1 p).kids ps):=by unfold gbaF;rw [h];rfl
theorem gba_none {p:PF} (h:runT9 (zb1 p).al (zb1 p).kids 65536 ⟨[],[⟨[zbv p],[],[],-1⟩]⟩=none):gbaF p=none:=by unfold gbaF;rw [h];rfl
theorem SNumberO (p:PF) (hp:psz p<=1000):Fn dJ 27 [(0,.box [.own 8 (zdo.mk [] []).al.length,.own 9 (zdo.mk [] []).kids.length,nCl,.own 7 0]),(8,.row 24 3 (((zdo.mk [] []).al.map dN).map dP)),(9,.row 110 2 ((zdo.mk [] []).kids.map prI))] [vp 0 0,vG [cI p.l.kind,cI p.l.prop,.d (.sl 3 (p.l.kids.map dP))]] (vi .i64 (zbv p)) [(0,.box [.own 18 (zb0 p (zdo.mk [] [])).1.al.length,.own 19 (zb0 p (zdo.mk [] [])).1.kids.length,nCl,.own 7 0]),(18,.row 24 3 (((zb0 p (zdo.mk [] [])).1.al.map dN).map dP)),(19,.row 110 2 ((zb0 p (zdo.mk [] [])).1.kids.map prI))] :=
 Fn.idle (j:=3) (x:=.own 7 0) (fun v3 _=>SNumber za6 v3 (psz p) p ⟨[],[]⟩ (bZ _) rfl (by show 0+_<=_;omega)) rfl rfl rfl
theorem SLayO (l1 l2:Nat) (x:TkD):Fn dJ 26 [(0,.box [.own 18 l1,.own 19 l2,nCl,.own 7 0]),(7,.row 71 4 ([].map dO))] [vp 0 0,vG [cIs x.look,cIs x.seen,cIs x.next,cI x.frm]] (.tup []) [(0,.box [.own 18 l1,.own 19 l2,nCl,.own 17 [x].length]),(17,.row 71 4 ([x].map dO))]:=by
 have h1:Fn dJ 26 [(0,.box [.own 28 l1,.own 29 l2,nCl,.own 8 0]),(8,.row 71 4 ([].map dO))] [vp 0 0,vG [cIs x.look,cIs x.seen,cIs x.next,cI x.frm]] (.tup []) [(0,.box [.own 28 l1,.own 29 l2,nCl,.own 18 [x].length]),(18,.row 71 4 ([x].map dO))]:=Fn.idle (j:=0) (x:=.own 28 l1) (fun v0 _=>Fn.idle (j:=1) (x:=.own 29 l2) (fun v1 _=>SLay v0 v1 za6 x [] (by decide)) rfl rfl rfl) rfl rfl rfl
 have h2:Fn dJ 26 [(0,.box [.own 28 l1,.own 29 l2,nCl,.own 7 0]),(7,.row 71 4 ([].map dO))] [vp 0 0,vG [cIs x.look,cIs x.seen,cIs x.next,cI x.frm]] (.tup []) [(0,.box [.own 28 l1,.own 29 l2,nCl,.own 18 [x].length]),(18,.row 71 4 ([x].map dO))]:=by
  refine Fn.renP (args':=[vp 0 0,vG [cIs x.look,cIs x.seen,cIs x.next,cI x.frm]]) 8 7 h1 (by decide) rfl rfl ?_ ?_ <;> kernel_rfl
 have h3:Fn dJ 26 [(0,.box [.own 28 l1,.own 29 l2,nCl,.own 7 0]),(7,.row 71 4 ([].map dO))] [vp 0 0,vG [cIs x.look,cIs x.seen,cIs x.next,cI x.frm]] (.tup []) [(0,.box [.own 28 l1,.own 29 l2,nCl,.own 17 [x].length]),(17,.row 71 4 ([x].map dO))]:=by
  refine Fn.renA 18 17 h2 rfl rfl rfl rfl ?_ ?_ ?_ <;> kernel_rfl
 have h4:Fn dJ 26 [(0,.box [.own 18 l1,.own 29 l2,nCl,.own 7 0]),(7,.row 71 4 ([].map dO))] [vp 0 0,vG [cIs x.look,cIs x.seen,cIs x.next,cI x.frm]] (.tup []) [(0,.box [.own 18 l1,.own 29 l2,nCl,.own 17 [x].length]),(17,.row 71 4 ([x].map dO))]:=by
  refine Fn.renA 28 18 h3 rfl rfl rfl rfl ?_ ?_ ?_ <;> kernel_rfl
 refine Fn.renA 29 19 h4 rfl rfl rfl rfl ?_ ?_ ?_ <;> kernel_rfl
theorem plN_pub (ps:List zas):((plN ps).map fun r=>r.1++[D.sl 1 r.2])=ps.map zas.d:=by unfold plN;rw [bW];rfl
theorem SGOf (f:za2) (hp:psz (f.pfD false)<=1000):Fn dJ 15 [] [.t (.agg [.d (.raw (.int .i64 f.kind)),.d (.raw (.int .i64 f.prop)),.d (.sl 3 (f.kids.map dP))])] (.tup [.agg [.d (.sl 3 ((gz (gbaF (f.pfD false))).nodes.map dR)),.d (.sl 1 ((gz (gbaF (f.pfD false))).first.map za3)),.d (.sl 1 ((gz (gbaF (f.pfD false))).sets.map (slD 1 za3)))],.c (.d (.raw (.int .i64 (ge (gbaF (f.pfD false))))))]) []:=by
 refine fB Tryz.func15 rfl 21 fun w H B a h=>Jq 90 [] [(1,vp 90 0),(2,vp 91 0),(3,vI 0)] [(90,.box [.d (.raw (.int .i64 f.kind)),.d (.raw (.int .i64 f.prop)),.d (.sl 3 (f.kids.map dP))]),(91,.box [.d (.raw za6),.d (.raw za6),.d (.raw za6)])] h fun a w h=>Jq 92 [] [(1,vp 90 0),(2,vp 91 0),(3,vI 0),(4,vp 92 0)] [(90,.box [.d (.raw (.int .i64 f.kind)),.d (.raw (.int .i64 f.prop)),.d (.sl 3 (f.kids.map dP))]),(91,.box [.d (.raw za6),.d (.raw za6),.d (.raw za6)]),(92,.box [.d (.raw za6),.d (.raw za6),.d (.raw za6),.d (.raw za6)])] h fun a w h=>?_
 replace h:=renS 92 0 [(1,vp 90 0),(2,vp 91 0),(3,vI 0),(4,vp 0 0)] [(90,.box [.d (.raw (.int .i64 f.kind)),.d (.raw (.int .i64 f.prop)),.d (.sl 3 (f.kids.map dP))]),(91,.box [.d (.raw za6),.d (.raw za6),.d (.raw za6)]),(0,.box [.d (.raw za6),.d (.raw za6),.d (.raw za6),.d (.raw za6)])] h;replace h:=zgy 0 0 93 3 24 [.d (.raw za6),.d (.raw za6),.d (.raw za6),.d (.raw za6)] [(1,vp 90 0),(2,vp 91 0),(3,vI 0),(4,vp 0 0)] [(90,.box [.d (.raw (.int .i64 f.kind)),.d (.raw (.int .i64 f.prop)),.d (.sl 3 (f.kids.map dP))]),(91,.box [.d (.raw za6),.d (.raw za6),.d (.raw za6)]),(0,.box [.own 93 0,.d (.raw za6),.d (.raw za6),.d (.raw za6)]),(93,.row 24 3 ([].map dP))] h (by kernel_rfl) rfl rfl;replace h:=renS 93 8 [(1,vp 90 0),(2,vp 91 0),(3,vI 0),(4,vp 0 0)] [(90,.box [.d (.raw (.int .i64 f.kind)),.d (.raw (.int .i64 f.prop)),.d (.sl 3 (f.kids.map dP))]),(91,.box [.d (.raw za6),.d (.raw za6),.d (.raw za6)]),(0,.box [.own 8 0,.d (.raw za6),.d (.raw za6),.d (.raw za6)]),(8,.row 24 3 ([].map dP))] h;replace h:=zgy 0 1 94 2 110 [.own 8 0,.d (.raw za6),.d (.raw za6),.d (.raw za6)] [(1,vp 90 0),(2,vp 91 0),(3,vI 0),(4,vp 0 0)] [(90,.box [.d (.raw (.int .i64 f.kind)),.d (.raw (.int .i64 f.prop)),.d (.sl 3 (f.kids.map dP))]),(91,.box [.d (.raw za6),.d (.raw za6),.d (.raw za6)]),(0,.box [.own 8 0,.own 94 0,.d (.raw za6),.d (.raw za6)]),(8,.row 24 3 ([].map dP)),(94,.row 110 2 ([].map prI))] h (by kernel_rfl) rfl rfl;replace h:=renS 94 9 [(1,vp 90 0),(2,vp 91 0),(3,vI 0),(4,vp 0 0)] [(90,.box [.d (.raw (.int .i64 f.kind)),.d (.raw (.int .i64 f.prop)),.d (.sl 3 (f.kids.map dP))]),(91,.box [.d (.raw za6),.d (.raw za6),.d (.raw za6)]),(0,.box [.own 8 0,.own 9 0,.d (.raw za6),.d (.raw za6)]),(8,.row 24 3 ([].map dP)),(9,.row 110 2 ([].map prI))] h;replace h:=zgy 0 3 95 4 71 [.own 8 0,.own 9 0,.d (.raw za6),.d (.raw za6)] [(1,vp 90 0),(2,vp 91 0),(3,vI 0),(4,vp 0 0)] [(90,.box [.d (.raw (.int .i64 f.kind)),.d (.raw (.int .i64 f.prop)),.d (.sl 3 (f.kids.map dP))]),(91,.box [.d (.raw za6),.d (.raw za6),.d (.raw za6)]),(0,.box [.own 8 0,.own 9 0,.d (.raw za6),.own 95 0]),(8,.row 24 3 ([].map dP)),(9,.row 110 2 ([].map prI)),(95,.row 71 4 ([].map dO))] h (by kernel_rfl) rfl rfl;replace h:=renS 95 7 [(1,vp 90 0),(2,vp 91 0),(3,vI 0),(4,vp 0 0)] [(90,.box [.d (.raw (.int .i64 f.kind)),.d (.raw (.int .i64 f.prop)),.d (.sl 3 (f.kids.map dP))]),(91,.box [.d (.raw za6),.d (.raw za6),.d (.raw za6)]),(0,.box [.own 8 0,.own 9 0,.d (.raw za6),.own 7 0]),(8,.row 24 3 ([].map dP)),(9,.row 110 2 ([].map prI)),(7,.row 71 4 ([].map dO))] h;replace h:=h.conv (f':=F.of [(1,vp 90 0),(2,vp 91 0),(3,vI 0),(4,vp 0 0)] [(90,.box [.d (.raw (.int .i64 f.kind)),.d (.raw (.int .i64 f.prop)),.d (.sl 3 (f.kids.map dP))]),(91,.box [.d (.raw za6),.d (.raw za6),.d (.raw za6)]),(0,.box [.own 8 (zdo.mk [] []).al.length,.own 9 (zdo.mk [] []).kids.length,.d (.raw za6),.own 7 0]),(8,.row 24 3 (((zdo.mk [] []).al.map dN).map dP)),(9,.row 110 2 ((zdo.mk [] []).kids.map prI)),(7,.row 71 4 ([].map dO))]) (rfl);refine Jq 96 [(3,.call (SWPlain f false)),(4,.call (SNumberO (f.pfD false) hp)),(5,.g (bD 12 ([zbv (f.pfD false)].map za3) [(11,vI (zbv (f.pfD false)))] vb2_1 (.cons (i:=0) (dL 11 _) (.nil)) (by kernel_rfl) (by simp [za3]))),(7,.call (Fn.argw (SLayO (zb0 (f.pfD false) (zdo.mk [] [])).1.al.length (zb0 (f.pfD false) (zdo.mk [] [])).1.kids.length (TkD.mk [zbv (f.pfD false)] [] [] (-1))) (.cons _ _ _ _ (.refl _) (.cons _ _ _ _ (.agg _ _ (.same _ _ _ (.d _ _ _ _ (.nil _) (.d _ _ _ _ (.nil _) (.same _ _ _ .nil))))) .nil))))] [(2,vp 91 0),(3,vI 0),(4,vp 0 0)] [(91,.box [.d (.raw za6),.d (.raw za6),.d (.raw za6)]),(0,.box [.own 18 (zb0 (f.pfD false) (zdo.mk [] [])).1.al.length,.own 19 (zb0 (f.pfD false) (zdo.mk [] [])).1.kids.length,.d (.raw za6),.own 17 ([(TkD.mk [zbv (f.pfD false)] [] [] (-1))].length)]),(18,.row 24 3 (((zb0 (f.pfD false) (zdo.mk [] [])).1.al.map dN).map dP)),(19,.row 110 2 ((zb0 (f.pfD false) (zdo.mk [] [])).1.kids.map prI)),(17,.row 71 4 ([(TkD.mk [zbv (f.pfD false)] [] [] (-1))].map dO))] h fun a w h=>qW ?_;replace h:=h.conv (f':=F.of [(2,vp 91 0),(3,vI 0),(4,vp 0 0)] [(91,.box [.d (.raw za6),.d (.raw za6),.d (.raw za6)]),(0,.box [.own 18 (zb1 (f.pfD false)).al.length,.own 19 (zb1 (f.pfD false)).kids.length,.d (.raw za6),.own 17 ([TkD.mk [zbv (f.pfD false)] [] [] (-1)].length)]),(18,.row 24 3 (((zb1 (f.pfD false)).al.map dN).map dP)),(19,.row 110 2 ((zb1 (f.pfD false)).kids.map prI)),(17,.row 71 4 ([TkD.mk [zbv (f.pfD false)] [] [] (-1)].map dO))]) (rfl);replace h:=pubS 18 3 24 (((zb1 (f.pfD false)).al.map dN).map dP) [(2,vp 91 0),(3,vI 0),(4,vp 0 0)] [(91,.box [.d (.raw za6),.d (.raw za6),.d (.raw za6)]),(0,.box [.d (.sl 3 (((zb1 (f.pfD false)).al.map dN).map dP)),.own 19 (zb1 (f.pfD false)).kids.length,.d (.raw za6),.own 17 ([TkD.mk [zbv (f.pfD false)] [] [] (-1)].length)]),(19,.row 110 2 ((zb1 (f.pfD false)).kids.map prI)),(17,.row 71 4 ([TkD.mk [zbv (f.pfD false)] [] [] (-1)].map dO))] h rfl trivial (show zcg _ [(zb1 (f.pfD false)).al.length] from ⟨by first | exact (bA _).symm | (simp;done) | (simp;omega),trivial⟩);replace h:=pubS 19 2 110 ((zb1 (f.pfD false)).kids.map prI) [(2,vp 91 0),(3,vI 0),(4,vp 0 0)] [(91,.box [.d (.raw za6),.d (.raw za6),.d (.raw za6)]),(0,.box [.d (.sl 3 (((zb1 (f.pfD false)).al.map dN).map dP)),.d (.sl 2 ((zb1 (f.pfD false)).kids.map prI)),.d (.raw za6),.own 17 ([TkD.mk [zbv (f.pfD false)] [] [] (-1)].length)]),(17,.row 71 4 ([TkD.mk [zbv (f.pfD false)] [] [] (-1)].map dO))] h rfl trivial (show zcg _ [(zb1 (f.pfD false)).kids.length] from ⟨by first | exact (bA _).symm | (simp;done) | (simp;omega),trivial⟩);replace h:=renS 17 8 [(2,vp 91 0),(3,vI 0),(4,vp 0 0)] [(91,.box [.d (.raw za6),.d (.raw za6),.d (.raw za6)]),(0,.box [.d (.sl 3 (((zb1 (f.pfD false)).al.map dN).map dP)),.d (.sl 2 ((zb1 (f.pfD false)).kids.map prI)),.d (.raw za6),.own 8 ([TkD.mk [zbv (f.pfD false)] [] [] (-1)].length)]),(8,.row 71 4 ([TkD.mk [zbv (f.pfD false)] [] [] (-1)].map dO))] h;have hfc:=SRun [TkD.mk [zbv (f.pfD false)] [] [] (-1)] (tab_kd (f.pfD false)) (by have:=tab_len (f.pfD false);omega) (tab_iv (f.pfD false))
 cases hrun:runT9 (zb1 (f.pfD false)).al (zb1 (f.pfD false)).kids 65536 (TbS.mk [] [TkD.mk [zbv (f.pfD false)] [] [] (-1)]) with
 | none =>
  have hfd:Fn dJ 28 [(0,.box [.d (.sl 3 (((zb1 (f.pfD false)).al.map dN).map dP)),.d (.sl 2 ((zb1 (f.pfD false)).kids.map prI)),.d (.raw za6),.own 8 ([TkD.mk [zbv (f.pfD false)] [] [] (-1)].length)]),(8,.row 71 4 ([TkD.mk [zbv (f.pfD false)] [] [] (-1)].map dO))] [vp 0 0] (vb false) ([(0,.box [.d (.sl 3 (((zb1 (f.pfD false)).al.map dN).map dP)),.d (.sl 2 ((zb1 (f.pfD false)).kids.map prI)),.any,.any])]):=by unfold runQ at hfc;rw [hrun] at hfc;exact hfc
  refine qW (regionC (g:=F.oft [(2,vp 91 0),(3,vI 0),(4,vp 0 0),(17,vb true)] [(0,.box [.d (.sl 3 (((zb1 (f.pfD false)).al.map dN).map dP)),.d (.sl 2 ((zb1 (f.pfD false)).kids.map prI)),.any,.any]),(91,.box [.d (.raw za6),.d (.raw za6),.d (.raw za6)])] (fun _=>none)) ?_ h ?_)
  ·show Chn _ _ _ _ _ [0,1,2];refine .cons { rs:=[(4,vp 0 0)],ws:=[(15,some (vp 0 0))] } rfl (.run rfl (Op.move (dL 4 _))) (zfw (by kernel_rfl) rfl) (rd (by kernel_rfl) (by kernel_rfl)) (fun n hn=>by cases hn) (.cons (zcn [(15,vp 0 0)] [(0,.box [.d (.sl 3 (((zb1 (f.pfD false)).al.map dN).map dP)),.d (.sl 2 ((zb1 (f.pfD false)).kids.map prI)),.d (.raw za6),.own 8 ([TkD.mk [zbv (f.pfD false)] [] [] (-1)].length)]),(8,.row 71 4 ([TkD.mk [zbv (f.pfD false)] [] [] (-1)].map dO))] ([(0,.box [.d (.sl 3 (((zb1 (f.pfD false)).al.map dN).map dP)),.d (.sl 2 ((zb1 (f.pfD false)).kids.map prI)),.any,.any])]) 16 (vb false)) rfl (.run rfl (Op.call hfd vc0_4 (OVs.cons (dL 15 _) .nil))) (zfw (by kernel_rfl) rfl) (rd (by kernel_rfl) (by kernel_rfl)) (fun n hn=>by simp [zcn,zcm] at hn) (.cons { rs:=[(16,vb false)],ws:=[(17,some (vb true))] } rfl (.run rfl (Op.not (dL 16 _))) (zfw (by kernel_rfl) rfl) (rd (by kernel_rfl) (by kernel_rfl)) (fun n hn=>by cases hn) (.nil ⟨fun t v hv=>zam (show leS _ [(2,vp 91 0),(3,vI 0),(4,vp 0 0),(17,vb true)]=([(2,vp 91 0),(3,vI 0),(4,vp 0 0),(17,vb true)]).map (fun p=>some p.2) by kernel_rfl) _ (zae hv),fun n l hn=>?_⟩)))
   rcases zaz hn with h_ | ⟨_,h_⟩
   ·exact zam (show leN _ [(0,.box [.d (.sl 3 (((zb1 (f.pfD false)).al.map dN).map dP)),.d (.sl 2 ((zb1 (f.pfD false)).kids.map prI)),.any,.any]),(91,.box [.d (.raw za6),.d (.raw za6),.d (.raw za6)])]=([(0,.box [.d (.sl 3 (((zb1 (f.pfD false)).al.map dN).map dP)),.d (.sl 2 ((zb1 (f.pfD false)).kids.map prI)),.any,.any]),(91,.box [.d (.raw za6),.d (.raw za6),.d (.raw za6)])]).map (fun p=>some p.2) by kernel_rfl) (n,l) (zae h_)
   cases h_
  clear h;intro a w h;rw [oft_none] at h;refine cS true h (fun _=>?_) nofun
  refine Jq 96 [] [(2,vp 91 0),(3,vI 3),(4,vp 0 0)] [(0,.box [.d (.sl 3 (((zb1 (f.pfD false)).al.map dN).map dP)),.d (.sl 2 ((zb1 (f.pfD false)).kids.map prI)),.any,.any]),(91,.box [.d (.raw za6),.d (.raw za6),.d (.raw za6)])] h fun a w h=>qV (za5 ?_);replace h:=nilDLs 91 0 3 [.d (.raw za6),.d (.raw za6),.d (.raw za6)] [(2,vp 91 0),(3,vI 3),(4,vp 0 0)] [(0,.box [.d (.sl 3 (((zb1 (f.pfD false)).al.map dN).map dP)),.d (.sl 2 ((zb1 (f.pfD false)).kids.map prI)),.any,.any]),(91,.box [.d (.sl 3 ([].map dR)),.d (.raw za6),.d (.raw za6)])] h rfl rfl;replace h:=nilDLs 91 1 1 [.d (.sl 3 ([].map dR)),.d (.raw za6),.d (.raw za6)] [(2,vp 91 0),(3,vI 3),(4,vp 0 0)] [(0,.box [.d (.sl 3 (((zb1 (f.pfD false)).al.map dN).map dP)),.d (.sl 2 ((zb1 (f.pfD false)).kids.map prI)),.any,.any]),(91,.box [.d (.sl 3 ([].map dR)),.d (.sl 1 ([].map za3)),.d (.raw za6)])] h rfl rfl;replace h:=nilDLs 91 2 1 [.d (.sl 3 ([].map dR)),.d (.sl 1 ([].map za3)),.d (.raw za6)] [(2,vp 91 0),(3,vI 3),(4,vp 0 0)] [(0,.box [.d (.sl 3 (((zb1 (f.pfD false)).al.map dN).map dP)),.d (.sl 2 ((zb1 (f.pfD false)).kids.map prI)),.any,.any]),(91,.box [.d (.sl 3 ([].map dR)),.d (.sl 1 ([].map za3)),.d (.sl 1 ([].map (slD 1 za3)))])] h rfl rfl;have hgb:gbaF (f.pfD false)=none:=gba_none hrun;refine zgx [.agg [.d (.sl 3 ([].map dR)),.d (.sl 1 ([].map za3)),.d (.sl 1 ([].map (slD 1 za3)))],.c (.d (.raw (.int .i64 3)))] h Exit.ret (.inl rfl)  rfl ⟨RV.agg _ 91 0 _ _ _ _ vb9_14 rfl rfl rfl rfl,vT9,trivial⟩ ?_;rw [hgb];try rfl
 | some M9 =>
  have hfd:Fn dJ 28 [(0,.box [.d (.sl 3 (((zb1 (f.pfD false)).al.map dN).map dP)),.d (.sl 2 ((zb1 (f.pfD false)).kids.map prI)),.d (.raw za6),.own 8 ([TkD.mk [zbv (f.pfD false)] [] [] (-1)].length)]),(8,.row 71 4 ([TkD.mk [zbv (f.pfD false)] [] [] (-1)].map dO))] [vp 0 0] (vb true) (nsL 113 3 3 1 999 nm0 (plN M9) [(0,.box [.d (.sl 3 (((zb1 (f.pfD false)).al.map dN).map dP)),.d (.sl 2 ((zb1 (f.pfD false)).kids.map prI)),.own 999 M9.length,.any])]):=by unfold runQ at hfc;rw [hrun] at hfc;exact hfc
  refine qW (regionC (g:=F.oft [(2,vp 91 0),(3,vI 0),(4,vp 0 0),(17,vb false)] [(0,.box [.d (.sl 3 (((zb1 (f.pfD false)).al.map dN).map dP)),.d (.sl 2 ((zb1 (f.pfD false)).kids.map prI)),.own 999 M9.length,.any]),(91,.box [.d (.raw za6),.d (.raw za6),.d (.raw za6)])] (nsT 113 3 3 1 (plN M9))) ?_ h ?_)
  ·show Chn _ _ _ _ _ [0,1,2];refine .cons { rs:=[(4,vp 0 0)],ws:=[(15,some (vp 0 0))] } rfl (.run rfl (Op.move (dL 4 _))) (zfw (by kernel_rfl) rfl) (rd (by kernel_rfl) (by kernel_rfl)) (fun n hn=>by cases hn) (.cons (zcn [(15,vp 0 0)] [(0,.box [.d (.sl 3 (((zb1 (f.pfD false)).al.map dN).map dP)),.d (.sl 2 ((zb1 (f.pfD false)).kids.map prI)),.d (.raw za6),.own 8 ([TkD.mk [zbv (f.pfD false)] [] [] (-1)].length)]),(8,.row 71 4 ([TkD.mk [zbv (f.pfD false)] [] [] (-1)].map dO))] (nsL 113 3 3 1 999 nm0 (plN M9) [(0,.box [.d (.sl 3 (((zb1 (f.pfD false)).al.map dN).map dP)),.d (.sl 2 ((zb1 (f.pfD false)).kids.map prI)),.own 999 M9.length,.any])]) 16 (vb true)) rfl (.run rfl (Op.call hfd vc0_4 (OVs.cons (dL 15 _) .nil))) (zfw (by kernel_rfl) rfl) (rd (by kernel_rfl) (by kernel_rfl)) (ns_nw0 (by kernel_rfl) (fun n hn=>(new_high rfl (by kernel_rfl) (by kernel_rfl) n hn).app1 (by show zcm [0] n=false;unfold zcm;simp only [List.any_cons,List.any_nil,Bool.or_false];exact zck (by omega)))) (.cons { rs:=[(16,vb true)],ws:=[(17,some (vb false))] } rfl (.run rfl (Op.not (dL 16 _))) (zfw (by kernel_rfl) rfl) (rd (by kernel_rfl) (by kernel_rfl)) (fun n hn=>by cases hn) (.nil ⟨fun t v hv=>zam (show leS _ [(2,vp 91 0),(3,vI 0),(4,vp 0 0),(17,vb false)]=([(2,vp 91 0),(3,vI 0),(4,vp 0 0),(17,vb false)]).map (fun p=>some p.2) by kernel_rfl) _ (zae hv),fun n l hn=>?_⟩)));refine ns_after0 (lc1:=[(91,.box [.d (.raw za6),.d (.raw za6),.d (.raw za6)])]) (by kernel_rfl) (by kernel_rfl) (fun n l h_=>?_) (by kernel_rfl) hn;exact zam (show ([(91,.box [.d (.raw za6),.d (.raw za6),.d (.raw za6)])]:List (Nat × L)).map (fun p=>((F.of [(2,vp 91 0),(3,vI 0),(4,vp 0 0)] [(91,.box [.d (.raw za6),.d (.raw za6),.d (.raw za6)]),(0,.box [.d (.sl 3 (((zb1 (f.pfD false)).al.map dN).map dP)),.d (.sl 2 ((zb1 (f.pfD false)).kids.map prI)),.d (.raw za6),.own 8 ([TkD.mk [zbv (f.pfD false)] [] [] (-1)].length)]),(8,.row 71 4 ([TkD.mk [zbv (f.pfD false)] [] [] (-1)].map dO))]).app { rs:=[(4,vp 0 0)],ws:=[(15,some (vp 0 0))] }).l p.1)=([(91,.box [.d (.raw za6),.d (.raw za6),.d (.raw za6)])]:List (Nat × L)).map (fun p=>some p.2) by kernel_rfl) (n,l) (zae h_)
  clear h;intro a w h;replace h:St _ (F.oft [(2,vp 91 0),(3,vI 0),(4,vp 0 0),(17,vb false)] [(0,.box [.d (.sl 3 (((zb1 (f.pfD false)).al.map dN).map dP)),.d (.sl 2 ((zb1 (f.pfD false)).kids.map prI)),.own 999 M9.length,.any]),(91,.box [.d (.raw za6),.d (.raw za6),.d (.raw za6)])] (nsT 113 3 3 1 (plN M9))) a w:=h;replace h:=ns_pub h (by kernel_rfl) (by kernel_rfl) (by kernel_rfl);rw [plN_pub] at h;obtain ⟨hpo,hpn,hpf⟩:=places_ok hrun;replace h:=pubS 999 3 113 (M9.map zas.d) [(2,vp 91 0),(3,vI 0),(4,vp 0 0),(17,vb false)] [(0,.box [.d (.sl 3 (((zb1 (f.pfD false)).al.map dN).map dP)),.d (.sl 2 ((zb1 (f.pfD false)).kids.map prI)),.d (.sl 3 (M9.map zas.d)),.any]),(91,.box [.d (.raw za6),.d (.raw za6),.d (.raw za6)])] h rfl trivial (show zcg _ [M9.length] from ⟨by first | exact (bA _).symm | (simp;done) | (simp;omega),trivial⟩);refine zd1 h (qU (za1 (Jq 96 [(1,.call (SGba (by have:=tab_len (f.pfD false);omega) (tab_kd (f.pfD false)).len hpn (fun p hp=>(hpo p hp).sz) (fun p hp=>⟨(hpo p hp).seen,by have:=(hpo p hp).ls;omega⟩) (fun p hp=>by have:=(hpo p hp).lf;omega) hpf))] [(2,vp 91 0),(3,vI 0)] [(91,.box [.d (.sl 3 ((gbT (zb1 (f.pfD false)).al (zb1 (f.pfD false)).kids M9).nodes.map dR)),.d (.sl 1 ((gbT (zb1 (f.pfD false)).al (zb1 (f.pfD false)).kids M9).first.map za3)),.d (.sl 1 ((gbT (zb1 (f.pfD false)).al (zb1 (f.pfD false)).kids M9).sets.map (slD 1 za3)))])] h fun a w h=>qV ?_)));have hgb:gbaF (f.pfD false)=some (gbT (zb1 (f.pfD false)).al (zb1 (f.pfD false)).kids M9):=gba_some hrun;refine zgx [.agg [.d (.sl 3 ((gbT (zb1 (f.pfD false)).al (zb1 (f.pfD false)).kids M9).nodes.map dR)),.d (.sl 1 ((gbT (zb1 (f.pfD false)).al (zb1 (f.pfD false)).kids M9).first.map za3)),.d (.sl 1 ((gbT (zb1 (f.pfD false)).al (zb1 (f.pfD false)).kids M9).sets.map (slD 1 za3)))],.c (.d (.raw (.int .i64 0)))] h Exit.ret (.inl rfl)  rfl ⟨RV.agg _ 91 0 _ _ _ _ vb9_14 rfl rfl rfl rfl,vT9,trivial⟩ ?_;rw [hgb];try rfl
theorem vc1_2:zax dJ 91:=zax.mk' (by kernel_rfl)
theorem vc1_5:zax dJ 93:=zax.mk' (by kernel_rfl)
theorem vc1_9:ElZ dJ 100 103 2:=ElZ.mk' Tryz.underlying100 _ _ rfl rfl
theorem vc1_10:ElT dJ 100 103 2 16:=ElT.mk' Tryz.underlying100 _ _ rfl rfl
def SpD.d (x:SpD):List D:=[.raw (.int .i64 x.node),.raw (.int .i64 ((x.at_:Nat):Int))]
def LtOk (wd:zaf):Prop:=∀ i,i<wN wd->(zc4 wd i).length<=9223372036854775807
def zff (g:GbD):Prop:=g.nodes.length<=10000/\∀ n ∈ g.nodes,n.must.length<=10000/\n.never.length<=10000/\n.next.length<=10000
theorem ndI_at {ns:List za4} {k:Nat} {n:za4} (h:ns[k]?=some n):ndI ns (k:Int)=some n:=by unfold ndI;rw [if_pos (by omega),bT,h]
theorem spB_at {g:GbD} {k x:Nat} {n:za4} (h:g.nodes[k]?=some n):spB g wd ⟨(k:Int),x⟩=alwT n (zc4 wd x):=by unfold spB;rw [ndI_at h]
theorem spB_lo {g:GbD} {x:Nat} (h:k<0):spB g wd ⟨k,x⟩=false:=by unfold spB ndI;rw [if_neg (show ¬ 0<=k by omega)]
theorem spB_hi {g:GbD} {x:Nat} (h:¬ k<(g.nodes.length:Int)):spB g wd ⟨k,x⟩=false:=by
 unfold spB ndI
 by_cases h0:0<=k
 ·rw [if_pos (show 0<=(SpD.mk k x).node from h0),List.getElem?_eq_none (show g.nodes.length<=k.toNat by omega)]
 ·rw [if_neg (show ¬ 0<=(SpD.mk k x).node from h0)]
theorem zey {g:GbD} {x:Nat} (h:ks[j]?=some k):zai g wd (ks.take (j+1)) x=zai g wd (ks.take j) x++if spB g wd ⟨k,x⟩=true then [⟨k,x⟩] else []:=by
 unfold zai
 rw [bP,h]
 simp only [cA,bS,List.map_cons,List.map_nil,cW]
 congr 1
 by_cases e:spB g wd ⟨k,x⟩=true
 ·rw [if_pos e];simp [e]
 ·rw [if_neg e];simp [e]
theorem zez (g:GbD) (wd:zaf) (ks:List Int) (x:Nat):(zai g wd ks x).length<=ks.length:=by
 unfold zai;exact bL (cX _ _) (by rw [bA];exact bZ _)
theorem nexI_at {g:GbD} {k:Nat} {n:za4} (h:g.nodes[k]?=some n):nexI g (k:Int)=n.next:=by unfold nexI;rw [ndI_at h]
theorem SFi1p (g:GbD) (wd:zaf) (nd:Int) (ap:Nat) (k:Nat) (hlt:LtOk wd) (hl:wN wd<=1000) (hx:ap<wN wd):Fn dJ 91 [(1,.box [.d (.sl 3 (g.nodes.map dR)),cIs g.first,.d (.sl 1 (g.sets.map (slD 1 za3))),.d (.sl 1 (wd.stem.map (slD 1 za0))),.d (.sl 1 (wd.cycle.map (slD 1 za0)))]),(2,.box [cI nd,cI (ap:Int)])] [vN k,vp 1 0,vp 2 0] (vb (hdB (zc4 wd ap) (k:Int))) [(1,.box [.d (.sl 3 (g.nodes.map dR)),cIs g.first,.d (.sl 1 (g.sets.map (slD 1 za3))),.d (.sl 1 (wd.stem.map (slD 1 za0))),.d (.sl 1 (wd.cycle.map (slD 1 za0)))]),(2,.box [cI nd,cI (ap:Int)])]:=by
 have hN9:=zby wd;refine fB Tryz.func91 rfl 45 fun w H B a h=>Jq 5 [] [(0,vN k),(1,vp 1 0),(2,vp 2 0),(4,vb false)] [(1,.box [.d (.sl 3 (g.nodes.map dR)),cIs g.first,.d (.sl 1 (g.sets.map (slD 1 za3))),.d (.sl 1 (wd.stem.map (slD 1 za0))),.d (.sl 1 (wd.cycle.map (slD 1 za0)))]),(2,.box [cI nd,cI (ap:Int)])] h fun a w h=>Je 5 [] [] [(5,vW za6)] h fun a w h=>qW (Je 5 [(3,.len (c:=(.d (.sl 1 (wd.stem.map (slD 1 za0))))) (n:=wd.stem.length) (za9 _ _ _))] [] [(6,vN wd.stem.length)] h fun a w h=>Je 5 [] [] [(14,vb (decide ((ap:Int)<(wd.stem.length:Int))))] h fun a w h=>zav ((ap:Int)<(wd.stem.length:Int)) h (fun hc1 hc1'=>?_) (fun hc4 hc4'=>?_))
 ·obtain ⟨x1,hx1⟩:=gl wd.stem ap;have elx1:zc4 wd ap=x1:=wLet_stem hx1;have hlx1:x1.length<=9223372036854775807:=by have:=hlt ap hx;rw [elx1] at this;exact this
  refine Jf 5 [(5,.g (xD 20 17 zhd (zab hx1 (f:=(slD 1 za0))) (dL 19 _)))] [1,2,6,14] [(5,vS 1 (x1.map za0))] h fun a w h=>za1 ?_
  rcases bH (decide ((k:Int)<(x1.length:Int))) with hc2 | hc3
  ·have hc2':=dT hc2;obtain ⟨x2,hx2⟩:=gl x1 k;refine Jp 5 [(1,.cmp (op:=.geq) (m:=(k:Int)) (n:=0) (b:=true) .i64 (show decide ((k:Int)>=0)=true from decide_eq_true (by omega))),(5,.len (za9 1 za0 x1)),(6,.cmp (op:=.lss) (m:=(k:Int)) (n:=(x1.length:Int)) (b:=true) .i64 hc2),(11,.g (xD 42 40 zbo (zab hx2 (f:=za0)) (dL 41 _)))] [(4,vb x2)] h fun a w h=>qV (rT (.c (cB x2)) h rfl ?_);have hz:hdB (zc4 wd ap) (k:Int)=x2:=by rw [elx1];unfold hdB;rw [decide_eq_true (p:=(0:Int)<=(k:Int)) (by omega),bR];rw [hc2,bR,show ((k:Int)).toNat=k by omega,hx2];rfl
   rw [hz];try rfl
  have hc3':=dF hc3;refine Jp 5 [(1,.cmp (op:=.geq) (m:=(k:Int)) (n:=0) (b:=true) .i64 (show decide ((k:Int)>=0)=true from decide_eq_true (by omega))),(5,.len (za9 1 za0 x1)),(6,.cmp (op:=.lss) (m:=(k:Int)) (n:=(x1.length:Int)) (b:=false) .i64 hc3)] [(4,vb false)] h fun a w h=>qV (rT (.c (cB false)) h rfl ?_);have hz:hdB (zc4 wd ap) (k:Int)=false:=by rw [elx1];unfold hdB;rw [decide_eq_true (p:=(0:Int)<=(k:Int)) (by omega),bR];rw [hc3];rfl
  rw [hz];try rfl
 obtain ⟨x3,hx3⟩:=gl wd.cycle (ap - wd.stem.length);have elx3:zc4 wd ap=x3:=wLet_cyc (by have:=dF hc4;omega) hx3;have hlx3:x3.length<=9223372036854775807:=by have:=hlt ap hx;rw [elx3] at this;exact this
 refine Jf 5 [(6,.g (Op.arith (op:=.sub) (d:=28) (xt:=3) (yt:=3) (k:=.i64) (m:=(ap:Int)) (n:=(wd.stem.length:Int)) (r:=((ap - wd.stem.length:Nat):Int)) (dL 26 _) (dL 27 _) (.inr (.inl ⟨rfl,(by omega)⟩)) i6)),(7,.g (xD 29 24 zhd (zab hx3 (f:=(slD 1 za0))) (dL 28 _)))] [1,2,6,14] [(5,vS 1 (x3.map za0))] h fun a w h=>za1 ?_
 rcases bH (decide ((k:Int)<(x3.length:Int))) with hc5 | hc6
 ·have hc5':=dT hc5;obtain ⟨x4,hx4⟩:=gl x3 k;refine Jp 5 [(1,.cmp (op:=.geq) (m:=(k:Int)) (n:=0) (b:=true) .i64 (show decide ((k:Int)>=0)=true from decide_eq_true (by omega))),(5,.len (za9 1 za0 x3)),(6,.cmp (op:=.lss) (m:=(k:Int)) (n:=(x3.length:Int)) (b:=true) .i64 hc5),(11,.g (xD 42 40 zbo (zab hx4 (f:=za0)) (dL 41 _)))] [(4,vb x4)] h fun a w h=>qV (rT (.c (cB x4)) h rfl ?_);have hz:hdB (zc4 wd ap) (k:Int)=x4:=by rw [elx3];unfold hdB;rw [decide_eq_true (p:=(0:Int)<=(k:Int)) (by omega),bR];rw [hc5,bR,show ((k:Int)).toNat=k by omega,hx4];rfl
  rw [hz];try rfl
 have hc6':=dF hc6;refine Jp 5 [(1,.cmp (op:=.geq) (m:=(k:Int)) (n:=0) (b:=true) .i64 (show decide ((k:Int)>=0)=true from decide_eq_true (by omega))),(5,.len (za9 1 za0 x3)),(6,.cmp (op:=.lss) (m:=(k:Int)) (n:=(x3.length:Int)) (b:=false) .i64 hc6)] [(4,vb false)] h fun a w h=>qV (rT (.c (cB false)) h rfl ?_);have hz:hdB (zc4 wd ap) (k:Int)=false:=by rw [elx3];unfold hdB;rw [decide_eq_true (p:=(0:Int)<=(k:Int)) (by omega),bR];rw [hc6];rfl
 rw [hz];try rfl
theorem SFi1n (g:GbD) (wd:zaf) (nd:Int) (ap:Nat) (p:Int) (hlt:LtOk wd) (hl:wN wd<=1000) (hx:ap<wN wd) (hp:p<0):Fn dJ 91 [(1,.box [.d (.sl 3 (g.nodes.map dR)),cIs g.first,.d (.sl 1 (g.sets.map (slD 1 za3))),.d (.sl 1 (wd.stem.map (slD 1 za0))),.d (.sl 1 (wd.cycle.map (slD 1 za0)))]),(2,.box [cI nd,cI (ap:Int)])] [vI p,vp 1 0,vp 2 0] (vb (hdB (zc4 wd ap) p)) [(1,.box [.d (.sl 3 (g.nodes.map dR)),cIs g.first,.d (.sl 1 (g.sets.map (slD 1 za3))),.d (.sl 1 (wd.stem.map (slD 1 za0))),.d (.sl 1 (wd.cycle.map (slD 1 za0)))]),(2,.box [cI nd,cI (ap:Int)])]:=by
 have hN9:=zby wd;refine fB Tryz.func91 rfl 45 fun w H B a h=>Jq 5 [] [(0,vI p),(1,vp 1 0),(2,vp 2 0),(4,vb false)] [(1,.box [.d (.sl 3 (g.nodes.map dR)),cIs g.first,.d (.sl 1 (g.sets.map (slD 1 za3))),.d (.sl 1 (wd.stem.map (slD 1 za0))),.d (.sl 1 (wd.cycle.map (slD 1 za0)))]),(2,.box [cI nd,cI (ap:Int)])] h fun a w h=>Je 5 [] [] [(5,vW za6)] h fun a w h=>qW (Je 5 [(3,.len (c:=(.d (.sl 1 (wd.stem.map (slD 1 za0))))) (n:=wd.stem.length) (za9 _ _ _))] [] [(6,vN wd.stem.length)] h fun a w h=>Je 5 [] [] [(14,vb (decide ((ap:Int)<(wd.stem.length:Int))))] h fun a w h=>zav ((ap:Int)<(wd.stem.length:Int)) h (fun hc1 hc1'=>?_) (fun hc2 hc2'=>?_))
 ·obtain ⟨x1,hx1⟩:=gl wd.stem ap;have elx1:zc4 wd ap=x1:=wLet_stem hx1;have hlx1:x1.length<=9223372036854775807:=by have:=hlt ap hx;rw [elx1] at this;exact this
  refine Jf 5 [(5,.g (xD 20 17 zhd (zab hx1 (f:=(slD 1 za0))) (dL 19 _)))] [1,2,6,14] [(5,vS 1 (x1.map za0))] h fun a w h=>za1 (Jp 5 [(1,.cmp (op:=.geq) (m:=p) (n:=0) (b:=false) .i64 (show decide (p>=0)=false from decide_eq_false (by omega)))] [(4,vb false)] h fun a w h=>qV (rT (.c (cB false)) h rfl ?_));unfold hdB;rw [decide_eq_false (p:=0<=p) (by omega)];rfl
 obtain ⟨x2,hx2⟩:=gl wd.cycle (ap - wd.stem.length);have elx2:zc4 wd ap=x2:=wLet_cyc (by have:=dF hc2;omega) hx2;have hlx2:x2.length<=9223372036854775807:=by have:=hlt ap hx;rw [elx2] at this;exact this
 refine Jf 5 [(6,.g (Op.arith (op:=.sub) (d:=28) (xt:=3) (yt:=3) (k:=.i64) (m:=(ap:Int)) (n:=(wd.stem.length:Int)) (r:=((ap - wd.stem.length:Nat):Int)) (dL 26 _) (dL 27 _) (.inr (.inl ⟨rfl,(by omega)⟩)) i6)),(7,.g (xD 29 24 zhd (zab hx2 (f:=(slD 1 za0))) (dL 28 _)))] [1,2,6,14] [(5,vS 1 (x2.map za0))] h fun a w h=>za1 (Jp 5 [(1,.cmp (op:=.geq) (m:=p) (n:=0) (b:=false) .i64 (show decide (p>=0)=false from decide_eq_false (by omega)))] [(4,vb false)] h fun a w h=>qV (rT (.c (cB false)) h rfl ?_));unfold hdB;rw [decide_eq_false (p:=0<=p) (by omega)];rfl
theorem SFi1 (g:GbD) (wd:zaf) (nd:Int) (ap:Nat) (p:Int) (hlt:LtOk wd) (hl:wN wd<=1000) (hx:ap<wN wd):Fn dJ 91 [(1,.box [.d (.sl 3 (g.nodes.map dR)),cIs g.first,.d (.sl 1 (g.sets.map (slD 1 za3))),.d (.sl 1 (wd.stem.map (slD 1 za0))),.d (.sl 1 (wd.cycle.map (slD 1 za0)))]),(2,.box [cI nd,cI (ap:Int)])] [vi .i64 p,vp 1 0,vp 2 0] (vb (hdB (zc4 wd ap) p)) [(1,.box [.d (.sl 3 (g.nodes.map dR)),cIs g.first,.d (.sl 1 (g.sets.map (slD 1 za3))),.d (.sl 1 (wd.stem.map (slD 1 za0))),.d (.sl 1 (wd.cycle.map (slD 1 za0)))]),(2,.box [cI nd,cI (ap:Int)])]:=by
 by_cases hp:p<0
 ·exact SFi1n g wd nd ap p hlt hl hx hp
 ·obtain ⟨k,rfl⟩:=dE (show 0<=p by omega)
  exact SFi1p g wd nd ap k hlt hl hx
theorem SFi2 (g:GbD) (wd:zaf) (nd:Int) (ap:Nat) (p:Int) (hlt:LtOk wd) (hl:wN wd<=1000) (hx:ap<wN wd):Fn dJ 93 [(3,.box [.fn (.func 91) [] [.ptr 1 0,.ptr 2 0]]),(1,.box [.d (.sl 3 (g.nodes.map dR)),cIs g.first,.d (.sl 1 (g.sets.map (slD 1 za3))),.d (.sl 1 (wd.stem.map (slD 1 za0))),.d (.sl 1 (wd.cycle.map (slD 1 za0)))]),(2,.box [cI nd,cI (ap:Int)])] [vI p,vp 3 0] (vb (!hdB (zc4 wd ap) p)) [(3,.box [.fn (.func 91) [] [.ptr 1 0,.ptr 2 0]]),(1,.box [.d (.sl 3 (g.nodes.map dR)),cIs g.first,.d (.sl 1 (g.sets.map (slD 1 za3))),.d (.sl 1 (wd.stem.map (slD 1 za0))),.d (.sl 1 (wd.cycle.map (slD 1 za0)))]),(2,.box [cI nd,cI (ap:Int)])]:=by
 refine fB Tryz.func93 rfl 8 fun w H B a h=>Jq 5 [] [(0,vI p),(1,vp 3 0),(3,vb false)] [(3,.box [.fn (.func 91) [] [.ptr 1 0,.ptr 2 0]]),(1,.box [.d (.sl 3 (g.nodes.map dR)),cIs g.first,.d (.sl 1 (g.sets.map (slD 1 za3))),.d (.sl 1 (wd.stem.map (slD 1 za0))),.d (.sl 1 (wd.cycle.map (slD 1 za0)))]),(2,.box [cI nd,cI (ap:Int)])] h fun a w h=>Jp 5 [(2,.g (Op.callV (d:=6) (t:=4) (cap:=[.ptr 1 0,.ptr 2 0]) (args:=[vI p]) (rs:=[(5,vI p)]) (tys:=#[3]) (SFi1 g wd nd ap p hlt hl hx) vc1_2 (OVs.cons (dL 5 _) (OVs.nil))))] [(3,vb (!(hdB (zc4 wd ap) p)))] h fun a w h=>qV (rT (.c (cB (!(hdB (zc4 wd ap) p)))) h rfl ?_)
 rfl
theorem SIdxF1 (pr:Int->Bool) (xs:List Int) (g:GbD) (wd:zaf) (nd:Int) (ap:Nat) (hf:∀ x ∈ xs,Fn dJ 91 [(1,.box [.d (.sl 3 (g.nodes.map dR)),cIs g.first,.d (.sl 1 (g.sets.map (slD 1 za3))),.d (.sl 1 (wd.stem.map (slD 1 za0))),.d (.sl 1 (wd.cycle.map (slD 1 za0)))]),(2,.box [cI nd,cI (ap:Int)])] [vI x,vp 1 0,vp 2 0] (vb (pr x)) [(1,.box [.d (.sl 3 (g.nodes.map dR)),cIs g.first,.d (.sl 1 (g.sets.map (slD 1 za3))),.d (.sl 1 (wd.stem.map (slD 1 za0))),.d (.sl 1 (wd.cycle.map (slD 1 za0)))]),(2,.box [cI nd,cI (ap:Int)])]) (hl:xs.length<=9223372036854775807):Fn dJ 109 [(1,.box [.d (.sl 3 (g.nodes.map dR)),cIs g.first,.d (.sl 1 (g.sets.map (slD 1 za3))),.d (.sl 1 (wd.stem.map (slD 1 za0))),.d (.sl 1 (wd.cycle.map (slD 1 za0)))]),(2,.box [cI nd,cI (ap:Int)])] [(vIs xs),.t (.c (.fn (.func 91) [] [.ptr 1 0,.ptr 2 0]))] (vI (zbf pr xs 0)) [(1,.box [.d (.sl 3 (g.nodes.map dR)),cIs g.first,.d (.sl 1 (g.sets.map (slD 1 za3))),.d (.sl 1 (wd.stem.map (slD 1 za0))),.d (.sl 1 (wd.cycle.map (slD 1 za0)))]),(2,.box [cI nd,cI (ap:Int)])]:=by
 refine fB Tryz.func109 rfl 19 fun w H B a h=>Jq 5 [] [(0,(vIs xs)),(1,.t (.c (.fn (.func 91) [] [.ptr 1 0,.ptr 2 0]))),(4,vI 0)] [(1,.box [.d (.sl 3 (g.nodes.map dR)),cIs g.first,.d (.sl 1 (g.sets.map (slD 1 za3))),.d (.sl 1 (wd.stem.map (slD 1 za0))),.d (.sl 1 (wd.cycle.map (slD 1 za0)))]),(2,.box [cI nd,cI (ap:Int)])] h fun a w h=>qW (Je 5 [(1,.len (za9 1 za3 xs))] [] [(7,vN xs.length),(8,vI 0)] h fun a w h=>qZ ?_)
 refine zdp (ι:=(Nat)) (fun j=>j<=xs.length/\zbf pr xs 0=zbf pr (xs.drop j) j)
   [4] (fun j=>[(8,vN j)])
   [] (fun j=>[])
   (fun j=>xs.length - j) 0 ?_ h ?_
 ·exact ⟨bF _,rfl⟩
 clear h;rintro j a w hI h;obtain ⟨hI1,hI2⟩:=hI;refine Je 5 [] [] [(9,vb (decide ((j:Int)<(xs.length:Int))))] h fun a w h=>qW (zav ((j:Int)<(xs.length:Int)) h (fun hc1 hc1'=>?_) (fun hc4 hc4'=>?_))
 ·refine qU (za1 (qW (qZ (Je 5 [] [9] [(5,vN j)] h fun a w h=>?_))));obtain ⟨x1,hx1⟩:=gl xs j;refine Je 5 [(3,.g (xD 14 12 tb_1 (zab hx1 (f:=za3)) (dL 13 _))),(5,.g (Op.callV (d:=16) (t:=11) (cap:=[.ptr 1 0,.ptr 2 0]) (args:=[vI x1]) (rs:=[(15,vI x1)]) (tys:=#[3]) (hf x1 (lM hx1)) vc1_2 (OVs.cons (dL 15 _) (OVs.nil))))] [] [(16,vb (pr x1))] h fun a w h=>cS (pr x1) h (fun hc2=>?_) (fun hc3=>?_)
  ·refine Je 5 [] [5,16] [(4,vN j)] h fun a w h=>qV (zaa (za5 (za5 (zaa (za5 (rT (.c (cI (j:Int))) h rfl ?_))))));have hz:zbf pr xs 0=(j:Int):=by rw [hI2,zcj hx1,if_pos hc2]
   rw [hz];try rfl
  refine qU (za7 (za1 (Jf 5 [(0,.j1 j)] [5,16] [(8,vI ((j:Int)+1))] h fun a w h=>za1 (zaj (x:=j) (y:=j+1) h ?_ ?_))))
  ·exact ⟨by have:=zal hx1;omega,by rw [hI2,zcj hx1,if_neg (by rw [hc3];exact Bool.noConfusion)]⟩
  (try simp);omega
 refine exA (Jp 5 [] [(4,vI (-1))] h fun a w h=>qV (rT (.c (cI (-1))) h rfl ?_));have hz:zbf pr xs 0=-1:=by rw [hI2,bY (by omega)];rfl
 rw [hz];try rfl
theorem SAnyF1 (pr:Int->Bool) (xs:List Int) (g:GbD) (wd:zaf) (nd:Int) (ap:Nat) (hf:∀ x ∈ xs,Fn dJ 91 [(1,.box [.d (.sl 3 (g.nodes.map dR)),cIs g.first,.d (.sl 1 (g.sets.map (slD 1 za3))),.d (.sl 1 (wd.stem.map (slD 1 za0))),.d (.sl 1 (wd.cycle.map (slD 1 za0)))]),(2,.box [cI nd,cI (ap:Int)])] [vI x,vp 1 0,vp 2 0] (vb (pr x)) [(1,.box [.d (.sl 3 (g.nodes.map dR)),cIs g.first,.d (.sl 1 (g.sets.map (slD 1 za3))),.d (.sl 1 (wd.stem.map (slD 1 za0))),.d (.sl 1 (wd.cycle.map (slD 1 za0)))]),(2,.box [cI nd,cI (ap:Int)])]) (hl:xs.length<=9223372036854775807):Fn dJ 92 [(1,.box [.d (.sl 3 (g.nodes.map dR)),cIs g.first,.d (.sl 1 (g.sets.map (slD 1 za3))),.d (.sl 1 (wd.stem.map (slD 1 za0))),.d (.sl 1 (wd.cycle.map (slD 1 za0)))]),(2,.box [cI nd,cI (ap:Int)])] [(vIs xs),.t (.c (.fn (.func 91) [] [.ptr 1 0,.ptr 2 0]))] (vb (xs.any pr)) [(1,.box [.d (.sl 3 (g.nodes.map dR)),cIs g.first,.d (.sl 1 (g.sets.map (slD 1 za3))),.d (.sl 1 (wd.stem.map (slD 1 za0))),.d (.sl 1 (wd.cycle.map (slD 1 za0)))]),(2,.box [cI nd,cI (ap:Int)])]:=by
 refine fB Tryz.func92 rfl 9 fun w H B a h=>Jq 5 [] [(0,(vIs xs)),(1,.t (.c (.fn (.func 91) [] [.ptr 1 0,.ptr 2 0]))),(4,vb false)] [(1,.box [.d (.sl 3 (g.nodes.map dR)),cIs g.first,.d (.sl 1 (g.sets.map (slD 1 za3))),.d (.sl 1 (wd.stem.map (slD 1 za0))),.d (.sl 1 (wd.cycle.map (slD 1 za0)))]),(2,.box [cI nd,cI (ap:Int)])] h fun a w h=>Jp 5 [(2,.call (SIdxF1 pr xs g wd nd ap hf  hl))] [(4,vb (decide (zbf pr xs 0>=0)))] h fun a w h=>qV (rT (.c (cB (decide (zbf pr xs 0>=0)))) h rfl ?_)
 rw [<- zhv];try rfl
theorem SIdxF2 (pr:Int->Bool) (xs:List Int) (g:GbD) (wd:zaf) (nd:Int) (ap:Nat) (hf:∀ x ∈ xs,Fn dJ 93 [(3,.box [.fn (.func 91) [] [.ptr 1 0,.ptr 2 0]]),(1,.box [.d (.sl 3 (g.nodes.map dR)),cIs g.first,.d (.sl 1 (g.sets.map (slD 1 za3))),.d (.sl 1 (wd.stem.map (slD 1 za0))),.d (.sl 1 (wd.cycle.map (slD 1 za0)))]),(2,.box [cI nd,cI (ap:Int)])] [vI x,vp 3 0] (vb (pr x)) [(3,.box [.fn (.func 91) [] [.ptr 1 0,.ptr 2 0]]),(1,.box [.d (.sl 3 (g.nodes.map dR)),cIs g.first,.d (.sl 1 (g.sets.map (slD 1 za3))),.d (.sl 1 (wd.stem.map (slD 1 za0))),.d (.sl 1 (wd.cycle.map (slD 1 za0)))]),(2,.box [cI nd,cI (ap:Int)])]) (hl:xs.length<=9223372036854775807):Fn dJ 109 [(3,.box [.fn (.func 91) [] [.ptr 1 0,.ptr 2 0]]),(1,.box [.d (.sl 3 (g.nodes.map dR)),cIs g.first,.d (.sl 1 (g.sets.map (slD 1 za3))),.d (.sl 1 (wd.stem.map (slD 1 za0))),.d (.sl 1 (wd.cycle.map (slD 1 za0)))]),(2,.box [cI nd,cI (ap:Int)])] [(vIs xs),.t (.c (.fn (.func 93) [] [.ptr 3 0]))] (vI (zbf pr xs 0)) [(3,.box [.fn (.func 91) [] [.ptr 1 0,.ptr 2 0]]),(1,.box [.d (.sl 3 (g.nodes.map dR)),cIs g.first,.d (.sl 1 (g.sets.map (slD 1 za3))),.d (.sl 1 (wd.stem.map (slD 1 za0))),.d (.sl 1 (wd.cycle.map (slD 1 za0)))]),(2,.box [cI nd,cI (ap:Int)])]:=by
 refine fB Tryz.func109 rfl 19 fun w H B a h=>Jq 5 [] [(0,(vIs xs)),(1,.t (.c (.fn (.func 93) [] [.ptr 3 0]))),(4,vI 0)] [(3,.box [.fn (.func 91) [] [.ptr 1 0,.ptr 2 0]]),(1,.box [.d (.sl 3 (g.nodes.map dR)),cIs g.first,.d (.sl 1 (g.sets.map (slD 1 za3))),.d (.sl 1 (wd.stem.map (slD 1 za0))),.d (.sl 1 (wd.cycle.map (slD 1 za0)))]),(2,.box [cI nd,cI (ap:Int)])] h fun a w h=>qW (Je 5 [(1,.len (za9 1 za3 xs))] [] [(7,vN xs.length),(8,vI 0)] h fun a w h=>qZ ?_)
 refine zdp (ι:=(Nat)) (fun j=>j<=xs.length/\zbf pr xs 0=zbf pr (xs.drop j) j)
   [4] (fun j=>[(8,vN j)])
   [] (fun j=>[])
   (fun j=>xs.length - j) 0 ?_ h ?_
 ·exact ⟨bF _,rfl⟩
 clear h;rintro j a w hI h;obtain ⟨hI1,hI2⟩:=hI;refine Je 5 [] [] [(9,vb (decide ((j:Int)<(xs.length:Int))))] h fun a w h=>qW (zav ((j:Int)<(xs.length:Int)) h (fun hc1 hc1'=>?_) (fun hc4 hc4'=>?_))
 ·refine qU (za1 (qW (qZ (Je 5 [] [9] [(5,vN j)] h fun a w h=>?_))));obtain ⟨x1,hx1⟩:=gl xs j;refine Je 5 [(3,.g (xD 14 12 tb_1 (zab hx1 (f:=za3)) (dL 13 _))),(5,.g (Op.callV (d:=16) (t:=11) (cap:=[.ptr 3 0]) (args:=[vI x1]) (rs:=[(15,vI x1)]) (tys:=#[3]) (hf x1 (lM hx1)) vc1_5 (OVs.cons (dL 15 _) (OVs.nil))))] [] [(16,vb (pr x1))] h fun a w h=>cS (pr x1) h (fun hc2=>?_) (fun hc3=>?_)
  ·refine Je 5 [] [5,16] [(4,vN j)] h fun a w h=>qV (zaa (za5 (za5 (zaa (za5 (rT (.c (cI (j:Int))) h rfl ?_))))));have hz:zbf pr xs 0=(j:Int):=by rw [hI2,zcj hx1,if_pos hc2]
   rw [hz];try rfl
  refine qU (za7 (za1 (Jf 5 [(0,.j1 j)] [5,16] [(8,vI ((j:Int)+1))] h fun a w h=>za1 (zaj (x:=j) (y:=j+1) h ?_ ?_))))
  ·exact ⟨by have:=zal hx1;omega,by rw [hI2,zcj hx1,if_neg (by rw [hc3];exact Bool.noConfusion)]⟩
  (try simp);omega
 refine exA (Jp 5 [] [(4,vI (-1))] h fun a w h=>qV (rT (.c (cI (-1))) h rfl ?_));have hz:zbf pr xs 0=-1:=by rw [hI2,bY (by omega)];rfl
 rw [hz];try rfl
theorem SAnyF2 (pr:Int->Bool) (xs:List Int) (g:GbD) (wd:zaf) (nd:Int) (ap:Nat) (hf:∀ x ∈ xs,Fn dJ 93 [(3,.box [.fn (.func 91) [] [.ptr 1 0,.ptr 2 0]]),(1,.box [.d (.sl 3 (g.nodes.map dR)),cIs g.first,.d (.sl 1 (g.sets.map (slD 1 za3))),.d (.sl 1 (wd.stem.map (slD 1 za0))),.d (.sl 1 (wd.cycle.map (slD 1 za0)))]),(2,.box [cI nd,cI (ap:Int)])] [vI x,vp 3 0] (vb (pr x)) [(3,.box [.fn (.func 91) [] [.ptr 1 0,.ptr 2 0]]),(1,.box [.d (.sl 3 (g.nodes.map dR)),cIs g.first,.d (.sl 1 (g.sets.map (slD 1 za3))),.d (.sl 1 (wd.stem.map (slD 1 za0))),.d (.sl 1 (wd.cycle.map (slD 1 za0)))]),(2,.box [cI nd,cI (ap:Int)])]) (hl:xs.length<=9223372036854775807):Fn dJ 92 [(3,.box [.fn (.func 91) [] [.ptr 1 0,.ptr 2 0]]),(1,.box [.d (.sl 3 (g.nodes.map dR)),cIs g.first,.d (.sl 1 (g.sets.map (slD 1 za3))),.d (.sl 1 (wd.stem.map (slD 1 za0))),.d (.sl 1 (wd.cycle.map (slD 1 za0)))]),(2,.box [cI nd,cI (ap:Int)])] [(vIs xs),.t (.c (.fn (.func 93) [] [.ptr 3 0]))] (vb (xs.any pr)) [(3,.box [.fn (.func 91) [] [.ptr 1 0,.ptr 2 0]]),(1,.box [.d (.sl 3 (g.nodes.map dR)),cIs g.first,.d (.sl 1 (g.sets.map (slD 1 za3))),.d (.sl 1 (wd.stem.map (slD 1 za0))),.d (.sl 1 (wd.cycle.map (slD 1 za0)))]),(2,.box [cI nd,cI (ap:Int)])]:=by
 refine fB Tryz.func92 rfl 9 fun w H B a h=>Jq 5 [] [(0,(vIs xs)),(1,.t (.c (.fn (.func 93) [] [.ptr 3 0]))),(4,vb false)] [(3,.box [.fn (.func 91) [] [.ptr 1 0,.ptr 2 0]]),(1,.box [.d (.sl 3 (g.nodes.map dR)),cIs g.first,.d (.sl 1 (g.sets.map (slD 1 za3))),.d (.sl 1 (wd.stem.map (slD 1 za0))),.d (.sl 1 (wd.cycle.map (slD 1 za0)))]),(2,.box [cI nd,cI (ap:Int)])] h fun a w h=>Jp 5 [(2,.call (SIdxF2 pr xs g wd nd ap hf  hl))] [(4,vb (decide (zbf pr xs 0>=0)))] h fun a w h=>qV (rT (.c (cB (decide (zbf pr xs 0>=0)))) h rfl ?_)
 rw [<- zhv];try rfl
theorem SFitsN (g:GbD) (wd:zaf) (k ap:Nat) (hlt:LtOk wd) (hl:wN wd<=1000) (hg:zff g) (hx:ap<wN wd) (hk:k<g.nodes.length):Fn dJ 75 [] [vG [.d (.sl 3 (g.nodes.map dR)),cIs g.first,.d (.sl 1 (g.sets.map (slD 1 za3))),.d (.sl 1 (wd.stem.map (slD 1 za0))),.d (.sl 1 (wd.cycle.map (slD 1 za0)))],vG [cI (k:Int),cI (ap:Int)]] (vb (spB g wd ⟨(k:Int),ap⟩)) []:=by
 refine fB Tryz.func75 rfl 27 fun w H B a h=>Jq 1 [] [(2,vp 1 0),(3,vp 2 0),(4,vb false)] [(1,.box [.d (.sl 3 (g.nodes.map dR)),cIs g.first,.d (.sl 1 (g.sets.map (slD 1 za3))),.d (.sl 1 (wd.stem.map (slD 1 za0))),.d (.sl 1 (wd.cycle.map (slD 1 za0)))]),(2,.box [cI (k:Int),cI (ap:Int)])] h fun a w h=>Jg 3 [(0,.g (Op.makeFs (d:=7) (fn:=.func 91) [(2,1,0),(3,2,0)]))] [] [(5,vp 3 0)] [] [(3,.box [.fn (.func 91) [] [.ptr 1 0,.ptr 2 0]])] h fun a w h=>?_
 obtain ⟨x1,hx1⟩:=gl g.nodes k;refine Jg 4 [(5,.g (xD 13 10 zh8 (zab hx1 (f:=dR)) (dL 12 _)))] [2,3] [(6,vp 4 0)] [] [(4,.box [cIs x1.must,cIs x1.never,cIs x1.next])] h fun a w h=>?_
 rcases bH (x1.must.any (fun p=>!hdB (zc4 wd ap) p)) with hc1 | hc2
 ·refine Jq 5 [(2,.g (Op.makeFs (d:=17) (fn:=.func 93) [(5,3,0)])),(3,.call (Fn.cast (SAnyF2 (fun p=>!hdB (zc4 wd ap) p) x1.must g wd (k:Int) ap (fun p _=>SFi2 g wd (k:Int) ap p hlt hl hx) (by have:=hg.2 x1 (lM hx1);omega)) (congrArg vb hc1)))] [(4,vb false)] [] h fun a w h=>qV (rT (.c (cB false)) h rfl ?_);have hz:spB g wd ⟨(k:Int),ap⟩=(false):=by rw [spB_at hx1];unfold alwT;rw [hc1];rfl
  rw [hz];try rfl
 refine Jq 5 [(2,.g (Op.makeFs (d:=17) (fn:=.func 93) [(5,3,0)])),(3,.call (Fn.cast (SAnyF2 (fun p=>!hdB (zc4 wd ap) p) x1.must g wd (k:Int) ap (fun p _=>SFi2 g wd (k:Int) ap p hlt hl hx) (by have:=hg.2 x1 (lM hx1);omega)) (congrArg vb hc2))),(9,.call (SAnyF1 (hdB (zc4 wd ap)) x1.never g wd (k:Int) ap (fun p _=>SFi1 g wd (k:Int) ap p hlt hl hx) (by have:=hg.2 x1 (lM hx1);omega)))] [(4,vb (!(x1.never.any (hdB (zc4 wd ap)))))] [] h fun a w h=>qV (rT (.c (cB (!(x1.never.any (hdB (zc4 wd ap)))))) h rfl ?_);have hz:spB g wd ⟨(k:Int),ap⟩=(!(x1.never.any (hdB (zc4 wd ap)))):=by rw [spB_at hx1];unfold alwT;rw [hc2];rfl
 rw [hz];try rfl
theorem SFits (g:GbD) (wd:zaf) (s:SpD) (hlt:LtOk wd) (hl:wN wd<=1000) (hg:zff g) (hx:s.at_<wN wd) (h0:0<=s.node) (h1:s.node<(g.nodes.length:Int)):Fn dJ 75 [] [vG [.d (.sl 3 (g.nodes.map dR)),cIs g.first,.d (.sl 1 (g.sets.map (slD 1 za3))),.d (.sl 1 (wd.stem.map (slD 1 za0))),.d (.sl 1 (wd.cycle.map (slD 1 za0)))],vG [cI s.node,cI ((s.at_:Nat):Int)]] (vb (spB g wd s)) []:=by
 obtain ⟨n,x⟩:=s
 obtain ⟨k,rfl⟩:=dE h0
 exact SFitsN g wd k x hlt hl hg hx (by have:(k:Int)<(g.nodes.length:Int):=h1;omega)
theorem SThere (g:GbD) (wd:zaf) (ks:List Int) (x:Nat) (hlt:LtOk wd) (hl:wN wd<=1000) (hg:zff g) (hx:x<wN wd) (hks:ks.length<=10000):Fn dJ 55 [] [vG [.d (.sl 3 (g.nodes.map dR)),cIs g.first,.d (.sl 1 (g.sets.map (slD 1 za3))),.d (.sl 1 (wd.stem.map (slD 1 za0))),.d (.sl 1 (wd.cycle.map (slD 1 za0)))],(vIs ks),vN x] (vO 0 (zai g wd ks x).length) [(0,.row 103 2 ((zai g wd ks x).map SpD.d))]:=by
 have hg1:=hg.1;refine fB Tryz.func55 rfl 41 fun w H B a h=>Jq 30 [] [(1,(vIs ks)),(2,vN x),(3,vp 30 0),(6,vW za6)] [(30,.box [.d (.sl 3 (g.nodes.map dR)),cIs g.first,.d (.sl 1 (g.sets.map (slD 1 za3))),.d (.sl 1 (wd.stem.map (slD 1 za0))),.d (.sl 1 (wd.cycle.map (slD 1 za0)))])] h fun a w h=>Je 31 [] [] [(7,vW za6)] h fun a w h=>qW (Je 31 [(1,.len (za9 1 za3 ks))] [1] [(11,(vIs ks)),(12,vN ks.length),(13,vI 0)] h fun a w h=>qZ ?_)
 replace h:=zdb 7 0 31 2 103 (vW za6) h;replace h:=zb7 31 20 h;replace h:=cvM [] [(7,vO 20 (zai g wd (ks.take 0) x).length)] [] [(20,.row 103 2 ((zai g wd (ks.take 0) x).map SpD.d))] (by kernel_rfl) h
 refine zdp (ι:=(Nat)) (fun j=>j<=ks.length)
   [] (fun j=>[(7,vO 20 (zai g wd (ks.take j) x).length),(13,vN j)])
   [] (fun j=>[(20,.row 103 2 ((zai g wd (ks.take j) x).map SpD.d))])
   (fun j=>ks.length - j) 0 ?_ h ?_
 ·exact bF _
 clear h;rintro j a w hI h;have htl:=zez g wd (ks.take j) x;rw [bQ] at htl;refine Je 32 [] [] [(14,vb (decide ((j:Int)<(ks.length:Int))))] h fun a w h=>qW (zav ((j:Int)<(ks.length:Int)) h (fun hc1 hc1'=>?_) (fun hc8 hc8'=>?_))
 ·refine qU (za1 (qW (qZ ?_)));obtain ⟨x1,hx1⟩:=gl ks j;refine Je 32 [(0,.g (xD 15 11 tb_1 (zab hx1 (f:=za3)) (dL 13 _)))] [14] [(9,vI x1)] h fun a w h=>Jg 32 [] [] [(10,vp 32 0)] [] [(32,.box [cI x1,cI (x:Int)])] h fun a w h=>?_
  rcases bH (decide (x1>=0)) with hc2 | hc7
  ·have hc2':=dT hc2
   rcases bH (decide (x1<(g.nodes.length:Int))) with hc3 | hc6
   ·have hc3':=dT hc3;refine Je 33 [(1,.cmp (op:=.geq) (m:=x1) (n:=0) (b:=true) .i64 hc2),(7,.len (za9 3 dR g.nodes)),(8,.cmp (op:=.lss) (m:=x1) (n:=(g.nodes.length:Int)) (b:=true) .i64 hc3),(13,.call (SFits g wd (SpD.mk x1 x) hlt hl hg hx (dT hc2) (dT hc3)))] [9] [(34,vb (spB g wd (SpD.mk x1 x)))] h fun a w h=>cS (spB g wd (SpD.mk x1 x)) h (fun hc4=>?_) (fun hc5=>?_)
    ·refine Jh 33 [(2,.g (bD 37 ([(SpD.mk x1 x)].map SpD.d) [(36,vG [cI x1,cI (x:Int)])] vc1_9 (.cons (i:=0) (dL 36 _) (.nil)) (by kernel_rfl) (by simp [SpD.d]))),(3,.g (Op.appOD (d:=38) (t:=35) (u:=37) (n:=20) (n':=33) (len:=(zai g wd (ks.take j) x).length) (len':=((zai g wd (ks.take j) x)++[(SpD.mk x1 x)]).length) (rows:=(zai g wd (ks.take j) x).map SpD.d) (rows2:=[(SpD.mk x1 x)].map SpD.d) (rows':=((zai g wd (ks.take j) x)++[(SpD.mk x1 x)]).map SpD.d) vc1_10 (by first | exact (bA _).symm | simp) (by first | (rw [bB,bA];done) | (simp;done) | (simp;omega)) (by simp) (by simp [SpD.d]) (by first | omega | (simp at *;done) | (simp at *;omega))))] [10,34] [(7,vO 33 ((zai g wd (ks.take j) x)++[(SpD.mk x1 x)]).length)] [20,32] [(33,.row 103 2 (((zai g wd (ks.take j) x)++[(SpD.mk x1 x)]).map SpD.d))] h fun a w h=>za7 (za1 (Jf 34 [(0,.j1 j)] [] [(13,vI ((j:Int)+1))] h fun a w h=>za1 ?_));replace h:=zb7 33 20 h;have hfb:spB g wd (SpD.mk x1 x)=true:=hc4;have hrw:((zai g wd (ks.take j) x)++[(SpD.mk x1 x)])=(zai g wd (ks.take (j+1)) x):=by rw [zey hx1,hfb];first | done | rfl | exact (bC _).symm
     replace h:=cvM [] [(7,vO 20 (zai g wd (ks.take (j+1)) x).length)] [] [(20,.row 103 2 ((zai g wd (ks.take (j+1)) x).map SpD.d))] (by rw [hrw]; try kernel_rfl) h;refine zaj (x:=j) (y:=j+1) h ?_ ?_
     ·have:=zal hx1;show j+1<=ks.length;omega
     have:=zal hx1;show ks.length - (j+1)<ks.length - j;omega
    refine qU (za7 (za1 (Jh 34 [(0,.j1 j)] [10,34] [(13,vI ((j:Int)+1))] [32] [] h fun a w h=>za1 ?_)));have hfb:spB g wd (SpD.mk x1 x)=false:=hc5;have hrw:(zai g wd (ks.take j) x)=(zai g wd (ks.take (j+1)) x):=by rw [zey hx1,hfb];first | done | rfl | exact (bC _).symm
    replace h:=cvM [] [(7,vO 20 (zai g wd (ks.take (j+1)) x).length)] [] [(20,.row 103 2 ((zai g wd (ks.take (j+1)) x).map SpD.d))] (by rw [hrw]; try kernel_rfl) h;refine zaj (x:=j) (y:=j+1) h ?_ ?_
    ·have:=zal hx1;show j+1<=ks.length;omega
    have:=zal hx1;show ks.length - (j+1)<ks.length - j;omega
   have hc6':=dF hc6;refine Je 34 [(1,.cmp (op:=.geq) (m:=x1) (n:=0) (b:=true) .i64 hc2),(7,.len (za9 3 dR g.nodes)),(8,.cmp (op:=.lss) (m:=x1) (n:=(g.nodes.length:Int)) (b:=false) .i64 hc6)] [9] [(34,vb false)] h fun a w h=>zd1 h (qU (za7 (za1 (Jh 34 [(0,.j1 j)] [10,34] [(13,vI ((j:Int)+1))] [32] [] h fun a w h=>za1 ?_))));have hfb:spB g wd (SpD.mk x1 x)=false:=spB_hi (dF hc6);have hrw:(zai g wd (ks.take j) x)=(zai g wd (ks.take (j+1)) x):=by rw [zey hx1,hfb];first | done | rfl | exact (bC _).symm
   replace h:=cvM [] [(7,vO 20 (zai g wd (ks.take (j+1)) x).length)] [] [(20,.row 103 2 ((zai g wd (ks.take (j+1)) x).map SpD.d))] (by rw [hrw]; try kernel_rfl) h;refine zaj (x:=j) (y:=j+1) h ?_ ?_
   ·have:=zal hx1;show j+1<=ks.length;omega
   have:=zal hx1;show ks.length - (j+1)<ks.length - j;omega
  have hc7':=dF hc7;refine Je 34 [(1,.cmp (op:=.geq) (m:=x1) (n:=0) (b:=false) .i64 hc7)] [9] [(34,vb false)] h fun a w h=>zd1 h (qU (za7 (za1 (Jh 34 [(0,.j1 j)] [10,34] [(13,vI ((j:Int)+1))] [32] [] h fun a w h=>za1 ?_))));have hfb:spB g wd (SpD.mk x1 x)=false:=spB_lo (by have:=dF hc7;omega);have hrw:(zai g wd (ks.take j) x)=(zai g wd (ks.take (j+1)) x):=by rw [zey hx1,hfb];first | done | rfl | exact (bC _).symm
  replace h:=cvM [] [(7,vO 20 (zai g wd (ks.take (j+1)) x).length)] [] [(20,.row 103 2 ((zai g wd (ks.take (j+1)) x).map SpD.d))] (by rw [hrw]; try kernel_rfl) h;refine zaj (x:=j) (y:=j+1) h ?_ ?_
  ·have:=zal hx1;show j+1<=ks.length;omega
  have:=zal hx1;show ks.length - (j+1)<ks.length - j;omega
 refine exA (Jg 34 [] [2,3,7,11,12,13,14] [(6,vO 20 (zai g wd (ks.take j) x).length)] [30] [] h fun a w h=>qV ?_);replace h:=zb7 20 0 h;rw [show ((zai g wd (ks.take j) x):List SpD)=(zai g wd ks x) from (by rw [bN (by have:=dF hc8;omega)])] at h;refine rT (.c (.own 0 (zai g wd ks x).length)) h rfl ?_;rfl
theorem SNextF (g:GbD) (wd:zaf) (s:SpD) (hlt:LtOk wd) (hl:wN wd<=1000) (hg:zff g) (hc:0<wd.cycle.length) (hx:s.at_<wN wd) (h0:0<=s.node) (h1:s.node<(g.nodes.length:Int)):Fn dJ 74 [] [vG [.d (.sl 3 (g.nodes.map dR)),cIs g.first,.d (.sl 1 (g.sets.map (slD 1 za3))),.d (.sl 1 (wd.stem.map (slD 1 za0))),.d (.sl 1 (wd.cycle.map (slD 1 za0)))],vG [cI s.node,cI ((s.at_:Nat):Int)]] (vO 0 (zbb g wd s).length) [(0,.row 103 2 ((zbb g wd s).map SpD.d))]:=by
 have hN9:=zby wd;have hg1:=hg.1;refine fB Tryz.func74 rfl 35 fun w H B a h=>Jq 5 [] [(2,vp 5 0),(3,vp 6 0),(4,vW za6)] [(5,.box [.d (.sl 3 (g.nodes.map dR)),cIs g.first,.d (.sl 1 (g.sets.map (slD 1 za3))),.d (.sl 1 (wd.stem.map (slD 1 za0))),.d (.sl 1 (wd.cycle.map (slD 1 za0)))]),(6,.box [cI s.node,cI ((s.at_:Nat):Int)])] h fun a w h=>Je 7 [(2,.g (Op.arith (op:=.add) (d:=8) (xt:=3) (yt:=3) (k:=.i64) (m:=((s.at_:Nat):Int)) (n:=1) (r:=((s.at_+1:Nat):Int)) (dL 7 _) (OV.const (.int .i64 1) rfl) (.inl ⟨rfl,(by omega)⟩) i6))] [] [(5,vI ((s.at_+1:Nat):Int))] h fun a w h=>qW (Je 7 [(4,.len (c:=(.d (.sl 1 (wd.stem.map (slD 1 za0))))) (n:=wd.stem.length) (za9 _ _ _)),(8,.len (c:=(.d (.sl 1 (wd.cycle.map (slD 1 za0))))) (n:=wd.cycle.length) (za9 _ _ _)),(9,.g (Op.arith (op:=.add) (d:=18) (xt:=3) (yt:=3) (k:=.i64) (m:=(wd.stem.length:Int)) (n:=(wd.cycle.length:Int)) (r:=((wN wd:Nat):Int)) (dL 13 _) (dL 17 _) (.inl ⟨rfl,(by omega)⟩) i6))] [] [(19,vb (((s.at_+1:Nat):Int) == ((wN wd:Nat):Int)))] h fun a w h=>cS (((s.at_+1:Nat):Int) == ((wN wd:Nat):Int)) h (fun hc1=>?_) (fun hc2=>?_))
 ·refine Jf 7 [(3,.len (c:=(.d (.sl 1 (wd.stem.map (slD 1 za0))))) (n:=wd.stem.length) (za9 _ _ _))] [19] [(5,vN wd.stem.length)] h fun a w h=>za1 ?_;obtain ⟨k,hkk⟩:∃ k_:Nat,s.node=(k_:Int):=⟨_,(c7 (h0)).symm⟩;replace h:=cvM [] [] [] [(6,.box [cI (k:Int),cI ((s.at_:Nat):Int)])] (by rw [hkk]; try kernel_rfl) h;obtain ⟨x1,hx1⟩:=gl g.nodes k;have hnx:nxW wd s.at_=wd.stem.length:=by unfold nxW;rw [if_pos (by have:=hc1;simp at this;omega)]
  refine Jq 7 [(6,.g (xD 30 27 zh8 (zab hx1 (f:=dR)) (dL 29 _))),(10,.call (SThere g wd x1.next wd.stem.length hlt hl hg (hnx ▸ zd2 hc hx) (by have:=hg.2 x1 (lM hx1);omega)))] [(4,vO 0 (zai g wd x1.next wd.stem.length).length)] [(0,.row 103 2 ((zai g wd x1.next wd.stem.length).map SpD.d))] h fun a w h=>qV ?_;replace h:=cv (fun z_:List SpD=>F.of [(4,vO 0 z_.length)] [(0,.row 103 2 (z_.map SpD.d))]) (show ((zai g wd x1.next wd.stem.length):List SpD)=(zbb g wd s) from (by unfold zbb;rw [hkk,nexI_at hx1,hnx])) (h.conv (by kernel_rfl));refine rT (.c (.own 0 (zbb g wd s).length)) h rfl ?_;rfl
 refine qU (za1 ?_);obtain ⟨k,hkk⟩:∃ k_:Nat,s.node=(k_:Int):=⟨_,(c7 (h0)).symm⟩;replace h:=cvM [] [] [] [(6,.box [cI (k:Int),cI ((s.at_:Nat):Int)])] (by rw [hkk]; try kernel_rfl) h;obtain ⟨x3,hx3⟩:=gl g.nodes k;have hnx:nxW wd s.at_=s.at_+1:=by unfold nxW;rw [if_neg (by have:=hc2;simp at this;omega)]
 refine Jq 7 [(6,.g (xD 30 27 zh8 (zab hx3 (f:=dR)) (dL 29 _))),(10,.call (SThere g wd x3.next (s.at_+1) hlt hl hg (hnx ▸ zd2 hc hx) (by have:=hg.2 x3 (lM hx3);omega)))] [(4,vO 0 (zai g wd x3.next (s.at_+1)).length)] [(0,.row 103 2 ((zai g wd x3.next (s.at_+1)).map SpD.d))] h fun a w h=>qV ?_;replace h:=cv (fun z_:List SpD=>F.of [(4,vO 0 z_.length)] [(0,.row 103 2 (z_.map SpD.d))]) (show ((zai g wd x3.next (s.at_+1)):List SpD)=(zbb g wd s) from (by unfold zbb;rw [hkk,nexI_at hx3,hnx])) (h.conv (by kernel_rfl));refine rT (.c (.own 0 (zbb g wd s).length)) h rfl ?_;rfl
section
variable {P:Program}
theorem mpx_at {e:E} {f:F} {H:Im} {B:Bl} (hok:Ok e f H B a w) (ht:f.s t=some (mpv n)) (hl:f.l n=some (.mpx arr cl)) :
  ∃ b c,B n=some (b,c)/\a.eval (.tmp t) = .map (some b)/\w.heap[b]?=some (.map ⟨arr⟩ cl):=by
 obtain ⟨b,c,hb,hv⟩:=hok.slot t _ ht
 obtain ⟨b', c', hb', hc⟩:=hok.loc n _ hl
 rw [hb] at hb'
 cases hb'
 exact ⟨b,c,hb,hv,hc⟩
theorem Op.mkMapX {d:Nat} {t:TypeId} {pos af gd}:zar P ⟨some d,.makeMap t none,ty,pos,af,gd⟩ { ws:=[(d,some (mpv n))],wl:=[(n,some (.mpx [] 0))],nw:=[n] }:=by
 refine zar.news d n _ _ rfl rfl rfl (by simp) fun e f H B a w hok hr hn=>⟨.map (some w.heap.size),0,.map #[] 0,?_,⟨w.heap.size,0,by simp,heap_alloc_new w _⟩,⟨w.heap.size,0,by simp,rfl⟩⟩
 simp only [execOp,Instr.makeMap,newObj,Sem.run_bind,Sem.run_pure]
 rfl
theorem Op.lookX {d:Nat} {x:Operand} {kv:T} {key:Value} {q:Bool} {rs:List (Nat × V)} {l:Lit} {pos af gd} (M:MpT P mt kt et (.bool false)) (hx:OV x (.t kv) rs) (hkv:KV kv key) (hk:keyOf P kt key=some l) (hes:∀ x ∈ arr,∃ l,keyOf P kt x.key=some l)
  (ha:∀ x ∈ arr,x.val = .bool true) (hq:q=true ↔ ∃ x ∈ arr,x.key=key):zar P ⟨some d,.lookup mt (.tmp t) x false,ty,pos,af,gd⟩ { rs:=(t,mpv n) :: rs,rl:=[(n,.mpx arr cl)],ws:=[(d,some (vb q))] } :=
 zar.value d _ rfl rfl rfl fun e f H B a w hok hr=>by
  obtain ⟨b,c', hb,hm,hc⟩:=mpx_at hok (hr.1 (t,mpv n) (by simp)) (hr.2 (n,.mpx arr cl) (by simp))
  have hxv:a.eval x=key:=hkv.eq (hx.eval hok fun p hp=>hr.1 p (by simp [hp]))
  have hlk:(Instr.lookup mt (.map (some b)) key false).run P w = .ok (.bool q) w:=by
   rcases M.key.find w hk arr hes with ⟨h3,h6⟩ | ⟨j,e0,h3,h4,h5⟩
   ·have hq0:q=false:=by
     cases q with
     | false=>rfl
     | true=>obtain ⟨x0,h7,h8⟩:=hq.1 rfl;exact absurd h8 (h6 x0 h7)
    subst hq0
    simp [Instr.lookup,run_underlying M.ty,MapKept.run_getObj_map hc,M.key.check w _ hk,h3,M.zero w,Result.andThen]
   ·have hm0:=bJ h4
    have hq1:q=true:=hq.2 ⟨e0,hm0,h5⟩
    subst hq1
    have hv0:=ha e0 hm0
    simp [Instr.lookup,run_underlying M.ty,MapKept.run_getObj_map hc,M.key.check w _ hk,h3,Result.andThen,hv0]
  refine ⟨.bool q,?_,DR.raw _ rfl⟩
  generalize a.eval=ρ at hm hxv ⊢
  simp only [execOp,hm,hxv,Sem.run_bind,hlk,Result.andThen_ok,Sem.run_pure]
theorem Op.mapNewX {x y:Operand} {kv:T} {key z v:Value} {arr':List MapEntry} {rs rs':List (Nat × V)} {l:Lit} {pos af gd} (M:MpT P mt kt et z) (hx:OV x (.t kv) rs) (hkv:KV kv key) (hk:keyOf P kt key=some l) (hes:∀ x ∈ arr,∃ l,keyOf P kt x.key=some l)
  (hy:OV y (.t (.c (.d (.raw v)))) rs') (hn:∀ x ∈ arr,x.key≠key) (he:arr++[⟨key,v,cl⟩]=arr'):zar P ⟨none,.mapUpdate mt (.tmp t) x y,ty,pos,af,gd⟩ { rs:=(t,mpv n) :: (rs++rs'),rl:=[(n,.mpx arr cl)],wl:=[(n,some (.mpx arr' (cl+1)))] }:=by
 subst he
 rintro e f a w Q ⟨H,B,hok⟩ hr hnw hb0
 have hfl:=hr.2 (n,.mpx arr cl) (by simp)
 obtain ⟨b,c', hb,hm,hc⟩:=mpx_at hok (hr.1 (t,mpv n) (by simp)) hfl
 have hxv:a.eval x=key:=hkv.eq (hx.eval hok fun p hp=>hr.1 p (by simp [hp]))
 have hyv:a.eval y=v:=by
  have h0:TR H B (.c (.d (.raw v))) (a.eval y):=hy.eval hok fun p hp=>hr.1 p (by simp [hp])
  generalize a.eval y=u at h0
  cases h0;rfl
 rcases M.key.find w hk arr hes with ⟨h3,_⟩ | ⟨j,e0,_,h4,h5⟩
 ·have hup:(Instr.mapUpdate mt (.map (some b)) key v).run P w = .ok () (putM w b (.map ⟨arr++[⟨key,v,cl⟩]⟩ (cl+1))):=by
   simp [Instr.mapUpdate,run_underlying M.ty,MapKept.run_getObj_map hc,M.key.check w _ hk,h3,MapKept.run_setObj_map _ hc,Result.andThen,putM]
  have hexec:(execOp a.eval ⟨none,.mapUpdate mt (.tmp t) x y,ty,pos,af,gd⟩).run P w = .ok .skip (putM w b (.map ⟨arr++[⟨key,v,cl⟩]⟩ (cl+1))):=by
   generalize a.eval=ρ at hm hxv hyv ⊢
   simp only [execOp,hm,hxv,hyv,Sem.run_bind,hup,Result.andThen_ok,Sem.run_pure]
  unfold Oper.wp
  rw [hexec,Oper.upon_skip]
  refine St.put0 ⟨H,B,hok.write (g:=⟨f.s,fun m=>if m=n then some (.mpx (arr++[MapEntry.mk key v cl]) (cl+1)) else f.l m⟩) (l' := .mpx (arr++[MapEntry.mk key v cl]) (cl+1)) hfl hb (fun _=>rfl) (fun _=>rfl) (fun k hk=>putM_other hk) (by simp [putM]) rfl rfl rfl
   ⟨b,c', hb,putM_same hc⟩⟩ rfl (app0_s _ _ rfl) (fun m=>zh3 f n _ _ rfl m)
 ·exact absurd h5 (hn e0 (bJ h4))
theorem run_range_map {b:Nat} (hu:P.underlying mt=some (.map kt et)) (hc:w.heap[b]?=some (.map ⟨arr⟩ cl)) :
  (Instr.range mt (.map (some b))).run P w = .ok (.pointer (some ⟨w.heap.size,0,none⟩)) (w.alloc (.mapIter (some b) cl #[] cl)):=by
 simp only [Instr.range,Sem.run_bind,run_underlying hu,Result.andThen_ok,getObj,Sem.run,hc,newObj]
 simp [Result.andThen]
theorem Op.rangeM {d:Nat} {pos af gd} (hu:P.underlying mt=some (.map kt et)) :
  zar P ⟨some d,.range mt (.tmp t),ty,pos,af,gd⟩ { rs:=[(t,mpv n)],rl:=[(n,.mpx arr cl)],ws:=[(d,some (vp m 0))],wl:=[(m,some (.it n cl [] cl))],nw:=[m] }:=by
 refine zar.news d m _ _ rfl rfl rfl (by simp) fun e f H B a w hok hr hn=>?_
 have hl:=hr.2 (n,.mpx arr cl) (by simp)
 obtain ⟨b,c,hb,hm,hc⟩:=mpx_at hok (hr.1 (t,mpv n) (by simp)) hl
 have hnm:n≠m:=fun e9=>by have:=hn.2.1;rw [<- e9,hl] at this;cases this
 refine ⟨.pointer (some ⟨w.heap.size,0,none⟩),0,.mapIter (some b) cl #[] cl,?_,⟨w.heap.size,0,b,c,by simp,by simp [hnm,hb],heap_alloc_new w _⟩,⟨w.heap.size,0,by simp,rfl⟩⟩
 generalize a.eval=ρ at hm ⊢
 simp only [execOp,hm,Sem.run_bind,run_range_map hu hc,Result.andThen_ok,Sem.run_pure]
theorem Op.entryM {d since:Nat} {x:MapEntry} {kt:T} {pos af gd} (hx:x ∈ arr) (hb:Brn arr cl) (hk:∀ H B,TR H B kt x.key) (hv:flat x.val=true) :
  zar P ⟨some d,.entry (.tmp t),ty,pos,af,gd⟩ { rs:=[(t,vp m 0)],rl:=[(m,.it n since (seen++[x.born]) cl),(n,.mpx arr cl)],ws:=[(d,some (.tup [kt,.c (.d (.raw x.val))]))] } :=
 zar.value d _ rfl rfl rfl fun e f H B a w hok hr=>by
  obtain ⟨b,c,hbm,hu⟩:=(hok.slot t _ (hr.1 (t,vp m 0) (by simp))).ptrI
  obtain ⟨b', c', b2,c2,hb1,hb2,hc⟩:=hok.loc m _ (hr.2 (m,.it n since (seen++[x.born]) cl) (by simp))
  rw [hbm] at hb1
  cases hb1
  obtain ⟨b3,c3,hb3,hc3⟩:=hok.loc n _ (hr.2 (n,.mpx arr cl) (by simp))
  rw [hb2] at hb3
  cases hb3
  have h1:=run_entry_at (P:=P) w b b2 since ⟨seen⟩ ⟨arr⟩ cl x (by simpa using hc) hc3 (by simpa using hx) (by simpa using hb.2)
  refine ⟨.tuple #[x.key,x.val],?_,[x.key,x.val],rfl,hk H B,DR.raw _ hv,trivial⟩
  have h7:a.eval (.tmp t) = .pointer (some ⟨b,0,none⟩):=hu
  generalize a.eval=ρ at h7 ⊢
  simp only [execOp,h7,h1,Sem.run_bind,Result.andThen_ok,Sem.run_pure]
open Go.ChangeMaps (setBlock)
theorem St.iter_step {w0:World} {H0:Im} {B0:Bl} {K:List Nat} {N:Nat} {f g:F} {w1:World} (h:St ⟨w0,H0,B0,K,N⟩ f a w) (hw:w1=w\/w1=w.drew) {r:Nat} {bn b2:Nat} (ht:f.s t=some (vp m 0)) (hm:f.l m=some (.it n cl seen cl)) (hr:a.tmps.getD t undef = .pointer (some ⟨r,0,none⟩)) (hi:w.heap[r]?=some (.mapIter (some b2) cl ⟨seen⟩ cl)) (hs:∀ t,g.s t=f.s t) (hl:∀ k,g.l k=if k=m then some (.it n cl (seen++[bn]) cl) else f.l k) :
  St ⟨w0,H0,B0,K,N⟩ g a (setBlock w1 r (.mapIter (some b2) cl (Array.push ⟨seen⟩ bn) cl)):=by
 have h1:St ⟨w0,H0,B0,K,N⟩ f a w1:=by
  rcases hw with rfl | rfl
  ·exact h
  ·exact h.drew
 have hi1:w1.heap[r]?=some (.mapIter (some b2) cl ⟨seen⟩ cl):=by rcases hw with rfl | rfl <;> exact hi
 obtain ⟨H,B,hok⟩:=h1
 obtain ⟨b,c,hbm,hu⟩:=(hok.slot t _ ht).ptrI
 rw [hr] at hu
 have hu:r=b:=by injection hu with hu;injection hu with hu;injection hu
 subst hu
 obtain ⟨b', c', b3,c3,hb1,hb3,hc⟩:=hok.loc m _ hm
 rw [hbm] at hb1
 cases hb1
 rw [hi1] at hc
 have hb23:b2=b3:=by injection hc with hc;injection hc with hc;injection hc
 subst hb23
 have hlt:=(Array.getElem?_eq_some_iff.1 hi1).1
 refine ⟨H,B,hok.write (g:=g) (l' := .it n cl (seen++[bn]) cl) hm hbm hs hl (fun k hk=>Array.getElem?_setIfInBounds_ne (fun e=>hk e.symm)) (by simp [setBlock]) rfl rfl rfl ⟨r,c,b2,c3,hbm,hb3,?_⟩⟩
 show (w1.heap.setIfInBounds r _)[r]?=_
 rw [Array.getElem?_setIfInBounds_self_of_lt hlt]
 simp
theorem nextS {rid:Nat} {ops:Array Oper} {w0:World} {H0:Im} {B0:Bl} {K:List Nat} {N:Nat} {Q:Exit->Act->World->Prop} {sl:List (Nat × V)} {lc:List (Nat × L)} (d0 d1 t n m:Nat) {ty0 ty1:TypeId} {p0 p1 af0 af1}
  (hop:ops=#[⟨some d0,.next (.tmp t) false,ty0,p0,af0,none⟩,⟨some d1,.extract (.tmp d0) 0,ty1,p1,af1,none⟩]) (hb:Brn arr cl) (hk:∀ x ∈ arr,∃ kt:T,∀ H B,TR H B kt x.key) (hv:∀ x ∈ arr,flat x.val=true)
  (ht:sl.lookup t=some (vp m 0)) (hm:lc.lookup m=some (.it n cl seen cl)) (hn:lc.lookup n=some (.mpx arr cl)) (hd0:d0<N) (hd1:d1<N) (hdd:d1≠d0)
  (sl':List (Nat × V)) (lcs:List Nat->List (Nat × L)) (hsl:sl'.map (fun p=>sl.lookup p.1)=sl'.map fun p=>some p.2) (hsd:(sl'.all fun p=>!Nat.beq p.1 d0 && !Nat.beq p.1 d1)=true) (hlk:∀ s,(lc.map fun q=>if Nat.beq q.1 m then (q.1,L.it n cl s cl) else q)=lcs s)
  (h:St ⟨w0,H0,B0,K,N⟩ (F.of sl lc) a w)
  (done:∀ a w,(∀ x ∈ arr,x.born ∈ seen)->St ⟨w0,H0,B0,K,N⟩ (F.of ((d1,vb false) :: sl') lc) a w->Q .normal a w)
  (more:∀ x ∈ arr,x.born ∉ seen->∀ a w,St ⟨w0,H0,B0,K,N⟩ (F.of ((d1,vb true) :: sl') (lcs (seen++[x.born]))) a w->Q .normal a w):(Code.region rid ops false).wp P Q a w:=by
 subst hop
 refine wp_region ?_
 show wpOps P _ Q [0,1] a w
 obtain ⟨H,B,hok⟩:=id h
 obtain ⟨r,c,hbm,hu⟩:=(hok.slot t _ (show (F.of sl lc).s t=_ from ht)).ptrI
 obtain ⟨r', c', b2,c2,hb1,hb2,hi⟩:=hok.loc m _ (show (F.of sl lc).l m=_ from hm)
 rw [hbm] at hb1
 cases hb1
 obtain ⟨b3,c3,hb3,hc3⟩:=hok.loc n _ (show (F.of sl lc).l n=_ from hn)
 rw [hb2] at hb3
 cases hb3
 have h7:a.eval (.tmp t) = .pointer (some ⟨r,0,none⟩):=hu
 have slots:∀ (b:Bool) (xs:List T) (f:F),(∀ t,f.s t=if t=d1 then some (vb b) else if t=d0 then some (.tup xs) else sl.lookup t)->∀ t v,((d1,vb b) :: sl').lookup t=some v->f.s t=some v:=fun b xs f hf t v hv=>by
  rw [hf]
  rw [List.lookup_cons] at hv
  by_cases e1:t=d1
  ·subst e1;rw [show (t == t)=true by simp] at hv;rw [if_pos rfl];exact hv
  ·rw [show (t == d1)=false by simpa using e1] at hv
   have hv:sl'.lookup t=some v:=hv
   rw [if_neg e1]
   have h8:=cK.1 hsd _ (zae hv)
   simp only [b8,Bool.not_eq_true'] at h8
   have e2:t≠d0:=fun e=>by rw [e,Nat.beq_refl] at h8;exact absurd h8.1 (by decide)
   rw [if_neg e2]
   exact zam hsl (t,v) (zae hv)
 -- the second operation, and what is known behind it
 have two:∀ (b:Bool) (xs:List T) (f:F) (a:Act) (w:World) (lc':List (Nat × L)),(∀ t,f.s t=if t=d0 then some (.tup (.c (.d (.raw (.bool b))) :: xs)) else sl.lookup t)->(∀ k,f.l k=lc'.lookup k)->St ⟨w0,H0,B0,K,N⟩ f a w->(∀ a w,St ⟨w0,H0,B0,K,N⟩ (F.of ((d1,vb b) :: sl') lc') a w->Q .normal a w) ->
   wpOps P #[⟨some d0,.next (.tmp t) false,ty0,p0,af0,none⟩,⟨some d1,.extract (.tmp d0) 0,ty1,p1,af1,none⟩] Q [1] a w:=fun b xs f a w lc' hf1 hf2 hst hQ =>
  Chn.ops (e:=⟨w0,H0,B0,K,N⟩) (g:=F.of ((d1,vb b) :: sl') lc') hQ [1] f a w (.cons { rs:=[(d0,.tup (.c (.d (.raw (.bool b))) :: xs))],ws:=[(d1,some (.t (.c (.d (.raw (.bool b))))))] } rfl (.run rfl (Op.extract rfl)) ⟨fun p hp=>by rw [bE.1 hp];exact hd1,fun h=>by cases h⟩
   ⟨fun p hp=>by rw [bE.1 hp];show f.s d0=_;rw [hf1,if_pos rfl],fun p hp=>by cases hp⟩ (fun n hn=>by cases hn)
   (.nil ⟨slots b _ _ (fun t=>by
    rw [zek f d1 (some (vb b)) _ rfl t]
    by_cases e:t=d1
    ·rw [if_pos e,if_pos e]
    ·rw [if_neg e,if_neg e,hf1]),fun k l hl=>by rw [app0_l _ _ rfl,hf2];exact hl⟩)) hst
 rw [wpOps_cons]
 unfold wpOp
 simp only [List.getElem?_toArray,List.getElem?_cons_zero,Region.wanted,if_true]
 left
 unfold Oper.wp
 have hold:∀ x ∈ (⟨arr⟩:Array MapEntry).toList,x.born<cl:=fun x hx=>hb.1 x (by simpa using hx)
 rcases run_next_at (P:=P) w ty0 r b2 cl cl ⟨seen⟩ ⟨arr⟩ cl hi hc3 hold (bZ _) with ⟨h0,hrun⟩ | ⟨x,hx,w1,hw1,hrun⟩
 ·have hexec:(execOp a.eval ⟨some d0,.next (.tmp t) false,ty0,p0,af0,none⟩).run P w = .ok (.value (.tuple #[.bool false])) w:=by
   generalize a.eval=ρ at h7 ⊢
   simp only [execOp,h7,hrun,Sem.run_bind,Result.andThen_ok,Sem.run_pure]
  rw [hexec,Oper.upon_value]
  refine two false [] ⟨fun t=>if t=d0 then some (.tup [.c (.d (.raw (.bool false)))]) else sl.lookup t,fun k=>lc.lookup k⟩ _ _ lc (fun _=>rfl) (fun _=>rfl) ?_ fun a w hst=>done a w (fun x hx=>?_) hst
  ·exact ⟨H,B,hok.put (x:=some (.tup [.c (.d (.raw (.bool false)))])) hd0 (fun _=>rfl) (fun _=>rfl) fun y hy=>by
    have hy:=Option.some.inj hy
    subst hy
    exact ⟨[.bool false],rfl,DR.raw _ rfl,trivial⟩⟩
  ·have h9:(leftOf ⟨arr⟩ ⟨seen⟩)=#[]:=Array.eq_empty_of_size_eq_zero h0
   unfold leftOf at h9
   rw [Array.filter_eq_empty_iff] at h9
   have:=h9 x (by simpa using hx)
   simpa using this
 ·have hx2:x ∈ arr/\x.born ∉ seen:=by
   unfold leftOf at hx
   simp at hx
   exact hx
  obtain ⟨kt,hkt⟩:=hk x hx2.1
  have hexec:(execOp a.eval ⟨some d0,.next (.tmp t) false,ty0,p0,af0,none⟩).run P w = .ok (.value (.tuple #[.bool true,x.key,x.val])) (setBlock w1 r (.mapIter (some b2) cl (Array.push ⟨seen⟩ x.born) cl)):=by
   generalize a.eval=ρ at h7 ⊢
   simp only [execOp,h7,hrun,Sem.run_bind,Result.andThen_ok,Sem.run_pure]
  rw [hexec,Oper.upon_value]
  have hst:=h.iter_step (g:=F.of sl (lcs (seen++[x.born]))) hw1 (bn:=x.born) (show (F.of sl lc).s t=_ from ht) (show (F.of sl lc).l m=_ from hm) h7 hi (fun _=>rfl) (fun k=>by
   show (lcs (seen++[x.born])).lookup k=if k=m then _ else lc.lookup k
   rw [<- hlk,lk_set]
   by_cases e:k=m
   ·subst e;rw [if_pos rfl,if_pos rfl,hm];rfl
   ·rw [if_neg e,if_neg e])
  refine two true [kt,.c (.d (.raw x.val))] ⟨fun t=>if t=d0 then some (.tup [.c (.d (.raw (.bool true))),kt,.c (.d (.raw x.val))]) else sl.lookup t,fun k=>(lcs (seen++[x.born])).lookup k⟩ _ _ _ (fun _=>rfl) (fun _=>rfl) ?_ fun a w hst=>more x hx2.1 hx2.2 a w hst
  obtain ⟨H', B', hok'⟩:=hst
  exact ⟨H', B', hok'.put (x:=some (.tup [.c (.d (.raw (.bool true))),kt,.c (.d (.raw x.val))])) hd0 (fun _=>rfl) (fun _=>rfl) fun y hy=>by
   have hy:=Option.some.inj hy
   subst hy
   exact ⟨[.bool true,x.key,x.val],rfl,DR.raw _ rfl,hkt H' B', DR.raw _ (hv x hx2.1),trivial⟩⟩
end
instance spDec:DecidableEq SpD:=fun x y=>decidable_of_iff (x.node=y.node/\x.at_=y.at_) (by cases x;cases y;simp)
theorem zfs:∀ (N:Nat) (l:List Nat),l.Nodup->(∀ x ∈ l,x<N)->l.length<=N
 | 0,l,_,h=>by
  cases l with
  | nil=>simp
  | cons x l=>exact absurd (h x (by simp)) (Nat.not_lt_zero _)
 | N+1,l,hd,h=>by
  by_cases e:N ∈ l
  ·have h1:=zfs N (l.erase N) (hd.erase N) fun x hx=>by
    have h2:=(hd.mem_erase_iff).1 hx
    have:=h x h2.2
    omega
   rw [List.length_erase_of_mem e] at h1
   omega
  ·have:=zfs N l hd fun x hx=>by
    have h2:=h x hx
    have h3:x≠N:=fun q=>e (q ▸ hx)
    omega
   omega
section
variable (g:GbD) (wd:zaf)
def zhh (s:SpD):Prop:=0<=s.node/\s.node<(g.nodes.length:Int)/\s.at_<wN wd
def spN:Nat:=g.nodes.length*wN wd
def reaS:Nat->List SpD->List SpD->List SpD
  | 0,out,_=>out
  | n+1,out,todo=>match todo[todo.length - 1]? with
    | none=>out
    | some s=>if s ∈ out then reaS n out todo.dropLast else reaS n (out++[s]) (todo.dropLast++zbb g wd s)
def zco (from_:List SpD):List SpD:=reaS g wd (spN g wd*10001+from_.length) [] from_
structure ReaI (n:Nat) (out todo:List SpD):Prop where
  ok1:∀ s ∈ out,zhh g wd s
  ok2:∀ s ∈ todo,zhh g wd s
  nd:out.Nodup
  fu:(spN g wd - out.length)*10001+todo.length<=n
  tl:todo.length<=10000*(out.length+1)
end
section
variable {g:GbD} {wd:zaf}
theorem ar9c {C N o r:Nat} (h3:o+1<=N) (h4:r+1<=C) (h5:(N - o)*C+t<=n+1) (h7:0<t):(N - (o+1))*C+(t - 1+r)<=n:=by
 obtain ⟨k,rfl⟩:∃ k,N=o+1+k:=⟨N - (o+1),by omega⟩
 rw [show o+1+k - o=k+1 by omega,Nat.add_mul,Nat.one_mul] at h5
 rw [show o+1+k - (o+1)=k by omega]
 generalize k*C=z at h5 ⊢
 omega
theorem ar9 {N o r:Nat} (h3:o+1<=N) (h4:r<=10000) (h5:(N - o)*10001+t<=n+1) (h7:0<t):(N - (o+1))*10001+(t - 1+r)<=n:=ar9c h3 (Nat.succ_le_succ h4) h5 h7
theorem sp_code {t:SpD} (hs:zhh g wd s) (ht:zhh g wd t) (h:s.node.toNat*wN wd+s.at_=t.node.toNat*wN wd+t.at_):s=t:=by
  obtain ⟨a,b⟩:=s
  obtain ⟨c,d⟩:=t
  obtain ⟨h1,h2,h3⟩:=hs
  obtain ⟨h4,h5,h6⟩:=ht
  simp only at h h1 h2 h3 h4 h5 h6
  have e1:b=d:=by
    have:=congrArg (· % wN wd) h
    simp only [dG h3,dG h6] at this
    exact this
  subst e1
  have e2:a.toNat*wN wd=c.toNat*wN wd:=by omega
  have e3:a.toNat=c.toNat:=Nat.eq_of_mul_eq_mul_right (by omega) e2
  have e4:a=c:=by omega
  rw [e4]
theorem sp_le (h:∀ s ∈ out,zhh g wd s) (hd:out.Nodup):out.length<=spN g wd:=by
 have h1:(out.map fun s=>s.node.toNat*wN wd+s.at_).Nodup:=by
  have h2:=cP.1 hd
  refine cP.2 fun i j hi hj hij=>?_
  simp only [bA] at hi hj
  simp only [cC]
  intro e
  exact h2 i j hi hj hij (sp_code (h _ (cL hi)) (h _ (cL hj)) e)
 have h3:=zfs (spN g wd) _ h1 fun x hx=>by
  obtain ⟨s,hs,rfl⟩:=bV.1 hx
  obtain ⟨k1,k2,k3⟩:=h s hs
  unfold spN
  calc s.node.toNat*wN wd+s.at_<s.node.toNat*wN wd+wN wd:=by omega
   _=(s.node.toNat+1)*wN wd:=by rw [Nat.succ_mul]
   _<=g.nodes.length*wN wd:=Nat.mul_le_mul_right _ (by omega)
 simpa using h3
theorem zfo {x:Nat} (hx:x<wN wd):∀ s ∈ zai g wd ks x,zhh g wd s:=fun s hs=>by
 obtain ⟨_,h2,n,h3,_⟩:=zc0.1 hs
 unfold ndI at h3
 split at h3
 ·rename_i h4
  have:=(bG.1 h3).1
  exact ⟨h4,by omega,h2 ▸ hx⟩
 ·cases h3
theorem zeu (hc:0<wd.cycle.length) (hs:zhh g wd s):∀ t ∈ zbb g wd s,zhh g wd t:=zfo (zd2 hc hs.2.2)
theorem zed (hg:zff g) (s:SpD):(zbb g wd s).length<=10000:=by
 refine bL (zez _ _ _ _) ?_
 unfold nexI ndI
 split
 ·rename_i n h
  split at h
  ·exact (hg.2 n (bJ h)).2.2
  ·cases h
 ·simp
theorem rea_nil (n:Nat) (out:List SpD):reaS g wd n out []=out:=by cases n <;> rfl
theorem rea_old (h:todo[todo.length - 1]?=some s) (hs:s ∈ out):reaS g wd (n+1) out todo=reaS g wd n out todo.dropLast:=by
 show (match todo[todo.length - 1]? with | none=>out | some s=>_)=_
 rw [h]
 exact if_pos hs
theorem rea_new (h:todo[todo.length - 1]?=some s) (hs:s ∉ out):reaS g wd (n+1) out todo=reaS g wd n (out++[s]) (todo.dropLast++zbb g wd s):=by
 show (match todo[todo.length - 1]? with | none=>out | some s=>_)=_
 rw [h]
 exact if_neg hs
theorem ReaI.start (h:∀ s ∈ todo,zhh g wd s) (hl:todo.length<=10000):ReaI g wd (spN g wd*10001+todo.length) [] todo :=
 ⟨fun s hs=>(by cases hs),h,List.nodup_nil,by simp,by simpa using hl⟩
theorem ReaI.old (h:ReaI g wd (n+1) out todo) (ht:0<todo.length):ReaI g wd n out todo.dropLast :=
 ⟨h.ok1,fun s hs=>h.ok2 s (b9 _ hs),h.nd,by have:=h.fu;rw [bM];omega,by have:=h.tl;rw [bM];omega⟩
theorem ReaI.fresh (h:ReaI g wd (n+1) out todo) (hc:0<wd.cycle.length) (hg:zff g) (ht:todo[todo.length - 1]?=some s) (hs:s ∉ out):ReaI g wd n (out++[s]) (todo.dropLast++zbb g wd s):=by
 have hso:=h.ok2 s (bJ ht)
 have h1:∀ x ∈ out++[s],zhh g wd x:=fun x hx=>by
  rcases bK.1 hx with h1 | h1
  ·exact h.ok1 x h1
  ·rw [bE.1 h1];exact hso
 have h2:(out++[s]).Nodup:=by
  rw [List.nodup_append]
  refine ⟨h.nd,by simp,fun a ha b hb e=>?_⟩
  rw [bE.1 hb] at e
  exact hs (e ▸ ha)
 have h3:=sp_le h1 h2
 have h4:=zed (wd:=wd) hg s
 have h5:=h.fu
 have h6:=h.tl
 have h7:=(bG.1 ht).1
 rw [bB,bO] at h3
 refine ⟨h1,fun x hx=>?_,h2,?_,?_⟩
 ·rcases bK.1 hx with h8 | h8
  ·exact h.ok2 x (b9 _ h8)
  ·exact zeu hc hso x h8
 ·rw [bB,bB,bM,bO]
  exact ar9 h3 h4 h5 (by omega)
 ·rw [bB,bB,bM,bO]
  omega
theorem ReaI.len (h:ReaI g wd n out todo) (hg:zff g) (hl:wN wd<=1000):out.length<=10000000/\todo.length<=100000010000:=by
 have h1:=sp_le h.ok1 h.nd
 have h2:spN g wd<=10000*1000:=Nat.mul_le_mul hg.1 hl
 have:=h.tl
 omega
theorem ReaI.pos (h:ReaI g wd n out todo) (ht:0<todo.length):∃ m,n=m+1:=⟨n - 1,by have:=h.fu;omega⟩
theorem zdi {xs:List α} {s x:α} (h:xs[xs.length - 1]?=some s) (hx:x ∈ xs):x=s\/x ∈ xs.dropLast:=by
 have h1:=(bG.1 h).1
 obtain ⟨i,hi,rfl⟩:=cD.1 hx
 by_cases e:i=xs.length - 1
 ·subst e;left;rw [bI h1] at h;exact Option.some.inj h
 ·right
  rw [cU]
  exact cD.2 ⟨i,by rw [bQ];omega,by rw [List.getElem_take]⟩
theorem rea_rch (hc:0<wd.cycle.length) (hg:zff g) {I:SpD->Prop}:∀ (n:Nat) (out todo:List SpD),ReaI g wd n out todo->(∀ s ∈ out,Rch (zcl g wd) I s)->(∀ s ∈ todo,Rch (zcl g wd) I s)->(∀ s,I s->s ∈ out\/s ∈ todo)->(∀ s ∈ out,∀ t,zcl g wd s t->t ∈ out\/t ∈ todo) ->
  ∀ s,s ∈ reaS g wd n out todo ↔ Rch (zcl g wd) I s
 | n,out,[],_,h1,_,h3,h4,s=>by
  rw [rea_nil]
  constructor
  ·exact h1 s
  ·intro h
   induction h with
   | base hi=>exact (h3 _ hi).resolve_right (by simp)
   | step _ hr ih=>exact (h4 _ ih _ hr).resolve_right (by simp)
 | 0,out,t :: todo,hI,_,_,_,_,s=>by have:=hI.fu;simp at this
 | n+1,out,t :: todo,hI,h1,h2,h3,h4,s=>by
  obtain ⟨x,hx⟩:∃ x,(t :: todo)[(t :: todo).length - 1]?=some x:=⟨_,bI (by simp)⟩
  generalize t :: todo=td at hI h2 h3 h4 hx
  by_cases e:x ∈ out
  ·rw [rea_old hx e]
   have hm:∀ y,y ∈ out\/y ∈ td->y ∈ out\/y ∈ td.dropLast:=fun y hy=>by
    rcases hy with h5 | h5
    ·exact .inl h5
    ·rcases zdi hx h5 with rfl | h6
     ·exact .inl e
     ·exact .inr h6
   exact rea_rch hc hg n out _ (hI.old (Nat.lt_of_le_of_lt (bF _) (bG.1 hx).1)) h1 (fun y hy=>h2 y (b9 _ hy)) (fun y hy=>hm y (h3 y hy)) (fun y hy z hz=>hm z (h4 y hy z hz)) s
  ·rw [rea_new hx e]
   have hm:∀ y,y ∈ out\/y ∈ td->y ∈ out++[x]\/y ∈ td.dropLast++zbb g wd x:=fun y hy=>by
    rcases hy with h5 | h5
    ·exact .inl (dH _ h5)
    ·rcases zdi hx h5 with rfl | h6
     ·exact .inl (by simp)
     ·exact .inr (dH _ h6)
   refine rea_rch hc hg n _ _ (hI.fresh hc hg hx e) (fun y hy=>?_) (fun y hy=>?_) (fun y hy=>hm y (h3 y hy)) (fun y hy z hz=>?_) s
   ·rcases bK.1 hy with h5 | h5
    ·exact h1 y h5
    ·rw [bE.1 h5];exact h2 x (bJ hx)
   ·rcases bK.1 hy with h5 | h5
    ·exact h2 y (b9 _ h5)
    ·exact .step (h2 x (bJ hx)) h5
   ·rcases bK.1 hy with h5 | h5
    ·exact hm z (h4 y h5 z hz)
    ·rw [bE.1 h5] at hz
     exact .inr (List.mem_append_right _ hz)
theorem reaL_iff (hc:0<wd.cycle.length) (hg:zff g) {fr:List SpD} (h:∀ s ∈ fr,zhh g wd s) (hl:fr.length<=10000) (s:SpD):s ∈ zco g wd fr ↔ Rch (zcl g wd) (· ∈ fr) s :=
  rea_rch hc hg _ _ _ (.start h hl) (fun s hs=>(by cases hs)) (fun s hs => .base hs) (fun s hs => .inr hs) (fun s hs=>(by cases hs)) s
theorem reaS_ok (hc:0<wd.cycle.length) (hg:zff g):∀ (n:Nat) (out todo:List SpD),ReaI g wd n out todo->(∀ s ∈ reaS g wd n out todo,zhh g wd s)/\(reaS g wd n out todo).Nodup
 | n,out,[],hI=>by rw [rea_nil];exact ⟨hI.ok1,hI.nd⟩
 | 0,out,t :: todo,hI=>by have:=hI.fu;simp at this
 | n+1,out,t :: todo,hI=>by
  obtain ⟨x,hx⟩:∃ x,(t :: todo)[(t :: todo).length - 1]?=some x:=⟨_,bI (by simp)⟩
  generalize t :: todo=td at hI hx
  by_cases e:x ∈ out
  ·rw [rea_old hx e];exact reaS_ok hc hg n out _ (hI.old (Nat.lt_of_le_of_lt (bF _) (bG.1 hx).1))
  ·rw [rea_new hx e];exact reaS_ok hc hg n _ _ (hI.fresh hc hg hx e)
theorem zg4 (hc:0<wd.cycle.length) (hg:zff g) {fr:List SpD} (h:∀ s ∈ fr,zhh g wd s) (hl:fr.length<=10000):(∀ s ∈ zco g wd fr,zhh g wd s)/\(zco g wd fr).Nodup:=reaS_ok hc hg _ _ _ (.start h hl)
end
section
variable (g:GbD) (wd:zaf)
def paSB (s:SpD) (l:List Int):Bool:=(zco g wd (zbb g wd s)).any fun x=>l.contains x.node && decide (s ∈ zco g wd (zbb g wd x))
def arSB (s:SpD):Bool:=decide (s ∈ zco g wd (zbb g wd s)) && g.sets.all (paSB g wd s)
def takSB:Bool:=decide (0<wd.cycle.length) && (zco g wd (zai g wd g.first 0)).any (arSB g wd)
end
theorem takSB_eq {g:GbD} (hg:zff g) (hf:g.first.length<=10000):takSB g wd=takB g wd:=by
 unfold takSB takB
 by_cases hc:0<wd.cycle.length
 ·rw [decide_eq_true hc,bR]
  have h0:0<wN wd:=by unfold wN;omega
  have e0:=reaL_iff hc hg (zfo (g:=g) (ks:=g.first) h0) (bL (zez _ _ _ _) hf)
  have e1:∀ s,zhh g wd s->∀ t,t ∈ zco g wd (zbb g wd s) ↔ Rch (zcl g wd) (zcl g wd s) t:=fun s hs t=>reaL_iff hc hg (zeu hc hs) (zed hg s) t
  have ok0:=(zg4 hc hg (zfo (g:=g) (ks:=g.first) h0) (bL (zez _ _ _ _) hf)).1
  have ok1:∀ s,zhh g wd s->∀ t ∈ zco g wd (zbb g wd s),zhh g wd t:=fun s hs=>(zg4 hc hg (zeu hc hs) (zed hg s)).1
  rw [Bool.eq_iff_iff]
  have e2:(zco g wd (zai g wd g.first 0)).any (arSB g wd)=true ↔ TakesP g wd:=by
   rw [cE]
   unfold TakesP
   constructor
   ·rintro ⟨s,hs,h⟩
    unfold arSB at h
    simp only [b8,decide_eq_true_eq,cK] at h
    have hso:=ok0 s hs
    refine ⟨s,(e0 s).1 hs,(e1 s hso s).1 h.1,fun l hl=>?_⟩
    have h2:=h.2 l hl
    unfold paSB at h2
    simp only [cE,b8,decide_eq_true_eq,dI] at h2
    obtain ⟨x,hx,h3,h4⟩:=h2
    exact ⟨x,(e1 s hso x).1 hx,h3,(e1 x (ok1 s hso x hx) s).1 h4⟩
   ·rintro ⟨s,h1,h2,h3⟩
    have hs:=(e0 s).2 h1
    have hso:=ok0 s hs
    refine ⟨s,hs,?_⟩
    unfold arSB
    simp only [b8,decide_eq_true_eq,cK]
    refine ⟨(e1 s hso s).2 h2,fun l hl=>?_⟩
    obtain ⟨x,hx,h4,h5⟩:=h3 l hl
    have hxm:=(e1 s hso x).2 hx
    unfold paSB
    simp only [cE,b8,decide_eq_true_eq,dI]
    exact ⟨x,hxm,h4,(e1 x (ok1 s hso x hxm) s).2 h5⟩
  rw [e2]
  simp [hc]
 ·simp [hc]
def spV (s:SpD):Value:=.agg #[.int .i64 s.node,.int .i64 ((s.at_:Nat):Int)]
theorem spV_inj {t:SpD} (h:spV s=spV t):s=t:=by
 cases s;cases t
 simp [spV] at h
 simp only [SpD.mk.injEq];omega
def spA (R:List SpD):List MapEntry:=R.zipIdx.map fun p=>⟨spV p.1,.bool true,p.2⟩
theorem spA_snoc (R:List SpD) (s:SpD):spA (R++[s])=spA R++[⟨spV s,.bool true,R.length⟩]:=by
 unfold spA
 rw [List.zipIdx_append,bS]
 simp
theorem zer {x:MapEntry} (h:x ∈ spA R):∃ s ∈ R,x.key=spV s/\x.val = .bool true:=by
 obtain ⟨p,hp,rfl⟩:=bV.1 h
 exact ⟨p.1,(List.mem_zipIdx' hp).2 ▸ cL _,rfl,rfl⟩
theorem spA_of (h:s ∈ R):∃ x ∈ spA R,x.key=spV s:=by
 obtain ⟨i,hi,rfl⟩:=cD.1 h
 exact ⟨⟨spV R[i],.bool true,i⟩,bV.2 ⟨(R[i],i),c8.2 (bI hi),rfl⟩,rfl⟩
theorem spA_brn (R:List SpD):Brn (spA R) R.length:=by
 unfold spA
 refine ⟨fun x hx=>?_,?_⟩
 ·obtain ⟨p,hp,rfl⟩:=bV.1 hx
  have:=(List.mem_zipIdx' hp).1
  exact this
 ·rw [bW]
  have:(List.map ((fun x:MapEntry=>x.born) ∘ fun p:SpD × Nat=>⟨spV p.1,.bool true,p.2⟩) R.zipIdx)=R.zipIdx.map Prod.snd:=List.map_congr_left fun _ _=>rfl
  rw [this,List.zipIdx_map_snd]
  exact List.nodup_range'
def InSp (s:SpD):Prop:=(-9223372036854775808<=s.node/\s.node<=9223372036854775807)/\s.at_<=9223372036854775807
theorem zhh.in {g:GbD} (hg:zff g) (hl:wN wd<=1000) (h:zhh g wd s):InSp s:=by
 obtain ⟨h1,h2,h3⟩:=h
 have:=hg.1
 refine ⟨⟨?_,?_⟩,?_⟩ <;> omega
theorem laid9:laidOutB dJ=true:=by kernel_rfl
theorem spotK:Maps.Keyed dJ 103:=.of_law (deep_law_laid laid9 (m:=2) (by omega) (of_decide_eq_true (by kernel_rfl)) (by kernel_rfl) (by rw [Tryz.underlying103]))
theorem cells9:Tryz.prog.cellsOf 103=2:=by kernel_rfl
theorem cells8:Tryz.prog.cellsOf 3=1:=by kernel_rfl
theorem kt9:Tryz.prog.keyType 103=true:=by kernel_rfl
theorem ts9:∃ m,Tryz.prog.types.size=m+1:=⟨Tryz.prog.types.size - 1,by kernel_rfl⟩
theorem wf_i64 {n:Int} (h1:-9223372036854775808<=n) (h2:n<=9223372036854775807):(Lit.int .i64 n).wf=true:=by
 simp only [Lit.wf,b8,decide_eq_true_eq]
 exact ⟨h1,h2⟩
theorem key_spot (h:InSp s):∃ l,keyOf dJ 103 (spV s)=some l:=by
 obtain ⟨m,hm⟩:=ts9
 have w1:=wf_i64 h.1.1 h.1.2
 have w2:=wf_i64 (n:=((s.at_:Nat):Int)) (by omega) (by have:=h.2;omega)
 unfold keyOf spV
 simp only [Tryz.underlying103]
 rw [if_pos (by simp [kt9,Value.formed,Tryz.underlying103,cells9]),hm]
 unfold Program.keyLits
 simp only [Tryz.underlying103,Value.cells]
 rw [if_pos (by rw [cells9];exact ⟨rfl,by kernel_rfl⟩)]
 unfold Program.keyLits
 simp [cells8,Tryz.underlying3,w1,w2]
theorem mptS:MpT dJ 98 103 4 (.bool false):=⟨spotK,Tryz.underlying98,fun _=>by kernel_rfl⟩
theorem keysS (h:∀ s ∈ R,InSp s):∀ x ∈ spA R,∃ l,keyOf dJ 103 x.key=some l:=fun x hx=>by
 obtain ⟨s,hs,e,_⟩:=zer hx
 rw [e];exact key_spot (h s hs)
section
variable {d t m x:Nat} {R:List SpD} {s:SpD} {q:Bool} {ty:TypeId} {pos:String} {af:Array Edge} {gd:Option (Nat × Bool)}
theorem Op.lkS (hk:∀ s ∈ R,InSp s) (hn:InSp s) (hq:decide (s ∈ R)=q):zar dJ ⟨some d,.lookup 98 (.tmp t) (.tmp x) false,ty,pos,af,gd⟩ { rs:=[(t,mpv m),(x,.t (.agg [.d (.raw (.int .i64 s.node)),.d (.raw (.int .i64 ((s.at_:Nat):Int)))]))],rl:=[(m,.mpx (spA R) R.length)],ws:=[(d,some (vb q))] }:=by
 obtain ⟨l,hl⟩:=key_spot hn
 subst hq
 refine Op.lookX mptS (dL x _) (.agg2 _ _) hl (keysS hk) (fun y hy=>?_) ?_
 ·obtain ⟨_,_,_,h⟩:=zer hy;exact h
 ·rw [decide_eq_true_eq]
  constructor
  ·intro h;exact spA_of h
  ·rintro ⟨y,hy,e⟩
   obtain ⟨s2,hs2,e2,_⟩:=zer hy
   exact spV_inj (e2.symm.trans e) ▸ hs2
theorem Op.upS (hk:∀ s ∈ R,InSp s) (hn:InSp s) (h:s ∉ R):zar dJ ⟨none,.mapUpdate 98 (.tmp t) (.tmp x) (.const (.bool true)),ty,pos,af,gd⟩ { rs:=[(t,mpv m),(x,.t (.agg [.d (.raw (.int .i64 s.node)),.d (.raw (.int .i64 ((s.at_:Nat):Int)))]))],rl:=[(m,.mpx (spA R) R.length)],wl:=[(m,some (.mpx (spA (R++[s])) (R++[s]).length))] }:=by
 obtain ⟨l,hl⟩:=key_spot hn
 rw [bB,bO]
 refine Op.mapNewX mptS (dL x _) (.agg2 _ _) hl (keysS hk) (OV.const _ rfl) (fun y hy e=>?_) (spA_snoc R s).symm
 obtain ⟨s2,hs2,e2,_⟩:=zer hy
 exact h (spV_inj (e2.symm.trans e) ▸ hs2)
end
theorem vc2_2:SlT dJ 100 103 2:=SlT.mk' Tryz.underlying100 (by kernel_rfl)
theorem vc2_3:Sz dJ 103 2 true:=Sz.mk' (by kernel_rfl) Tryz.underlying103 _ rfl
theorem vc2_8:SlT dJ 48 34 1:=SlT.mk' Tryz.underlying48 (by kernel_rfl)
theorem nodup_map_inj {β:Type} {f:α->β} {xs:List α} (h:(xs.map f).Nodup) {x y:α} (hx:x ∈ xs) (hy:y ∈ xs) (e:f x=f y):x=y:=by
 obtain ⟨i,hi,rfl⟩:=cD.1 hx
 obtain ⟨j,hj,rfl⟩:=cD.1 hy
 have h1:=cP.1 h
 by_cases e1:i=j
 ·subst e1;rfl
 ·rcases Nat.lt_or_gt_of_ne e1 with h2 | h2
  ·exact absurd (by rw [cC,cC];exact e) (h1 i j (by simpa using hi) (by simpa using hj) h2)
  ·exact absurd (by rw [cC,cC];exact e.symm) (h1 j i (by simpa using hj) (by simpa using hi) h2)
abbrev spL (R:List SpD):L:=.mpx (spA R) R.length
theorem spV_tr (s:SpD) (H:Im) (B:Bl):TR H B (.agg [.d (.raw (.int .i64 s.node)),.d (.raw (.int .i64 ((s.at_:Nat):Int)))]) (spV s):=⟨[_,_],rfl,DR.raw _ rfl,DR.raw _ rfl,trivial⟩
theorem spA_keys (R:List SpD):∀ x ∈ spA R,∃ kt:T,∀ H B,TR H B kt x.key:=fun x hx=>by
 obtain ⟨s,_,e,_⟩:=zer hx
 exact ⟨_,fun H B=>e ▸ spV_tr s H B⟩
theorem spA_flat (R:List SpD):∀ x ∈ spA R,flat x.val=true:=fun x hx=>by
 obtain ⟨s,_,_,e⟩:=zer hx
 rw [e];rfl
theorem left_less {xs:List α} {p q:α->Bool} {x:α} (hx:x ∈ xs) (hp:p x=true) (hq:q x=false) (h:∀ y,q y=true->p y=true):(xs.filter q).length<(xs.filter p).length:=by
 induction xs with
 | nil=>cases hx
 | cons y ys ih =>
  have hle:∀ zs:List α,(zs.filter q).length<=(zs.filter p).length:=fun zs=>by
   induction zs with
   | nil=>simp
   | cons z zs ih2 =>
    rw [cQ,cQ]
    by_cases e:q z=true
    ·rw [if_pos e,if_pos (h z e)];simp;exact ih2
    ·rw [if_neg e]
     split
     ·simp;omega
     ·exact ih2
  rw [cQ,cQ]
  rcases cH.1 hx with rfl | h2
  ·rw [if_neg (by rw [hq];exact Bool.noConfusion),if_pos hp]
   have:=hle ys
   simp;omega
  ·have h3:=ih h2
   by_cases e:q y=true
   ·rw [if_pos e,if_pos (h y e)];simp;exact h3
   ·rw [if_neg e]
    split
    ·simp;omega
    ·exact h3
theorem seen_less {x:MapEntry} (hx:x ∈ spA R) (hs:x.born ∉ seen):((spA R).filter fun y=>!(seen++[x.born]).contains y.born).length<((spA R).filter fun y=>!seen.contains y.born).length:=by
 refine left_less hx (by simp [hs]) (by simp) fun y hy=>?_
 simp at hy ⊢
 exact hy.1
def NoneS (R:List SpD) (pp:SpD->Bool) (seen:List Nat):Prop:=∀ x ∈ spA R,x.born ∈ seen->∀ s,x.key=spV s->pp s=false
theorem NoneS.nil (R:List SpD) (pp:SpD->Bool):NoneS R pp []:=fun x _ h=>by cases h
theorem NoneS.step {pp:SpD->Bool} {x:MapEntry} (h:NoneS R pp seen) (hx:x ∈ spA R) (hk:x.key=spV s) (hp:pp s=false):NoneS R pp (seen++[x.born]):=fun y hy hb t ht=>by
 rcases bK.1 hb with h1 | h1
 ·exact h y hy h1 t ht
 ·have hb2:=(spA_brn R).2
  have e:y=x:=by
   have h2:=bE.1 h1
   exact nodup_map_inj hb2 hy hx h2
  subst e
  rw [spV_inj (ht.symm.trans hk)];exact hp
theorem NoneS.all {pp:SpD->Bool} (h:NoneS R pp seen) (ha:∀ x ∈ spA R,x.born ∈ seen):R.any pp=false:=by
 rw [List.any_eq_false]
 intro s hs
 obtain ⟨x,hx,e⟩:=spA_of hs
 rw [h x hx (ha x hx) s e];exact Bool.noConfusion
def zep (g:GbD):Prop:=g.sets.length<=1000000/\∀ l ∈ g.sets,l.length<=1000000
theorem SIndexV (xs:List Int) (v:Int) (hl:xs.length<=1000000):Fn dJ 87 [] [(vIs xs),vI v] (vI (zbf (fun y=>v == y) xs 0)) []:=by
 refine fB Tryz.func87 rfl 19 fun w H B a h=>Jq 0 [] [(0,(vIs xs)),(1,vI v),(4,vI 0)] [] h fun a w h=>qW (Jg 0 [(1,.len (za9 1 za3 xs))] [] [(7,vN xs.length),(8,vI 0)] [] [] h fun a w h=>qZ ?_)
 refine zdp (ι:=(Nat)) (fun j=>j<=xs.length/\zbf (fun y=>v == y) xs 0=zbf (fun y=>v == y) (xs.drop j) j)
   [4] (fun j=>[(8,vN j)])
   [] (fun j=>[])
   (fun j=>xs.length - j) 0 ?_ h ?_
 ·exact ⟨bF _,rfl⟩
 clear h;rintro j a w hI h;obtain ⟨hI1,hI2⟩:=hI;refine Jg 0 [] [] [(9,vb (decide ((j:Int)<(xs.length:Int))))] [] [] h fun a w h=>qW (zav ((j:Int)<(xs.length:Int)) h (fun hc1 hc1'=>?_) (fun hc4 hc4'=>?_))
 ·refine qU (za1 (qW (qZ (Jg 0 [] [9] [(5,vN j)] [] [] h fun a w h=>?_))));obtain ⟨x1,hx1⟩:=gl xs j;refine Jg 0 [(3,.g (xD 14 12 tb_1 (zab hx1 (f:=za3)) (dL 13 _)))] [] [(16,vb (v == x1))] [] [] h fun a w h=>cS (v == x1) h (fun hc2=>?_) (fun hc3=>?_)
  ·refine Jg 0 [] [5,16] [(4,vN j)] [] [] h fun a w h=>qV (zaa (za5 (za5 (zaa (za5 (rT (.c (cI (j:Int))) h rfl ?_))))));have hz:zbf (fun y=>v == y) xs 0=(j:Int):=by rw [hI2,zcj hx1,if_pos hc2]
   rw [hz];try rfl
  refine qU (za7 (za1 (Jh 0 [(0,.j1 j)] [5,16] [(8,vI ((j:Int)+1))] [] [] h fun a w h=>za1 (zaj (x:=j) (y:=j+1) h ?_ ?_))))
  ·exact ⟨by have:=zal hx1;omega,by rw [hI2,zcj hx1,if_neg (by rw [hc3];exact Bool.noConfusion)]⟩
  have:=zal hx1;show xs.length - (j+1)<xs.length - j;omega
 refine exA (Jq 0 [] [(4,vI (-1))] [] h fun a w h=>qV (rT (.c (cI (-1))) h rfl ?_));have hz:zbf (fun y=>v == y) xs 0=-1:=by rw [hI2,bY (by omega)];rfl
 rw [hz];try rfl
theorem zf6 (xs:List Int) (v:Int) (hl:xs.length<=1000000):Fn dJ 66 [] [(vIs xs),vI v] (vb (xs.contains v)) []:=by
 refine fB Tryz.func66 rfl 9 fun w H B a h=>Jq 0 [] [(0,(vIs xs)),(1,vI v),(4,vb false)] [] h fun a w h=>Jq 0 [(2,.call (SIndexV xs v hl))] [(4,vb (decide (zbf (fun y=>v == y) xs 0>=0)))] [] h fun a w h=>qV (rT (.c (cB (decide (zbf (fun y=>v == y) xs 0>=0)))) h rfl ?_)
 rw [<- List.any_beq,<- zhv];try rfl
theorem SNextT (g:GbD) (wd:zaf) (s:SpD) (hlt:LtOk wd) (hl:wN wd<=1000) (hg:zff g) (hc:0<wd.cycle.length) (hs:zhh g wd s):Fn dJ 74 [] [vG [.d (.sl 3 (g.nodes.map dR)),cIs g.first,.d (.sl 1 (g.sets.map (slD 1 za3))),.d (.sl 1 (wd.stem.map (slD 1 za0))),.d (.sl 1 (wd.cycle.map (slD 1 za0)))],vG [cI s.node,cI ((s.at_:Nat):Int)]] (vO 10 (zbb g wd s).length) [(10,.row 103 2 ((zbb g wd s).map SpD.d))] :=
 Fn.renA 0 10 (SNextF g wd s hlt hl hg hc hs.2.2 hs.1 hs.2.1) rfl rfl rfl rfl rfl rfl rfl
theorem SReach (g:GbD) (wd:zaf) (fr:List SpD) (hlt:LtOk wd) (hl:wN wd<=1000) (hg:zff g) (hc:0<wd.cycle.length) (hfr:∀ s ∈ fr,zhh g wd s) (hfl:fr.length<=10000):Fn dJ 54 [(0,.row 103 2 (fr.map SpD.d))] [vG [.d (.sl 3 (g.nodes.map dR)),cIs g.first,.d (.sl 1 (g.sets.map (slD 1 za3))),.d (.sl 1 (wd.stem.map (slD 1 za0))),.d (.sl 1 (wd.cycle.map (slD 1 za0)))],vO 0 fr.length] (.t (.c (.mp 1))) [(1,spL (zco g wd fr))]:=by
 refine fB Tryz.func54 rfl 36 fun w H B a h=>Jq 30 [] [(1,vO 0 fr.length),(2,vp 30 0),(4,vW (.map none))] [(0,.row 103 2 (fr.map SpD.d)),(30,.box [.d (.sl 3 (g.nodes.map dR)),cIs g.first,.d (.sl 1 (g.sets.map (slD 1 za3))),.d (.sl 1 (wd.stem.map (slD 1 za0))),.d (.sl 1 (wd.cycle.map (slD 1 za0)))])] h fun a w h=>Jg 31 [(0,.g (Op.mkMapX (d:=8) (n:=31) (t:=98)))] [] [(5,.t (.c (.mp 31)))] [] [(31,spL [])] h fun a w h=>Je 32 [] [1] [(6,vO 0 fr.length)] h fun a w h=>qW (qZ ?_)
 replace h:=zb7 0 20 h;replace h:=zb7 31 21 h;replace h:=atS (sl':=[(2,vp 30 0),(4,vW (.map none)),(5,.t (.c (.mp 21))),(6,vO 20 fr.length)]) (lc':=[(30,.box [.d (.sl 3 (g.nodes.map dR)),cIs g.first,.d (.sl 1 (g.sets.map (slD 1 za3))),.d (.sl 1 (wd.stem.map (slD 1 za0))),.d (.sl 1 (wd.cycle.map (slD 1 za0)))]),(20,.row 103 2 (fr.map SpD.d)),(21,spL [])]) h
 refine loopS (ι:=(Nat) × (List SpD) × (List SpD)) (fun (k,out,todo)=>ReaI g wd k out todo/\reaS g wd k out todo=(zco g wd fr))
   (fun (k,out,todo)=>[(2,vp 30 0),(4,vW (.map none)),(5,.t (.c (.mp 21))),(6,vO 20 todo.length)])
   (fun (k,out,todo)=>[(30,.box [.d (.sl 3 (g.nodes.map dR)),cIs g.first,.d (.sl 1 (g.sets.map (slD 1 za3))),.d (.sl 1 (wd.stem.map (slD 1 za0))),.d (.sl 1 (wd.cycle.map (slD 1 za0)))]),(20,.row 103 2 (todo.map SpD.d)),(21,spL out)])
   (fun (k,out,todo)=>k) ((spN g wd*10001+fr.length),[],fr) ?_ h (by kernel_rfl) (by kernel_rfl) ?_
 ·exact ⟨ReaI.start hfr hfl,rfl⟩
 clear h;rintro ⟨k,out,todo⟩ a w hI h;dsimp only at h;obtain ⟨hI1,hI2⟩:=hI;obtain ⟨hlo,hlt9⟩:=hI1.len hg hl;refine qW (Je 32 [] [] [(12,vb (decide ((todo.length:Int)>0)))] h fun a w h=>zav ((todo.length:Int)>0) h (fun hc1 hc1'=>?_) (fun hc4 hc4'=>?_))
 ·refine qU (za1 (qZ ?_));obtain ⟨x1,hx1⟩:=gl todo (todo.length - 1);refine Jg 32 [(3,.g (Op.arith (op:=.sub) (d:=16) (xt:=3) (yt:=3) (k:=.i64) (m:=(todo.length:Int)) (n:=1) (r:=((todo.length - 1:Nat):Int)) (dL 15 _) (OV.const (.int .i64 1) rfl) (.inr (.inl ⟨rfl,(by omega)⟩)) i6)),(4,.g (xO 17 13 20 todo.length (todo.length - 1) vc2_2 (dL 16 _))),(5,.g (Op.loadR_agg (d:=18) (t:=17) (n:=20) (i:=(todo.length - 1)) (fo:=0) (rty:=103) (es:=2) (xs:=[.raw (.int .i64 x1.node),.raw (.int .i64 ((x1.at_:Nat):Int))]) vc2_3 rfl (zab hx1 (f:=SpD.d)) rfl rfl))] [12] [(7,vp 32 0)] [] [(32,.box [cI x1.node,cI ((x1.at_:Nat):Int)])] h fun a w h=>Je 33 [(3,.g (Op.arith (op:=.sub) (d:=22) (xt:=3) (yt:=3) (k:=.i64) (m:=(todo.length:Int)) (n:=1) (r:=((todo.length - 1:Nat):Int)) (dL 21 _) (OV.const (.int .i64 1) rfl) (.inr (.inl ⟨rfl,(by omega)⟩)) i6)),(4,.g (Op.sliceHi (d:=23) (t:=19) (k:=.i64) (n:=20) (len:=todo.length) (h:=(todo.length - 1)) (rows:=todo.map SpD.d) (rty:=103) vc2_2 (by first | omega | (simp;done) | (simp at *;omega)) (dL 22 _)))] [] [(6,vO 20 (todo.length - 1))] h fun a w h=>?_;replace h:=cutS 20 (todo.length - 1) 2 103 (todo.map SpD.d) [(2,vp 30 0),(4,vW (.map none)),(5,.t (.c (.mp 21))),(6,vO 20 (todo.length - 1)),(7,vp 32 0)] [(30,.box [.d (.sl 3 (g.nodes.map dR)),cIs g.first,.d (.sl 1 (g.sets.map (slD 1 za3))),.d (.sl 1 (wd.stem.map (slD 1 za0))),.d (.sl 1 (wd.cycle.map (slD 1 za0)))]),(20,.row 103 2 ((todo.map SpD.d).take (todo.length - 1))),(21,spL out),(32,.box [cI x1.node,cI ((x1.at_:Nat):Int)])] h rfl (by kernel_rfl) (by kernel_rfl);replace h:=cvM [] [(6,vO 20 todo.dropLast.length)] [] [(20,.row 103 2 (todo.dropLast.map SpD.d))] (by rw [bM,cU,List.map_take]; try kernel_rfl) h;refine Jg 33 [(2,.g (Op.lkS (d:=26) (t:=24) (m:=21) (x:=25) (s:=x1) (R:=out) (q:=(decide (x1 ∈ out))) (fun s hs=>(hI1.ok1 s hs).in hg hl) ((hI1.ok2 x1 (lM hx1)).in hg hl) rfl))] [] [(27,vb (!(decide (x1 ∈ out))))] [] [] h fun a w h=>cS (!(decide (x1 ∈ out))) h (fun hc2=>?_) (fun hc3=>?_)
  ·refine Jg 33 [(2,.g (Op.upS (t:=28) (m:=21) (x:=29) (s:=x1) (R:=out) (fun s hs=>(hI1.ok1 s hs).in hg hl) ((hI1.ok2 x1 (lM hx1)).in hg hl) (dF (show (decide (x1 ∈ out))=false by have:=hc2;simpa using this))))] [27] [] [] [(21,spL (out++[x1]))] h fun a w h=>?_;have hnl:=zed (wd:=wd) hg x1;have hdl9:todo.dropLast.length=todo.length - 1:=bM;refine Jh 33 [(3,.call (SNextT g wd x1 hlt hl hg hc (hI1.ok2 x1 (lM hx1)))),(4,.g (Op.appOO (d:=34) (t:=30) (u:=33) (n:=20) (sn:=10) (n':=33) (len:=todo.dropLast.length) (len2:=(zbb g wd x1).length) (len':=(todo.dropLast++(zbb g wd x1)).length) (rows:=todo.dropLast.map SpD.d) (rows2:=(zbb g wd x1).map SpD.d) (rows':=(todo.dropLast++(zbb g wd x1)).map SpD.d) vc1_10 (by first | exact (bA _).symm | simp) (by first | exact (bA _).symm | simp) (by first | (rw [bB,bA];done) | simp) (by simp) (by first | omega | (simp only [bA];omega))))] [7] [(6,vO 33 (todo.dropLast++(zbb g wd x1)).length)] [20,32] [(33,.row 103 2 ((todo.dropLast++(zbb g wd x1)).map SpD.d))] h fun a w h=>za7 (za1 ?_);have hkp:k - 1+1=k:=by obtain ⟨m9,hm9⟩:=hI1.pos (by have:=(bG.1 hx1).1;omega);omega
   have hI3:ReaI g wd (k - 1+1) out todo:=by rw [hkp];exact hI1
   have hI4:reaS g wd (k - 1+1) out todo=(zco g wd fr):=by rw [hkp];exact hI2
   replace h:=zb7 33 20 h;refine zaj (x:=(k,out,todo)) (y:=((k - 1),(out++[x1]),(todo.dropLast++(zbb g wd x1)))) h ?_ ?_
   ·exact ⟨hI3.fresh hc hg hx1 (dF (show (decide (x1 ∈ out))=false from by simpa using hc2)),by rw [<- hI4,rea_new hx1 (dF (show (decide (x1 ∈ out))=false from by simpa using hc2))]⟩
   show k - 1<k;omega
  refine qU (za7 (za1 ?_));have hkp:k - 1+1=k:=by obtain ⟨m9,hm9⟩:=hI1.pos (by have:=(bG.1 hx1).1;omega);omega
  have hI3:ReaI g wd (k - 1+1) out todo:=by rw [hkp];exact hI1
  have hI4:reaS g wd (k - 1+1) out todo=(zco g wd fr):=by rw [hkp];exact hI2
  refine zaj (x:=(k,out,todo)) (y:=((k - 1),out,todo.dropLast)) h ?_ ?_
  ·exact ⟨hI3.old (by have:=(bG.1 hx1).1;omega),by rw [<- hI4,rea_old hx1 (dT (show (decide (x1 ∈ out))=true from by simpa using hc3))]⟩
  show k - 1<k;omega
 refine exA (Jq 34 [] [(4,.t (.c (.mp 21)))] [(21,spL out)] h fun a w h=>qV ?_);have hR:out=(zco g wd fr):=by rw [<- hI2,show todo=[] from cV.1 (by have:=dF hc4;omega),rea_nil]
 replace h:=cvM [] [] [] [(21,spL (zco g wd fr))] (by rw [hR]; try kernel_rfl) h;replace h:=zb7 21 1 h;refine rT (.c (.mp 1)) h rfl ?_;rfl
theorem SPast (g:GbD) (wd:zaf) (s:SpD) (R:List SpD) (l:List Int) (hlt:LtOk wd) (hl:wN wd<=1000) (hg:zff g) (hc:0<wd.cycle.length) (hs:zhh g wd s) (hR:∀ y ∈ R,zhh g wd y) (hll:l.length<=1000000):Fn dJ 76 [(2,spL R)] [vG [.d (.sl 3 (g.nodes.map dR)),cIs g.first,.d (.sl 1 (g.sets.map (slD 1 za3))),.d (.sl 1 (wd.stem.map (slD 1 za0))),.d (.sl 1 (wd.cycle.map (slD 1 za0)))],vG [cI s.node,cI ((s.at_:Nat):Int)],.t (.c (.mp 2)),(vIs l)] (vb (R.any (fun y=>l.contains y.node && decide (s ∈ zco g wd (zbb g wd y))))) [(2,spL R)]:=by
 refine fB Tryz.func76 rfl 29 fun w H B a h=>Jq 30 [] [(2,.t (.c (.mp 2))),(3,(vIs l)),(4,vp 30 0),(5,vp 31 0),(8,vb false)] [(2,spL R),(30,.box [.d (.sl 3 (g.nodes.map dR)),cIs g.first,.d (.sl 1 (g.sets.map (slD 1 za3))),.d (.sl 1 (wd.stem.map (slD 1 za0))),.d (.sl 1 (wd.cycle.map (slD 1 za0)))]),(31,.box [cI s.node,cI ((s.at_:Nat):Int)])] h fun a w h=>qW (Jg 32 [(1,.g (Op.rangeM (d:=11) (t:=10) (n:=2) (m:=32) (arr:=spA R) (cl:=R.length) Tryz.underlying98))] [2] [(11,vp 32 0)] [] [(32,.it 2 R.length [] R.length)] h fun a w h=>qZ ?_)
 refine zdp (ι:=(List Nat)) (fun seen=>NoneS R (fun y=>l.contains y.node && decide (s ∈ zco g wd (zbb g wd y))) seen)
   [8] (fun seen=>[])
   [] (fun seen=>[(32,.it 2 R.length seen R.length)])
   (fun seen=>((spA R).filter fun y=>!seen.contains y.born).length) [] ?_ h ?_
 ·exact NoneS.nil _ _
 clear h;rintro seen a w hI h;refine qW (nextS 12 13 11 2 32 rfl (spA_brn R) (spA_keys R) (spA_flat R) rfl rfl rfl (by decide) (by decide) (by decide) [(3,(vIs l)),(4,vp 30 0),(5,vp 31 0),(11,vp 32 0)] (fun (z_:List Nat)=>[(2,spL R),(30,.box [.d (.sl 3 (g.nodes.map dR)),cIs g.first,.d (.sl 1 (g.sets.map (slD 1 za3))),.d (.sl 1 (wd.stem.map (slD 1 za0))),.d (.sl 1 (wd.cycle.map (slD 1 za0)))]),(31,.box [cI s.node,cI ((s.at_:Nat):Int)]),(32,.it 2 R.length z_ R.length)]) (by kernel_rfl) (by kernel_rfl) (fun _=>rfl) h ?_ ?_)
 ·clear h;intro a w hall h;replace h:=atS (sl':=[(3,(vIs l)),(4,vp 30 0),(5,vp 31 0),(11,vp 32 0),(13,vb false)]) (lc':=[(2,spL R),(30,.box [.d (.sl 3 (g.nodes.map dR)),cIs g.first,.d (.sl 1 (g.sets.map (slD 1 za3))),.d (.sl 1 (wd.stem.map (slD 1 za0))),.d (.sl 1 (wd.cycle.map (slD 1 za0)))]),(31,.box [cI s.node,cI ((s.at_:Nat):Int)]),(32,.it 2 R.length seen R.length)]) h;refine qW (zd1 h (exA (Jq 33 [] [(8,vb false)] [(2,spL R)] h fun a w h=>qV (rT (.c (cB false)) h rfl ?_))));have hz:R.any (fun y=>l.contains y.node && decide (s ∈ zco g wd (zbb g wd y)))=false:=hI.all hall;rw [hz];try rfl
 clear h;intro e9_0 he9_0 hbe9_0 a w h;obtain ⟨s9_0,hs9_0,he9_0k,he9_0v⟩:=zer he9_0;replace h:=atS (sl':=[(3,(vIs l)),(4,vp 30 0),(5,vp 31 0),(11,vp 32 0),(13,vb true)]) (lc':=[(2,spL R),(30,.box [.d (.sl 3 (g.nodes.map dR)),cIs g.first,.d (.sl 1 (g.sets.map (slD 1 za3))),.d (.sl 1 (wd.stem.map (slD 1 za0))),.d (.sl 1 (wd.cycle.map (slD 1 za0)))]),(31,.box [cI s.node,cI ((s.at_:Nat):Int)]),(32,.it 2 R.length (seen++[e9_0.born]) R.length)]) h;refine qW (cS true h (fun _=>?_) nofun);refine qU (za1 (qZ (Jq 33 [(0,.g (Op.entryM (d:=14) (t:=11) (n:=2) (m:=32) (seen:=seen) (since:=R.length) (x:=e9_0) (kt:=.agg [cI s9_0.node,cI ((s9_0.at_:Nat):Int)]) he9_0 (spA_brn R) (fun H B=>he9_0k ▸ spV_tr s9_0 H B) (by rw [he9_0v];rfl)))] [(3,(vIs l)),(4,vp 30 0),(5,vp 31 0),(9,vp 33 0),(11,vp 32 0)] [(2,spL R),(30,.box [.d (.sl 3 (g.nodes.map dR)),cIs g.first,.d (.sl 1 (g.sets.map (slD 1 za3))),.d (.sl 1 (wd.stem.map (slD 1 za0))),.d (.sl 1 (wd.cycle.map (slD 1 za0)))]),(31,.box [cI s.node,cI ((s.at_:Nat):Int)]),(32,.it 2 R.length (seen++[e9_0.born]) R.length),(33,.box [cI s9_0.node,cI ((s9_0.at_:Nat):Int)])] h fun a w h=>?_)))
 rcases bH (l.contains s9_0.node) with hc1 | hc4
 ·refine Jg 34 [(3,.call (Fn.cast (zf6 l s9_0.node (by omega)) (congrArg vb hc1))),(8,.call (SNextF g wd s9_0 hlt hl hg hc (hR s9_0 hs9_0).2.2 (hR s9_0 hs9_0).1 (hR s9_0 hs9_0).2.1)),(9,.call (SReach g wd (zbb g wd s9_0) hlt hl hg hc (zeu hc (hR s9_0 hs9_0)) (zed hg s9_0))),(11,.g (Op.lkS (d:=27) (t:=25) (m:=1) (x:=26) (s:=s) (R:=(zco g wd (zbb g wd s9_0))) (q:=(decide (s ∈ (zco g wd (zbb g wd s9_0))))) (fun y9 hy9=>((zg4 hc hg (zeu hc (hR s9_0 hs9_0)) (zed hg s9_0)).1 y9 hy9).in hg hl) (hs.in hg hl) rfl))] [9] [(28,vb (decide (s ∈ (zco g wd (zbb g wd s9_0)))))] [33] [] h fun a w h=>zav (s ∈ (zco g wd (zbb g wd s9_0))) h (fun hc2 hc2'=>?_) (fun hc3 hc3'=>?_)
  ·refine Je 34 [] [28] [(8,vb true)] h fun a w h=>qV (zaa (za5 (zaa (za5 (rT (.c (cB true)) h rfl ?_)))));have hz:R.any (fun y=>l.contains y.node && decide (s ∈ zco g wd (zbb g wd y)))=true:=cE.2 ⟨s9_0,hs9_0,show (l.contains s9_0.node && decide (s ∈ zco g wd (zbb g wd s9_0)))=true by rw [hc1,hc2];rfl⟩;rw [hz];try rfl
  refine qU (za7 (za1 (zaj (x:=seen) (y:=(seen++[e9_0.born])) h ?_ ?_)))
  ·exact hI.step he9_0 he9_0k (show (l.contains s9_0.node && decide (s ∈ zco g wd (zbb g wd s9_0)))=false by rw [hc1,hc3];rfl)
  exact seen_less he9_0 hbe9_0
 refine Jg 34 [(3,.call (Fn.cast (zf6 l s9_0.node (by omega)) (congrArg vb hc4)))] [9] [(28,vb false)] [33] [] h fun a w h=>zd1 h (qU (za7 (za1 (zaj (x:=seen) (y:=(seen++[e9_0.born])) h ?_ ?_))))
 ·exact hI.step he9_0 he9_0k (show (l.contains s9_0.node && _)=false by rw [hc4];rfl)
 exact seen_less he9_0 hbe9_0
theorem SAround (g:GbD) (wd:zaf) (s:SpD) (hlt:LtOk wd) (hl:wN wd<=1000) (hg:zff g) (hc:0<wd.cycle.length) (hs:zhh g wd s) (hst:zep g):Fn dJ 56 [] [vG [.d (.sl 3 (g.nodes.map dR)),cIs g.first,.d (.sl 1 (g.sets.map (slD 1 za3))),.d (.sl 1 (wd.stem.map (slD 1 za0))),.d (.sl 1 (wd.cycle.map (slD 1 za0)))],vG [cI s.node,cI ((s.at_:Nat):Int)]] (vb (arSB g wd s)) []:=by
 have hst1:=hst.1;refine fB Tryz.func56 rfl 32 fun w H B a h=>Jq 30 [] [(2,vp 30 0),(3,vp 31 0),(4,vb false)] [(30,.box [.d (.sl 3 (g.nodes.map dR)),cIs g.first,.d (.sl 1 (g.sets.map (slD 1 za3))),.d (.sl 1 (wd.stem.map (slD 1 za0))),.d (.sl 1 (wd.cycle.map (slD 1 za0)))]),(31,.box [cI s.node,cI ((s.at_:Nat):Int)])] h fun a w h=>Jg 32 [(3,.call (SNextF g wd s hlt hl hg hc hs.2.2 hs.1 hs.2.1)),(4,.call (SReach g wd (zbb g wd s) hlt hl hg hc (zeu hc hs) (zed hg s)))] [] [(5,.t (.c (.mp 1)))] [] [(1,spL (zco g wd (zbb g wd s)))] h fun a w h=>qW ?_
 replace h:=zb7 1 2 h;refine Je 32 [(2,.g (Op.lkS (d:=15) (t:=13) (m:=2) (x:=14) (s:=s) (R:=(zco g wd (zbb g wd s))) (q:=(decide (s ∈ (zco g wd (zbb g wd s))))) (fun y9 hy9=>((zg4 hc hg (zeu hc hs) (zed hg s)).1 y9 hy9).in hg hl) (hs.in hg hl) rfl))] [] [(16,vb (!(decide (s ∈ (zco g wd (zbb g wd s))))))] h fun a w h=>cS (!(decide (s ∈ (zco g wd (zbb g wd s))))) h (fun hc1=>?_) (fun hc2=>?_)
 ·refine Je 32 [] [16] [] h fun a w h=>qV (za5 (rT (.c (cB false)) h rfl ?_));have hz:arSB g wd s=false:=by unfold arSB;rw [(show (decide (s ∈ (zco g wd (zbb g wd s))))=false from by simpa using hc1)];rfl
  rw [hz];try rfl
 refine qU (za1 (qW (Je 32 [(3,.len (c:=(.d (.sl 1 (g.sets.map (slD 1 za3))))) (n:=g.sets.length) (za9 _ _ _))] [16] [(19,vS 1 (g.sets.map (slD 1 za3))),(20,vN g.sets.length),(21,vI 0)] h fun a w h=>qZ ?_)))
 refine zdp (ι:=(Nat)) (fun j=>j<=g.sets.length/\(g.sets.take j).all (paSB g wd s)=true)
   [4] (fun j=>[(21,vN j)])
   [] (fun j=>[])
   (fun j=>g.sets.length - j) 0 ?_ h ?_
 ·exact ⟨bF _,by rw [List.take_zero];rfl⟩
 clear h;rintro j a w hI h;obtain ⟨hI1,hI2⟩:=hI;refine Je 32 [] [] [(22,vb (decide ((j:Int)<(g.sets.length:Int))))] h fun a w h=>qW (zav ((j:Int)<(g.sets.length:Int)) h (fun hc3 hc3'=>?_) (fun hc6 hc6'=>?_))
 ·refine qU (za1 (qW (qZ ?_)));obtain ⟨x3,hx3⟩:=gl g.sets j;refine Je 32 [(0,.g (xD 23 19 vc2_8 (zab hx3 (f:=(slD 1 za3))) (dL 21 _)))] [22] [(7,(vIs x3))] h fun a w h=>Je 32 [(4,.call (SPast g wd s (zco g wd (zbb g wd s)) x3 hlt hl hg hc hs (fun y hy=>(zg4 hc hg (zeu hc hs) (zed hg s)).1 y hy) (hst.2 x3 (lM hx3))))] [7] [(30,vb (!(paSB g wd s x3)))] h fun a w h=>cS (!(paSB g wd s x3)) h (fun hc4=>?_) (fun hc5=>?_)
  ·refine Je 32 [] [30] [(4,vb false)] h fun a w h=>qV (zaa (za5 (za5 (zaa (za5 (rT (.c (cB false)) h rfl ?_))))));have hz:arSB g wd s=false:=by unfold arSB;rw [allz_bad hx3 (show ((paSB g wd s x3))=false from by simpa using hc4),Bool.and_false]
   rw [hz];try rfl
  refine qU (za7 (za1 (Jf 32 [(0,.j1 j)] [30] [(21,vI ((j:Int)+1))] h fun a w h=>za1 (zaj (x:=j) (y:=j+1) h ?_ ?_))))
  ·have:=zal hx3;exact ⟨by omega,allz_snoc hx3 (show ((paSB g wd s x3))=true from by simpa using hc5) hI2⟩
  have:=zal hx3;show g.sets.length - (j+1)<g.sets.length - j;omega
 refine exA (Jq 32 [] [(4,vb true)] [] h fun a w h=>qV (rT (.c (cB true)) h rfl ?_));have hz:arSB g wd s=true:=by unfold arSB;rw [bN (by have:=dF hc6;omega)] at hI2;rw [(show (decide (s ∈ (zco g wd (zbb g wd s))))=true from by simpa using hc2),hI2];rfl
 rw [hz];try rfl
abbrev q13 (g:GbD) (wd:zaf):L:=.box [.d (.sl 3 (g.nodes.map dR)),cIs g.first,.d (.sl 1 (g.sets.map (slD 1 za3))),.d (.sl 1 (wd.stem.map (slD 1 za0))),.d (.sl 1 (wd.cycle.map (slD 1 za0)))]
theorem SGTakes (g:GbD) (wd:zaf) (hlt:LtOk wd) (hl:wN wd<=1000) (hg:zff g) (hf:g.first.length<=10000) (hst:zep g):Fn dJ 24 [] [vG [.d (.sl 3 (g.nodes.map dR)),cIs g.first,.d (.sl 1 (g.sets.map (slD 1 za3)))],vG [.d (.sl 1 (wd.stem.map (slD 1 za0))),.d (.sl 1 (wd.cycle.map (slD 1 za0)))]] (vb (takB g wd)) []:=by
 have hN9:=zby wd;refine fB Tryz.func24 rfl 28 fun w H B a h=>Jq 30 [] [(2,vp 30 0),(3,vp 31 0),(4,vb false)] [(30,.box [.d (.sl 3 (g.nodes.map dR)),cIs g.first,.d (.sl 1 (g.sets.map (slD 1 za3)))]),(31,.box [.d (.sl 1 (wd.stem.map (slD 1 za0))),.d (.sl 1 (wd.cycle.map (slD 1 za0)))])] h fun a w h=>qW (Je 32 [(2,.len (c:=(.d (.sl 1 (wd.cycle.map (slD 1 za0))))) (n:=wd.cycle.length) (za9 _ _ _))] [] [(10,vb ((wd.cycle.length:Int) == 0))] h fun a w h=>cS ((wd.cycle.length:Int) == 0) h (fun hc1=>?_) (fun hc2=>?_))
 ·refine Je 32 [] [10] [] h fun a w h=>qV (za5 (rT (.c (cB false)) h rfl ?_));have hz:takB g wd=false:=by rw [<- takSB_eq hg hf];unfold takSB;rw [decide_eq_false (by have h9:=eq_of_beq hc1;omega)];rfl
  rw [hz];try rfl
 refine qU (za1 ?_);have hc:0<wd.cycle.length:=by have h9:=hc2;rw [beq_eq_false_iff_ne] at h9;omega
 have h0:0<wN wd:=by unfold wN;omega
 refine Jg 32 [] [3,10] [(5,vp 32 0)] [31] [(32,q13 g wd)] h fun a w h=>qW (Jg 33 [(4,.call (SThere g wd g.first 0 hlt hl hg h0 hf)),(5,.call (SReach g wd (zai g wd g.first 0) hlt hl hg hc (zfo h0) (bL (zez _ _ _ _) hf))),(6,.g (Op.rangeM (d:=20) (t:=19) (n:=1) (m:=33) (arr:=spA (zco g wd (zai g wd g.first 0))) (cl:=(zco g wd (zai g wd g.first 0)).length) Tryz.underlying98))] [2] [(20,vp 33 0)] [30] [(1,spL (zco g wd (zai g wd g.first 0))),(33,.it 1 (zco g wd (zai g wd g.first 0)).length [] (zco g wd (zai g wd g.first 0)).length)] h fun a w h=>qZ ?_)
 refine zdp (ι:=(List Nat)) (fun seen=>NoneS (zco g wd (zai g wd g.first 0)) (arSB g wd) seen)
   [4] (fun seen=>[])
   [] (fun seen=>[(33,.it 1 (zco g wd (zai g wd g.first 0)).length seen (zco g wd (zai g wd g.first 0)).length)])
   (fun seen=>((spA (zco g wd (zai g wd g.first 0))).filter fun y=>!seen.contains y.born).length) [] ?_ h ?_
 ·exact NoneS.nil _ _
 clear h;rintro seen a w hI h;refine qW (nextS 21 22 20 1 33 rfl (spA_brn (zco g wd (zai g wd g.first 0))) (spA_keys (zco g wd (zai g wd g.first 0))) (spA_flat (zco g wd (zai g wd g.first 0))) rfl rfl rfl (by decide) (by decide) (by decide) [(5,vp 32 0),(20,vp 33 0)] (fun (z_:List Nat)=>[(32,q13 g wd),(1,spL (zco g wd (zai g wd g.first 0))),(33,.it 1 (zco g wd (zai g wd g.first 0)).length z_ (zco g wd (zai g wd g.first 0)).length)]) (by kernel_rfl) (by kernel_rfl) (fun _=>rfl) h ?_ ?_)
 ·clear h;intro a w hall h;replace h:=atS (sl':=[(5,vp 32 0),(20,vp 33 0),(22,vb false)]) (lc':=[(32,q13 g wd),(1,spL (zco g wd (zai g wd g.first 0))),(33,.it 1 (zco g wd (zai g wd g.first 0)).length seen (zco g wd (zai g wd g.first 0)).length)]) h;refine qW (zd1 h (exA (Jq 34 [] [(4,vb false)] [] h fun a w h=>qV (rT (.c (cB false)) h rfl ?_))));have hz:takB g wd=false:=by rw [<- takSB_eq hg hf];unfold takSB;rw [hI.all hall,Bool.and_false]
  rw [hz];try rfl
 clear h;intro e9_2 he9_2 hbe9_2 a w h;obtain ⟨s9_2,hs9_2,he9_2k,he9_2v⟩:=zer he9_2;replace h:=atS (sl':=[(5,vp 32 0),(20,vp 33 0),(22,vb true)]) (lc':=[(32,q13 g wd),(1,spL (zco g wd (zai g wd g.first 0))),(33,.it 1 (zco g wd (zai g wd g.first 0)).length (seen++[e9_2.born]) (zco g wd (zai g wd g.first 0)).length)]) h;refine qW (cS true h (fun _=>?_) nofun);refine qU (za1 (qZ (Jq 34 [(0,.g (Op.entryM (d:=23) (t:=20) (n:=1) (m:=33) (seen:=seen) (since:=(zco g wd (zai g wd g.first 0)).length) (x:=e9_2) (kt:=.agg [cI s9_2.node,cI ((s9_2.at_:Nat):Int)]) he9_2 (spA_brn (zco g wd (zai g wd g.first 0))) (fun H B=>he9_2k ▸ spV_tr s9_2 H B) (by rw [he9_2v];rfl)))] [(5,vp 32 0),(6,vp 34 0),(20,vp 33 0)] [(32,q13 g wd),(1,spL (zco g wd (zai g wd g.first 0))),(33,.it 1 (zco g wd (zai g wd g.first 0)).length (seen++[e9_2.born]) (zco g wd (zai g wd g.first 0)).length),(34,.box [cI s9_2.node,cI ((s9_2.at_:Nat):Int)])] h fun a w h=>Jg 35 [(2,.call (SAround g wd s9_2 hlt hl hg hc ((zg4 hc hg (zfo h0) (bL (zez _ _ _ _) hf)).1 s9_2 hs9_2) hst))] [6] [(27,vb (arSB g wd s9_2))] [34] [] h fun a w h=>cS (arSB g wd s9_2) h (fun hc3=>?_) (fun hc4=>?_))))
 ·refine Je 35 [] [27] [(4,vb true)] h fun a w h=>qV (zaa (za5 (zaa (za5 (rT (.c (cB true)) h rfl ?_)))));have hz:takB g wd=true:=by rw [<- takSB_eq hg hf];unfold takSB;rw [decide_eq_true hc,cE.2 ⟨s9_2,hs9_2,hc3⟩];rfl
  rw [hz];try rfl
 refine qU (za7 (za1 (zaj (x:=seen) (y:=(seen++[e9_2.born])) h ?_ ?_)))
 ·exact hI.step he9_2 he9_2k hc4
 exact seen_less he9_2 hbe9_2
theorem vc3_6:ElZ dJ 75 81 2:=ElZ.mk' Tryz.underlying75 _ _ rfl rfl
theorem vc3_7:ElT dJ 75 81 2 16:=ElT.mk' Tryz.underlying75 _ _ rfl rfl
theorem zhg (h:ks[j]?=some k):zac n (ks.take (j+1))=if (decide (0<=k) && decide (k<(n:Int)) && !(zac n (ks.take j)).contains k)=true then zac n (ks.take j)++[k] else zac n (ks.take j):=by
 unfold zac
 rw [bP,h,cA,cY]
 rfl
theorem zfa (n:Nat):∀ (ks:List Int),(zac n ks).length<=ks.length:=fun ks=>by
 have key:∀ (ks out:List Int),(ks.foldl (fun out i=>if (decide (0<=i) && decide (i<(n:Int)) && !out.contains i)=true then out++[i] else out) out).length<=out.length+ks.length:=by
  intro ks
  induction ks with
  | nil=>intro out;simp
  | cons k ks ih =>
   intro out
   rw [cZ]
   refine bL (ih _) ?_
   split <;> simp <;> omega
 simpa [zac] using key ks []
def prV9 (p:PrD):Value:=.agg #[.int .i64 p.st,.int .i64 p.nd]
theorem prV9_inj {p q:PrD} (h:prV9 p=prV9 q):p=q:=by
 cases p;cases q
 simpa [prV9] using h
def zgr (p:PrD):Prop:=(-9223372036854775808≤p.st∧p.st≤9223372036854775807)∧-9223372036854775808≤p.nd∧p.nd≤9223372036854775807
def knM (al:List PrD):List (Value × D):=al.zipIdx.map fun q=>(prV9 q.1,.raw (.int .i64 ((q.2:Nat):Int)))
theorem knM_snoc (al:List PrD) (p:PrD):knM (al++[p])=knM al++[(prV9 p,.raw (.int .i64 (al.length:Int)))]:=by
 unfold knM
 rw [List.zipIdx_append,bS]
 simp
theorem knM_mem {al:List PrD} {x:Value × D} (h:x ∈ knM al):∃ (i:Nat) (p:PrD),al[i]?=some p/\x.1=prV9 p/\x.2 = .raw (.int .i64 (i:Int)):=by
 obtain ⟨q,hq,rfl⟩:=bV.1 h
 exact ⟨q.2,q.1,c8.1 hq,rfl,rfl⟩
theorem nodup_at {xs:List α} (h:xs.Nodup) {x:α} (hi:xs[i]?=some x) (hj:xs[j]?=some x):i=j:=by
 obtain ⟨h1,h2⟩:=bG.1 hi
 obtain ⟨h3,h4⟩:=bG.1 hj
 have h5:=cP.1 h
 rcases Nat.lt_trichotomy i j with h6 | h6 | h6
 ·exact absurd (h2.trans h4.symm) (h5 i j h1 h3 h6)
 ·exact h6
 ·exact absurd (h4.trans h2.symm) (h5 j i h3 h1 h6)
theorem idx_in {al:List PrD} {p:PrD} (h:p ∈ al):∃ k:Nat,zbf (fun q=>decide (q=p)) al 0=(k:Int)/\al[k]?=some p:=by
 rcases zc2 (fun q=>decide (q=p)) al 0 with ⟨_,h2⟩ | ⟨k,x,h1,h2,h3,_⟩
 ·have:=h2 p h;simp at this
 ·refine ⟨k,by rw [h1,cJ],?_⟩
  have:=of_decide_eq_true h3;subst this;exact h2
theorem num_in {al:List PrD} {p:PrD} (h:p ∈ al):zbr al p=(al,zbf (fun q=>decide (q=p)) al 0):=by
 obtain ⟨k,h1,_⟩:=idx_in h
 unfold zbr;rw [if_neg (by rw [h1];omega)]
theorem num_out {al:List PrD} {p:PrD} (h:p ∉ al):zbr al p=(al++[p],(al.length:Int)):=by
 unfold zbr
 rcases zc2 (fun q=>decide (q=p)) al 0 with ⟨h1,_⟩ | ⟨k,x,_,h2,h3,_⟩
 ·rw [if_pos (by rw [h1];decide)]
 ·have:=of_decide_eq_true h3;subst this;exact absurd (bJ h2) h
theorem pairK9:Maps.Keyed dJ 81:=.of_law (deep_law_laid laid9 (m:=2) (by omega) (of_decide_eq_true (by kernel_rfl)) (by kernel_rfl) (by rw [Tryz.underlying81]))
theorem cells9p:Tryz.prog.cellsOf 81=2:=by kernel_rfl
theorem kt9p:Tryz.prog.keyType 81=true:=by kernel_rfl
theorem zfv {p:PrD} (h:zgr p):∃ l,keyOf dJ 81 (prV9 p)=some l:=by
 obtain ⟨m,hm⟩:=ts9
 have w1:=wf_i64 h.1.1 h.1.2
 have w2:=wf_i64 h.2.1 h.2.2
 unfold keyOf prV9
 simp only [Tryz.underlying81]
 rw [if_pos (by simp [kt9p,Value.formed,Tryz.underlying81,cells9p]),hm]
 unfold Program.keyLits
 simp only [Tryz.underlying81,Value.cells]
 rw [if_pos (by rw [cells9p];exact ⟨rfl,by kernel_rfl⟩)]
 unfold Program.keyLits
 simp [cells8,Tryz.underlying3,w1,w2]
theorem mptC:MpT dJ 74 81 3 (.int .i64 0):=⟨pairK9,Tryz.underlying74,fun _=>by kernel_rfl⟩
theorem keysC {al:List PrD} (h:∀ q ∈ al,zgr q):KeysOk dJ 81 (knM al):=fun x hx=>by
 obtain ⟨i,p,h1,h2,_⟩:=knM_mem hx
 rw [h2];exact zfv (h p (bJ h1))
section
variable {d t m x y:Nat} {al:List PrD} {p:PrD} {ty:TypeId} {pos:String} {af:Array Edge} {gd:Option (Nat × Bool)}
theorem Op.lkCT (hnd:al.Nodup) (hk:∀ q ∈ al,zgr q) (hp:zgr p) (h:p ∈ al):zar dJ ⟨some d,.lookup 74 (.tmp t) (.tmp x) true,ty,pos,af,gd⟩ { rs:=[(t,mpv m),(x,.t (.agg [.d (.raw (.int .i64 p.st)),.d (.raw (.int .i64 p.nd))]))],rl:=[(m,.mp (knM al))],ws:=[(d,some (.tup [.c (.d (.raw (.int .i64 (zbf (fun q=>decide (q=p)) al 0)))),.c (.d (.raw (.bool true)))]))] }:=by
 obtain ⟨l,hl⟩:=zfv hp
 obtain ⟨k,h1,h2⟩:=idx_in h
 refine Op.lookT mptC (dL x _) (.agg2 _ _) hl (keysC hk) ⟨_,bV.2 ⟨(p,k),c8.2 h2,rfl⟩,rfl⟩ fun r hr e=>?_
 obtain ⟨i,q,h3,h4,h5⟩:=knM_mem hr
 have e2:=prV9_inj (h4.symm.trans e)
 subst e2
 rw [h5,h1,nodup_at hnd h3 h2]
theorem Op.lkCF (hk:∀ q ∈ al,zgr q) (hp:zgr p) (h:p ∉ al):zar dJ ⟨some d,.lookup 74 (.tmp t) (.tmp x) true,ty,pos,af,gd⟩ { rs:=[(t,mpv m),(x,.t (.agg [.d (.raw (.int .i64 p.st)),.d (.raw (.int .i64 p.nd))]))],rl:=[(m,.mp (knM al))],ws:=[(d,some (.tup [.c (.d (.raw (.int .i64 0))),.c (.d (.raw (.bool false)))]))] }:=by
 obtain ⟨l,hl⟩:=zfv hp
 refine Op.lookF (zd:=.raw (.int .i64 0)) mptC (dL x _) (.agg2 _ _) hl (keysC hk) (fun _=>DR.raw _ rfl) fun r hr e=>?_
 obtain ⟨i,q,h3,h4,_⟩:=knM_mem hr
 have e2:=prV9_inj (h4.symm.trans e)
 subst e2
 exact h (bJ h3)
theorem Op.upC (hk:∀ q ∈ al,zgr q) (hp:zgr p) (h:p ∉ al):zar dJ ⟨none,.mapUpdate 74 (.tmp t) (.tmp x) (.tmp y),ty,pos,af,gd⟩ { rs:=[(t,mpv m),(x,.t (.agg [.d (.raw (.int .i64 p.st)),.d (.raw (.int .i64 p.nd))])),(y,vi .i64 (al.length:Int))],rl:=[(m,.mp (knM al))],wl:=[(m,some (.mp (knM (al++[p]))))] }:=by
 obtain ⟨l,hl⟩:=zfv hp
 refine Op.mapNew mptC (dL x _) (.agg2 _ _) hl (keysC hk) (dL y _) (fun r hr e=>?_) (knM_snoc al p).symm
 obtain ⟨i,q,h3,h4,_⟩:=knM_mem hr
 have e2:=prV9_inj (h4.symm.trans e)
 subst e2
 exact h (bJ h3)
end
theorem SIndexO (xs:List Int) (v:Int) (hl:xs.length<=1000000):Fn dJ 87 [(20,.row 3 1 (xs.map za3))] [vO 20 xs.length,vI v] (vI (zbf (fun y=>v == y) xs 0)) [(20,.row 3 1 (xs.map za3))]:=by
 refine fB Tryz.func87 rfl 19 fun w H B a h=>Jq 21 [] [(0,vO 20 xs.length),(1,vI v),(4,vI 0)] [(20,.row 3 1 (xs.map za3))] h fun a w h=>qW (Je 21 [] [] [(7,vN xs.length),(8,vI 0)] h fun a w h=>qZ ?_)
 refine zdp (ι:=(Nat)) (fun j=>j<=xs.length/\zbf (fun y=>v == y) xs 0=zbf (fun y=>v == y) (xs.drop j) j)
   [4] (fun j=>[(8,vN j)])
   [] (fun j=>[])
   (fun j=>xs.length - j) 0 ?_ h ?_
 ·exact ⟨bF _,rfl⟩
 clear h;rintro j a w hI h;obtain ⟨hI1,hI2⟩:=hI;refine Je 21 [] [] [(9,vb (decide ((j:Int)<(xs.length:Int))))] h fun a w h=>qW (zav ((j:Int)<(xs.length:Int)) h (fun hc1 hc1'=>?_) (fun hc4 hc4'=>?_))
 ·refine qU (za1 (qW (qZ (Je 21 [] [9] [(5,vN j)] h fun a w h=>?_))));obtain ⟨x1,hx1⟩:=gl xs j;refine Je 21 [(3,.g (xO 14 12 20 xs.length j tb_1 (dL 13 _))),(4,.g (Op.loadR_c (d:=15) (t:=14) (n:=20) (i:=j) (fo:=0) (rty:=3) (es:=1) (x:=(.raw (.int .i64 x1))) tl_7 rfl (zab hx1 (f:=za3)) rfl))] [] [(16,vb (v == x1))] h fun a w h=>cS (v == x1) h (fun hc2=>?_) (fun hc3=>?_)
  ·refine Je 21 [] [5,16] [(4,vN j)] h fun a w h=>qV (zaa (za5 (za5 (zaa (za5 (rT (.c (cI (j:Int))) h rfl ?_))))));have hz:zbf (fun y=>v == y) xs 0=(j:Int):=by rw [hI2,zcj hx1,if_pos hc2]
   rw [hz];try rfl
  refine qU (za7 (za1 (Jf 21 [(0,.j1 j)] [5,16] [(8,vI ((j:Int)+1))] h fun a w h=>za1 (zaj (x:=j) (y:=j+1) h ?_ ?_))))
  ·exact ⟨by have:=zal hx1;omega,by rw [hI2,zcj hx1,if_neg (by rw [hc3];exact Bool.noConfusion)]⟩
  have:=zal hx1;show xs.length - (j+1)<xs.length - j;omega
 refine exA (Jp 21 [] [(4,vI (-1))] h fun a w h=>qV (rT (.c (cI (-1))) h rfl ?_));have hz:zbf (fun y=>v == y) xs 0=-1:=by rw [hI2,bY (by omega)];rfl
 rw [hz];try rfl
theorem SContainsO (xs:List Int) (v:Int) (hl:xs.length<=1000000):Fn dJ 66 [(20,.row 3 1 (xs.map za3))] [vO 20 xs.length,vI v] (vb (xs.contains v)) [(20,.row 3 1 (xs.map za3))]:=by
 refine fB Tryz.func66 rfl 9 fun w H B a h=>Jq 21 [] [(0,vO 20 xs.length),(1,vI v),(4,vb false)] [(20,.row 3 1 (xs.map za3))] h fun a w h=>Jp 21 [(2,.call (SIndexO xs v hl))] [(4,vb (decide (zbf (fun y=>v == y) xs 0>=0)))] h fun a w h=>qV (rT (.c (cB (decide (zbf (fun y=>v == y) xs 0>=0)))) h rfl ?_)
 rw [<- List.any_beq,<- zhv];try rfl
theorem SBThere (ks:List Int) (n:Nat) (hks:ks.length<=1000000):Fn dJ 30 [] [(vIs ks),vN n] (vO 0 (zac n ks).length) [(0,.row 3 1 ((zac n ks).map za3))]:=by
 refine fB Tryz.func30 rfl 33 fun w H B a h=>Jq 30 [] [(0,(vIs ks)),(1,vN n),(4,vW za6)] [] h fun a w h=>Jg 30 [] [] [(5,vW za6)] [] [] h fun a w h=>qW (Jg 30 [(1,.len (za9 1 za3 ks))] [0] [(8,(vIs ks)),(9,vN ks.length),(10,vI 0)] [] [] h fun a w h=>qZ ?_)
 replace h:=zdb 5 0 30 1 3 (vW za6) h;replace h:=zb7 30 20 h;replace h:=cvM [] [(5,vO 20 (zac n (ks.take 0)).length)] [] [(20,.row 3 1 ((zac n (ks.take 0)).map za3))] (by kernel_rfl) h
 refine zdp (ι:=(Nat)) (fun j=>j<=ks.length)
   [] (fun j=>[(5,vO 20 (zac n (ks.take j)).length),(10,vN j)])
   [] (fun j=>[(20,.row 3 1 ((zac n (ks.take j)).map za3))])
   (fun j=>ks.length - j) 0 ?_ h ?_
 ·exact bF _
 clear h;rintro j a w hI h;have htl:=zfa n (ks.take j);rw [bQ] at htl;refine Je 31 [] [] [(11,vb (decide ((j:Int)<(ks.length:Int))))] h fun a w h=>qW (zav ((j:Int)<(ks.length:Int)) h (fun hc1 hc1'=>?_) (fun hc8 hc8'=>?_))
 ·refine qU (za1 (qW (qZ ?_)));obtain ⟨x1,hx1⟩:=gl ks j;refine Je 31 [(0,.g (xD 12 8 tb_1 (zab hx1 (f:=za3)) (dL 10 _)))] [11] [(7,vI x1)] h fun a w h=>?_
  rcases bH (decide (x1>=0)) with hc2 | hc7
  ·have hc2':=dT hc2
   rcases bH (decide (x1<(n:Int))) with hc3 | hc6
   ·have hc3':=dT hc3;refine Je 31 [(1,.cmp (op:=.geq) (m:=x1) (n:=0) (b:=true) .i64 hc2),(5,.cmp (op:=.lss) (m:=x1) (n:=(n:Int)) (b:=true) .i64 hc3),(10,.call (SContainsO (zac n (ks.take j)) x1 (by omega)))] [] [(26,vb (!((zac n (ks.take j)).contains x1)))] h fun a w h=>cS (!((zac n (ks.take j)).contains x1)) h (fun hc4=>?_) (fun hc5=>?_)
    ·refine Jh 31 [(2,.g (bD 29 ([x1].map za3) [(28,vI x1)] zgv (.cons (i:=0) (dL 28 _) (.nil)) (by kernel_rfl) (by simp [za3]))),(3,.g (Op.appOD (d:=30) (t:=27) (u:=29) (n:=20) (n':=31) (len:=(zac n (ks.take j)).length) (len':=((zac n (ks.take j))++[x1]).length) (rows:=(zac n (ks.take j)).map za3) (rows2:=[x1].map za3) (rows':=((zac n (ks.take j))++[x1]).map za3) tb_2 (by first | exact (bA _).symm | simp) (by first | (rw [bB,bA];done) | (simp;done) | (simp;omega)) (by simp) (by simp [za3]) (by first | omega | (simp at *;done) | (simp at *;omega))))] [7,26] [(5,vO 31 ((zac n (ks.take j))++[x1]).length)] [20] [(31,.row 3 1 (((zac n (ks.take j))++[x1]).map za3))] h fun a w h=>za7 (za1 (Jf 32 [(0,.j1 j)] [] [(10,vI ((j:Int)+1))] h fun a w h=>za1 ?_));replace h:=zb7 31 20 h;have hfb:(decide (0<=x1) && decide (x1<(n:Int)) && !(zac n (ks.take j)).contains x1)=true:=by rw [show decide (0<=x1)=true from hc2,hc3,(show ((zac n (ks.take j)).contains x1)=false from by simpa using hc4)];rfl
     have hrw:((zac n (ks.take j))++[x1])=(zac n (ks.take (j+1))):=by rw [zhg hx1,hfb];try rfl
     replace h:=cvM [] [(5,vO 20 (zac n (ks.take (j+1))).length)] [] [(20,.row 3 1 ((zac n (ks.take (j+1))).map za3))] (by rw [hrw]; try kernel_rfl) h;refine zaj (x:=j) (y:=j+1) h ?_ ?_
     ·have:=zal hx1;show j+1<=ks.length;omega
     have:=zal hx1;show ks.length - (j+1)<ks.length - j;omega
    refine qU (za7 (za1 (Jf 32 [(0,.j1 j)] [7,26] [(10,vI ((j:Int)+1))] h fun a w h=>za1 ?_)));have hfb:(decide (0<=x1) && decide (x1<(n:Int)) && !(zac n (ks.take j)).contains x1)=false:=by rw [show decide (0<=x1)=true from hc2,hc3,(show ((zac n (ks.take j)).contains x1)=true from by simpa using hc5)];rfl
    have hrw:(zac n (ks.take j))=(zac n (ks.take (j+1))):=by rw [zhg hx1,hfb];try rfl
    replace h:=cvM [] [(5,vO 20 (zac n (ks.take (j+1))).length)] [] [(20,.row 3 1 ((zac n (ks.take (j+1))).map za3))] (by rw [hrw]; try kernel_rfl) h;refine zaj (x:=j) (y:=j+1) h ?_ ?_
    ·have:=zal hx1;show j+1<=ks.length;omega
    have:=zal hx1;show ks.length - (j+1)<ks.length - j;omega
   have hc6':=dF hc6;refine Je 32 [(1,.cmp (op:=.geq) (m:=x1) (n:=0) (b:=true) .i64 hc2),(5,.cmp (op:=.lss) (m:=x1) (n:=(n:Int)) (b:=false) .i64 hc6)] [] [(26,vb false)] h fun a w h=>zd1 h (qU (za7 (za1 (Jf 32 [(0,.j1 j)] [7,26] [(10,vI ((j:Int)+1))] h fun a w h=>za1 ?_))));have hfb:(decide (0<=x1) && decide (x1<(n:Int)) && !(zac n (ks.take j)).contains x1)=false:=by rw [show decide (0<=x1)=true from hc2,hc6];rfl
   have hrw:(zac n (ks.take j))=(zac n (ks.take (j+1))):=by rw [zhg hx1,hfb];try rfl
   replace h:=cvM [] [(5,vO 20 (zac n (ks.take (j+1))).length)] [] [(20,.row 3 1 ((zac n (ks.take (j+1))).map za3))] (by rw [hrw]; try kernel_rfl) h;refine zaj (x:=j) (y:=j+1) h ?_ ?_
   ·have:=zal hx1;show j+1<=ks.length;omega
   have:=zal hx1;show ks.length - (j+1)<ks.length - j;omega
  have hc7':=dF hc7;refine Je 32 [(1,.cmp (op:=.geq) (m:=x1) (n:=0) (b:=false) .i64 hc7)] [] [(26,vb false)] h fun a w h=>zd1 h (qU (za7 (za1 (Jf 32 [(0,.j1 j)] [7,26] [(10,vI ((j:Int)+1))] h fun a w h=>za1 ?_))));have hfb:(decide (0<=x1) && decide (x1<(n:Int)) && !(zac n (ks.take j)).contains x1)=false:=by rw [show decide (0<=x1)=false from hc7];rfl
  have hrw:(zac n (ks.take j))=(zac n (ks.take (j+1))):=by rw [zhg hx1,hfb];try rfl
  replace h:=cvM [] [(5,vO 20 (zac n (ks.take (j+1))).length)] [] [(20,.row 3 1 ((zac n (ks.take (j+1))).map za3))] (by rw [hrw]; try kernel_rfl) h;refine zaj (x:=j) (y:=j+1) h ?_ ?_
  ·have:=zal hx1;show j+1<=ks.length;omega
  have:=zal hx1;show ks.length - (j+1)<ks.length - j;omega
 refine exA (Jp 32 [] [(4,vO 20 (zac n (ks.take j)).length)] h fun a w h=>qV ?_);replace h:=zb7 20 0 h;rw [show ((zac n (ks.take j)):List Int)=(zac n ks) from (by rw [bN (by have:=dF hc8;omega)])] at h;refine rT (.c (.own 0 (zac n ks).length)) h rfl ?_;rfl
theorem SNumC (g:GbD) (al:List PrD) (p:PrD) (hnd:al.Nodup) (hin:∀ q ∈ al,zgr q) (hip:zgr p) (hal:al.length<=1000000):Fn dJ 31 [(0,.box [.d (.sl 3 (g.nodes.map dR)),cIs g.first,.d (.sl 1 (g.sets.map (slD 1 za3))),.mp 1,.own 2 al.length]),(1,.mp (knM al)),(2,.row 81 2 (al.map PrD.d))] [vp 0 0,vG [cI p.st,cI p.nd]] (vI (zbr al p).2) [(0,.box [.d (.sl 3 (g.nodes.map dR)),cIs g.first,.d (.sl 1 (g.sets.map (slD 1 za3))),.mp 1,.own 12 (zbr al p).1.length]),(1,.mp (knM (zbr al p).1)),(12,.row 81 2 ((zbr al p).1.map PrD.d))]:=by
 refine fB Tryz.func31 rfl 44 fun w H B a h=>Jq 30 [] [(0,vp 0 0),(3,vp 30 0),(4,vI 0)] [(0,.box [.d (.sl 3 (g.nodes.map dR)),cIs g.first,.d (.sl 1 (g.sets.map (slD 1 za3))),.mp 1,.own 2 al.length]),(1,.mp (knM al)),(2,.row 81 2 (al.map PrD.d)),(30,.box [cI p.st,cI p.nd])] h fun a w h=>qW ?_
 rcases bH (decide (p ∈ al)) with hc1 | hc2
 ·have hc1':=dT hc1;refine Je 31 [(1,.g (dM (d:=9) (t:=8) (n:=0) (o:=0))),(5,.g (Op.lkCT (d:=13) (t:=11) (m:=1) (x:=12) (p:=p) (al:=al) hnd hin hip (dT hc1)))] [] [(5,vI (zbf (fun q=>decide (q=p)) al 0)),(6,vb true)] h fun a w h=>Je 31 [] [6] [(16,vb true)] h fun a w h=>cS true h (fun _=>?_) nofun
  refine Je 31 [] [5,16] [(4,vI (zbf (fun q=>decide (q=p)) al 0))] h fun a w h=>qV (za5 ?_);replace h:=zb7 2 12 h;replace h:=cvM [] [] [] [(0,.box [.d (.sl 3 (g.nodes.map dR)),cIs g.first,.d (.sl 1 (g.sets.map (slD 1 za3))),.mp 1,.own 12 (zbr al p).1.length]),(1,.mp (knM (zbr al p).1)),(12,.row 81 2 ((zbr al p).1.map PrD.d))] (by rw [num_in (dT hc1)]; try kernel_rfl) h;refine rT (.c (cI (zbf (fun q=>decide (q=p)) al 0))) h rfl ?_;rw [num_in (dT hc1)];try rfl
 have hc2':=dF hc2;refine Je 31 [(1,.g (dM (d:=9) (t:=8) (n:=0) (o:=0))),(5,.g (Op.lkCF (d:=13) (t:=11) (m:=1) (x:=12) (p:=p) (al:=al) hin hip (dF hc2)))] [] [(5,vI 0),(6,vb false)] h fun a w h=>Je 31 [] [6] [(16,vb false)] h fun a w h=>zd1 h (qU (za1 (Jg 31 [(1,.g (dM (d:=19) (t:=18) (n:=0) (o:=0))),(6,.g (dM (d:=24) (t:=23) (n:=0) (o:=0))),(10,.g (Op.upC (t:=21) (m:=1) (x:=22) (y:=27) (p:=p) (al:=al) hin hip (dF hc2)))] [5,16] [] [] [(1,.mp (knM (al++[p])))] h fun a w h=>Jg 31 [(2,.g (dM (d:=30) (t:=29) (n:=0) (o:=0))),(6,.g (bD 34 ([p].map PrD.d) [(33,vG [cI p.st,cI p.nd])] vc3_6 (.cons (i:=0) (dL 33 _) (.nil)) (by kernel_rfl) (by simp [PrD.d]))),(7,.g (Op.appOD (d:=35) (t:=32) (u:=34) (n:=2) (n':=31) (len:=al.length) (len':=(al++[p]).length) (rows:=al.map PrD.d) (rows2:=[p].map PrD.d) (rows':=(al++[p]).map PrD.d) vc3_7 (by first | exact (bA _).symm | simp) (by first | (rw [bB,bA];done) | (simp;done) | (simp;omega)) (by simp) (by simp [PrD.d]) (by first | omega | (simp at *;done) | (simp at *;omega)))),(8,.g (dM (d:=36) (t:=28) (n:=0) (o:=0)))] [3] [] [2,30] [(0,.box ([.d (.sl 3 (g.nodes.map dR)),cIs g.first,.d (.sl 1 (g.sets.map (slD 1 za3))),.mp 1,.own 31 (al++[p]).length])),(31,.row 81 2 ((al++[p]).map PrD.d))] h fun a w h=>Jp 32 [(1,.g (dM (d:=39) (t:=38) (n:=0) (o:=0))),(5,.g (Op.arith (op:=.sub) (d:=43) (xt:=3) (yt:=3) (k:=.i64) (m:=((al++[p]).length:Int)) (n:=1) (r:=(al.length:Int)) (dL 42 _) (OV.const (.int .i64 1) rfl) (.inr (.inl ⟨rfl,(by rw [bB,bO];omega)⟩)) i6))] [(4,vN al.length)] h fun a w h=>qV ?_)));replace h:=zb7 31 12 h;replace h:=cvM [] [] [] [(0,.box [.d (.sl 3 (g.nodes.map dR)),cIs g.first,.d (.sl 1 (g.sets.map (slD 1 za3))),.mp 1,.own 12 (zbr al p).1.length]),(1,.mp (knM (zbr al p).1)),(12,.row 81 2 ((zbr al p).1.map PrD.d))] (by rw [num_out (dF hc2)]; try kernel_rfl) h;refine rT (.c (cI (al.length:Int))) h rfl ?_;rw [num_out (dF hc2)];try rfl
theorem SBehind (v3 v4:Value) (g:GbD) (p:PrD) (hp:PrOk g p) (hst:zep g):Fn dJ 67 [(0,.box [.d (.sl 3 (g.nodes.map dR)),cIs g.first,.d (.sl 1 (g.sets.map (slD 1 za3))),.d (.raw v3),.d (.raw v4)])] [vp 0 0,vG [cI p.st,cI p.nd]] (vI (zcb g p)) [(0,.box [.d (.sl 3 (g.nodes.map dR)),cIs g.first,.d (.sl 1 (g.sets.map (slD 1 za3))),.d (.raw v3),.d (.raw v4)])]:=by
 have hst1:=hst.1;obtain ⟨hp1,hp2,hp3⟩:=hp;refine fB Tryz.func67 rfl 35 fun w H B a h=>Jq 30 [] [(0,vp 0 0),(3,vp 30 0),(4,vI 0)] [(0,.box [.d (.sl 3 (g.nodes.map dR)),cIs g.first,.d (.sl 1 (g.sets.map (slD 1 za3))),.d (.raw v3),.d (.raw v4)]),(30,.box [cI p.st,cI p.nd])] h fun a w h=>qW (Je 31 [(1,.g (dM (d:=7) (t:=6) (n:=0) (o:=0))),(5,.len (c:=(.d (.sl 1 (g.sets.map (slD 1 za3))))) (n:=g.sets.length) (za9 _ _ _))] [] [(5,vN g.sets.length)] h fun a w h=>?_)
 obtain ⟨k,hkk⟩:∃ k_:Nat,p.nd=(k_:Int):=⟨_,(c7 (hp2)).symm⟩;replace h:=cvM [] [] [] [(30,.box [cI p.st,cI (k:Int)])] (by rw [hkk]; try kernel_rfl) h
 rcases bH (decide ((g.sets.length:Int)>0)) with hc1 | hc4
 ·have hc1':=dT hc1;obtain ⟨x1,hx1⟩:=gl g.sets k;refine Jg 31 [(1,.cmp (op:=.gtr) (m:=(g.sets.length:Int)) (n:=0) (b:=true) .i64 hc1),(4,.g (dM (d:=16) (t:=15) (n:=0) (o:=0))),(10,.g (xD 22 19 vc2_8 (zab hx1 (f:=(slD 1 za3))) (dL 21 _))),(14,.call (zf6 x1 p.st (hst.2 x1 (lM hx1))))] [0] [(27,vb (x1.contains p.st))] [] [] h fun a w h=>cS (x1.contains p.st) h (fun hc2=>?_) (fun hc3=>?_)
  ·refine Jp 31 [(2,.g (Op.arith (op:=.add) (d:=30) (xt:=3) (yt:=3) (k:=.i64) (m:=(k:Int)) (n:=1) (r:=((k+1:Nat):Int)) (dL 29 _) (OV.const (.int .i64 1) rfl) (.inl ⟨rfl,(by omega)⟩) i6)),(4,.g (Op.rem (d:=32) (xt:=3) (yt:=3) (k:=.i64) (m:=((k+1:Nat):Int)) (n:=(g.sets.length:Int)) (r:=(((k+1) % g.sets.length:Nat):Int)) (dL 30 _) (dL 31 _) (by omega) (by rfl)))] [(3,vp 30 0),(4,vI (((k+1) % g.sets.length:Nat):Int))] h fun a w h=>qV (za5 (rT (.c (cI (((k+1) % g.sets.length:Nat):Int))) h rfl ?_));have hz:zcb g p=(((k+1) % g.sets.length:Nat):Int):=by unfold zcb;rw [decide_eq_true (p:=0<g.sets.length) (by have:=dT hc1;omega),show setI g p.nd=x1 by unfold setI;rw [hkk,bT,hx1];rfl,hc2];rw [if_pos (show (true && true)=true from rfl),hkk];try rfl
   rw [hz];try rfl
  refine qU (za1 (Jg 31 [] [3,5,27] [(4,vN k)] [30] [] h fun a w h=>qV (rT (.c (cI (k:Int))) h rfl ?_)));have hz:zcb g p=(k:Int):=by unfold zcb;rw [decide_eq_true (p:=0<g.sets.length) (by have:=dT hc1;omega),show setI g p.nd=x1 by unfold setI;rw [hkk,bT,hx1];rfl,hc3];rw [if_neg (by simp),hkk];try rfl
  rw [hz];try rfl
 have hc4':=dF hc4;refine Jg 31 [(1,.cmp (op:=.gtr) (m:=(g.sets.length:Int)) (n:=0) (b:=false) .i64 hc4)] [0] [(27,vb false)] [] [] h fun a w h=>zd1 h (qU (za1 (Jg 31 [] [3,5,27] [(4,vN k)] [30] [] h fun a w h=>qV (rT (.c (cI (k:Int))) h rfl ?_))));have hz:zcb g p=(k:Int):=by unfold zcb;rw [decide_eq_false (p:=0<g.sets.length) (by have:=dF hc4;omega)];rw [if_neg (by simp),hkk];try rfl
 rw [hz];try rfl
theorem SGoodC (v3 v4:Value) (g:GbD) (p:PrD) (hst:zep g):Fn dJ 33 [(0,.box [.d (.sl 3 (g.nodes.map dR)),cIs g.first,.d (.sl 1 (g.sets.map (slD 1 za3))),.d (.raw v3),.d (.raw v4)])] [vp 0 0,vG [cI p.st,cI p.nd]] (vb (zen g p)) [(0,.box [.d (.sl 3 (g.nodes.map dR)),cIs g.first,.d (.sl 1 (g.sets.map (slD 1 za3))),.d (.raw v3),.d (.raw v4)])]:=by
 have hst1:=hst.1;refine fB Tryz.func33 rfl 29 fun w H B a h=>Jq 30 [] [(0,vp 0 0),(3,vp 30 0),(4,vb false)] [(0,.box [.d (.sl 3 (g.nodes.map dR)),cIs g.first,.d (.sl 1 (g.sets.map (slD 1 za3))),.d (.raw v3),.d (.raw v4)]),(30,.box [cI p.st,cI p.nd])] h fun a w h=>?_
 rcases bH (p.nd == 0) with hc1 | hc4
 ·rcases bH ((g.sets.length:Int) == 0) with hc2 | hc3
  ·refine Jg 31 [(2,.cmp (op:=.eql) (m:=p.nd) (n:=0) (b:=true) .i64 hc1),(5,.g (dM (d:=10) (t:=9) (n:=0) (o:=0))),(9,.len (c:=(.d (.sl 1 (g.sets.map (slD 1 za3))))) (n:=g.sets.length) (za9 _ _ _)),(10,.cmp (op:=.eql) (m:=(g.sets.length:Int)) (n:=0) (b:=true) .i64 hc2)] [0,3] [(4,vb true)] [30] [] h fun a w h=>qV (rT (.c (cB true)) h rfl ?_);have hz:zen g p=(true):=by unfold zen;rw [decide_eq_true (p:=p.nd=0) (by have:=hc1;simpa using this),decide_eq_true (p:=g.sets.length=0) (by have h9:=eq_of_beq hc2;omega)];rfl
   rw [hz];try rfl
  have hp9:0<g.sets.length:=by have h9:=hc3;rw [beq_eq_false_iff_ne] at h9;omega
  obtain ⟨x1,hx1⟩:=gl g.sets 0;refine Jg 31 [(2,.cmp (op:=.eql) (m:=p.nd) (n:=0) (b:=true) .i64 hc1),(5,.g (dM (d:=10) (t:=9) (n:=0) (o:=0))),(9,.len (c:=(.d (.sl 1 (g.sets.map (slD 1 za3))))) (n:=g.sets.length) (za9 _ _ _)),(10,.cmp (op:=.eql) (m:=(g.sets.length:Int)) (n:=0) (b:=false) .i64 hc3),(13,.g (dM (d:=18) (t:=17) (n:=0) (o:=0))),(17,.g (xD 22 21 vc2_8 (zab hx1 (f:=(slD 1 za3))) (OV.const (.int .i64 0) rfl))),(21,.call (zf6 x1 p.st (hst.2 x1 (lM hx1))))] [0,3] [(4,vb (x1.contains p.st))] [30] [] h fun a w h=>qV (rT (.c (cB (x1.contains p.st))) h rfl ?_);have hz:zen g p=(x1.contains p.st):=by unfold zen;rw [decide_eq_true (p:=p.nd=0) (by have:=hc1;simpa using this),decide_eq_false (p:=g.sets.length=0) (by have h9:=hc3;rw [beq_eq_false_iff_ne] at h9;omega),show setI g 0=x1 by unfold setI;rw [show ((0:Int)).toNat=0 from rfl,hx1];rfl];first | done | rfl | (rw [bR,Bool.false_or];first | done | rfl | exact rfl)
  rw [hz];try rfl
 refine Jg 31 [(2,.cmp (op:=.eql) (m:=p.nd) (n:=0) (b:=false) .i64 hc4)] [0,3] [] [30] [] h fun a w h=>qV (rT (.c (cB false)) h rfl ?_);have hz:zen g p=(false):=by unfold zen;rw [decide_eq_false (p:=p.nd=0) (by have:=hc4;simpa using this)];rfl
 rw [hz];try rfl
end S
end Go.Proofs.YtjnkkdfojfjncaaGreat
