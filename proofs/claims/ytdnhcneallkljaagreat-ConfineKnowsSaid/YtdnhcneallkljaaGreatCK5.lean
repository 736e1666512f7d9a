/-
  Part 5 of the proof of the statement ConfineKnows. It holds for every input.
-/
import Derived.Test.YtdnhcneallkljaaGreatCK4
import Derived.Test.YtdnhcneallkljaaGreatCK3
import Derived.Test.YtdnhcneallkljaaGreatCK2
import Derived.SizedLaws
import Derived.Maps.Keyed
import Derived.DeepKeys4
set_option maxRecDepth 100000
set_option maxHeartbeats 20000000
open Go.RowKit
open List renaming length_map->bC,mem_map->bF,getElem?_eq_getElem->bG,length_append->bH,take_add_one->bJ,mem_singleton->bK,getElem?_map->bM,mem_append->bP,length_cons->bT,length_take->bU,mem_of_getElem?->bV,getElem?_range->bW,map_append->bX,dropLast_subset->bZ,take_of_length_le->b7,mem_flatMap->b9,getElem?_eq_none->cC,mem_range->cF,mem_filter->cG,length_eq_zero_iff->cH,length_nil->cL,dropLast_eq_take->cM,flatMap_append->cQ,append_nil->cR,take_zero->cT,length_range->cU,filter_cons_of_neg->cV,mem_cons->cW,drop_of_length_le->cX,map_take->cY,getElem?_of_mem->c7,map_map->c8,append_assoc->dB,ext_getElem?->dE,getElem?_take_of_lt->dG,getElem_mem->dH,filter_cons_of_pos->dI,getElem_map->dM,lookup_cons->dN,getElem?_eq_some_iff->dO,any_append->dP,length_dropLast->dQ,mem_cons_of_mem->dR,eq_nil_or_concat->dU,concat_eq_append->dV,filter_eq_nil_iff->dY,mem_append_left->dZ,mem_iff_getElem?->d3,getElem?_set_self->d5
open Nat renaming zero_le->bE,le_refl->bR,le_trans->bS,le_succ->cD,add_sub_cancel_left->dC,zero_add->dL
open Bool renaming and_eq_true->bI,eq_false_or_eq_true->bL,true_and->cK,not_true->cO,false_or->cZ
open Int renaming le_refl->b8,toNat_of_nonneg->cJ,le_trans->dA,zero_mul->dD,mul_le_mul_of_nonneg_right->dS,emod_add_mul_ediv->dW,ediv_eq_zero_of_lt->dX
open Option renaming getD_some->cE,map_some->cP
open Array renaming getElem?_eq_some_iff->d4
open Go.Proofs.Tryz renaming prog->d6
open Go.Proofs.YtdnhcneallkljaaGreat.S.OV renaming const->d7,tmp->d8
open Go.Proofs.YtdnhcneallkljaaGreat.S.OVs renaming cons->d9
open Go.Proofs.YtdnhcneallkljaaGreat.S.StD renaming d->eA
open Go.Proofs.YtdnhcneallkljaaGreat.S.ZI renaming of->eB,val_of->eC
namespace Go.Proofs.YtdnhcneallkljaaGreat
namespace S
variable {b:zaj} {x y:StD} {v M j i k m o t:Nat} {ps:List (List ZI)} {w n fu:Int} {ns ls nodes:List Int} {α β:Type} {f:F} {H:Im} {B:Bl} {key:Value} {kt ty mt et xt el:TypeId} {es:List (Value × D)} {kv:T} {rs rs':List (Nat × V)} {l:Lit}
theorem oh1_8:ElZ d6 52 56 3:=ElZ.mk' Tryz.underlying52 _ _ rfl rfl
theorem oh1_9:ElT d6 52 56 3 56:=ElT.mk' Tryz.underlying52 _ _ rfl rfl
structure zaq where
  act:Int
  to_:StD
def zaq.d (x:zaq):List D:=[.raw (.int .i64 x.act),.sl 1 (x.to_.locs.map za8),.sl 2 (x.to_.vals.map ziD)]
theorem prd_sub {xs ys:List Int} (h:xs.Sublist ys):(∀ n ∈ ys,1<=n)->prd xs<=prd ys:=by
 induction h with
 | slnil=>intro _;exact b8 _
 | cons a h ih =>
  rename_i xs ys
  intro hy
  have h1:=hy a (by simp)
  have h2:=ih fun n hn=>hy n (by simp [hn])
  have h3:=zh1 fun n hn=>hy n (dR a (h.subset hn))
  have h4:=dS h1 (show 0<=prd ys by omega)
  rw [zfe];omega
 | cons_cons a h ih =>
  intro hy
  have h1:=hy a (by simp)
  rw [zfe,zfe]
  exact Int.mul_le_mul_of_nonneg_left (ih fun n hn=>hy n (by simp [hn])) (by omega)
theorem wd_one (h:(wdB b).2=true) {z:ZI} (hz:zar b z=true):1<=(wdB b).1:=by
 cases hb:b.is_ with
 | false=>rw [wdB_no hb] at h;cases h
 | true =>
  unfold zar at hz
  rw [hb] at hz
  simp only [cO,cZ,bI,decide_eq_true_eq] at hz
  have h1:=of_decide_eq_true ((zh9 _ _).symm.trans (decide_eq_true hz.1))
  have h2:=of_decide_eq_true ((zh9 _ _).symm.trans (decide_eq_true hz.2))
  by_cases h3:b.hi.val - b.lo.val+1<=1048576
  ·rw [wdB_val hb (by omega) h3];show 1<=b.hi.val - b.lo.val+1;omega
  ·rw [wdB_big hb (by omega)] at h;cases h
theorem fit_pos {s:zab} (hc:(zb3 s).2=true) (hf:zbk s x=true):∀ n ∈ wdl s s.vars.length,1<=n:=by
 unfold zbk at hf
 simp only [bI,decide_eq_true_eq] at hf
 obtain ⟨⟨hl,hv⟩,h1,h2⟩:=hf
 intro n hn
 unfold wdl at hn
 rcases bP.1 hn with hn | hn
 ·obtain ⟨p,hp,rfl⟩:=bF.1 hn
  obtain ⟨i,hi⟩:=c7 hp
  have h3:=zbf.1 h1 i (by have:=zac hi;omega)
  unfold zgi zeb at h3
  rw [hi] at h3
  have h3:=of_decide_eq_true h3
  simp only [cP,cE] at h3
  unfold zeq;omega
 ·obtain ⟨v,hv2,rfl⟩:=bF.1 hn
  have h3:=cF.1 hv2
  exact wd_one (zbf.1 (zfs hc) v h3) (zbf.1 h2 v (by omega))
theorem fit_prd {s:zab} (hc:(zb3 s).2=true) (hf:zbk s x=true):prd (wdl s s.vars.length)<=1048576:=by
 have h1:=fit_pos hc hf
 have h2:=zfs hc
 unfold zb3 prdB at hc
 rw [if_pos h2,if_neg (fun h0=>by have:=h1 0 h0;omega)] at hc
 split at hc
 ·assumption
 ·cases hc
theorem freeI_pks {s:zab} {L:Nat} (c:zb1) (hs:zaw L s) (hc:(zb3 s).2=true) (hf:zbk s x=true):PksOk s (zaz c s.vars.length):=by
 have h1:=fit_pos hc hf
 have h2:=fit_prd hc hf
 have hsub:((zaz c s.vars.length).map fun x=>wdV s x.toNat).Sublist (wdl s s.vars.length):=by
  unfold zaz wdl
  rw [c8]
  exact (List.filter_sublist.map _).trans (List.sublist_append_right _ _)
 refine ⟨fun x hx=>?_,fun x hx=>?_,dA (prd_sub hsub h1) h2,?_⟩
 ·obtain ⟨v,hv,rfl⟩:=bF.1 hx
  have:=cF.1 (cG.1 hv).1
  exact ⟨by simp,by show (v:Int)<_;omega⟩
 ·exact h1 _ (hsub.subset (bF.2 ⟨x,hx,rfl⟩))
 ·have:=freeI_len c s.vars.length;have:=hs.vars;omega
theorem pv_ok {L:Nat} {s:zab} (hs:zaw L s) {d:Nat} (hd:d<8796093021952):ZOk (L+3) (pv s v d):=by
 have hb:=zgu hs v
 refine ⟨ZI.lb_of _,?_⟩
 have h1:=ze4 hb.1.1 (ZI.lb_of (d:Int))
 rw [eC] at h1
 have h2:=of_len2 (d:=(d:Int)) (by omega) (by omega)
 have h3:=hb.1.2
 unfold pv
 omega
theorem pk_val {s:zab}:∀ (n:Nat) {vs:List Int}, vs.length=n->∀ {hd:List ZI}, hd ∈ pkT s vs->∀ z ∈ hd,∃ v d:Nat,d<(wdV s v).toNat/\z=pv s v d
 | 0,vs,hn,hd,hh,z,hz=>by rw [cH.1 hn] at hh;rw [bK.1 hh] at hz;cases hz
 | n+1,vs,hn,hd,hh,z,hz=>by
  rcases dU vs with rfl | ⟨ws,x,rfl⟩
  ·cases hn
  ·rw [dV] at hn hh
   rw [zih] at hh
   obtain ⟨p,hp,h2⟩:=b9.1 hh
   obtain ⟨d,hd2,rfl⟩:=bF.1 h2
   rcases bP.1 hz with hz | hz
   ·exact pk_val n (by simpa using hn) hp z hz
   ·rw [bK.1 hz];exact ⟨_,_,cF.1 hd2,rfl⟩
theorem pk_ok {s:zab} {L:Nat} (hs:zaw L s) (hM:L+3<=M) {vs:List Int} {hd:List ZI} (h:hd ∈ pkT s vs):∀ z ∈ hd,ZOk M z:=fun z hz=>by
 obtain ⟨v,d,hd2,rfl⟩:=pk_val _ rfl h z hz
 have:=wdB_le (zam s v)
 have h1:=pv_ok hs (v:=v) (d:=d) (by unfold wdV at hd2;omega)
 exact ⟨h1.1,bS h1.2 hM⟩
def egP (s:zab) (x:StD) (i:Int) (ps:List (List ZI)):List zaq:=ps.flatMap fun p=>if (goS s x i p).2=true then [⟨i,(goS s x i p).1⟩] else []
def egA (s:zab) (x:StD) (i:Nat):List zaq:=match s.acts[i]? with | none=>[] | some c=>if can s x (i:Int)=true then egP s x (i:Int) (pkT s (zaz c s.vars.length)) else []
def egN (s:zab) (x:StD) (n:Nat):List zaq:=(List.range n).flatMap (egA s x)
def edT (s:zab) (x:StD):List zaq:=if (zb3 s).2=true/\zbk s x=true then egN s x s.acts.length++egP s x (-1) [[]] else []
theorem egP_yes {s:zab} {i:Int} {p:List ZI} (h:ps[j]?=some p) (hk:(goS s x i p).2=true):egP s x i (ps.take j)++[⟨i,(goS s x i p).1⟩]=egP s x i (ps.take (j+1)):=by
 unfold egP;rw [bJ,h,cQ];simp [hk]
theorem egP_no {s:zab} {i:Int} {p:List ZI} (h:ps[j]?=some p) (hk:(goS s x i p).2=false):egP s x i (ps.take j)=egP s x i (ps.take (j+1)):=by
 unfold egP;rw [bJ,h,cQ];simp [hk]
theorem egP_len (s:zab) (x:StD) (i:Int) (ps:List (List ZI)):(egP s x i ps).length<=ps.length:=by
 induction ps with
 | nil=>exact bR _
 | cons p ps ih =>
  show ((if (goS s x i p).2=true then [(⟨i,(goS s x i p).1⟩:zaq)] else [])++egP s x i ps).length<=_
  rw [bH,bT]
  have:(if (goS s x i p).2=true then [(⟨i,(goS s x i p).1⟩:zaq)] else []).length<=1:=by split <;> simp
  omega
theorem egN_at (s:zab) (x:StD) (n:Nat):egN s x (n+1)=egN s x n++egA s x n:=by unfold egN;rw [List.range_succ,cQ];simp
theorem egA_no {s:zab} (h:can s x (i:Int)=false):egA s x i=[]:=by
 unfold egA;split
 ·rfl
 ·rw [if_neg (by rw [h];exact Bool.noConfusion)]
theorem egA_yes {s:zab} {c:zb1} (hc:s.acts[i]?=some c) (h:can s x (i:Int)=true):egA s x i=egP s x (i:Int) (pkT s (zaz c s.vars.length)):=by
 unfold egA;rw [hc];exact if_pos h
theorem pkT_all {s:zab} {vs:List Int} (h:PksOk s vs):(pkT s vs).length<=1048576:=by have:=pkT_bd h (bR _);rwa [List.take_length] at this
theorem egA_len {s:zab} {L:Nat} (hs:zaw L s) (hc:(zb3 s).2=true) (hf:zbk s x=true) (i:Nat):(egA s x i).length<=1048576:=by
 unfold egA;split
 ·exact bE _
 ·split
  ·exact bS (egP_len _ _ _ _) (pkT_all (freeI_pks _ hs hc hf))
  ·exact bE _
theorem egN_len {s:zab} {L:Nat} (hs:zaw L s) (hc:(zb3 s).2=true) (hf:zbk s x=true):∀ n,(egN s x n).length<=n*1048576
 | 0=>bR _
 | n+1=>by rw [egN_at,bH,Nat.succ_mul];have:=egN_len hs hc hf n;have:=egA_len hs hc hf n;omega
theorem OEdges (s:zab) (x:StD) {L:Nat} (hs:zaw L s) (hL:L<=1000) (hp:zbp s) (hLM:L+M<=4000) (hM:L+3<=M) (hx:zdh M x):Fn d6 13 [] [.t (.agg (zat s)),.t (.agg [.d (.sl 1 (x.locs.map za8)),.d (.sl 2 (x.vals.map ziD))])] (.t (.c (.d (.sl 3 ((edT s x).map zaq.d))))) []:=by
 have lbs:=hs.bnds;have lvs:=hs.vars;have lps:=hs.procs;have lwd:=zeo s;refine fB Tryz.func13 rfl 82 fun w H B a h=>Jq 4 [] [(2,vp 4 0),(3,vp 5 0),(4,.t (.c (.d (.raw zaa))))] [(4,.box (zat s)),(5,.box [.d (.sl 1 (x.locs.map za8)),.d (.sl 2 (x.vals.map ziD))])] h fun a w h=>Je 6 [] [] [(5,.t (.c (.d (.raw zaa))))] h fun a w h=>qW (Je 6 [(1,.call (OCount s hs hL hp))] [] [(7,vb (zb3 s).2)] h fun a w h=>?_)
 rcases bL (zb3 s).2 with hc1 | hc14
 ·rw [hc1] at h;refine Jq 6 [(5,.call (zk0 s x (L:=L) (M:=M) (by omega) hs hx))] [(2,vp 4 0),(3,vp 5 0),(4,.t (.c (.d (.raw zaa)))),(5,.t (.c (.d (.raw zaa)))),(28,vb (!(zbk s x)))] [(4,.box (zat s)),(5,.box [.d (.sl 1 (x.locs.map za8)),.d (.sl 2 (x.vals.map ziD))])] h fun a w h=>cS (!(zbk s x)) h (fun hc2=>?_) (fun hc3=>?_)
  ·refine Je 6 [] [28] [] h fun a w h=>qV (za2 ?_);replace h:=nilDSx 4 0 3 (.t (.c (.d (.raw zaa)))) h;refine rT (.c (.d (.sl 3 ([].map zaq.d)))) h rfl ?_;rw [show edT s x=[] from if_neg (fun h8=>by have:=h8.2;rw [(show (zbk s x)=false from by simpa using hc2)] at this;cases this)];rfl
  refine qU (za0 (qW (Je 6 [(2,.len (za1 10 zb1.d s.acts))] [28] [(30,.t (.c (.d (.sl 10 (s.acts.map zb1.d))))),(31,vN s.acts.length),(32,vI 0)] h fun a w h=>qZ ?_)));replace h:=zg1 5 0 6 3 56 (.t (.c (.d (.raw zaa)))) h;replace h:=cvM [] [] [] [(6,.row 56 3 ((egN s x 0).map zaq.d))] (by rw [<- show ([]:List zaq)=(egN s x 0) from rfl]; try kernel_rfl) h;replace h:=cvM [] [(5,.t (.c (.own 6 (egN s x 0).length)))] [] [] (by kernel_rfl) h;have hcn:=hc1;have hft:=(show (zbk s x)=true from by simpa using hc3)
  refine zcc (ι:=(Nat)) (fun i=>i<=s.acts.length)
    [] (fun i=>[(5,.t (.c (.own 6 (egN s x i).length))),(32,vN i)])
    [] (fun i=>[(6,.row 56 3 ((egN s x i).map zaq.d))])
    (fun i=>s.acts.length - i) 0 ?_ h ?_
  ·exact bE _
  clear h;rintro i a w hI h;have leg:=egN_len hs hcn hft i;have lac:=hs.acts;refine Je 7 [] [] [(33,vb (decide ((i:Int)<(s.acts.length:Int))))] h fun a w h=>qW (zag ((i:Int)<(s.acts.length:Int)) h (fun hc4 hc4'=>?_) (fun hc11 hc11'=>?_))
  ·refine qU (za0 (qW (qZ ?_)));obtain ⟨x3,hx3⟩:=gl s.acts i;refine Jg 7 [(1,.g (xD 35 30 ki_1 (za4 hx3 (f:=zb1.d)) (d8 32 _)))] [33] [(8,vN i),(9,vp 7 0)] [] [(7,.box ([.d (.raw (.int .i64 x3.proc)),.d (.raw (.int .i64 x3.from_)),.d (.raw (.int .i64 x3.to_)),.d (.raw (.int .i64 x3.guard.kind)),.d (.sl 3 (x3.guard.r.t.parts.map zbe.d))]++zi x3.guard.r.t.k++[.d (.raw (.bool x3.guard.r.eq)),.d (.sl 6 (x3.guard.kids.map za7.d)),.d (.sl 5 (x3.moves.map zan.d))]))] h fun a w h=>qW (Je 8 [(3,.call (SCan s x (i:Int) (L:=L) (M:=M) hLM hs hx))] [] [(41,vb (!(can s x (i:Int))))] h fun a w h=>cS (!(can s x (i:Int))) h (fun hc5=>?_) (fun hc6=>?_))
   ·refine wp_exit (zbq (zao (za0 (Jh 8 [(0,.j1 i)] [8,9,41] [(32,vI ((i:Int)+1))] [7] [] h fun a w h=>za0 ?_))));replace h:=cvM [] [(5,.t (.c (.own 6 (egN s x (i+1)).length)))] [] [(6,.row 56 3 ((egN s x (i+1)).map zaq.d))] (by rw [<- show ((egN s x i):List zaq)=(egN s x (i+1)) from (by rw [egN_at,egA_no (show (can s x (i:Int))=false from by simpa using hc5),cR])]; try kernel_rfl) h;refine za9 (x:=i) (y:=i+1) h ?_ ?_
    ·have:=zac hx3;show i+1<=s.acts.length;omega
    show s.acts.length - (i+1)<s.acts.length - i;have:=zac hx3;omega
   refine qU (za0 (Jg 8 [(3,.call (OFree s x3 hs (hs.act x3 (lM hx3)))),(4,.call (OPicks s (zaz x3 s.vars.length) hs hL hcn (freeI_pks x3 hs hcn hft))),(5,.len (c:=(.d (.sl 1 ((pkT s (zaz x3 s.vars.length)).map (slD 2 ziD))))) (n:=(pkT s (zaz x3 s.vars.length)).length) (za1 _ _ _))] [9,41] [(46,.t (.c (.d (.sl 1 ((pkT s (zaz x3 s.vars.length)).map (slD 2 ziD)))))),(47,vI ((pkT s (zaz x3 s.vars.length)).length:Int)),(48,vI 0)] [7] [] h fun a w h=>qZ ?_));have hpks:=freeI_pks x3 hs hcn hft;have lpa:=pkT_all hpks;replace h:=cvM [] [(5,.t (.c (.own 6 ((egN s x i)++egP s x (i:Int) ((pkT s (zaz x3 s.vars.length)).take 0)).length)))] [] [(6,.row 56 3 (((egN s x i)++egP s x (i:Int) ((pkT s (zaz x3 s.vars.length)).take 0)).map zaq.d))] (by rw [<- show ((egN s x i):List zaq)=((egN s x i)++egP s x (i:Int) ((pkT s (zaz x3 s.vars.length)).take 0)) from (cR _).symm]; try kernel_rfl) h
   refine zcc (ι:=(Nat)) (fun j=>j<=(pkT s (zaz x3 s.vars.length)).length)
     [] (fun j=>[(5,.t (.c (.own 6 ((egN s x i)++egP s x (i:Int) ((pkT s (zaz x3 s.vars.length)).take j)).length))),(48,vN j)])
     [] (fun j=>[(6,.row 56 3 (((egN s x i)++egP s x (i:Int) ((pkT s (zaz x3 s.vars.length)).take j)).map zaq.d))])
     (fun j=>(pkT s (zaz x3 s.vars.length)).length - j) 0 ?_ h ?_
   ·exact bE _
   clear h;rintro j a w hI h;have lep:=egP_len s x (i:Int) ((pkT s (zaz x3 s.vars.length)).take j);have ltk:((pkT s (zaz x3 s.vars.length)).take j).length<=1048576:=by rw [bU];omega
   have lal:((egN s x i)++egP s x (i:Int) ((pkT s (zaz x3 s.vars.length)).take j)).length<=21*1048576:=by rw [bH];have:i<s.acts.length:=zac hx3;omega
   refine Je 8 [] [] [(49,vb (decide ((j:Int)<((pkT s (zaz x3 s.vars.length)).length:Int))))] h fun a w h=>qW (zag ((j:Int)<((pkT s (zaz x3 s.vars.length)).length:Int)) h (fun hc7 hc7'=>?_) (fun hc10 hc10'=>?_))
   ·refine qU (za0 (qW (qZ ?_)));obtain ⟨x7,hx7⟩:=gl (pkT s (zaz x3 s.vars.length)) j;refine Je 8 [(0,.g (xD 50 46 og1_7 (za4 hx7 (f:=(slD 2 ziD))) (d8 48 _)))] [49] [(11,.t (.c (.d (.sl 2 (x7.map ziD)))))] h fun a w h=>Jg 8 [(4,.call (SGo s x (i:Int) x7 (L:=L) (M:=M) hLM hs hx (pk_ok hs hM (lM hx7))))] [11] [(12,vp 8 0),(13,vb (goS s x (i:Int) x7).2)] [] [(8,.box [.d (.sl 1 ((goS s x (i:Int) x7).1.locs.map za8)),.d (.sl 2 ((goS s x (i:Int) x7).1.vals.map ziD))])] h fun a w h=>Je 9 [] [13] [(60,vb (goS s x (i:Int) x7).2)] h fun a w h=>cS (goS s x (i:Int) x7).2 h (fun hc8=>?_) (fun hc9=>?_)
    ·refine Jh 9 [(4,.g (bD 65 ([(zaq.mk (i:Int) (goS s x (i:Int) x7).1)].map zaq.d) [(64,.t (.agg [.d (.raw (.int .i64 (i:Int))),.d (.sl 1 ((goS s x (i:Int) x7).1.locs.map za8)),.d (.sl 2 ((goS s x (i:Int) x7).1.vals.map ziD))]))] oh1_8 (.cons (i:=0) (d8 64 _) (.nil)) (by kernel_rfl) (by simp [zaq.d]))),(5,.g (aD 66 61 65 6 9 ((egN s x i)++egP s x (i:Int) ((pkT s (zaz x3 s.vars.length)).take j)) [(zaq.mk (i:Int) (goS s x (i:Int) x7).1)] zaq.d oh1_9 (by simp [zaq.d])))] [12,60] [(5,.t (.c (.own 9 (((egN s x i)++egP s x (i:Int) ((pkT s (zaz x3 s.vars.length)).take j))++[(zaq.mk (i:Int) (goS s x (i:Int) x7).1)]).length)))] [6,8] [(9,.row 56 3 ((((egN s x i)++egP s x (i:Int) ((pkT s (zaz x3 s.vars.length)).take j))++[(zaq.mk (i:Int) (goS s x (i:Int) x7).1)]).map zaq.d))] h fun a w h=>za5 (za0 (Jf 10 [(0,.j1 j)] [] [(48,vI ((j:Int)+1))] h fun a w h=>za0 ?_));rw [show ((((egN s x i)++egP s x (i:Int) ((pkT s (zaz x3 s.vars.length)).take j))++[(zaq.mk (i:Int) (goS s x (i:Int) x7).1)]):List zaq)=((egN s x i)++egP s x (i:Int) ((pkT s (zaz x3 s.vars.length)).take (j+1))) from (by rw [dB,egP_yes hx7 hc8])] at h;replace h:=zd8 9 6 h;refine za9 (x:=j) (y:=j+1) h ?_ ?_
     ·have:=zac hx7;show j+1<=(pkT s (zaz x3 s.vars.length)).length;omega
     show (pkT s (zaz x3 s.vars.length)).length - (j+1)<(pkT s (zaz x3 s.vars.length)).length - j;have:=zac hx7;omega
    refine qU (za5 (za0 (Jh 10 [(0,.j1 j)] [12,60] [(48,vI ((j:Int)+1))] [8] [] h fun a w h=>za0 ?_)));rw [show (((egN s x i)++egP s x (i:Int) ((pkT s (zaz x3 s.vars.length)).take j)):List zaq)=((egN s x i)++egP s x (i:Int) ((pkT s (zaz x3 s.vars.length)).take (j+1))) from (by rw [egP_no hx7 hc9])] at h;refine za9 (x:=j) (y:=j+1) h ?_ ?_
    ·have:=zac hx7;show j+1<=(pkT s (zaz x3 s.vars.length)).length;omega
    show (pkT s (zaz x3 s.vars.length)).length - (j+1)<(pkT s (zaz x3 s.vars.length)).length - j;have:=zac hx7;omega
   refine wp_exit (zbq (zbq (zao (za5 (za0 (Jf 10 [(0,.j1 i)] [8,46,47,48,49] [(32,vI ((i:Int)+1))] h fun a w h=>za0 ?_))))));rw [show (((egN s x i)++egP s x (i:Int) ((pkT s (zaz x3 s.vars.length)).take j)):List zaq)=(egN s x (i+1)) from (by rw [egN_at,egA_yes hx3 (show (can s x (i:Int))=true from by simpa using hc6),b7 (by have:=dF hc10;omega)])] at h;refine za9 (x:=i) (y:=i+1) h ?_ ?_
   ·have:=zac hx3;show i+1<=s.acts.length;omega
   show s.acts.length - (i+1)<s.acts.length - i;have:=zac hx3;omega
  refine exA (qW (Jg 10 [(2,.call ((SGo s x (-1) [] (L:=L) (M:=M) hLM hs hx (fun z hz=>by cases hz)).argw (WkA.cons _ _ _ _ (WkV.refl _) (WkA.cons _ _ _ _ (WkV.refl _) (WkA.cons _ _ _ _ (WkV.refl _) (WkA.cons _ _ _ _ (WkV.c _ _ (Wk.nil 2)) .nil))))))] [2,3,30,31,32,33] [(14,vp 10 0),(15,vb (goS s x (-1) []).2)] [4,5] [(10,.box [.d (.sl 1 ((goS s x (-1) []).1.locs.map za8)),.d (.sl 2 ((goS s x (-1) []).1.vals.map ziD))])] h fun a w h=>Je 11 [] [15] [(75,vb (goS s x (-1) []).2)] h fun a w h=>cS (goS s x (-1) []).2 h (fun hc12=>?_) (fun hc13=>?_)))
  ·refine Jh 11 [(3,.g (bD 79 ([(zaq.mk (-1) (goS s x (-1) []).1)].map zaq.d) [(78,.t (.agg [.d (.raw (.int .i64 (-1))),.d (.sl 1 ((goS s x (-1) []).1.locs.map za8)),.d (.sl 2 ((goS s x (-1) []).1.vals.map ziD))]))] oh1_8 (.cons (i:=0) (d8 78 _) (.nil)) (by kernel_rfl) (by simp [zaq.d]))),(4,.g (aD 80 76 79 6 11 (egN s x i) [(zaq.mk (-1) (goS s x (-1) []).1)] zaq.d oh1_9 (by simp [zaq.d])))] [14,75] [(5,.t (.c (.own 11 ((egN s x i)++[(zaq.mk (-1) (goS s x (-1) []).1)]).length)))] [6,10] [(11,.row 56 3 (((egN s x i)++[(zaq.mk (-1) (goS s x (-1) []).1)]).map zaq.d))] h fun a w h=>za0 (Jp 12 [] [(4,.t (.c (.own 11 ((egN s x i)++[(zaq.mk (-1) (goS s x (-1) []).1)]).length)))] h fun a w h=>qV ?_);rw [show (((egN s x i)++[(zaq.mk (-1) (goS s x (-1) []).1)]):List zaq)=(edT s x) from (by rw [show edT s x=egN s x s.acts.length++egP s x (-1) [[]] from if_pos ⟨hcn,hft⟩];rw [show i=s.acts.length by have:=dF hc11;omega];unfold egP;simp [hc12])] at h;replace h:=zhz 11 3 56 ((edT s x).map zaq.d) h [(edT s x).length] ⟨by first | exact (bC _).symm | (simp;done) | (simp;omega),trivial⟩;refine rT (.c (.d (.sl 3 ((edT s x).map zaq.d)))) h rfl ?_;rfl
  refine qU (za0 (Jg 12 [] [5,14,75] [(4,.t (.c (.own 6 (egN s x i).length)))] [10] [] h fun a w h=>qV ?_));replace h:=cv (fun z_:List zaq=>F.of [(4,.t (.c (.own 6 z_.length)))] [(6,.row 56 3 (z_.map zaq.d))]) (show ((egN s x i):List zaq)=(edT s x) from (by rw [show edT s x=egN s x s.acts.length++egP s x (-1) [[]] from if_pos ⟨hcn,hft⟩];rw [show i=s.acts.length by have:=dF hc11;omega];unfold egP;simp [hc13])) (h.conv (by kernel_rfl));replace h:=zhz 6 3 56 ((edT s x).map zaq.d) h [(edT s x).length] ⟨by first | exact (bC _).symm | (simp;done) | (simp;omega),trivial⟩;refine rT (.c (.d (.sl 3 ((edT s x).map zaq.d)))) h rfl ?_;rfl
 rw [hc14] at h;refine Jq 12 [] [(2,vp 4 0),(3,vp 5 0),(4,.t (.c (.d (.raw zaa)))),(5,.t (.c (.d (.raw zaa)))),(28,vb true)] [(4,.box (zat s)),(5,.box [.d (.sl 1 (x.locs.map za8)),.d (.sl 2 (x.vals.map ziD))])] h fun a w h=>cS true h (fun _=>?_) nofun
 refine Je 12 [] [28] [] h fun a w h=>qV (za2 ?_);replace h:=nilDSx 4 0 3 (.t (.c (.d (.raw zaa)))) h;refine rT (.c (.d (.sl 3 ([].map zaq.d)))) h rfl ?_;rw [show edT s x=[] from if_neg (fun h8=>by have:=h8.1;rw [hc14] at this;cases this)];rfl
def dgN (s:zab) (x:StD) (i:Nat):Int:=if i<s.procs.length then (x.locs[i]?).getD 0 else ((x.vals[i - s.procs.length]?).getD zdi).val - (zam s (i - s.procs.length)).lo.val
def hrn (s:zab) (x:StD):Nat->Int
  | 0=>0
  | j+1=>hrn s x j*((wdl s s.vars.length)[j]?).getD 0+dgN s x j
def nmT (s:zab) (x:StD):Int × Bool:=if (zb3 s).2=true/\zbk s x=true then (hrn s x (s.procs.length+s.vars.length),true) else (0,false)
theorem wd_in (h:(wdB b).2=true) {z:ZI} (hz:zar b z=true):0<=z.val - b.lo.val/\z.val - b.lo.val<(wdB b).1:=by
 cases hb:b.is_ with
 | false=>rw [wdB_no hb] at h;cases h
 | true =>
  unfold zar at hz
  rw [hb] at hz
  simp only [cO,cZ,bI,decide_eq_true_eq] at hz
  have h1:=of_decide_eq_true ((zh9 _ _).symm.trans (decide_eq_true hz.1))
  have h2:=of_decide_eq_true ((zh9 _ _).symm.trans (decide_eq_true hz.2))
  by_cases h3:b.hi.val - b.lo.val+1<=1048576
  ·rw [wdB_val hb (by omega) h3];show 0<=_/\_<b.hi.val - b.lo.val+1;omega
  ·rw [wdB_big hb (by omega)] at h;cases h
theorem wdl_loc {s:zab} {n:Nat} (h:i<s.procs.length):(wdl s n)[i]?=(s.procs[i]?).map zeq:=by unfold wdl;rw [List.getElem?_append_left (by rw [bC];exact h),bM]
theorem wdl_val {s:zab} {n:Nat} (h:v<n):(wdl s n)[s.procs.length+v]?=some (wdV s v):=by unfold wdl;rw [List.getElem?_append_right (by rw [bC];omega),bC,dC,bM,bW h];rfl
theorem dgN_in {s:zab} (hc:(zb3 s).2=true) (hf:zbk s x=true) (hw:(wdl s s.vars.length)[j]?=some w):0<=dgN s x j/\dgN s x j<w:=by
 have hj:=zac hw
 rw [zeh] at hj
 unfold zbk at hf
 simp only [bI,decide_eq_true_eq] at hf
 obtain ⟨⟨hl,hv⟩,h1,h2⟩:=hf
 unfold dgN
 split
 ·rename_i hp
  rw [wdl_loc hp] at hw
  have h3:=zbf.1 h1 j (by omega)
  unfold zgi zeb at h3
  rw [bG hp] at h3 hw
  have h3:=of_decide_eq_true h3
  simp only [cP,cE] at h3
  injection hw with hw
  rw [<- hw];exact h3
 ·rename_i hp
  obtain ⟨v,rfl⟩:∃ v,j=s.procs.length+v:=⟨j - s.procs.length,by omega⟩
  rw [dC]
  rw [wdl_val (by omega)] at hw
  injection hw with hw
  rw [<- hw]
  exact wd_in (zbf.1 (zfs hc) v (by omega)) (zbf.1 h2 v (by omega))
theorem hrn_step {u d p:Int} (h0:0<=u) (h1:u<p) (hd0:0<=d) (hd1:d<w):0<=u*w/\u*w+d<p*w:=by
 have h2:=dS (show u+1<=p by omega) (show 0<=w by omega)
 rw [Int.add_mul,Int.one_mul] at h2
 exact ⟨Int.mul_nonneg h0 (by omega),by omega⟩
theorem zk5 {s:zab} (hw:(wdl s s.vars.length)[j]?=some w):hrn s x j*w+dgN s x j=hrn s x (j+1):=by rw [hrn,hw];rfl
theorem prd_one (h:∀ n ∈ ns,1<=n) (hw:w ∈ ns):w<=prd ns:=by
 have h1:=prd_sub (List.singleton_sublist.2 hw) h
 rw [zfe] at h1
 have h2:w*prd []=w:=Int.mul_one w
 omega
theorem ONumber (s:zab) (x:StD) {L:Nat} (hs:zaw L s) (hL:L<=1000) (hp:zbp s) (hLM:L+M<=4000) (hx:zdh M x):Fn d6 27 [] [.t (.agg (zat s)),.t (.agg [.d (.sl 1 (x.locs.map za8)),.d (.sl 2 (x.vals.map ziD))])] (.tup [.c (.d (.raw (.int .i64 (nmT s x).1))),.c (.d (.raw (.bool (nmT s x).2)))]) []:=by
 have lbs:=hs.bnds;have lvs:=hs.vars;have lps:=hs.procs;have lwd:=zeo s;have lxl:=hx.locs;have lxv:=hx.vals;refine fB Tryz.func27 rfl 78 fun w H B a h=>Jq 4 [] [(2,vp 4 0),(3,vp 5 0),(4,vI 0),(5,vb false)] [(4,.box (zat s)),(5,.box [.d (.sl 1 (x.locs.map za8)),.d (.sl 2 (x.vals.map ziD))])] h fun a w h=>qW (Je 6 [(1,.call (OCount s hs hL hp))] [] [(7,vb (zb3 s).2)] h fun a w h=>?_)
 rcases bL (zb3 s).2 with hc1 | hc8
 ·rw [hc1] at h;refine Jq 6 [(5,.call (zk0 s x (L:=L) (M:=M) (by omega) hs hx))] [(2,vp 4 0),(3,vp 5 0),(4,vI 0),(5,vb false),(29,vb (!(zbk s x)))] [(4,.box (zat s)),(5,.box [.d (.sl 1 (x.locs.map za8)),.d (.sl 2 (x.vals.map ziD))])] h fun a w h=>cS (!(zbk s x)) h (fun hc2=>?_) (fun hc3=>?_)
  ·refine Je 6 [] [29] [] h fun a w h=>qV (za2 (zdp [.c (.d (.raw (.int .i64 0))),.c (.d (.raw (.bool false)))] h Exit.ret (.inl rfl)  rfl ⟨vT9,vT9,trivial⟩ ?_));rw [show nmT s x=(0,false) from if_neg (fun h8=>by have:=h8.2;rw [(show (zbk s x)=false from by simpa using hc2)] at this;cases this)];rfl
  refine qU (za0 ?_);have hcn:=hc1;have hft:=(show (zbk s x)=true from by simpa using hc3);have hfl:=zcr hft;have hwd:=wds_yes hcn;have lwl:=zeh s s.vars.length;have hpr:=fit_prd hcn hft;have hpo:=fit_pos hcn hft;refine Je 6 [(1,.call (Owidths s hs hL hp))] [29] [(8,.t (.c (.d (.sl 1 ((wdsL s).map za8)))))] h fun a w h=>?_;replace h:=cvM [] [(8,.t (.c (.d (.sl 1 ((wdl s s.vars.length).map za8)))))] [] [] (by rw [<- show ((wdsL s):List Int)=(wdl s s.vars.length) from hwd]; try kernel_rfl) h;refine Je 6 [] [] [(10,vI 0)] h fun a w h=>qW (Je 6 [(1,.len (za1 1 za8 (wdl s s.vars.length)))] [8] [(35,.t (.c (.d (.sl 1 ((wdl s s.vars.length).map za8))))),(36,vI ((wdl s s.vars.length).length:Int)),(37,vI 0)] h fun a w h=>qZ ?_)
  refine zcc (ι:=(Nat) × (Int)) (fun (j,u)=>j<=(wdl s s.vars.length).length/\u=hrn s x j/\0<=u/\u<prd ((wdl s s.vars.length).take j))
    [] (fun (j,u)=>[(10,vI u),(37,vN j)])
    [] (fun (j,u)=>[])
    (fun (j,u)=>(wdl s s.vars.length).length - j) (0,0) ?_ h ?_
  ·exact ⟨bE _,rfl,b8 _,by rw [cT];exact (by decide:(0:Int)<1)⟩
  clear h;rintro ⟨j,u⟩ a w hI h;dsimp only at h;obtain ⟨hI1,hI2,hI3,hI4⟩:=hI;refine Je 6 [] [] [(38,vb (decide ((j:Int)<((wdl s s.vars.length).length:Int))))] h fun a w h=>qW (zag ((j:Int)<((wdl s s.vars.length).length:Int)) h (fun hc4 hc4'=>?_) (fun hc7 hc7'=>?_))
  ·refine qU (za0 (qW (qZ ?_)));obtain ⟨x4,hx4⟩:=gl (wdl s s.vars.length) j;refine Je 6 [(1,.g (xD 40 35 zdj (za4 hx4 (f:=za8)) (d8 37 _)))] [38] [(11,vN j),(12,vI x4)] h fun a w h=>Je 6 [] [] [(13,vI 0)] h fun a w h=>qW (Je 6 [(3,.len (za1 3 zb2.d s.procs)),(4,.sub .i64 (m:=(j:Int)) (n:=(s.procs.length:Int)) i6)] [] [(14,vI ((j:Int) - (s.procs.length:Int)))] h fun a w h=>Je 6 [] [] [(48,vb (decide (((j:Int) - (s.procs.length:Int))>=0)))] h fun a w h=>zag (((j:Int) - (s.procs.length:Int))>=0) h (fun hc5 hc5'=>?_) (fun hc6 hc6'=>?_))
   ·obtain ⟨kv,hkkv⟩:∃ k_:Nat,((j:Int) - (s.procs.length:Int))=(k_:Int):=⟨_,(cJ (by have:=dT hc5;omega)).symm⟩;replace h:=cvM [] [(14,vN kv)] [] [] (by rw [hkkv]; try kernel_rfl) h;have:=zac hx4;have hkv8:kv<s.vars.length:=by omega
    have hbl9:=bnd_len hcn hkv8;obtain ⟨x5,hx5⟩:=gl x.vals kv;have gx5:=hx.val x5 (lM hx5);have l1x5:=gx5.2;obtain ⟨x6,hx6⟩:=gl s.bounds kv;have gx6:=hs.bnd x6 (lM hx6);have l1x6:=gx6.1.2;obtain ⟨r7,er7,vr7,or7,lr7⟩:=mkZ (v:=x5.val - x6.lo.val) (m:=x5.abs.length+x6.lo.abs.length+1) (len_sub gx5.1 gx6.1.1);refine Jg 6 [(3,.g (xD 53 51 zi8 (za4 hx5 (f:=ziD)) (d8 52 _))),(8,.g (xD 58 56 kf_0 (za4 hx6 (f:=zaj.d)) (d8 57 _))),(11,.call (Fn.cast (SSub x5 x6.lo gx5.1 gx6.1.1 (by omega) (by omega)) (congrArg vz er7.symm))),(12,.call (SSmall r7 or7 (by omega)))] [11,14,48] [(15,vI (zbv r7.val).1)] [] [] h fun a w h=>Jf 6 [] [15] [(13,vI (zbv r7.val).1)] h fun a w h=>za0 ?_;have hjk:j=s.procs.length+kv:=by omega
    have hdn:dgN s x j=r7.val:=by unfold dgN;rw [if_neg (by omega),show j - s.procs.length=kv by omega,hx5,zcl hx6,vr7];rfl
    have hdi:=dgN_in hcn hft hx4;have hwl9:=dA (prd_one hpo (lM hx4)) hpr;have hsm:(zbv r7.val).1=dgN s x j:=by rw [hdn] at hdi ⊢;rw [small_of (by omega) (by omega)]
    replace h:=cvM [] [(13,vI (dgN s x j))] [] [] (by rw [show ((zbv r7.val).1:Int)=(dgN s x j) from hsm]; try kernel_rfl) h;have hms:=hrn_step hI3 hI4 hdi.1 hdi.2;rw [<- zhl hx4] at hms;have hge:=prd_ge hpo (j+1);refine Jh 6 [(2,.mul .i64 (m:=u) (n:=x4) i6),(4,.add .i64 (m:=(u*x4)) (n:=(dgN s x j)) i6)] [12,13] [(10,vI ((u*x4)+(dgN s x j)))] [] [] h fun a w h=>za5 (za0 (Jf 6 [(0,.j1 j)] [] [(37,vI ((j:Int)+1))] h fun a w h=>za0 ?_));replace h:=cvM [] [(10,vI (hrn s x (j+1)))] [] [] (by rw [show ((u*x4)+(dgN s x j):Int)=(hrn s x (j+1)) from (by rw [hI2];exact zk5 hx4)]; try kernel_rfl) h;refine za9 (x:=(j,u)) (y:=(j+1,(hrn s x (j+1)))) h ?_ ?_
    ·have:=zac hx4;exact ⟨by omega,rfl,by rw [<- zk5 hx4,<- hI2];omega,by rw [<- zk5 hx4,<- hI2];omega⟩
    show (wdl s s.vars.length).length - (j+1)<(wdl s s.vars.length).length - j;have:=zac hx4;omega
   obtain ⟨x9,hx9⟩:=gl x.locs j;refine Jf 6 [(3,.g (xD 69 67 zdj (za4 hx9 (f:=za8)) (d8 68 _)))] [11,14,48] [(13,vI x9)] h fun a w h=>za0 ?_;have hdi:=dgN_in hcn hft hx4;have hsm:x9=dgN s x j:=by unfold dgN;rw [if_pos (by have:=dF hc6;omega),hx9];rfl
   replace h:=cvM [] [(13,vI (dgN s x j))] [] [] (by rw [show (x9:Int)=(dgN s x j) from hsm]; try kernel_rfl) h;have hms:=hrn_step hI3 hI4 hdi.1 hdi.2;rw [<- zhl hx4] at hms;have hge:=prd_ge hpo (j+1);refine Jh 6 [(2,.mul .i64 (m:=u) (n:=x4) i6),(4,.add .i64 (m:=(u*x4)) (n:=(dgN s x j)) i6)] [12,13] [(10,vI ((u*x4)+(dgN s x j)))] [] [] h fun a w h=>za5 (za0 (Jf 6 [(0,.j1 j)] [] [(37,vI ((j:Int)+1))] h fun a w h=>za0 ?_));replace h:=cvM [] [(10,vI (hrn s x (j+1)))] [] [] (by rw [show ((u*x4)+(dgN s x j):Int)=(hrn s x (j+1)) from (by rw [hI2];exact zk5 hx4)]; try kernel_rfl) h;refine za9 (x:=(j,u)) (y:=(j+1,(hrn s x (j+1)))) h ?_ ?_
   ·have:=zac hx4;exact ⟨by omega,rfl,by rw [<- zk5 hx4,<- hI2];omega,by rw [<- zk5 hx4,<- hI2];omega⟩
   show (wdl s s.vars.length).length - (j+1)<(wdl s s.vars.length).length - j;have:=zac hx4;omega
  refine exA (Jq 6 [] [(4,vI u),(5,vb true)] [] h fun a w h=>qV (zdp [.c (.d (.raw (.int .i64 u))),.c (.d (.raw (.bool true)))] h Exit.ret (.inl rfl)  rfl ⟨vT9,vT9,trivial⟩ ?_));rw [show nmT s x=(hrn s x j,true) from (if_pos ⟨hcn,hft⟩).trans (by rw [show s.procs.length+s.vars.length=j by have:=dF hc7;omega]),hI2];rfl
 rw [hc8] at h;refine Jq 6 [] [(2,vp 4 0),(3,vp 5 0),(4,vI 0),(5,vb false),(29,vb true)] [(4,.box (zat s)),(5,.box [.d (.sl 1 (x.locs.map za8)),.d (.sl 2 (x.vals.map ziD))])] h fun a w h=>cS true h (fun _=>?_) nofun
 refine Je 6 [] [29] [] h fun a w h=>qV (za2 (zdp [.c (.d (.raw (.int .i64 0))),.c (.d (.raw (.bool false)))] h Exit.ret (.inl rfl)  rfl ⟨vT9,vT9,trivial⟩ ?_));rw [show nmT s x=(0,false) from if_neg (fun h8=>by have:=h8.1;rw [hc8] at this;cases this)];rfl
def CanS (y:StD):Prop:=∀ z ∈ y.vals,z=eB z.val
theorem zof (z:Int):eB z=eB (eB z).val:=by rw [eC]
theorem can_vals (hy:CanS y):(y.vals.map ZI.val).map eB=y.vals:=by
 rw [c8]
 exact (List.map_congr_left (f:=eB ∘ ZI.val) (g:=id) fun z hz=>(hy z hz).symm).trans (List.map_id _)
theorem zl4 {z:StD} (hy:CanS y) (hz:CanS z) (h:zde y z=true):y=z:=by
 unfold zde at h
 rw [bI,decide_eq_true_eq,decide_eq_true_eq] at h
 have h2:y.vals=z.vals:=by rw [<- can_vals hy,<- can_vals hz,h.2]
 have h1:=h.1
 cases y;cases z
 simp only at h1 h2
 rw [h1,h2]
theorem zdg (s:zab) (n:Int):CanS (stN s n):=fun z hz=>by
 obtain ⟨v,_,rfl⟩:=bF.1 hz
 exact zof _
def unD:List Int->List Int->Int
  | _ :: ns,d :: ds=>d*prd ns+unD ns ds
  | _,_=>0
theorem unD_dgs:∀ (ns:List Int) (n:Int),unD ns (dgs ns n).1+(dgs ns n).2*prd ns=n
 | [],n=>by show 0+n*1=n;omega
 | w :: ns,n=>by
  show (dgs ns n).2 % w*prd ns+unD ns (dgs ns n).1+(dgs ns n).2 / w*(w*prd ns)=n
  have ih:=unD_dgs ns n
  have h1:=dW (dgs ns n).2 w
  have h2:(dgs ns n).2 / w*(w*prd ns)=w*((dgs ns n).2 / w)*prd ns:=by rw [<- Int.mul_assoc,Int.mul_comm ((dgs ns n).2 / w) w]
  have h3:(dgs ns n).2 % w*prd ns+w*((dgs ns n).2 / w)*prd ns=(dgs ns n).2*prd ns:=by rw [<- Int.add_mul,h1]
  omega
theorem dgs_un:∀ (ns ds:List Int) (q:Int),ns.length=ds.length->(∀ (i:Nat) (w:Int),ns[i]?=some w->0<=(ds[i]?).getD 0/\(ds[i]?).getD 0<w)->dgs ns (unD ns ds+q*prd ns)=(ds,q)
 | [],[],q,_,_=>by show (([]:List Int),0+q*1)=_;rw [Int.mul_one,Int.zero_add]
 | w :: ns,d :: ds,q,hl,h=>by
  have e:d*prd ns+unD ns ds+q*(w*prd ns)=unD ns ds+(d+q*w)*prd ns:=by rw [Int.add_mul,Int.mul_assoc];omega
  have ih:=dgs_un ns ds (d+q*w) (by simpa using hl) fun i w hw=>by simpa using h (i+1) w (by simpa using hw)
  have h0:0<=d/\d<w:=h 0 w rfl
  show ((dgs ns (d*prd ns+unD ns ds+q*(w*prd ns))).2 % w :: (dgs ns (d*prd ns+unD ns ds+q*(w*prd ns))).1,(dgs ns (d*prd ns+unD ns ds+q*(w*prd ns))).2 / w)=_
  rw [e,ih]
  show ((d+q*w) % w :: ds,(d+q*w) / w)=_
  rw [Int.add_mul_emod_self_right,Int.emod_eq_of_lt h0.1 h0.2,Int.add_mul_ediv_right _ _ (by omega),dX h0.1 h0.2,Int.zero_add]
 | [],_ :: _,_,hl,_=>by cases hl
 | _ :: _,[],_,hl,_=>by cases hl
theorem dgs_lt (h:∀ w ∈ ns,1<=w) (h0:0<=n) (h1:n<prd ns):(dgs ns n).2=0:=by rw [dgs_div h];exact dX h0 h1
theorem dgs_inj2 (h:∀ w ∈ ns,1<=w) {m:Int} (h0:0<=n) (h1:n<prd ns) (h2:0<=m) (h3:m<prd ns) (e:(dgs ns n).1=(dgs ns m).1):n=m:=by
 have a:=unD_dgs ns n
 have b:=unD_dgs ns m
 rw [dgs_lt h h0 h1,dD] at a
 rw [dgs_lt h h2 h3,dD] at b
 rw [<- a,<- b,e]
theorem dgs_dig (h:∀ w ∈ ns,1<=w) (n:Int) (hi:ns[i]?=some w):0<=((dgs ns n).1[i]?).getD 0/\((dgs ns n).1[i]?).getD 0<w:=by
 have hw:=h w (bV hi)
 rw [dgs_get hi]
 exact ⟨Int.emod_nonneg _ (by omega),Int.emod_lt_of_pos _ (by omega)⟩
theorem zl1 (s:zab) (n:Int):(zcu s n).length=s.procs.length+s.vars.length:=(zf4 _ _).trans (zeh _ _)
theorem wd_within {d:Int} (h:(wdB b).2=true) (h0:0<=d) (h1:d<(wdB b).1):zar b (eB (b.lo.val+d))=true:=by
 cases hb:b.is_ with
 | false=>unfold zar;rw [hb];rfl
 | true =>
  by_cases h2:0<b.hi.val - b.lo.val+1
  ·by_cases h3:b.hi.val - b.lo.val+1<=1048576
   ·rw [wdB_val hb h2 h3] at h1
    have h1:d<b.hi.val - b.lo.val+1:=h1
    unfold zar
    rw [hb,eC,zh9,zh9,decide_eq_true (show b.lo.val<=b.lo.val+d by omega),decide_eq_true (show b.lo.val+d<=b.hi.val by omega)];rfl
   ·rw [wdB_big hb (by omega)] at h;cases h
  ·rw [wdB_zero hb (by omega)] at h1;have h1:d<0:=h1;omega
theorem fit_stN {s:zab} (hp:zbp s) (hc:(zb3 s).2=true) (h0:0<=n) (h1:n<(zb3 s).1):zbk s (stN s n)=true:=by
 obtain ⟨hpo,_⟩:=zhv hp hc h0 h1
 have hl:=zl1 s n
 have hl1:(stN s n).locs.length=s.procs.length:=by show ((zcu s n).take _).length=_;rw [bU];omega
 have hl2:(stN s n).vals.length=s.vars.length:=by show ((List.range _).map _).length=_;rw [bC,cU]
 unfold zbk
 rw [bI,bI,decide_eq_true_eq]
 refine ⟨⟨hl1,hl2⟩,zbf.2 fun i hi=>?_,zbf.2 fun v hv=>?_⟩
 ·rw [hl1] at hi
  have hw:(wdl s s.vars.length)[i]?=some (zeq s.procs[i]):=by rw [wdl_loc hi,bG hi];rfl
  have hd:=dgs_dig hpo n hw
  unfold zgi zeb
  rw [decide_eq_true_eq,bG hi]
  have e:(stN s n).locs[i]?=(zcu s n)[i]?:=by show ((zcu s n).take _)[i]?=_;rw [List.getElem?_take];exact if_pos hi
  rw [e];exact hd
 ·rw [hl2] at hv
  have hd:=dgs_dig hpo n (wdl_val (s:=s) hv)
  have e:(stN s n).vals[v]?=some (zf9 s n v):=by show ((List.range _).map _)[v]?=_;rw [bM,bW hv];rfl
  unfold zhr
  rw [e]
  exact wd_within (zbf.1 (zfs hc) v hv) hd.1 hd.2
theorem cnt_pos2 {s:zab} (hc:(zb3 s).2=true) (h0:0<=n) (h1:n<(zb3 s).1):(zb3 s).1=prd (wdl s s.vars.length):=by
 rcases cnt_val hc with h | h
 ·omega
 ·exact h.1
theorem stN_inj {s:zab} (hp:zbp s) (hc:(zb3 s).2=true) {m:Int} (h0:0<=n) (h1:n<(zb3 s).1) (h2:0<=m) (h3:m<(zb3 s).1) (e:stN s n=stN s m):n=m:=by
 obtain ⟨hpo,_⟩:=zhv hp hc h0 h1
 have hcp:=cnt_pos2 hc h0 h1
 refine dgs_inj2 hpo h0 (by omega) h2 (by omega) (dE fun i=>?_)
 show (zcu s n)[i]?=(zcu s m)[i]?
 have hln:=zl1 s n
 have hlm:=zl1 s m
 by_cases hi:i<s.procs.length
 ·have:=congrArg (fun y:StD=>y.locs[i]?) e
  simp only [stN] at this
  rwa [dG hi,dG hi] at this
 ·by_cases hi2:i<s.procs.length+s.vars.length
  ·obtain ⟨v,rfl⟩:∃ v,i=s.procs.length+v:=⟨i - s.procs.length,by omega⟩
   have:=congrArg (fun y:StD=>y.vals[v]?) e
   simp only [stN] at this
   rw [bM,bM,bW (by omega)] at this
   simp only [cP,Option.some.injEq] at this
   have:=congrArg ZI.val this
   unfold zf9 at this
   rw [eC,eC] at this
   rw [bG (by omega),bG (by omega)] at this ⊢
   simp only [cE] at this
   rw [show (zcu s n)[s.procs.length+v]=(zcu s m)[s.procs.length+v] by omega]
  ·rw [cC (by omega),cC (by omega)]
def dgL (s:zab) (y:StD):List Int:=(List.range (s.procs.length+s.vars.length)).map (dgN s y)
theorem dgL_at (s:zab) (y:StD) (h:i<s.procs.length+s.vars.length):(dgL s y)[i]?=some (dgN s y i):=by unfold dgL;rw [bM,bW h];rfl
theorem stN_sur {s:zab} (hc:(zb3 s).2=true) (hf:zbk s y=true) (hy:CanS y):∃ k:Nat,(k:Int)<(zb3 s).1/\stI s k=y:=by
 have hpo:=fit_pos hc hf
 have hpp:=zh1 hpo
 have hcp:(zb3 s).1=prd (wdl s s.vars.length):=by
  have h1:=fit_prd hc hf
  unfold zb3 prdB
  rw [if_pos (zfs hc),if_neg (fun h0=>by have:=hpo 0 h0;omega),if_pos h1]
 have hlw:=zeh s s.vars.length
 have hd:=dgs_un (wdl s s.vars.length) (dgL s y) 0 (by rw [hlw];unfold dgL;rw [bC,cU]) fun i w hw=>by
  rw [dgL_at s y (by have:=zac hw;omega)]
  exact dgN_in hc hf hw
 rw [dD,Int.add_zero] at hd
 have h0:=dgs_div hpo (unD (wdl s s.vars.length) (dgL s y))
 rw [hd] at h0
 have h1:=dW (unD (wdl s s.vars.length) (dgL s y)) (prd (wdl s s.vars.length))
 rw [<- show (0:Int)=_ from h0,Int.mul_zero] at h1
 have h2:=Int.emod_nonneg (unD (wdl s s.vars.length) (dgL s y)) (show prd (wdl s s.vars.length)≠0 by omega)
 have h3:=Int.emod_lt_of_pos (unD (wdl s s.vars.length) (dgL s y)) (show 0<prd (wdl s s.vars.length) by omega)
 generalize hN:unD (wdl s s.vars.length) (dgL s y)=n at *
 have hdg:zcu s n=dgL s y:=congrArg Prod.fst hd
 obtain ⟨k,rfl⟩:∃ k:Nat,n=(k:Int):=⟨n.toNat,by omega⟩
 refine ⟨k,by omega,?_⟩
 have hfl:=zcr hf
 unfold stI stN
 have e1:(zcu s (k:Int)).take s.procs.length=y.locs:=dE fun i=>by
  by_cases hi:i<s.procs.length
  ·rw [dG hi,hdg,dgL_at s y (by omega)]
   unfold dgN
   rw [if_pos hi,bG (by omega)];rfl
  ·rw [cC (by rw [bU];omega),cC (by omega)]
 have e2:(List.range s.vars.length).map (zf9 s (k:Int))=y.vals:=dE fun v=>by
  by_cases hv:v<s.vars.length
  ·rw [bM,bW hv]
   show some (zf9 s (k:Int) v)=_
   unfold zf9
   rw [hdg,dgL_at s y (by omega)]
   unfold dgN
   rw [if_neg (by omega),dC,bG (show v<y.vals.length by omega)]
   show some (eB (_+(_ - _)))=_
   rw [show ∀ a b:Int,a+(b - a)=b from fun a b=>by omega]
   exact congrArg some (hy _ (dH _)).symm
  ·rw [cC (by rw [bC,cU];omega),cC (by omega)]
 rw [e1,e2]
theorem pv_inj {s:zab} {d e:Nat} (h:pv s v d=pv s v e):d=e:=by
 have:=congrArg ZI.val h
 unfold pv at this
 rw [eC,eC] at this
 omega
theorem pkS_nodup {s:zab} (h:ps.Nodup):(pkS s v ps).Nodup:=by
 unfold pkS List.Nodup
 rw [List.pairwise_flatMap]
 refine ⟨fun p _=>?_,h.imp fun {a b} hab x hx y hy e=>?_⟩
 ·unfold pk1
  rw [List.pairwise_map]
  exact List.nodup_range.imp fun {a b} hab e=>hab (pv_inj (by simpa using e))
 ·obtain ⟨d,_,rfl⟩:=bF.1 hx
  obtain ⟨d2,_,rfl⟩:=bF.1 hy
  exact hab (List.append_inj_left' e rfl)
theorem pkT_nodup {s:zab}:∀ (n:Nat) {vs:List Int}, vs.length=n->(pkT s vs).Nodup
 | 0,vs,hn=>by rw [cH.1 hn];exact List.pairwise_singleton _ _
 | n+1,vs,hn=>by
  rcases dU vs with rfl | ⟨ws,x,rfl⟩
  ·cases hn
  ·rw [dV] at hn ⊢
   rw [zih]
   exact pkS_nodup (pkT_nodup n (by simpa using hn))
theorem zero_of:zdi=eB zdi.val:=by kernel_rfl
theorem can_new (x:StD) (c:zb1) (v:Nat):zbx x c v=eB (zbx x c v).val:=by
 unfold zbx
 split
 ·exact zof _
 ·split
  ·exact zero_of
  ·exact zof _
theorem can_newV (x:StD) (c:zb1) (p:List ZI) (v:Nat):zca x c p v=eB (zca x c p v).val:=by
 unfold zca
 split
 ·split
  ·exact zof _
  ·exact zero_of
 ·exact can_new x c v
theorem can_outS (s:zab) (x:StD) (c:zb1) (p:List ZI):CanS (zcz s x c p):=fun z hz=>by
 obtain ⟨v,_,rfl⟩:=bF.1 hz
 exact can_newV x c p v
theorem can_clone (h:CanS x):cloneS x=x:=by
 have:=can_vals h
 rw [c8] at this
 unfold cloneS clZ
 cases x
 simp only at this ⊢
 rw [show (fun z:ZI=>eB z.val)=eB ∘ ZI.val from rfl,this]
theorem goC_yes {s:zab} {c:zb1} {p:List ZI} (h:(goC s x c p).2=true):zad s x c=true/\zbk s (zcz s x c p)=true/\(goC s x c p).1=zcz s x c p:=by
 unfold goC at h ⊢
 split at h
 ·rename_i hh;rw [if_pos hh];exact ⟨hh.1,hh.2,rfl⟩
 ·cases h
theorem act_nat {s:zab} {c:zb1} (hc:s.acts[i]?=some c):zf8 s (i:Int)=some c:=by
 unfold zf8;rw [if_pos (by omega),Int.toNat_natCast,hc]
theorem goS_act {s:zab} {c:zb1} (hc:s.acts[i]?=some c) (p:List ZI):goS s x (i:Int) p=goC s x c p:=by
 unfold goS;rw [if_neg (fun h=>by have:=h.1;omega),act_nat hc]
theorem leads_act {s:zab} {c:zb1} (hc:s.acts[i]?=some c):zcp s x (i:Int) y=zh5 s x c y:=by
 unfold zcp;rw [if_neg (by omega),act_nat hc]
theorem can_act {s:zab} {c:zb1} (hc:s.acts[i]?=some c):can s x (i:Int)=canC s x c:=by
 unfold can;rw [act_nat hc]
theorem cntFree_mono (c:zb1):∀ {a b:Nat}, a<=b->zah c a<=zah c b:=by
 intro a b h
 induction h with
 | refl=>exact bR _
 | step h ih=>rw [zah];omega
theorem freeI_cnt (c:zb1):∀ v,(zaz c v).length=zah c v
 | 0=>rfl
 | v+1=>by
  cases h:zax c v with
  | true=>rw [<- freeI_yes h,bH,freeI_cnt c v,zfi h];rfl
  | false=>rw [<- zky h,freeI_cnt c v,ziw h]
theorem pick_eq {s:zab} {c:zb1} {p:List ZI} (hp:p ∈ pkT s (zaz c s.vars.length)):zcg (zcz s x c p) c s.vars.length=p:=by
 have hl:p.length=zah c s.vars.length:=(pk_each hp).trans (freeI_cnt c _)
 have key:∀ n,n<=s.vars.length->zcg (zcz s x c p) c n=p.take (zah c n):=by
  intro n
  induction n with
  | zero=>intro _;rfl
  | succ n ih =>
   intro hn
   rw [zcg,ih (by omega)]
   cases h:zax c n with
   | false=>rw [if_neg Bool.noConfusion,ziw h]
   | true =>
    have h1:=cntFree_mono c hn
    rw [zfi h] at h1
    have hz:=bG (l:=p) (i:=zah c n) (by omega)
    have hm:=bV hz
    generalize p[zah c n]=z at hz hm
    obtain ⟨v,d,_,e⟩:=pk_val _ rfl hp z hm
    have ez:z=eB z.val:=by rw [e];exact zof _
    have eo:((zcz s x c p).vals[n]?).getD zdi=z:=by
     show (((List.range s.vars.length).map (zca x c p))[n]?).getD zdi=z
     rw [bM,bW (by omega)]
     show zca x c p n=z
     unfold zca
     rw [if_pos h,hz]
     exact ez.symm
    rw [if_pos rfl,zfi h,bJ,hz,eo];rfl
 rw [key _ (bR _),<- hl,List.take_length]
theorem pick_mem {s:zab} (c:zb1) (hc:(zb3 s).2=true) (hf:zbk s y=true) (hy:CanS y):∀ n,n<=s.vars.length->zcg y c n ∈ pkT s (zaz c n)
 | 0,_=>by show [] ∈ [[]];simp
 | n+1,hn=>by
  have ih:=pick_mem c hc hf hy n (by omega)
  rw [zcg]
  cases h:zax c n with
  | false=>rw [if_neg Bool.noConfusion,<- zky h];exact ih
  | true =>
   rw [if_pos rfl,<- freeI_yes h,zih]
   refine b9.2 ⟨_,ih,bF.2 ?_⟩
   have hf0:=hf
   unfold zbk at hf
   simp only [bI,decide_eq_true_eq] at hf
   obtain ⟨⟨_,hv⟩,_,h2⟩:=hf
   have hz:=bG (l:=y.vals) (i:=n) (by omega)
   have hm:=bV hz
   generalize y.vals[n]=z at hz hm
   have h3:=zbf.1 h2 n (by omega)
   unfold zhr at h3
   rw [hz] at h3
   have h4:=wd_in (zbf.1 (zfs hc) n (by omega)) h3
   rw [Int.toNat_natCast]
   refine ⟨(z.val - (zam s n).lo.val).toNat,cF.2 ?_,?_⟩
   ·unfold wdV;simp only [cE] at h4;omega
   ·rw [hz]
    show _++[pv s n _]=_++[z]
    simp only [cE] at h4
    have e:pv s n (z.val - (zam s n).lo.val).toNat=z:=by
     unfold pv
     rw [cJ h4.1,show (zam s n).lo.val+(z.val - (zam s n).lo.val)=z.val by omega]
     exact (hy z hm).symm
    rw [e]
theorem zif (y:StD):zde y y=true:=by unfold zde;simp
theorem leads_can {s:zab} {c:zb1} (hc:(zb3 s).2=true) (h:zh5 s x c y=true):canC s x c=true:=by
 unfold zh5 at h
 simp only [bI] at h
 obtain ⟨⟨he,hfy⟩,hg,_⟩:=h
 obtain ⟨_,hfo,_⟩:=goC_yes hg
 unfold canC
 rw [he,cK]
 unfold zbk at hfo hfy
 simp only [bI,decide_eq_true_eq] at hfo hfy
 obtain ⟨⟨_,hv1⟩,_,h1⟩:=hfo
 obtain ⟨⟨_,hv2⟩,_,h2⟩:=hfy
 refine zbf.2 fun v hv=>?_
 unfold zjz
 cases hfr:zax c v with
 | true =>
  rw [if_pos rfl]
  have h3:=zbf.1 h2 v (by omega)
  unfold zhr zar at h3
  cases hb:(zam s v).is_ with
  | false=>rfl
  | true =>
   rw [hb] at h3
   simp only [cO,cZ,bI,decide_eq_true_eq] at h3
   have h4:=of_decide_eq_true ((zh9 _ _).symm.trans (decide_eq_true h3.1))
   have h5:=of_decide_eq_true ((zh9 _ _).symm.trans (decide_eq_true h3.2))
   rw [zf5,decide_eq_false (by omega)];rfl
 | false =>
  rw [if_neg Bool.noConfusion]
  have h3:=zbf.1 h1 v (by omega)
  unfold zhr at h3
  have e:((zcz s x c (zcg y c s.vars.length)).vals[v]?).getD zdi=zbx x c v:=by
   show (((List.range s.vars.length).map (zca x c _))[v]?).getD zdi=_
   rw [bM,bW hv]
   exact zhn hfr
  rw [e] at h3
  exact h3
def isE (a:Int) (y:StD) (e:zaq):Bool:=e.act == a && zde e.to_ y
def met (es:List zaq) (a:Int) (y:StD):Nat:=(es.filter (isE a y)).length
theorem met_app (xs ys:List zaq) (a:Int) (y:StD):met (xs++ys) a y=met xs a y+met ys a y:=by unfold met;rw [List.filter_append,bH]
theorem met_cons (e:zaq) (es:List zaq) (a:Int) (y:StD):met (e :: es) a y=(if isE a y e=true then 1 else 0)+met es a y:=by
 unfold met
 cases h:isE a y e with
 | true=>rw [dI h,bT,if_pos rfl];omega
 | false=>rw [cV (by rw [h];exact Bool.noConfusion),if_neg Bool.noConfusion];omega
theorem met_none {es:List zaq} {a:Int} (h:∀ e ∈ es,e.act≠a):met es a y=0:=by
 unfold met
 rw [cH,dY]
 intro e he h2
 unfold isE at h2
 rw [bI,beq_iff_eq] at h2
 exact h e he h2.1
variable {e:zaq}
theorem egP_act {s:zab} {i:Int} (h:e ∈ egP s x i ps):∃ p ∈ ps,(goS s x i p).2=true/\e=⟨i,(goS s x i p).1⟩:=by
 obtain ⟨p,hp,h2⟩:=b9.1 h
 split at h2
 ·rename_i hk;exact ⟨p,hp,hk,bK.1 h2⟩
 ·cases h2
theorem egA_act {s:zab} (h:e ∈ egA s x i):∃ c p,s.acts[i]?=some c/\p ∈ pkT s (zaz c s.vars.length)/\(goS s x (i:Int) p).2=true/\e=⟨(i:Int),(goS s x (i:Int) p).1⟩:=by
 unfold egA at h
 split at h
 ·cases h
 ·rename_i c hc
  split at h
  ·obtain ⟨p,hp,h2⟩:=egP_act h;exact ⟨c,p,hc,hp,h2⟩
  ·cases h
theorem met_P (s:zab) (x y:StD) (i:Int):∀ ps:List (List ZI),met (egP s x i ps) i y=(ps.filter fun p=>(goS s x i p).2 && zde (goS s x i p).1 y).length
 | []=>rfl
 | p :: ps=>by
  show met ((if (goS s x i p).2=true then [(⟨i,(goS s x i p).1⟩:zaq)] else [])++egP s x i ps) i y=_
  rw [met_app,met_P s x y i ps]
  cases h:(goS s x i p).2 with
  | false =>
   rw [if_neg Bool.noConfusion,cV (by rw [h];simp)]
   show 0+_=_;omega
  | true =>
   rw [if_pos rfl]
   have e:met [(⟨i,(goS s x i p).1⟩:zaq)] i y=if zde (goS s x i p).1 y=true then 1 else 0:=by
    rw [met_cons];unfold isE;simp [met]
   rw [e]
   cases h2:zde (goS s x i p).1 y with
   | true=>rw [dI (by rw [h,h2];rfl),bT,if_pos rfl];omega
   | false=>rw [cV (by rw [h,h2];simp),if_neg Bool.noConfusion];omega
theorem nodup_one {q:α}:∀ {l:List α}, l.Nodup->(∀ p ∈ l,p=q)->q ∈ l->l.length=1
 | [],_,_,h=>by cases h
 | [_],_,_,_=>rfl
 | a :: b :: t,hn,ha,_=>by
  have h1:=ha a (by simp)
  have h2:=ha b (by simp)
  rw [h1,h2] at hn
  simp at hn
theorem met_A {s:zab} {c:zb1} (hc:(zb3 s).2=true) (ha:s.acts[i]?=some c) (hf:zbk s y=true) (hy:CanS y):met (egA s x i) (i:Int) y=if zcp s x (i:Int) y=true then 1 else 0:=by
 rw [leads_act ha]
 cases hk:can s x (i:Int) with
 | false =>
  rw [egA_no hk,if_neg (fun h=>by have:=leads_can hc h;rw [<- can_act ha,hk] at this;cases this)];rfl
 | true =>
  rw [egA_yes ha hk,met_P]
  have one:∀ p ∈ pkT s (zaz c s.vars.length),((goS s x (i:Int) p).2 && zde (goS s x (i:Int) p).1 y)=true->p=zcg y c s.vars.length/\zh5 s x c y=true:=by
   intro p hp h
   rw [bI,goS_act ha] at h
   obtain ⟨he,hfo,e1⟩:=goC_yes h.1
   have e2:zcz s x c p=y:=zl4 (can_outS s x c p) hy (by rw [<- e1];exact h.2)
   have e3:=pick_eq (x:=x) hp
   rw [e2] at e3
   refine ⟨e3.symm,?_⟩
   unfold zh5
   rw [e3,e1,h.1,he,hf,e2,zif];rfl
  cases hl:zh5 s x c y with
  | true =>
   rw [if_pos rfl]
   have hl0:=hl
   unfold zh5 at hl
   simp only [bI] at hl
   refine nodup_one (q:=zcg y c s.vars.length) ((pkT_nodup _ rfl).filter _) (fun p hp=>(one p (cG.1 hp).1 (cG.1 hp).2).1) (cG.2 ⟨pick_mem c hc hf hy _ (bR _),?_⟩)
   rw [goS_act ha,hl.2.1]
   obtain ⟨_,_,e1⟩:=goC_yes hl.2.1
   have e2:=zl4 hy (by rw [e1];exact can_outS _ _ _ _) hl.2.2
   rw [<- e2,zif];rfl
  | false =>
   rw [if_neg Bool.noConfusion,cH,dY]
   intro p hp h
   have:=(one p hp h).2
   rw [hl] at this;cases this
theorem stay {s:zab} (h:CanS x):goS s x (-1) []=if zej s x=true then (x,true) else (st0,false):=by
 unfold goS
 cases hk:zej s x with
 | true=>rw [if_pos ⟨rfl,rfl⟩,can_clone h];rfl
 | false=>rw [if_neg (fun h=>by cases h.2)];rfl
theorem met_S {s:zab} (hx:CanS x):met (egP s x (-1) [[]]) (-1) y=if zcp s x (-1) y=true then 1 else 0:=by
 rw [met_P,show zcp s x (-1) y=(zej s x && zde x y) from if_pos rfl]
 have e:((goS s x (-1) []).2 && zde (goS s x (-1) []).1 y)=(zej s x && zde x y):=by
  rw [stay hx]
  cases zej s x <;> rfl
 cases h:(zej s x && zde x y) with
 | true=>rw [dI (by rw [e,h])];rfl
 | false=>rw [cV (by rw [e,h];exact Bool.noConfusion)];rfl
theorem met_N {s:zab} {a:Nat}:∀ n,met (egN s x n) (a:Int) y=if a<n then met (egA s x a) (a:Int) y else 0
 | 0=>rfl
 | n+1=>by
  rw [egN_at,met_app,met_N n]
  by_cases h:a=n
  ·subst h;rw [if_neg (by omega),if_pos (by omega),dL]
  ·rw [met_none (es:=egA s x n) (fun e he=>by obtain ⟨c,p,_,_,_,rfl⟩:=egA_act he;show (n:Int)≠a;omega)]
   by_cases h2:a<n
   ·rw [if_pos h2,if_pos (by omega)];rfl
   ·rw [if_neg h2,if_neg (by omega)]
theorem met_N1 {s:zab}:∀ n,met (egN s x n) (-1) y=0:=fun n=>met_none fun e he=>by
 obtain ⟨i,_,h⟩:=b9.1 he
 obtain ⟨c,p,_,_,_,rfl⟩:=egA_act h
 show (i:Int)≠-1;omega
theorem met_all {s:zab} (hc:(zb3 s).2=true) (hfx:zbk s x=true) (hx:CanS x) (hf:zbk s y=true) (hy:CanS y) (hk:k<s.acts.length+1):met (edT s x) ((k:Int) - 1) y=if zcp s x ((k:Int) - 1) y=true then 1 else 0:=by
 rw [show edT s x=egN s x s.acts.length++egP s x (-1) [[]] from if_pos ⟨hc,hfx⟩,met_app]
 cases k with
 | zero =>
  show met _ (-1) y+met _ (-1) y=_
  rw [met_N1,met_S hx,dL];rfl
 | succ k =>
  rw [show ((k+1:Nat):Int) - 1=(k:Int) by omega,met_N,if_pos (by omega),met_A hc (bG (by omega)) hf hy,met_none (es:=egP s x (-1) [[]]) (fun e he=>by obtain ⟨p,_,_,rfl⟩:=egP_act he;show (-1:Int)≠k;omega),Nat.add_zero]
theorem ed_each {s:zab} (hc:(zb3 s).2=true) (hx:CanS x) (he:e ∈ edT s x):∃ k:Nat,k<cN s/\e.to_=stI s k/\∃ a:Nat,a<s.acts.length+1/\e.act=(a:Int) - 1:=by
 unfold edT at he
 split at he
 ·rename_i hh
  rcases bP.1 he with he | he
  ·obtain ⟨i,hi,h⟩:=b9.1 he
   obtain ⟨c,p,ha,hp,h1,rfl⟩:=egA_act h
   rw [goS_act ha] at h1 ⊢
   obtain ⟨_,hfo,e1⟩:=goC_yes h1
   obtain ⟨k,hk,ek⟩:=stN_sur hc hfo (can_outS s x c p)
   exact ⟨k,cN_lt hk,by rw [e1,ek],i+1,by have:=cF.1 hi;omega,by show (i:Int)=_;omega⟩
  ·obtain ⟨p,hp,h1,rfl⟩:=egP_act he
   rw [bK.1 hp,stay hx] at h1 ⊢
   split at h1
   ·rename_i hk
    obtain ⟨k,hk2,ek⟩:=stN_sur hc hh.2 hx
    exact ⟨k,cN_lt hk2,by rw [if_pos hk,ek],0,by omega,rfl⟩
   ·cases h1
 ·cases he
def sumU (f:Nat->Nat):Nat->Nat
  | 0=>0
  | n+1=>sumU f n+f n
theorem zfu {f g:Nat->Nat}:∀ {n:Nat}, (∀ i,i<n->f i=g i)->sumU f n=sumU g n
 | 0,_=>rfl
 | n+1,h=>by rw [sumU,sumU,zfu (n:=n) fun i hi=>h i (by omega),h n (by omega)]
theorem sumU_add (f g:Nat->Nat):∀ n,sumU (fun i=>f i+g i) n=sumU f n+sumU g n
 | 0=>rfl
 | n+1=>by rw [sumU,sumU,sumU,sumU_add f g n];omega
theorem sumU_zero:∀ n,sumU (fun _=>0) n=0
 | 0=>rfl
 | n+1=>by rw [sumU,sumU_zero n]
theorem sumU_one (k c:Nat):∀ n,sumU (fun i=>if i=k then c else 0) n=if k<n then c else 0
 | 0=>rfl
 | n+1=>by
  rw [sumU,sumU_one k c n]
  by_cases h:n=k
  ·rw [if_pos h,if_neg (by omega),if_pos (by omega),dL]
  ·rw [if_neg h,Nat.add_zero]
   by_cases h2:k<n
   ·rw [if_pos h2,if_pos (by omega)]
   ·rw [if_neg h2,if_neg (by omega)]
def metA (es:List zaq) (y:StD) (n:Nat):Nat:=sumU (fun a=>met es ((a:Int) - 1) y) n
def metT (es:List zaq) (s:zab) (m n:Nat):Nat:=sumU (fun i=>metA es (stI s i) n) m
theorem met_total {s:zab} (hp:zbp s) (hc:(zb3 s).2=true) {n:Nat}:∀ {es:List zaq}, (∀ e ∈ es,∃ k:Nat,k<cN s/\e.to_=stI s k/\∃ a:Nat,a<n/\e.act=(a:Int) - 1)->metT es s (cN s) n=es.length
 | [],_=>by
  unfold metT metA met
  show sumU (fun i=>sumU (fun a=>0) n) _=0
  simp only [sumU_zero]
 | e :: es,h=>by
  have ih:=met_total hp hc (n:=n) (es:=es) fun e he=>h e (by simp [he])
  obtain ⟨k,hk,ek,a0,ha,ea⟩:=h e (by simp)
  have h1:∀ i,i<cN s->metA (e :: es) (stI s i) n=(if i=k then 1 else 0)+metA es (stI s i) n:=fun i hi=>by
   unfold metA
   rw [zfu (fun a _=>met_cons e es ((a:Int) - 1) (stI s i)),sumU_add]
   congr 1
   by_cases hik:i=k
   ·subst hik
    rw [if_pos rfl,zfu (g:=fun a=>if a=a0 then 1 else 0) fun a _=>?_,sumU_one,if_pos ha]
    unfold isE
    rw [ek,zif,ea,Bool.and_true]
    by_cases h2:a=a0
    ·rw [h2,if_pos (by simp),if_pos rfl]
    ·rw [if_neg (by simp;omega),if_neg h2]
   ·rw [if_neg hik,zfu (g:=fun _=>0) fun a _=>?_,sumU_zero]
    refine if_neg fun h2=>hik ?_
    unfold isE at h2
    rw [bI,ek] at h2
    have h3:=zl4 (zdg s _) (zdg s _) h2.2
    unfold cN at hk hi
    have h4:=stN_inj hp hc (show (0:Int)<=k by omega) (by omega) (show (0:Int)<=i by omega) (by omega) h3
    omega
  unfold metT at ih ⊢
  rw [zfu h1,sumU_add,sumU_one,if_pos hk,ih,bT];omega
structure SideD where
  times:ZI
  rest:zd6
def SideD.d (x:SideD):List D:=[.raw (.bool x.times.neg),nsl x.times.abs,.sl 3 (x.rest.parts.map zbe.d),.raw (.bool x.rest.k.neg),nsl x.rest.k.abs]
structure SidesD where
  lows:List SideD
  highs:List SideD
  others:List zen
def SidesD.d (x:SidesD):List D:=[.sl 5 (x.lows.map SideD.d),.sl 5 (x.highs.map SideD.d),.sl 4 (x.others.map zen.d)]
theorem ol1_3:ElZ d6 23 89 5:=ElZ.mk' Tryz.underlying23 _ _ rfl rfl
theorem ol1_4:ElZ d6 36 93 3:=ElZ.mk' Tryz.underlying36 _ _ rfl rfl
theorem ol1_5:ElZ d6 94 105 5:=ElZ.mk' Tryz.underlying94 _ _ rfl rfl
theorem ol1_6:ElZ d6 37 96 10:=ElZ.mk' Tryz.underlying37 _ _ rfl rfl
theorem ol1_7:Sz d6 39 10 true:=Sz.mk' (by kernel_rfl) Tryz.underlying39 _ rfl
theorem ol1_19:SlT d6 52 56 3:=SlT.mk' Tryz.underlying52 (by kernel_rfl)
def zcm:zab:=⟨[⟨#[120]⟩],[⟨true,zdi,eB 3⟩],form0,[⟨⟨#[112]⟩,[⟨#[97]⟩,⟨#[98]⟩],.raw zaa⟩],[⟨0,0,1,form0,[⟨0,false,⟨[⟨0,eB 1⟩],eB 1⟩⟩]⟩]⟩
theorem mem1 {x y:α} (h:x ∈ [y]):x=y:=by simpa using h
theorem zkz:form0.lb:=(za7.lb_eq _).2 ⟨⟨⟨zhe,fun p hp=>(by cases hp)⟩,bE _⟩,fun g hg=>(by cases hg)⟩
theorem few19:zbn 3 zcm=true:=by kernel_rfl
theorem sys19_rd:SysRd zcm:=⟨zkz,fun b hb=>by rw [mem1 hb];exact ⟨zhe,ZI.lb_of 3⟩,fun c hc=>by
 rw [mem1 hc]
 exact ⟨zkz,fun m hm=>by rw [mem1 hm];exact ⟨ZI.lb_of 1,fun p hp=>by rw [mem1 hp];exact ZI.lb_of 1⟩⟩,by decide,fun c hc=>by rw [mem1 hc];decide⟩
theorem zkg:zaw 3 zcm:=few_sys few19 sys19_rd
theorem prc19:zbp zcm:=fun p hp=>by rw [mem1 hp];decide
theorem SSys19_0 :Fn d6 24 [] [] (vG [.d (.sl 1 ([(⟨#[120]⟩:ByteArray)].map zdz)),.d (.sl 5 ([(zaj.mk true (ZI.mk false []) (eB 3))].map zaj.d)),cI 0,cPs [],cB false,.d (nsl []),cB false,cFs [],.d (.sl 3 ([(zb2.mk (⟨#[112]⟩:ByteArray) [(⟨#[97]⟩:ByteArray),(⟨#[98]⟩:ByteArray)] (.raw zaa))].map zb2.d)),.d (.sl 10 [[.raw (.int .i64 0),.raw (.int .i64 0),.raw (.int .i64 1),.raw (.int .i64 0),.raw zaa,.raw (.bool false),nsl [],.raw (.bool false),.raw zaa,.sl 5 ([(zan.mk 0 false (zd6.mk [(zbe.mk 0 (eB 1))] (eB 1)))].map zan.d)]])]) []:=by
 refine fB Tryz.func24 rfl 20 fun w H B a h=>Jq 0 [] [(0,vp 0 0)] [(0,.box [nCl,nCl,cI 0,nCl,cB false,.d (nsl []),cB false,nCl,nCl,nCl])] h fun a w h=>Jg 1 [(0,.call (SROf 1 ⟨by decide,by decide⟩)),(2,.g (bD 4 ([(zbe.mk 0 (eB 1))].map zbe.d) [(3,vG ([cI 0]++zi (eB 1)))] tb_9 (.cons (i:=0) (d8 3 _) (.nil)) (by kernel_rfl) (by simp [zbe.d]))),(3,.call (SROf 1 ⟨by decide,by decide⟩))] [] [(1,vp 1 0)] [] [(1,.box ([cPs [(zbe.mk 0 (eB 1))]]++zi (eB 1)))] h fun a w h=>Jd 2 [(0,.g (Op.buildD (d:=7) (len:=1) (rows:=[(⟨#[120]⟩:ByteArray)].map zdz) (rs:=[]) ty_16 (.cons (i:=0) (d7 (.string (⟨#[120]⟩:ByteArray)) rfl) (.nil)) (by kernel_rfl) rfl (by simp [zdz]) (by decide) (by decide))),(1,.call (SROf 3 ⟨by decide,by decide⟩)),(3,.g (bD 10 ([(zaj.mk true (ZI.mk false []) (eB 3))].map zaj.d) [(9,vG ([cB true,cB false,.d (nsl [])]++zi (eB 3)))] ol1_3 (.cons (i:=0) (d8 9 _) (.nil)) (by kernel_rfl) (by simp [zaj.d]))),(4,.g (Op.buildD (d:=11) (len:=2) (rows:=[(⟨#[97]⟩:ByteArray),(⟨#[98]⟩:ByteArray)].map zdz) (rs:=[]) ty_16 (.cons (i:=0) (d7 (.string (⟨#[97]⟩:ByteArray)) rfl) (.cons (i:=1) (d7 (.string (⟨#[98]⟩:ByteArray)) rfl) (.nil))) (by kernel_rfl) rfl (by simp [zdz]) (by decide) (by decide))),(6,.g (bD 13 ([(zb2.mk (⟨#[112]⟩:ByteArray) [(⟨#[97]⟩:ByteArray),(⟨#[98]⟩:ByteArray)] (.raw zaa))].map zb2.d) [(12,vG [.d (.raw (.string (⟨#[112]⟩:ByteArray))),.d (.sl 1 ([(⟨#[97]⟩:ByteArray),(⟨#[98]⟩:ByteArray)].map zdz)),nCl])] ol1_4 (.cons (i:=0) (d8 12 _) (.nil)) (by kernel_rfl) (by simp [zb2.d]))),(9,.g (bD 16 ([(zan.mk 0 false (zd6.mk [(zbe.mk 0 (eB 1))] (eB 1)))].map zan.d) [(15,vG ([cI 0,cB false,cPs [(zbe.mk 0 (eB 1))]]++zi (eB 1)))] ol1_5 (.cons (i:=0) (d8 15 _) (.nil)) (by kernel_rfl) (by simp [zan.d]))),(11,.g (bD 18 ([[.raw (.int .i64 0),.raw (.int .i64 0),.raw (.int .i64 1),.raw (.int .i64 0),.raw zaa,.raw (.bool false),nsl [],.raw (.bool false),.raw zaa,.sl 5 ([(zan.mk 0 false (zd6.mk [(zbe.mk 0 (eB 1))] (eB 1)))].map zan.d)]]) [(17,vG [cI 0,cI 0,cI 1,cI 0,nCl,cB false,.d (nsl []),cB false,nCl,.d (.sl 5 ([(zan.mk 0 false (zd6.mk [(zbe.mk 0 (eB 1))] (eB 1)))].map zan.d))])] ol1_6 (.cons (i:=0) (d8 17 _) (.nil)) (by kernel_rfl) (by simp)))] [1] [] [(0,.box [.d (.sl 1 ([(⟨#[120]⟩:ByteArray)].map zdz)),.d (.sl 5 ([(zaj.mk true (ZI.mk false []) (eB 3))].map zaj.d)),cI 0,nCl,cB false,.d (nsl []),cB false,nCl,.d (.sl 3 ([(zb2.mk (⟨#[112]⟩:ByteArray) [(⟨#[97]⟩:ByteArray),(⟨#[98]⟩:ByteArray)] (.raw zaa))].map zb2.d)),.d (.sl 10 [[.raw (.int .i64 0),.raw (.int .i64 0),.raw (.int .i64 1),.raw (.int .i64 0),.raw zaa,.raw (.bool false),nsl [],.raw (.bool false),.raw zaa,.sl 5 ([(zan.mk 0 false (zd6.mk [(zbe.mk 0 (eB 1))] (eB 1)))].map zan.d)]])])] h fun a w h=>qV ?_
 replace h:=zb7 0 3 3 [.d (.sl 1 ([(⟨#[120]⟩:ByteArray)].map zdz)),.d (.sl 5 ([(zaj.mk true (ZI.mk false []) (eB 3))].map zaj.d)),cI 0,nCl,cB false,.d (nsl []),cB false,nCl,.d (.sl 3 ([(zb2.mk (⟨#[112]⟩:ByteArray) [(⟨#[97]⟩:ByteArray),(⟨#[98]⟩:ByteArray)] (.raw zaa))].map zb2.d)),.d (.sl 10 [[.raw (.int .i64 0),.raw (.int .i64 0),.raw (.int .i64 1),.raw (.int .i64 0),.raw zaa,.raw (.bool false),nsl [],.raw (.bool false),.raw zaa,.sl 5 ([(zan.mk 0 false (zd6.mk [(zbe.mk 0 (eB 1))] (eB 1)))].map zan.d)]])] h;replace h:=zb7 0 7 6 [.d (.sl 1 ([(⟨#[120]⟩:ByteArray)].map zdz)),.d (.sl 5 ([(zaj.mk true (ZI.mk false []) (eB 3))].map zaj.d)),cI 0,cPs [],cB false,.d (nsl []),cB false,nCl,.d (.sl 3 ([(zb2.mk (⟨#[112]⟩:ByteArray) [(⟨#[97]⟩:ByteArray),(⟨#[98]⟩:ByteArray)] (.raw zaa))].map zb2.d)),.d (.sl 10 [[.raw (.int .i64 0),.raw (.int .i64 0),.raw (.int .i64 1),.raw (.int .i64 0),.raw zaa,.raw (.bool false),nsl [],.raw (.bool false),.raw zaa,.sl 5 ([(zan.mk 0 false (zd6.mk [(zbe.mk 0 (eB 1))] (eB 1)))].map zan.d)]])] h;refine rA 0 [.d (.sl 1 ([(⟨#[120]⟩:ByteArray)].map zdz)),.d (.sl 5 ([(zaj.mk true (ZI.mk false []) (eB 3))].map zaj.d)),cI 0,cPs [],cB false,.d (nsl []),cB false,cFs [],.d (.sl 3 ([(zb2.mk (⟨#[112]⟩:ByteArray) [(⟨#[97]⟩:ByteArray),(⟨#[98]⟩:ByteArray)] (.raw zaa))].map zb2.d)),.d (.sl 10 [[.raw (.int .i64 0),.raw (.int .i64 0),.raw (.int .i64 1),.raw (.int .i64 0),.raw zaa,.raw (.bool false),nsl [],.raw (.bool false),.raw zaa,.sl 5 ([(zan.mk 0 false (zd6.mk [(zbe.mk 0 (eB 1))] (eB 1)))].map zan.d)]])] h ol1_7 rfl ?_;rfl
theorem SSys19:Fn d6 24 [] [] (vG (zat zcm)) []:=by
 refine Fn.resw SSys19_0 (WkV.agg _ _ (.same _ _ _ (.same _ _ _ (.same _ _ _ (.same _ _ _ (.same _ _ _ (.same _ _ _ (.same _ _ _ (.same _ _ _ (.same _ _ _ (.d _ _ _ _ ?_ .nil)))))))))))
 refine Wk.sl _ _ _ (.cons _ _ _ _ ?_ .nil)
 refine .cons _ _ _ _ (.refl _) (.cons _ _ _ _ (.refl _) (.cons _ _ _ _ (.refl _) (.cons _ _ _ _ (.refl _) (.cons _ _ _ _ (.nil _) (.cons _ _ _ _ (.refl _) (.cons _ _ _ _ (.refl _) (.cons _ _ _ _ (.refl _) (.cons _ _ _ _ (.nil _) (.cons _ _ _ _ (.refl _) .nil)))))))))
def zgo (s:zab) (most:Int):Bool:=zbn 3 s && (!(zb3 s).2 || decide ((zb3 s).1<=most))
theorem Ssmall (s:zab) (most:Int) (hr:SysRd s) (hp:zbp s):Fn d6 7 [] [.t (.agg (zat s)),vI most] (vb (zgo s most)) []:=by
 refine fB Tryz.func7 rfl 22 fun w H B a h=>Jq 0 [] [(1,vI most),(2,vp 0 0),(4,vb false)] [(0,.box (zat s))] h fun a w h=>qW (Je 1 [(1,.call (SFewSys s 3 hr))] [] [(9,vb (!(zbn 3 s)))] h fun a w h=>cS (!(zbn 3 s)) h (fun hc1=>?_) (fun hc2=>?_))
 ·refine Je 1 [] [9] [] h fun a w h=>qV (za2 (rT (.c (.d (.raw (.bool false)))) h rfl ?_));rw [show zgo s most=false by unfold zgo;rw [(show (zbn 3 s)=false from by simpa using hc1)];rfl];rfl
 refine qU (za0 (Jg 1 [(1,.call (ORCount s (few_sys (show (zbn 3 s)=true from by simpa using hc2) hr) (by decide) hp))] [2,9] [(5,vI (zb3 s).1),(6,vb (zb3 s).2)] [0] [] h fun a w h=>?_))
 rcases bL (zb3 s).2 with hc3 | hc4
 ·rw [hc3] at h;refine Jq 1 [] [(4,vb (decide ((zb3 s).1<=most)))] [] h fun a w h=>qV (rT (.c (.d (.raw (.bool (decide ((zb3 s).1<=most)))))) h rfl ?_);rw [show zgo s most=decide ((zb3 s).1<=most) by unfold zgo;rw [(show (zbn 3 s)=true from by simpa using hc2),hc3];rfl];rfl
 rw [hc4] at h;refine Jq 1 [] [(4,vb true)] [] h fun a w h=>qV (rT (.c (.d (.raw (.bool true)))) h rfl ?_);rw [show zgo s most=true by unfold zgo;rw [(show (zbn 3 s)=true from by simpa using hc2),hc4];rfl];rfl
theorem all_len (s:zab):(zkd s).length=cN s:=by unfold zkd;rw [bC,cU]
theorem zhb {s:zab} (h:(zkd s)[j]?=some x):j<cN s/\x=stI s j:=by
 have h1:=zac h
 rw [all_len] at h1
 unfold zkd at h
 rw [bM,bW h1] at h
 exact ⟨h1,by injection h with h;exact h.symm⟩
theorem zk6 {s:zab} (h:j<cN s):(j:Int)<(zb3 s).1:=by unfold cN at h;omega
theorem all_ok {s:zab} {L:Nat} (hs:zaw L s) (hp:zbp s) (h:(zkd s)[j]?=some x):zdh (L+3) x:=by
 obtain ⟨h1,rfl⟩:=zhb h
 have h2:=zk6 h1
 exact stN_ok hs hp ⟨cnt_pos (by omega),by omega,h2⟩
theorem st19_yes {s:zab} (h:(zdb s n).2=true):(zb3 s).2=true/\0<=n/\n<(zb3 s).1/\(zdb s n).1=stN s n:=by
 unfold zdb at h ⊢
 split at h
 ·rename_i hh;rw [if_pos hh];exact ⟨hh.1,hh.2.1,hh.2.2,rfl⟩
 ·cases h
theorem st19_ok {s:zab} {L:Nat} (hs:zaw L s) (hp:zbp s) (n:Int):zdh (L+3) (zdb s n).1:=by
 cases h:(zdb s n).2 with
 | true=>obtain ⟨h1,h2,h3,h4⟩:=st19_yes h;rw [h4];exact stN_ok hs hp ⟨h1,h2,h3⟩
 | false =>
  unfold zdb at h ⊢
  split at h
  ·cases h
  ·rename_i hh;rw [if_neg hh];exact ⟨by show 0<=10;decide,by show 0<=10;decide,fun z hz=>by cases hz⟩
theorem st19_can (s:zab) (n:Int):CanS (zdb s n).1:=by
 unfold zdb
 split
 ·exact zdg s n
 ·exact fun z hz=>by cases hz
theorem ed_ok {s:zab} {L:Nat} (hs:zaw L s) (hp:zbp s) (hx:CanS x) (he:(edT s x)[j]?=some e):zdh (L+3) e.to_:=by
 have hm:=bV he
 have hc:(zb3 s).2=true:=by
  unfold edT at hm
  split at hm
  ·rename_i hh;exact hh.1
  ·cases hm
 obtain ⟨k,hk,e1,_⟩:=ed_each hc hx hm
 rw [e1]
 have h2:=zk6 hk
 exact stN_ok hs hp ⟨hc,by omega,h2⟩
section
open Go.WideShapes
section
variable {w:World} {n:Nat}
theorem rep_raw {t e:TypeId} (hu:Tryz.prog.underlying t=some (.slice e)):zfk w n t rawD (fun _=>True):=fun H enc base spare held fuel cs x hn hx=>by
 rcases DataW.trod_slice hu hx with ⟨rfl,_⟩ | ⟨a,len,cap,elems,rest,m,rfl,rfl,_⟩
 ·exact ⟨.raw _,trivial,DR.raw _ rfl,trivial⟩
 ·exact ⟨.raw _,trivial,DR.raw _ rfl,trivial⟩
theorem rep_strs:zfk w n 22 (slD 1 zdz) (fun xs=>xs.length<=maxLen/\∀ x ∈ xs,x.size<=maxLen) :=
 zcw (k:=1) Tryz.underlying22 (by kernel_rfl) (by decide) (fun _=>rfl) (rep_str Tryz.underlying9)
theorem rep_Rel:zfk w n 32 zen.d (fun r=>TLb r.t) :=
 ((zcf (n:=n) Tryz.underlying32 (by kernel_rfl) (.cons (k0:=3) rfl (by kernel_rfl) rep_Term (.cons (k0:=1) rfl (by kernel_rfl) (zhj Tryz.underlying4) .nil))).map (fun p=>⟨p.1,p.2.1⟩) (fun _=>rfl) fun _ h=>h.1).mono (cD n)
theorem zkk:∀ {n:Nat}, zfk w n 35 za7.d za7.lb
 | 0=>zfk.zero
 | n+1=>(zcf (n:=n) Tryz.underlying35 (by kernel_rfl) (.cons (k0:=1) rfl (by kernel_rfl) (zgc Tryz.underlying3) (.cons (k0:=4) rfl (by kernel_rfl) rep_Rel (.cons (k0:=1) rfl (by kernel_rfl) (zcw (k:=6) Tryz.underlying33 (by kernel_rfl) (by decide) za7.d_len zkk) .nil)))).map (fun p=>⟨p.1,p.2.1,p.2.2.1⟩) (fun _=>(za7.d_eq _).trans rfl) fun _ h=>(za7.lb_eq _).2 ⟨⟨h.2.1,bS h.2.2.1.1 (by decide)⟩,h.2.2.1.2⟩
theorem rep_Bound:zfk w n 89 zaj.d (fun b=>Lb b.lo.abs/\Lb b.hi.abs) :=
 ((zcf (n:=n) Tryz.underlying89 (by kernel_rfl) (.cons (k0:=1) rfl (by kernel_rfl) (zhj Tryz.underlying4) (.cons (k0:=2) rfl (by kernel_rfl) rep_ZI (.cons (k0:=2) rfl (by kernel_rfl) rep_ZI .nil)))).map (fun p=>⟨p.1,p.2.1,p.2.2.1⟩) (fun _=>rfl) fun _ h=>⟨h.2.1,h.2.2.1⟩).mono (cD n)
theorem rep_Move:zfk w n 105 zan.d (fun m=>TLb m.t) :=
 ((zcf (n:=n) Tryz.underlying105 (by kernel_rfl) (.cons (k0:=1) rfl (by kernel_rfl) (zgc Tryz.underlying3) (.cons (k0:=1) rfl (by kernel_rfl) (zhj Tryz.underlying4) (.cons (k0:=3) rfl (by kernel_rfl) rep_Term .nil)))).map (fun p=>⟨p.1,p.2.1,p.2.2.1⟩) (fun _=>rfl) fun _ h=>h.2.2.1).mono (cD n)
theorem rep_Moves:zfk w n 94 (slD 5 zan.d) (fun xs=>xs.length<=maxLen/\∀ x ∈ xs,TLb x.t) :=
 zcw (k:=5) Tryz.underlying94 (by kernel_rfl) (by decide) (fun _=>rfl) rep_Move
theorem rep_Bounds:zfk w n 23 (slD 5 zaj.d) (fun xs=>xs.length<=maxLen/\∀ x ∈ xs,Lb x.lo.abs/\Lb x.hi.abs) :=
 zcw (k:=5) Tryz.underlying23 (by kernel_rfl) (by decide) (fun _=>rfl) rep_Bound
theorem rep_Act:zfk w n 96 zb1.d (fun c=>c.guard.lb/\c.moves.length<=maxLen/\∀ m ∈ c.moves,TLb m.t) :=
 ((zcf (n:=n) Tryz.underlying96 (by kernel_rfl) (.cons (k0:=1) rfl (by kernel_rfl) (zgc Tryz.underlying3) (.cons (k0:=1) rfl (by kernel_rfl) (zgc Tryz.underlying3) (.cons (k0:=1) rfl (by kernel_rfl) (zgc Tryz.underlying3) (.cons (k0:=6) rfl (by kernel_rfl) zkk (.cons (k0:=1) rfl (by kernel_rfl) rep_Moves .nil)))))).map (fun p=>⟨p.1,p.2.1,p.2.2.1,p.2.2.2.1,p.2.2.2.2.1⟩) (fun _=>by rw [za7.d_eq];rfl) fun _ h=>⟨h.2.2.2.1,h.2.2.2.2.1⟩).mono (cD n)
theorem rep_Acts:zfk w n 37 (slD 10 zb1.d) (fun xs=>xs.length<=maxLen/\∀ x ∈ xs,x.guard.lb/\x.moves.length<=maxLen/\∀ m ∈ x.moves,TLb m.t) :=
 zcw (k:=10) Tryz.underlying37 (by kernel_rfl) (by decide) (fun _=>rfl) rep_Act
end
section
variable {w:World} {n:Nat} {t:TypeId} {α β:Type} {f:α->List D} {good:α->Prop}
def RepS (w:World) (n:Nat) (t:TypeId) {α:Type} (f:α->List D) (good:α->Prop):Prop :=
  ∀ (H:Type) (enc:TypeId × Value->H) (base:Nat) (spare:Nat->Bool) (held:Bool) (fuel:Nat) (cs:List Value) (x:DataW H × List MemPlace),fuel<=n->DataW.trod enc d6 w base spare held fuel t cs=some x->(∀ q ∈ x.1.weights d6 t,q<=reachBytes)->∃ a:α,good a/\zb4 (DR (all w)) (f a) cs
theorem zfk.s (h:zfk w n t f good):RepS w n t f good:=fun H enc base spare held fuel cs x hn hx _=>h H enc base spare held fuel cs x hn hx
theorem RepS.mono (h:RepS w n t f good) (hm:m<=n):RepS w m t f good:=fun H enc base spare held fuel cs x hn hx=>h H enc base spare held fuel cs x (by omega) hx
theorem RepS.map {f':β->List D} {good':β->Prop} (h:RepS w n t f good) (g:α->β) (hf:∀ a,f' (g a)=f a) (hg:∀ a,good a->good' (g a)):RepS w n t f' good':=fun H enc base spare held fuel cs x hn hx hw=>by
 obtain ⟨a,h1,h2⟩:=h H enc base spare held fuel cs x hn hx hw
 exact ⟨g a,hg a h1,by rw [hf];exact h2⟩
theorem weights_all {H:Type} {P:Program} {e:TypeId} {q:Nat}:∀ {ds:List (DataW H)} {d:DataW H}, d ∈ ds->q ∈ d.weights P e->q ∈ DataW.weightsAll P e ds
 | [],_,h,_=>by cases h
 | c :: ds,d,h,hq=>by
  rw [DataW.weightsAll]
  rcases cW.1 h with rfl | h
  ·exact dZ _ hq
  ·exact List.mem_append_right _ (weights_all h hq)
theorem rep_sliceS {e:TypeId} (hu:Tryz.prog.underlying t=some (.slice e)) (hc:Tryz.prog.cellsOf e=k) (hk:0<k) (hl:∀ a,(f a).length=k) (he:RepS w n e f good):RepS w n t (slD k f) (fun xs=>(xs.length<=maxLen/\xs.length*Tryz.prog.bytesOf e<=reachBytes)/\∀ x ∈ xs,good x):=fun H enc base spare held fuel cs x hn hx hw=>by
 rcases DataW.trod_slice hu hx with ⟨rfl,_⟩ | ⟨a,len,cap,elems,rest,m,rfl,rfl,rfl,_,h2,h3,h4,h5,_,_⟩
 ·exact ⟨[],⟨⟨bE _,by rw [cL,Nat.zero_mul];exact bE _⟩,by simp⟩,DR.nil _ _ _ (fun _=>rfl) (bE _),trivial⟩
 ·rw [hc] at h5
  obtain ⟨xs,hxl,hxs⟩:=listOf (P:=fun i (y:α)=>good y/\∃ cs', w.cells? base (a.add (i*k)) k=some cs'/\zb4 (DR (all w)) (f y) cs') len fun i hi=>by
   have h6:=h5 i hi
   rw [bG (by omega)] at h6
   obtain ⟨cs', g1,g2⟩:=Option.bind_eq_some_iff.1 h6
   obtain ⟨y,g3,g4⟩:=he H enc base spare held m cs' _ (by omega) g2 fun q hq=>hw q (by
    simp only [DataW.weights,hu]
    exact dR _ (dZ _ (weights_all (bF.2 ⟨elems[i],dH _,rfl⟩) hq)))
   exact ⟨y,g3,cs', g1,g4⟩
  have hb9:(elems.length+rest.length)*Tryz.prog.bytesOf e<=reachBytes:=by
   have:=hw ((elems.length+rest.length)*Tryz.prog.bytesOf e) (by simp [DataW.weights,hu])
   exact this
  refine ⟨xs,⟨⟨by omega,bS (Nat.mul_le_mul_right _ (by omega)) hb9⟩,fun y hy=>?_⟩,?_,trivial⟩
  ·obtain ⟨i,hi⟩:=d3.1 hy
   exact (hxs i y hi).1
  ·show DR (all w) (.sl k (xs.map f)) _
   rcases Nat.eq_zero_or_pos len with h0 | h0
   ·subst h0
    have:xs=[]:=cH.1 hxl
    subst this
    exact DR.nil _ _ _ (fun e=>by cases e) h3
   ·have cells:∀ i y,xs[i]?=some y->∀ j,j<k->∃ v d,w.cell? ((a.add (i*k)).add j)=some v/\(f y)[j]?=some d/\DR (all w) d v:=fun i y hy j hj=>by
     obtain ⟨_,cs', g1,g2⟩:=hxs i y hy
     obtain ⟨_,g4,g5⟩:=World.cells?_some g1
     obtain ⟨v,g6,g7⟩:=g2.get j (by rw [hl];exact hj)
     exact ⟨v,_,by rw [g5 j hj];exact g6,bG (by rw [hl];exact hj),g7⟩
    obtain ⟨y0,hy0⟩:∃ y,xs[0]?=some y:=⟨_,bG (by omega)⟩
    obtain ⟨v0,_,c0,_,_⟩:=cells 0 y0 hy0 0 hk
    obtain ⟨b,o,sp⟩:=a
    have hsp:sp=none:=by
     have:=World.cell?_spot c0
     simpa [Addr.add] using this
    subst hsp
    have c0':w.cell? ⟨b,o,none⟩=some v0:=by simpa [Addr.add_mid] using c0
    obtain ⟨arr,ty,fz,hb,_⟩:=cell_at c0'
    have at_:∀ i y,xs[i]?=some y->∀ j,j<k->∃ v d,arr[o+i*k+j]?=some v/\(f y)[j]?=some d/\DR (all w) d v:=fun i y hy j hj=>by
     obtain ⟨v,d,g1,g2,g3⟩:=cells i y hy j hj
     rw [Addr.add_mid,Addr.add_mid] at g1
     obtain ⟨arr', ty', fz', hb', g4⟩:=cell_at g1
     rw [hb] at hb'
     injection hb' with hb'
     injection hb' with e1
     subst e1
     exact ⟨v,d,g4,g2,g3⟩
    have:=DR.sl (H:=all w) k (xs.map f) b o cap arr ty fz (fun i j=>(arr[o+i*k+j]?).getD v0) (by rw [bC];omega) hb (by rw [bC];omega) h3 (fun i hi=>by rw [dM];exact hl _)
     (fun i hi j hj=>by
      have hi':i<xs.length:=by simpa using hi
      obtain ⟨v,d,g1,_,_⟩:=at_ i xs[i] (bG hi') j hj
      rw [g1];rfl)
     (fun i hi j hj=>by
      have hi':i<xs.length:=by simpa using hi
      have hj':j<k:=by rw [dM,hl] at hj;exact hj
      obtain ⟨v,d,g1,g2,g3⟩:=at_ i xs[i] (bG hi') j hj'
      have e1:((xs.map f)[i])[j]?=some d:=by rw [dM];exact g2
      rw [bG hj] at e1
      injection e1 with e1
      rw [e1,g1];exact g3)
    rwa [bC,hxl] at this
def FsS (w:World) (n:Nat) (fs:List Field) (o k:Nat) {α:Type} (f:α->List D) (good:α->Prop):Prop :=
  ∀ (H:Type) (enc:TypeId × Value->H) (base:Nat) (spare:Nat->Bool) (held:Bool) (cs:List Value),(∀ fl ∈ fs,∃ m x,m<=n/\DataW.trod enc d6 w base spare held m fl.type ((cs.drop fl.offset).take (Tryz.prog.cellsOf fl.type))=some x/\∀ q ∈ x.1.weights d6 fl.type,q<=reachBytes)->o+k=cs.length->∃ a:α,good a/\zb4 (DR (all w)) (f a) (cs.drop o)
theorem FsS.nil:FsS w n [] o 0 (fun _:Unit=>[]) (fun _=>True):=fun H enc base spare held cs _ hl=>⟨(),trivial,by rw [cX (by omega)];trivial⟩
theorem FsS.cons {fl:Field} {fs:List Field} {k0 k1:Nat} {f1:β->List D} {good1:β->Prop} (ho:fl.offset=o) (hc:Tryz.prog.cellsOf fl.type=k0) (h0:RepS w n fl.type f good) (h1:FsS w n fs (o+k0) k1 f1 good1) :
  FsS w n (fl :: fs) o (k0+k1) (fun p:α × β=>f p.1++f1 p.2) (fun p=>good p.1/\good1 p.2):=fun H enc base spare held cs hf hl=>by
 obtain ⟨m,x,hm,hx,hw⟩:=hf fl (by simp)
 rw [ho,hc] at hx
 obtain ⟨a,g1,g2⟩:=h0 H enc base spare held m _ x hm hx hw
 obtain ⟨b,g3,g4⟩:=h1 H enc base spare held cs (fun fl' h'=>hf fl' (by simp [h'])) (by omega)
 refine ⟨(a,b),⟨g1,g3⟩,?_⟩
 have e:cs.drop o=(cs.drop o).take k0++cs.drop (o+k0):=by rw [<- List.drop_drop,List.take_append_drop]
 rw [e]
 exact g2.append g4
theorem rep_structS {fs:Array Field} (hu:Tryz.prog.underlying t=some (.struct fs)) (hc:Tryz.prog.cellsOf t=k) (h:FsS w n fs.toList 0 k f good):RepS w (n+1) t f good:=fun H enc base spare held fuel cs x hn hx hw=>by
 obtain ⟨xs,m,rfl,rfl,h2,h3,h4⟩:=DataW.trod_struct hu hx
 obtain ⟨a,g1,g2⟩:=h H enc base spare held cs (fun fl hfl=>by
  obtain ⟨i,hi⟩:=d3.1 hfl
  have hi':fs[i]?=some fl:=by simpa using hi
  have:=h4 i fl hi'
  have hlt:i<xs.length:=by rw [h3];exact (d4.1 hi').1
  rw [bG hlt] at this
  exact ⟨m,_,by omega,this,fun q hq=>hw q (by
   simp only [DataW.weights,hu]
   exact DataW.weights_mem_each (j:=i) (t:=fl.type) (by rw [bM,hi];rfl) (by rw [bM,bG hlt];rfl) q hq)⟩) (by rw [h2,hc];omega)
 exact ⟨a,g1,by simpa using g2⟩
theorem rep_aggS {fs:Array Field} (hu:Tryz.prog.underlying t=some (.struct fs)) (hr:∀ n,RepS w n t f good) {H:Type} {enc:TypeId × Value->H} {base:Nat} {spare:Nat->Bool} {held:Bool} {r:Reach} {b0:Nat} {v:Value} {d:DataW H} {p:List MemPlace} (hv:Value.okWide d6 w r b0 t v) (h:DataW.Trod enc d6 w base spare held t v d p) (hw:∀ q ∈ d.weights d6 t,q<=reachBytes) :
  ∃ (a:α) (cs:List Value),good a/\v = .agg ⟨cs⟩/\zb4 (DR (all w)) (f a) cs:=by
 obtain ⟨cs,rfl,_⟩:=okWide_struct hu hv
 obtain ⟨fuel,hf⟩:=h
 obtain ⟨a,g1,g2⟩:=hr fuel H enc base spare held fuel _ _ (bR _) hf hw
 exact ⟨a,cs.toList,g1,rfl,g2⟩
end
section
variable {w:World} {n:Nat}
theorem rep_strsS:RepS w n 22 (slD 1 zdz) (fun xs=>(xs.length<=maxLen/\xs.length*Tryz.prog.bytesOf 9<=reachBytes)/\∀ x ∈ xs,x.size<=maxLen) :=
 rep_sliceS (k:=1) Tryz.underlying22 (by kernel_rfl) (by decide) (fun _=>rfl) (rep_str Tryz.underlying9).s
theorem rep_ProcS:RepS w n 93 zb2.d (fun p=>p.locs.length*Tryz.prog.bytesOf 9<=reachBytes) :=
 ((rep_structS (n:=n) Tryz.underlying93 (by kernel_rfl) (.cons (k0:=1) rfl (by kernel_rfl) (rep_str Tryz.underlying9).s (.cons (k0:=1) rfl (by kernel_rfl) rep_strsS (.cons (k0:=1) rfl (by kernel_rfl) (rep_raw Tryz.underlying91).s .nil)))).map (fun p=>⟨p.1,p.2.1,p.2.2.1⟩) (fun _=>rfl) fun _ h=>h.2.1.1.2).mono (cD n)
theorem rep_ProcsS:RepS w n 36 (slD 3 zb2.d) (fun xs=>(xs.length<=maxLen/\xs.length*Tryz.prog.bytesOf 93<=reachBytes)/\∀ x ∈ xs,x.locs.length*Tryz.prog.bytesOf 9<=reachBytes) :=
 rep_sliceS (k:=3) Tryz.underlying36 (by kernel_rfl) (by decide) (fun _=>rfl) rep_ProcS
theorem bytes_str:Tryz.prog.bytesOf 9=16:=by kernel_rfl
theorem rep_SysS:RepS w n 39 zab.d (fun s=>SysRd s/\zbp s) :=
 ((rep_structS (n:=n) Tryz.underlying39 (by kernel_rfl) (.cons (k0:=1) rfl (by kernel_rfl) rep_strs.s (.cons (k0:=1) rfl (by kernel_rfl) rep_Bounds.s (.cons (k0:=6) rfl (by kernel_rfl) zkk.s (.cons (k0:=1) rfl (by kernel_rfl) rep_ProcsS (.cons (k0:=1) rfl (by kernel_rfl) rep_Acts.s .nil)))))).map (fun p=>⟨p.1,p.2.1,p.2.2.1,p.2.2.2.1,p.2.2.2.2.1⟩) (fun _=>by rw [za7.d_eq];rfl) fun _ h=>⟨⟨h.2.2.1,h.2.1.2,fun c hc=>⟨(h.2.2.2.2.1.2 c hc).1,(h.2.2.2.2.1.2 c hc).2.2⟩,⟨bS h.2.1.1 (by decide),bS h.2.2.2.2.1.1 (by decide)⟩,fun c hc=>bS (h.2.2.2.2.1.2 c hc).2.1 (by decide)⟩,fun p hp=>by
  have h9:=h.2.2.2.1.2 p hp
  rw [bytes_str] at h9
  have h8:reachBytes=140737488351232:=rfl
  omega⟩).mono (cD n)
end
end
structure PrD where
  st:Int
  nd:Int
def PrD.d (x:PrD):List D:=[.raw (.int .i64 x.st),.raw (.int .i64 x.nd)]
structure MvD where
  act:Int
  to_:PrD
def MvD.d (x:MvD):List D:=[.raw (.int .i64 x.act),.raw (.int .i64 x.to_.st),.raw (.int .i64 x.to_.nd)]
structure WkD where
  at_:PrD
  moves:List MvD
  done:Nat
def WkD.d (x:WkD):List D:=[.raw (.int .i64 x.at_.st),.raw (.int .i64 x.at_.nd),.sl 3 (x.moves.map MvD.d),.raw (.int .i64 ((x.done:Nat):Int))]
structure zaf where
  must:List Int
  never:List Int
  next:List Int
def zaf.d (x:zaf):List D:=[.sl 1 (x.must.map za8),.sl 1 (x.never.map za8),.sl 1 (x.next.map za8)]
structure zay where
  nodes:List zaf
  first:List Int
  good:List Bool
def zay.d (x:zay):List D:=[.sl 3 (x.nodes.map zaf.d),.sl 1 (x.first.map za8),.sl 1 (x.good.map za3)]
instance prDec:DecidableEq PrD:=fun x y=>decidable_of_iff (x.st=y.st/\x.nd=y.nd) (by cases x;cases y;simp)
def pr0:PrD:=⟨0,0⟩
def mvz:MvD:=⟨0,pr0⟩
def wk0:WkD:=⟨pr0,[],0⟩
def nd0:zaf:=⟨[],[],[]⟩
def zg8 (ls:List Int) (n:Int):List Int:=if n ∈ ls then ls else ls++[n]
def hdB (l:List Bool) (p:Int):Bool:=decide (0<=p) && decide (p<(l.length:Int)) && (l[p.toNat]?).getD false
def zha (n:zaf) (l:List Bool):Bool:=!n.must.any (fun p=>!hdB l p) && !n.never.any (hdB l)
section
variable (s:zab) (ps:List zal) (a:zay)
def zbc (n:Int):List Bool:=zai ps (zdb s n).1
def zd5 (n:Int):List zaq:=edT s (zdb s n).1
def zc4 (k:Int):zaf:=(a.nodes[k.toNat]?).getD nd0
def okN (k:Int):Bool:=decide (0<=k) && decide (k<(a.nodes.length:Int))
def fitO (l:List Bool) (out:List Int) (k:Int):List Int:=if (okN a k && !hasI k out && zha (zc4 a k) l)=true then out++[k] else out
def zbl (l:List Bool) (nodes:List Int):List Int:=nodes.foldl (fitO a l) []
def lsF (ls:List Int) (n:Int) (nodes:List Int):List Int:=if nodes.any (okN a)=true then zg8 ls n else ls
def nmN (e:zaq):Int:=(nmT s e.to_).1
def mvE (nodes:List Int) (e:zaq):List MvD:=(zbl a (zbc s ps (nmN s e)) nodes).map fun k=>⟨e.act,⟨nmN s e,k⟩⟩
def zbr (p:PrD):List MvD:=(zd5 s p.st).flatMap (mvE s ps a (zc4 a p.nd).next)
def lsE (nodes:List Int) (ls:List Int) (e:zaq):List Int:=lsF a ls (nmN s e) nodes
def lsM (ls:List Int) (p:PrD):List Int:=(zd5 s p.st).foldl (lsE s a (zc4 a p.nd).next) ls
structure SS where
  fuel:Int
  out:Bool
  ls:List Int
  es:List Int
  fs:List PrD
  sc:List PrD
def tkB (x:SS) (n:Int):Bool:=decide (n<=x.fuel)
def tkS (x:SS) (n:Int):SS:=if tkB x n=true then { x with fuel:=x.fuel - n } else { x with fuel:=0,out:=true }
def mvS (x:SS) (p:PrD):SS:={ x with ls:=lsM s a x.ls p,es:=zg8 x.es p.st }
def cost (p:PrD):Int:=1+((zbr s ps a p).length:Int)
def bgB (x:SS) (p:PrD):Bool:=tkB (mvS s a x p) (cost s ps a p)
def bgS (x:SS) (p:PrD):SS:=tkS (mvS s a x p) (cost s ps a p)
def bgW (x:SS) (way:List WkD) (p:PrD):List WkD:=if bgB s ps a x p=true then way++[⟨p,zbr s ps a p,0⟩] else way
def zb8 (way:List WkD):WkD:=(way[way.length - 1]?).getD wk0
def zbu (way:List WkD):Bool:=decide ((zb8 way).done≠(zb8 way).moves.length)
def zae (way:List WkD):MvD:=((zb8 way).moves[(zb8 way).done]?).getD mvz
def zas (way:List WkD):List WkD:=way.set (way.length - 1) { zb8 way with done:=(zb8 way).done+1 }
structure LS where
  way:List WkD
  ok:Bool
  x:SS
def goB (goal:PrD) (z:LS):LS ⊕ (Option (List WkD) × SS) :=
  if z.ok=true/\0<z.way.length then
    if zbu z.way=true then
      if (zae z.way).to_=goal then .inr (some (zas z.way),z.x)
      else if (zae z.way).to_ ∈ z.x.sc then .inl ⟨zas z.way,z.ok,z.x⟩
      else .inl ⟨bgW s ps a { z.x with sc:=z.x.sc++[(zae z.way).to_] } (zas z.way) (zae z.way).to_,bgB s ps a { z.x with sc:=z.x.sc++[(zae z.way).to_] } (zae z.way).to_,bgS s ps a { z.x with sc:=z.x.sc++[(zae z.way).to_] } (zae z.way).to_⟩
    else .inl ⟨z.way.dropLast,z.ok,z.x⟩
  else .inr (none,z.x)
end
def iter {α β:Type} (f:α->α ⊕ β):Nat->α->α ⊕ β
  | 0,x => .inl x
  | n+1,x=>match f x with
    | .inl y=>iter f n y
    | .inr r => .inr r
def rem1 (w:WkD):Nat:=w.moves.length - w.done
def remW (way:List WkD):Nat:=(way.map rem1).foldr (·+·) 0
def mu (z:LS):Nat:=2*z.x.fuel.toNat+remW z.way+z.way.length
section
variable (s:zab) (ps:List zal) (a:zay)
def zav (x:SS) (goal:PrD):Option (List WkD) × SS :=
  if x.out=true then (none,x) else
    match iter (goB s ps a goal) (mu ⟨bgW s ps a x [] goal,bgB s ps a x goal,bgS s ps a x goal⟩+1) ⟨bgW s ps a x [] goal,bgB s ps a x goal,bgS s ps a x goal⟩ with
    | .inr r=>r
    | .inl _=>(none,x)
def zh7 (p:PrD):Bool:=decide (p.nd<(a.good.length:Int)) && (a.good[p.nd.toNat]?).getD false
def goF (z:LS):LS ⊕ (Option (List WkD × List WkD) × SS) :=
  if z.ok=true/\0<z.way.length then
    if zbu z.way=true then
      if (zae z.way).to_ ∈ z.x.fs then .inl ⟨zas z.way,z.ok,z.x⟩
      else .inl ⟨bgW s ps a { z.x with fs:=z.x.fs++[(zae z.way).to_] } (zas z.way) (zae z.way).to_,bgB s ps a { z.x with fs:=z.x.fs++[(zae z.way).to_] } (zae z.way).to_,bgS s ps a { z.x with fs:=z.x.fs++[(zae z.way).to_] } (zae z.way).to_⟩
    else if zh7 a (zb8 z.way).at_=true then
      match zav s ps a z.x (zb8 z.way).at_ with
      | (some r,y) => .inr (some (z.way,r),y)
      | (none,y) => .inl ⟨z.way.dropLast,z.ok,y⟩
    else .inl ⟨z.way.dropLast,z.ok,z.x⟩
  else .inr (none,z.x)
def zb5 (x:SS) (p:PrD):Option (List WkD × List WkD) × SS :=
  let y:={ x with fs:=x.fs++[p] }
  let z:LS:=⟨bgW s ps a y [] p,bgB s ps a y p,bgS s ps a y p⟩
  match iter (goF s ps a) (mu z+1) z with
  | .inr r=>r
  | .inl _=>(none,y)
def zdr (w:WkD):StD:=(zdb s w.at_.st).1
def zbd (w:WkD):Int:=((w.moves[w.done - 1]?).getD mvz).act
def runT (stem cycle:List WkD):RunD:=⟨stem.dropLast.map (zdr s),cycle.map (zdr s),stem.dropLast.map zbd++cycle.map zbd⟩
structure AnsD where
  state:Int
  run:RunD
  left:Int
def run0:RunD:=⟨[],[],[]⟩
def goK (n:Int):SS->List Int->AnsD ⊕ SS
  | x,[] => .inr x
  | x,k :: ks =>
    if (⟨n,k⟩:PrD) ∈ x.fs then goK n x ks else
      match zb5 s ps a x ⟨n,k⟩ with
      | (some (st,cy),y) => .inl ⟨1,runT s st cy,y.fuel⟩
      | (none,y)=>if y.out=true then .inl ⟨3,run0,0⟩ else goK n y ks
def goX:SS->List StD->AnsD ⊕ SS
  | x,[] => .inr x
  | x,f :: fs =>
    match goK s ps a (nmT s f).1 { x with ls:=lsF a x.ls (nmT s f).1 a.first } (zbl a (zbc s ps (nmT s f).1) a.first) with
    | .inl r => .inl r
    | .inr y=>goX y fs
def zes (fuel:Int):Int:=min (max fuel 0) 1073741824
def zey (fuel:Int):AnsD :=
  if (zb3 s).2=true then
    match goX s ps a ⟨zes fuel,false,[],[],[],[]⟩ (zg4 s) with
    | .inl r=>r
    | .inr y=>⟨2,run0,y.fuel⟩
  else ⟨3,run0,zes fuel⟩
end
structure SwOk (iy iy' ix:I) (n:Nat) (A':L):Prop where
  wl:iy.wl=[]
  wl':iy'.wl=[]
  nw':iy'.nw=[]
  ws:iy.ws=iy'.ws
  rs:iy.rs=iy'.rs
  rl':iy'.rl=[(n,A')]
  xw:ix.wl.lookup n=some (some A')
  a1:∀ t ∈ ix.ws.map (·.1),t ∉ iy.ws.map (·.1)
  a2:∀ t ∈ ix.rs.map (·.1),t ∉ iy.ws.map (·.1)
  a3:∀ t ∈ iy.rs.map (·.1),t ∉ ix.ws.map (·.1)
def swpB (iy iy' ix:I):Bool:=iy.wl.isEmpty && (iy'.wl.isEmpty && (iy'.nw.isEmpty && (zg6 (ix.ws.map (·.1)) (iy.ws.map (·.1)) && (zg6 (ix.rs.map (·.1)) (iy.ws.map (·.1)) && zg6 (iy.rs.map (·.1)) (ix.ws.map (·.1))))))
theorem SwOk.of {iy iy' ix:I} {n:Nat} {A':L} (h:swpB iy iy' ix=true) (h1:iy.ws=iy'.ws) (h2:iy.rs=iy'.rs) (h3:ix.wl.lookup n=some (some A')) (h4:iy'.rl=[(n,A')]):SwOk iy iy' ix n A':=by
 simp only [swpB,bI] at h
 obtain ⟨b1,b2,b3,b4,b5,b6⟩:=h
 exact ⟨by simpa using b1,by simpa using b2,by simpa using b3,h1,h2,h4,h3,fun t ht=>zcb b4 ht,fun t ht=>zcb b5 ht,fun t ht=>zcb b6 ht⟩
theorem SwOk.swap {iy iy' ix:I} {n:Nat} {A':L} (h:SwOk iy iy' ix n A') (hy:zi2 f iy) (hx:zi2 (f.app iy) ix):zi2 f ix/\zi2 (f.app ix) iy'/\(f.app iy).app ix=(f.app ix).app iy':=by
 have hl:∀ m,(f.app iy).l m=f.l m:=app0_l f iy h.wl
 refine ⟨⟨fun p hp=>?_,fun p hp=>?_⟩,⟨fun p hp=>?_,fun p hp=>?_⟩,?_⟩
 ·rw [<- hx.1 p hp,ziz (h.a2 _ (bF.2 ⟨p,hp,rfl⟩))]
 ·rw [<- hx.2 p hp,hl]
 ·rw [<- h.rs] at hp
  rw [ziz (h.a3 _ (bF.2 ⟨p,hp,rfl⟩))];exact hy.1 p hp
 ·rw [h.rl'] at hp
  rw [bK.1 hp]
  simp only [F.app,h.xw]
 ·simp only [F.app,F.mk.injEq]
  constructor
  ·funext t
   rw [<- h.ws]
   by_cases ht:t ∈ iy.ws.map (·.1)
   ·have:t ∉ ix.ws.map (·.1):=fun hx=>h.a1 t hx ht
    rw [zdf this]
   ·rw [zdf ht]
  ·funext m
   rw [h.wl,h.wl']
   rfl
section
variable {P:Program}
def mpv (n:Nat):V:=.t (.c (.mp n))
inductive KV:T->Value->Prop
  | c (v:Value):KV (.c (.d (.raw v))) v
  | agg2 (u v:Value):KV (.agg [.d (.raw u),.d (.raw v)]) (.agg #[u,v])
theorem KV.eq {x:T} {v:Value} (h:KV x key) (hv:TR H B x v):v=key:=by
 cases h with
 | c u=>cases hv;rfl
 | agg2 u1 u2 =>
  obtain ⟨vs,rfl,h2⟩:=hv
  match vs,h2 with
  | [_,_],h2 =>
   obtain ⟨h3,h4,_⟩:=h2
   cases h3;cases h4;rfl
  | [],h2=>exact h2.elim
  | [_],h2=>exact h2.2.elim
  | _ :: _ :: _ :: _,h2=>exact h2.2.2.elim
structure MpT (P:Program) (mt kt et:TypeId) (z:Value):Prop where
  key:Maps.Keyed P kt
  ty:P.underlying mt=some (.map kt et)
  zero:∀ w,(zeroValue et).run P w = .ok z w
def KeysOk (P:Program) (kt:TypeId) (es:List (Value × D)):Prop:=∀ p ∈ es,∃ l,keyOf P kt p.1=some l
theorem zkr:∀ {es:List (Value × D)} {arr:List MapEntry}, zb4 (fun (p:Value × D) (e:MapEntry)=>e.key=p.1/\DR H p.2 e.val) es arr->KeysOk P kt es->∀ e ∈ arr,∃ l,keyOf P kt e.key=some l
 | [],[],_,_,e,he=>by cases he
 | p :: es,x :: arr,h,hk,e,he=>by
  rcases cW.1 he with rfl | he
  ·rw [h.1.1];exact hk p (by simp)
  ·exact zkr h.2 (fun q hq=>hk q (by simp [hq])) e he
theorem mem_arr:∀ {es:List (Value × D)} {arr:List MapEntry}, zb4 (fun (p:Value × D) (e:MapEntry)=>e.key=p.1/\DR H p.2 e.val) es arr->∀ e ∈ arr,∃ p ∈ es,e.key=p.1/\DR H p.2 e.val
 | [],[],_,e,he=>by cases he
 | p :: es,x :: arr,h,e,he=>by
  rcases cW.1 he with rfl | he
  ·exact ⟨p,by simp,h.1⟩
  ·obtain ⟨q,hq,h2⟩:=mem_arr h.2 e he
   exact ⟨q,by simp [hq],h2⟩
theorem arr_mem:∀ {es:List (Value × D)} {arr:List MapEntry}, zb4 (fun (p:Value × D) (e:MapEntry)=>e.key=p.1/\DR H p.2 e.val) es arr->∀ p ∈ es,∃ e ∈ arr,e.key=p.1
 | [],[],_,p,hp=>by cases hp
 | q :: es,x :: arr,h,p,hp=>by
  rcases cW.1 hp with rfl | hp
  ·exact ⟨x,by simp,h.1.1⟩
  ·obtain ⟨e,he,h2⟩:=arr_mem h.2 p hp
   exact ⟨e,by simp [he],h2⟩
theorem Op.mkMap {d n:Nat} {t:TypeId} {pos af gd}:zb6 P ⟨some d,.makeMap t none,ty,pos,af,gd⟩ { ws:=[(d,some (mpv n))],wl:=[(n,some (.mp []))],nw:=[n] }:=by
 refine zb6.news d n _ _ rfl rfl rfl (by simp) fun e f H B a w hok hr hn=>⟨.map (some w.heap.size),0,.map #[] 0,?_,⟨w.heap.size,0,[],0,by simp,heap_alloc_new w _,trivial⟩,⟨w.heap.size,0,by simp,rfl⟩⟩
 simp only [execOp,Instr.makeMap,newObj,Sem.run_bind,Sem.run_pure,Result.andThen_ok]
 rfl
theorem mp_at {e:E} {a:Act} {w:World} (hok:Ok e f H B a w) {n:Nat} (ht:f.s t=some (mpv n)) (hl:f.l n=some (.mp es)) :
  ∃ b c arr cl,B n=some (b,c)/\a.eval (.tmp t) = .map (some b)/\w.heap[b]?=some (.map ⟨arr⟩ cl)/\zb4 (fun (p:Value × D) (e:MapEntry)=>e.key=p.1/\DR H p.2 e.val) es arr:=by
 obtain ⟨b,c,hb,hv⟩:=hok.slot t _ ht
 obtain ⟨b', c', arr,cl,hb', hc,h2⟩:=hok.loc n _ hl
 rw [hb] at hb'
 cases hb'
 exact ⟨b,c,arr,cl,hb,hv,hc,h2⟩
def lkV:Bool->D->Bool->V
  | true,x,b => .tup [.c (.d x),.c (.d (.raw (.bool b)))]
  | false,x,_ => .t (.c (.d x))
theorem lkV_of {c b:Bool} {x:D} {v:Value} (h:DR H x v):VR H B (lkV c x b) (if c then .tuple #[v,.bool b] else v):=by
 cases c with
 | true=>exact ⟨[v,.bool b],rfl,h,DR.raw _ rfl,trivial⟩
 | false=>exact h
theorem Op.lookF {d n:Nat} {c:Bool} {x:Operand} {z:Value} {zd:D} {pos af gd} (M:MpT P mt kt et z) (hx:OV x (.t kv) rs) (hkv:KV kv key) (hk:keyOf P kt key=some l) (hes:KeysOk P kt es)
  (hz:∀ H,DR H zd z) (hn:∀ p ∈ es,p.1≠key):zb6 P ⟨some d,.lookup mt (.tmp t) x c,ty,pos,af,gd⟩ { rs:=(t,mpv n) :: rs,rl:=[(n,.mp es)],ws:=[(d,some (lkV c zd false))] } :=
 zb6.value d _ rfl rfl rfl fun e f H B a w hok hr=>by
  obtain ⟨b,c', arr,cl,hb,hm,hc,h2⟩:=mp_at hok (hr.1 (t,mpv n) (by simp)) (hr.2 (n,.mp es) (by simp))
  have hxv:a.eval x=key:=hkv.eq (hx.eval hok fun p hp=>hr.1 p (by simp [hp]))
  refine ⟨_,?_,lkV_of (hz H)⟩
  rcases M.key.find w hk arr (zkr h2 hes) with ⟨h3,_⟩ | ⟨j,e0,_,h4,h5⟩
  ·have hlk:(Instr.lookup mt (.map (some b)) key c).run P w = .ok (if c then .tuple #[z,.bool false] else z) w:=by
    simp [Instr.lookup,run_underlying M.ty,MapKept.run_getObj_map hc,M.key.check w _ hk,h3,M.zero w,Result.andThen]
   generalize a.eval=ρ at hm hxv ⊢
   simp only [execOp,hm,hxv,Sem.run_bind,hlk,Result.andThen_ok,Sem.run_pure]
  ·obtain ⟨p,hp,h6,_⟩:=mem_arr h2 e0 (bV h4)
   exact absurd (h6.symm.trans h5) (hn p hp)
theorem Op.lookT {d n:Nat} {c:Bool} {x:Operand} {z:Value} {xd:D} {pos af gd} (M:MpT P mt kt et z) (hx:OV x (.t kv) rs) (hkv:KV kv key) (hk:keyOf P kt key=some l) (hes:KeysOk P kt es)
  (hn:∃ p ∈ es,p.1=key) (ha:∀ p ∈ es,p.1=key->p.2=xd):zb6 P ⟨some d,.lookup mt (.tmp t) x c,ty,pos,af,gd⟩ { rs:=(t,mpv n) :: rs,rl:=[(n,.mp es)],ws:=[(d,some (lkV c xd true))] } :=
 zb6.value d _ rfl rfl rfl fun e f H B a w hok hr=>by
  obtain ⟨b,c', arr,cl,hb,hm,hc,h2⟩:=mp_at hok (hr.1 (t,mpv n) (by simp)) (hr.2 (n,.mp es) (by simp))
  have hxv:a.eval x=key:=hkv.eq (hx.eval hok fun p hp=>hr.1 p (by simp [hp]))
  rcases M.key.find w hk arr (zkr h2 hes) with ⟨_,h3⟩ | ⟨j,e0,h3,h4,h5⟩
  ·obtain ⟨p,hp,h4⟩:=hn
   obtain ⟨e0,he0,h5⟩:=arr_mem h2 p hp
   exact absurd (h5.trans h4) (h3 e0 he0)
  ·obtain ⟨p,hp,h6,h7⟩:=mem_arr h2 e0 (bV h4)
   rw [ha p hp (h6.symm.trans h5)] at h7
   refine ⟨_,?_,lkV_of h7⟩
   have hlk:(Instr.lookup mt (.map (some b)) key c).run P w = .ok (if c then .tuple #[e0.val,.bool true] else e0.val) w:=by
    simp [Instr.lookup,run_underlying M.ty,MapKept.run_getObj_map hc,M.key.check w _ hk,h3,Result.andThen]
   generalize a.eval=ρ at hm hxv ⊢
   simp only [execOp,hm,hxv,Sem.run_bind,hlk,Result.andThen_ok,Sem.run_pure]
theorem Op.lookB {d n:Nat} {x:Operand} {q:Bool} {pos af gd} (M:MpT P mt kt et (.bool false)) (hx:OV x (.t kv) rs) (hkv:KV kv key) (hk:keyOf P kt key=some l) (hes:KeysOk P kt es)
  (ha:∀ p ∈ es,p.2 = .raw (.bool true)) (hq:q=true ↔ ∃ p ∈ es,p.1=key):zb6 P ⟨some d,.lookup mt (.tmp t) x false,ty,pos,af,gd⟩ { rs:=(t,mpv n) :: rs,rl:=[(n,.mp es)],ws:=[(d,some (vb q))] }:=by
 cases q with
 | true=>exact Op.lookT M hx hkv hk hes (hq.1 rfl) fun p hp _=>ha p hp
 | false=>exact Op.lookF (zd:=.raw (.bool false)) M hx hkv hk hes (fun H=>DR.raw _ rfl) fun p hp e=>by cases hq.2 ⟨p,hp,e⟩
def putM (w:World) (b:Nat) (o:Obj):World:={ w with heap:=w.heap.setIfInBounds b o }
theorem putM_same {w:World} {b:Nat} {ob ob':Obj} (h:w.heap[b]?=some ob):(putM w b ob').heap[b]?=some ob':=Array.getElem?_setIfInBounds_self_of_lt (d4.1 h).1
theorem putM_other {w:World} {b:Nat} {ob:Obj} (h:k≠b):(putM w b ob).heap[k]?=w.heap[k]?:=Array.getElem?_setIfInBounds_ne (fun e=>h e.symm)
theorem zb4.snoc {R:α->β->Prop} {xs:List α} {ys:List β} {a:α} {b:β} (h:zb4 R xs ys) (k:R a b):zb4 R (xs++[a]) (ys++[b]):=h.append ⟨k,trivial⟩
theorem Op.mapNew {n:Nat} {x y:Operand} {z:Value} {xd:D} {es':List (Value × D)} {pos af gd} (M:MpT P mt kt et z) (hx:OV x (.t kv) rs) (hkv:KV kv key) (hk:keyOf P kt key=some l) (hes:KeysOk P kt es)
  (hy:OV y (.t (.c (.d xd))) rs') (hn:∀ p ∈ es,p.1≠key) (he:es++[(key,xd)]=es'):zb6 P ⟨none,.mapUpdate mt (.tmp t) x y,ty,pos,af,gd⟩ { rs:=(t,mpv n) :: (rs++rs'),rl:=[(n,.mp es)],wl:=[(n,some (.mp es'))] }:=by
 subst he
 rintro e f a w Q ⟨H,B,hok⟩ hr hnw hb0
 have hfl:=hr.2 (n,.mp es) (by simp)
 obtain ⟨b,c', arr,cl,hb,hm,hc,h2⟩:=mp_at hok (hr.1 (t,mpv n) (by simp)) hfl
 have hxv:a.eval x=key:=hkv.eq (hx.eval hok fun p hp=>hr.1 p (by simp [hp]))
 have hyv:=hy.eval hok fun p hp=>hr.1 p (by simp [hp])
 rcases M.key.find w hk arr (zkr h2 hes) with ⟨h3,_⟩ | ⟨j,e0,_,h4,h5⟩
 ·have hup:(Instr.mapUpdate mt (.map (some b)) key (a.eval y)).run P w = .ok () (putM w b (.map ⟨arr++[⟨key,a.eval y,cl⟩]⟩ (cl+1))):=by
   simp [Instr.mapUpdate,run_underlying M.ty,MapKept.run_getObj_map hc,M.key.check w _ hk,h3,MapKept.run_setObj_map _ hc,Result.andThen,putM]
  have hexec:(execOp a.eval ⟨none,.mapUpdate mt (.tmp t) x y,ty,pos,af,gd⟩).run P w = .ok .skip (putM w b (.map ⟨arr++[⟨key,a.eval y,cl⟩]⟩ (cl+1))):=by
   generalize hq:a.eval y=q at hup
   generalize a.eval=ρ at hm hxv hq ⊢
   simp only [execOp,hm,hxv,hq,Sem.run_bind,hup,Result.andThen_ok,Sem.run_pure]
  unfold Oper.wp
  rw [hexec,Oper.upon_skip]
  refine St.put0 ⟨H,B,hok.write (g:=⟨f.s,fun m=>if m=n then some (.mp (es++[(key,xd)])) else f.l m⟩) (l' := .mp (es++[(key,xd)])) hfl hb (fun _=>rfl) (fun _=>rfl) (fun k hk=>putM_other hk) (by simp [putM]) rfl rfl rfl
   ⟨b,c', _,_,hb,putM_same hc,h2.snoc ⟨rfl,(show DR H xd (a.eval y) from hyv)⟩⟩⟩ rfl (app0_s _ _ rfl) (fun m=>app1_l f n _ _ rfl m)
 ·obtain ⟨p,hp,h6,_⟩:=mem_arr h2 e0 (bV h4)
  exact absurd (h6.symm.trans h5) (hn p hp)
theorem F.eq_of {g:F} (h1:∀ t,f.s t=g.s t) (h2:∀ n,f.l n=g.l n):f=g:=by
 cases f;cases g
 simp only [F.mk.injEq]
 exact ⟨funext h1,funext h2⟩
theorem zio (ids:List Nat) (n:Nat):∀ (l:List (Nat × β)),(l.filter fun p=>!zi1 ids p.1).lookup n=if zi1 ids n=true then none else l.lookup n
 | []=>by simp
 | (m,b) :: l=>by
  have ih:=zio ids n l
  rw [List.filter_cons]
  by_cases hm:zi1 ids m=true
  ·simp only [hm,cO,Bool.false_eq_true,if_false]
   rw [ih]
   by_cases hn:zi1 ids n=true
   ·rw [if_pos hn,if_pos hn]
   ·rw [if_neg hn,if_neg hn,dN]
    have:(n == m)=false:=by
     cases e:(n == m) with
     | false=>rfl
     | true=>have:=eq_of_beq e;subst this;exact absurd hm hn
    rw [this]
  ·have hm':(!zi1 ids m)=true:=by simpa using hm
   simp only [hm', if_true]
   rw [dN,dN]
   cases e:(n == m) with
   | true=>have:=eq_of_beq e;subst this;dsimp only;rw [if_neg hm]
   | false=>dsimp only;exact ih
theorem zb6.idle {o:Oper} {i:I} (h:zb6 P o i) (ids:List Nat) (hi:(ids.map fun n=>i.wl.lookup n)=ids.map fun n=>(i.rl.lookup n).map some):zb6 P o { i with wl:=i.wl.filter fun p=>!zi1 ids p.1 }:=by
 intro e f a w Q hst hr hn hf
 have h1:=h e f a w Q hst hr hn hf
 have e1:f.app { i with wl:=i.wl.filter fun p=>!zi1 ids p.1 }=f.app i:=by
  refine F.eq_of (fun t=>rfl) fun n=>?_
  simp only [F.app,zio]
  by_cases hn2:zi1 ids n=true
  ·rw [if_pos hn2]
   have h2:i.wl.lookup n=(i.rl.lookup n).map some:=by
    have hmem:=zer.1 hn2
    obtain ⟨j,hj⟩:=c7 hmem
    have h3:=congrArg (fun (l:List (Option (Option L)))=>l[j]?) hi
    simp only [bM,hj,cP,Option.some.injEq] at h3
    exact h3
   rw [h2]
   cases hl:i.rl.lookup n with
   | none=>rfl
   | some l=>exact hr.2 (n,l) (zau hl)
  ·rw [if_neg hn2]
 rw [e1];exact h1
theorem Op.callI {k:FuncId} {ps qs:List (Nat × L)} {args:List V} {res:V} (hc:Fn P k ps args res qs) (hk:zbg P k) (ids:List Nat) {d:Nat} {xs:List Operand} {tys:Array TypeId} {ty pos af gd} (h:OVs xs args rs)
  (hi:(ids.map fun n=>(callI rs ps qs d res).wl.lookup n)=ids.map fun n=>((callI rs ps qs d res).rl.lookup n).map some) :
  zb6 P ⟨some d,.call { callee:=.value (.func k),args:=⟨xs⟩,argTypes:=tys }, ty,pos,af,gd⟩ { callI rs ps qs d res with wl:=(callI rs ps qs d res).wl.filter fun p=>!zi1 ids p.1 }:=zb6.idle (Op.call hc hk h) ids hi
theorem Op.nilQ {d n:Nat} {pos af gd}:zb6 P ⟨some d,.nilCheck (.tmp t),ty,pos,af,gd⟩ { rs:=[(t,vp n o)],ws:=[(d,some (vp n o))] } :=
 zb6.value d _ rfl rfl rfl fun e f H B a w hok hr=>by
  obtain ⟨b,c,hb,hu⟩:=(hok.slot t _ (hr.1 (t,vp n o) (by simp))).ptrI
  refine ⟨.pointer (some ⟨b,o,none⟩),?_,⟨b,c,hb,rfl⟩⟩
  have h5:a.eval (.tmp t) = .pointer (some ⟨b,o,none⟩):=hu
  generalize a.eval=ρ at h5 ⊢
  simp only [execOp,h5,Sem.run_pure]
end
def InI (n:Int):Prop:=-9223372036854775808<=n/\n<9223372036854775808
def zj6 (ls:List Int):Prop:=∀ n ∈ ls,InI n
def KinP (fs:List PrD):Prop:=∀ p ∈ fs,InI p.st/\InI p.nd
theorem InI.wf (h:InI n):(Lit.int .i64 n).wf=true:=by
 obtain ⟨h1,h2⟩:=h
 simp only [Lit.wf,bI,decide_eq_true_eq]
 exact ⟨h1,show n<=9223372036854775807 by omega⟩
abbrev bxS (s:zab) (ps:List zal) (au:zay) (fu:Int) (ot:Bool):L:=.box [.d (.sl 1 (s.vars.map zdz)),.d (.sl 5 (s.bounds.map zaj.d)),.d (.raw (.int .i64 s.init.kind)),.d (.sl 3 (s.init.r.t.parts.map zbe.d)),.d (.raw (.bool s.init.r.t.k.neg)),.d (nsl s.init.r.t.k.abs),.d (.raw (.bool s.init.r.eq)),.d (.sl 6 (s.init.kids.map za7.d)),.d (.sl 3 (s.procs.map zb2.d)),.d (.sl 10 (s.acts.map zb1.d)),.d (.sl 9 (ps.map zal.d)),.d (.sl 3 (au.nodes.map zaf.d)),.d (.sl 1 (au.first.map za8)),.d (.sl 1 (au.good.map za3)),.d (.raw (.int .i64 fu)),.d (.raw (.bool ot)),.mp 1,.mp 2,.mp 3,.mp 4]
def mpL (s:zab) (ps:List zal) (ls:List Int):List (Value × D):=ls.map fun n=>(.int .i64 n,.sl 1 ((zbc s ps n).map za3))
def mpE (s:zab) (es:List Int):List (Value × D):=es.map fun n=>(.int .i64 n,.sl 3 ((zd5 s n).map zaq.d))
def prV (p:PrD):Value:=.agg #[.int .i64 p.st,.int .i64 p.nd]
def mpP (fs:List PrD):List (Value × D):=fs.map fun p=>(prV p,.raw (.bool true))
theorem laid9:laidOutB d6=true:=by kernel_rfl
theorem pairK:Maps.Keyed d6 121:=.of_law (deep_law_laid laid9 (m:=2) (by omega) (of_decide_eq_true (by kernel_rfl)) (by kernel_rfl) (by rw [Tryz.underlying121]))
theorem cells9:Tryz.prog.cellsOf 121=2:=by kernel_rfl
theorem cells8:Tryz.prog.cellsOf 3=1:=by kernel_rfl
theorem kt9:Tryz.prog.keyType 121=true:=by kernel_rfl
theorem ts9:∃ m,Tryz.prog.types.size=m+1:=⟨Tryz.prog.types.size - 1,by kernel_rfl⟩
variable {p:PrD}
theorem zir (h:InI p.st/\InI p.nd):∃ l,keyOf d6 121 (prV p)=some l:=by
 obtain ⟨m,hm⟩:=ts9
 unfold keyOf prV
 simp only [Tryz.underlying121]
 rw [if_pos (by simp [kt9,Value.formed,Tryz.underlying121,cells9]),hm]
 unfold Program.keyLits
 simp only [Tryz.underlying121,Value.cells]
 rw [if_pos (by rw [cells9];exact ⟨rfl,by kernel_rfl⟩)]
 unfold Program.keyLits
 simp [cells8,Tryz.underlying3,h.1.wf,h.2.wf]
theorem zi0 (h:InI n):keyOf d6 3 (.int .i64 n)=some (.int .i64 n):=Maps.keyOf_int_mk Tryz.underlying3 h.wf
theorem mptP:MpT d6 116 121 4 (.bool false):=⟨pairK,Tryz.underlying116,fun _=>by kernel_rfl⟩
theorem mptL:MpT d6 114 3 59 (.slice none 0 0):=⟨Maps.int_keyed Tryz.underlying3,Tryz.underlying114,fun _=>by kernel_rfl⟩
theorem mptE:MpT d6 115 3 52 (.slice none 0 0):=⟨Maps.int_keyed Tryz.underlying3,Tryz.underlying115,fun _=>by kernel_rfl⟩
theorem keysI {f:Int->D} (h:zj6 ls):KeysOk d6 3 (ls.map fun n=>(Value.int .i64 n,f n)):=fun p hp=>by
 obtain ⟨n,hn,rfl⟩:=bF.1 hp
 exact ⟨_,zi0 (h n hn)⟩
variable {fs:List PrD}
theorem keysP (h:KinP fs):KeysOk d6 121 (mpP fs):=fun p hp=>by
 obtain ⟨n,hn,rfl⟩:=bF.1 hp
 exact zir (h n hn)
variable {q:PrD}
theorem prV_inj (h:prV p=prV q):p=q:=by
 cases p;cases q
 simpa [prV] using h
section
variable {s:zab} {ps:List zal} {d t m x y:Nat} {n:Int} {ls:List Int} {ty:TypeId} {pos:String} {af:Array Edge} {gd:Option (Nat × Bool)}
theorem kyT {f:Int->D} (h:n ∈ ls):(∃ p ∈ ls.map (fun n=>(Value.int .i64 n,f n)),p.1 = .int .i64 n)/\∀ p ∈ ls.map (fun n=>(Value.int .i64 n,f n)),p.1 = .int .i64 n->p.2=f n :=
 ⟨⟨_,bF.2 ⟨n,h,rfl⟩,rfl⟩,fun p hp e=>by
  obtain ⟨k,_,rfl⟩:=bF.1 hp
  have:k=n:=by simpa using e
  rw [this]⟩
theorem kyF {f:Int->D} (h:n ∉ ls):∀ p ∈ ls.map (fun n=>(Value.int .i64 n,f n)),p.1 ≠ .int .i64 n:=fun p hp e=>by
 obtain ⟨k,hk,rfl⟩:=bF.1 hp
 have:k=n:=by simpa using e
 exact h (this ▸ hk)
theorem Op.lkLT (hk:zj6 ls) (hn:InI n) (h:n ∈ ls):zb6 d6 ⟨some d,.lookup 114 (.tmp t) (.tmp x) true,ty,pos,af,gd⟩ { rs:=[(t,mpv m),(x,vi .i64 n)],rl:=[(m,.mp (mpL s ps ls))],ws:=[(d,some (.tup [.c (.d (.sl 1 ((zbc s ps n).map za3))),.c (.d (.raw (.bool true)))]))] } :=
 Op.lookT mptL (d8 x _) (.c _) (zi0 hn) (keysI hk) (kyT h).1 (kyT h).2
theorem Op.lkLF (hk:zj6 ls) (hn:InI n) (h:n ∉ ls):zb6 d6 ⟨some d,.lookup 114 (.tmp t) (.tmp x) true,ty,pos,af,gd⟩ { rs:=[(t,mpv m),(x,vi .i64 n)],rl:=[(m,.mp (mpL s ps ls))],ws:=[(d,some (.tup [.c (.d (.sl 1 (([]:List Bool).map za3))),.c (.d (.raw (.bool false)))]))] } :=
 Op.lookF mptL (d8 x _) (.c _) (zi0 hn) (keysI hk) (fun _=>DR.nil _ _ _ (fun _=>rfl) (bE _)) (kyF h)
theorem Op.upL (hk:zj6 ls) (hn:InI n) (h:n ∉ ls):zb6 d6 ⟨none,.mapUpdate 114 (.tmp t) (.tmp x) (.tmp y),ty,pos,af,gd⟩ { rs:=[(t,mpv m),(x,vi .i64 n),(y,.t (.c (.d (.sl 1 ((zbc s ps n).map za3)))))],rl:=[(m,.mp (mpL s ps ls))],wl:=[(m,some (.mp (mpL s ps (ls++[n]))))] } :=
 Op.mapNew mptL (d8 x _) (.c _) (zi0 hn) (keysI hk) (d8 y _) (kyF h) (by unfold mpL;rw [bX];rfl)
theorem Op.lkET (hk:zj6 ls) (hn:InI n) (h:n ∈ ls):zb6 d6 ⟨some d,.lookup 115 (.tmp t) (.tmp x) true,ty,pos,af,gd⟩ { rs:=[(t,mpv m),(x,vi .i64 n)],rl:=[(m,.mp (mpE s ls))],ws:=[(d,some (.tup [.c (.d (.sl 3 ((zd5 s n).map zaq.d))),.c (.d (.raw (.bool true)))]))] } :=
 Op.lookT mptE (d8 x _) (.c _) (zi0 hn) (keysI hk) (kyT h).1 (kyT h).2
theorem Op.lkEF (hk:zj6 ls) (hn:InI n) (h:n ∉ ls):zb6 d6 ⟨some d,.lookup 115 (.tmp t) (.tmp x) true,ty,pos,af,gd⟩ { rs:=[(t,mpv m),(x,vi .i64 n)],rl:=[(m,.mp (mpE s ls))],ws:=[(d,some (.tup [.c (.d (.sl 3 (([]:List zaq).map zaq.d))),.c (.d (.raw (.bool false)))]))] } :=
 Op.lookF mptE (d8 x _) (.c _) (zi0 hn) (keysI hk) (fun _=>DR.nil _ _ _ (fun _=>rfl) (bE _)) (kyF h)
theorem Op.upE (hk:zj6 ls) (hn:InI n) (h:n ∉ ls):zb6 d6 ⟨none,.mapUpdate 115 (.tmp t) (.tmp x) (.tmp y),ty,pos,af,gd⟩ { rs:=[(t,mpv m),(x,vi .i64 n),(y,.t (.c (.d (.sl 3 ((zd5 s n).map zaq.d)))))],rl:=[(m,.mp (mpE s ls))],wl:=[(m,some (.mp (mpE s (ls++[n]))))] } :=
 Op.mapNew mptE (d8 x _) (.c _) (zi0 hn) (keysI hk) (d8 y _) (kyF h) (by unfold mpE;rw [bX];rfl)
theorem Op.lkP {q:Bool} (hk:KinP fs) (hn:InI p.st/\InI p.nd) (hq:decide (p ∈ fs)=q):zb6 d6 ⟨some d,.lookup 116 (.tmp t) (.tmp x) false,ty,pos,af,gd⟩ { rs:=[(t,mpv m),(x,.t (.agg [.d (.raw (.int .i64 p.st)),.d (.raw (.int .i64 p.nd))]))],rl:=[(m,.mp (mpP fs))],ws:=[(d,some (vb q))] }:=by
 obtain ⟨l,hl⟩:=zir hn
 subst hq
 refine Op.lookB mptP (d8 x _) (.agg2 _ _) hl (keysP hk) (fun r hr=>?_) ?_
 ·obtain ⟨k,_,rfl⟩:=bF.1 hr;rfl
 ·rw [decide_eq_true_eq]
  constructor
  ·intro h;exact ⟨_,bF.2 ⟨p,h,rfl⟩,rfl⟩
  ·rintro ⟨r,hr,e⟩
   obtain ⟨k,hk2,rfl⟩:=bF.1 hr
   exact prV_inj e ▸ hk2
theorem Op.upP (hk:KinP fs) (hn:InI p.st/\InI p.nd) (h:p ∉ fs):zb6 d6 ⟨none,.mapUpdate 116 (.tmp t) (.tmp x) (.const (.bool true)),ty,pos,af,gd⟩ { rs:=[(t,mpv m),(x,.t (.agg [.d (.raw (.int .i64 p.st)),.d (.raw (.int .i64 p.nd))]))],rl:=[(m,.mp (mpP fs))],wl:=[(m,some (.mp (mpP (fs++[p]))))] }:=by
 obtain ⟨l,hl⟩:=zir hn
 refine Op.mapNew mptP (d8 x _) (.agg2 _ _) hl (keysP hk) (d7 _ rfl) (fun r hr e=>?_) (by unfold mpP;rw [bX];rfl)
 obtain ⟨k,hk2,rfl⟩:=bF.1 hr
 exact h (prV_inj e ▸ hk2)
end
theorem zka:SlT d6 122 176 4:=SlT.mk' Tryz.underlying122 (by kernel_rfl)
theorem qc1_6:Sz d6 174 1 false:=Sz.mk' (by kernel_rfl) Tryz.underlying174 _ rfl
theorem qc1_7:Sz d6 171 3 true:=Sz.mk' (by kernel_rfl) Tryz.underlying171 _ rfl
theorem qc1_8:SlT d6 174 171 3:=SlT.mk' Tryz.underlying174 (by kernel_rfl)
def tkF (fu n:Int):Int:=if n<=fu then fu - n else 0
def tkO (fu:Int) (ot:Bool) (n:Int):Bool:=if n<=fu then ot else true
theorem tkF_yes (h:decide (n>fu)=false):tkF fu n=fu - n:=if_pos (by have:=of_decide_eq_false h;omega)
theorem tkF_no (h:decide (n>fu)=true):tkF fu n=0:=if_neg (by have:=of_decide_eq_true h;omega)
theorem tkO_yes {ot:Bool} (h:decide (n>fu)=false):tkO fu ot n=ot:=if_pos (by have:=of_decide_eq_false h;omega)
theorem tkO_no {ot:Bool} (h:decide (n>fu)=true):tkO fu ot n=true:=if_neg (by have:=of_decide_eq_true h;omega)
theorem addI_yes (h:decide (n ∈ ls)=true):zg8 ls n=ls:=if_pos (of_decide_eq_true h)
theorem addI_no (h:decide (n ∈ ls)=false):zg8 ls n=ls++[n]:=if_neg (of_decide_eq_false h)
theorem STake (s:zab) (ps:List zal) (au:zay) (fu:Int) (ot:Bool) (ls es:List Int) (fs sc:List PrD) (n:Int) (hf:0<=fu/\fu<=1073741824) (hn:0<=n/\n<=100000000000):Fn d6 140 [(7,(bxS s ps au fu ot)),(1,.mp (mpL s ps ls)),(2,.mp (mpE s es)),(3,.mp (mpP fs)),(4,.mp (mpP sc))] [vp 7 0,vI n] (vb (decide (n<=fu))) [(7,(bxS s ps au (tkF fu n) (tkO fu ot n))),(1,.mp (mpL s ps ls)),(2,.mp (mpE s es)),(3,.mp (mpP fs)),(4,.mp (mpP sc))]:=by
 refine fB Tryz.func140 rfl 25 fun w H B a h=>Jq 8 [] [(0,vp 7 0),(1,vI n),(4,vb false)] [(7,(bxS s ps au fu ot)),(1,.mp (mpL s ps ls)),(2,.mp (mpE s es)),(3,.mp (mpP fs)),(4,.mp (mpP sc))] h fun a w h=>qW (Je 8 [(2,.g (Op.nilQ (d:=7) (t:=6) (n:=7) (o:=0)))] [] [(10,vb (decide (n>fu)))] h fun a w h=>zag (n>fu) h (fun hc1 hc1'=>?_) (fun hc2 hc2'=>?_))
 ·refine Jg 8 [(2,.g (Op.nilQ (d:=13) (t:=11) (n:=7) (o:=0))),(5,.g (Op.nilQ (d:=15) (t:=12) (n:=7) (o:=0)))] [10] [] [] [(7,(bxS s ps au 0 true))] h fun a w h=>Je 8 [] [] [] h fun a w h=>qV (za2 ?_);replace h:=cvM [] [] [] [(7,(bxS s ps au (tkF fu n) (tkO fu ot n)))] (by rw [tkF_no hc1,tkO_no hc1]; try kernel_rfl) h;refine rT (.c (cB false)) h rfl ?_;exact congrArg vb (by first | exact (decide_eq_false (by have:=dT hc1;omega)).symm | exact (decide_eq_true (by have:=dF hc1;omega)).symm)
 refine qU (za0 (Jg 8 [(1,.g (Op.nilQ (d:=18) (t:=17) (n:=7) (o:=0))),(5,.sub .i64 (m:=fu) (n:=n) i6),(6,.g (Op.nilQ (d:=23) (t:=17) (n:=7) (o:=0)))] [0,1,10] [] [] [(7,(bxS s ps au (fu - n) ot))] h fun a w h=>Jp 8 [] [(4,vb true)] h fun a w h=>qV ?_));replace h:=cvM [] [] [] [(7,(bxS s ps au (tkF fu n) (tkO fu ot n)))] (by rw [tkF_yes hc2,tkO_yes hc2]; try kernel_rfl) h;refine rT (.c (cB true)) h rfl ?_;exact congrArg vb (by first | exact (decide_eq_false (by have:=dT hc2;omega)).symm | exact (decide_eq_true (by have:=dF hc2;omega)).symm)
theorem SLetterX (s:zab) (ps:List zal) (au:zay) (fu:Int) (ot:Bool) (ls es:List Int) (fs sc:List PrD) (n:Int) {L:Nat} (hs:zaw L s) (hL:L<=1000) (hp:zbp s) (hps:∀ p ∈ ps,zfl L p) (hpl:ps.length<=1000) (hls:zj6 ls) (hn:InI n):Fn d6 96 [(7,(bxS s ps au fu ot)),(1,.mp (mpL s ps ls)),(2,.mp (mpE s es)),(3,.mp (mpP fs)),(4,.mp (mpP sc))] [vp 7 0,vI n] (vS 1 ((zbc s ps n).map za3)) [(7,(bxS s ps au fu ot)),(1,.mp (mpL s ps (zg8 ls n))),(2,.mp (mpE s es)),(3,.mp (mpP fs)),(4,.mp (mpP sc))]:=by
 refine fB Tryz.func96 rfl 42 fun w H B a h=>Jq 8 [] [(0,vp 7 0),(1,vI n),(4,vW zaa)] [(7,(bxS s ps au fu ot)),(1,.mp (mpL s ps ls)),(2,.mp (mpE s es)),(3,.mp (mpP fs)),(4,.mp (mpP sc))] h fun a w h=>?_
 rcases bL (decide (n ∈ ls)) with hc1 | hc2
 ·have hc1':=dT hc1;refine Je 8 [(1,.g (Op.nilQ (d:=11) (t:=10) (n:=7) (o:=0))),(5,.g (Op.lkLT (s:=s) (ps:=ps) (d:=15) (t:=13) (m:=1) (x:=14) (ls:=ls) hls hn (dT hc1)))] [] [(5,vS 1 ((zbc s ps n).map za3)),(6,vb true)] h fun a w h=>qW (Je 8 [] [6] [(19,vb false)] h fun a w h=>zbs h (qU (za0 (Jp 8 [] [(4,vS 1 ((zbc s ps n).map za3))] h fun a w h=>qV ?_))));replace h:=cvM [] [] [] [(1,.mp (mpL s ps (zg8 ls n)))] (by rw [addI_yes hc1]; try kernel_rfl) h;refine rT (.c (.d (.sl 1 ((zbc s ps n).map za3)))) h rfl ?_;rfl
 have hc2':=dF hc2;refine Je 8 [(1,.g (Op.nilQ (d:=11) (t:=10) (n:=7) (o:=0))),(5,.g (Op.lkLF (s:=s) (ps:=ps) (d:=15) (t:=13) (m:=1) (x:=14) (ls:=ls) hls hn (dF hc2)))] [] [(5,vS 1 ([].map za3)),(6,vb false)] h fun a w h=>qW (Je 8 [] [6] [(19,vb true)] h fun a w h=>cS true h (fun _=>?_) nofun);refine Jg 8 [(1,.g (Op.nilQ (d:=22) (t:=21) (n:=7) (o:=0))),(5,.call (OState s n hs hL hp))] [19] [(7,vp 8 0)] [] [(8,.box [cIs (zdb s n).1.locs,cZs (zdb s n).1.vals])] h fun a w h=>Jg 9 [(1,.g (Op.nilQ (d:=30) (t:=29) (n:=7) (o:=0))),(5,.call (SLetter ps (zdb s n).1 (L:=L) (M:=L+3) (by omega) hps hpl (st19_ok hs hp n)))] [7] [(5,vS 1 ((zbc s ps n).map za3))] [8] [] h fun a w h=>Jh 9 [(1,.g (Op.nilQ (d:=36) (t:=35) (n:=7) (o:=0))),(6,.g (Op.upL (s:=s) (ps:=ps) (t:=38) (m:=1) (x:=39) (y:=40) (n:=n) (ls:=ls) hls hn (dF hc2)))] [0,1] [] [] [(1,.mp (mpL s ps (ls++[n])))] h fun a w h=>za0 (Jp 9 [] [(4,vS 1 ((zbc s ps n).map za3))] h fun a w h=>qV ?_);replace h:=cvM [] [] [] [(1,.mp (mpL s ps (zg8 ls n)))] (by rw [addI_no hc2]; try kernel_rfl) h;refine rT (.c (.d (.sl 1 ((zbc s ps n).map za3)))) h rfl ?_;rfl
theorem SSteps (s:zab) (ps:List zal) (au:zay) (fu:Int) (ot:Bool) (ls es:List Int) (fs sc:List PrD) (n:Int) {L:Nat} (hs:zaw L s) (hL:L<=1000) (hp:zbp s) (hes:zj6 es) (hn:InI n):Fn d6 149 [(7,(bxS s ps au fu ot)),(1,.mp (mpL s ps ls)),(2,.mp (mpE s es)),(3,.mp (mpP fs)),(4,.mp (mpP sc))] [vp 7 0,vI n] (vS 3 ((zd5 s n).map zaq.d)) [(7,(bxS s ps au fu ot)),(1,.mp (mpL s ps ls)),(2,.mp (mpE s (zg8 es n))),(3,.mp (mpP fs)),(4,.mp (mpP sc))]:=by
 refine fB Tryz.func149 rfl 42 fun w H B a h=>Jq 8 [] [(0,vp 7 0),(1,vI n),(4,vW zaa)] [(7,(bxS s ps au fu ot)),(1,.mp (mpL s ps ls)),(2,.mp (mpE s es)),(3,.mp (mpP fs)),(4,.mp (mpP sc))] h fun a w h=>?_
 rcases bL (decide (n ∈ es)) with hc1 | hc2
 ·have hc1':=dT hc1;refine Je 8 [(1,.g (Op.nilQ (d:=11) (t:=10) (n:=7) (o:=0))),(5,.g (Op.lkET (s:=s) (d:=15) (t:=13) (m:=2) (x:=14) (ls:=es) hes hn (dT hc1)))] [] [(5,vS 3 ((zd5 s n).map zaq.d)),(6,vb true)] h fun a w h=>qW (Je 8 [] [6] [(19,vb false)] h fun a w h=>zbs h (qU (za0 (Jp 8 [] [(4,vS 3 ((zd5 s n).map zaq.d))] h fun a w h=>qV ?_))));replace h:=cvM [] [] [] [(2,.mp (mpE s (zg8 es n)))] (by rw [addI_yes hc1]; try kernel_rfl) h;refine rT (.c (.d (.sl 3 ((zd5 s n).map zaq.d)))) h rfl ?_;rfl
 have hc2':=dF hc2;refine Je 8 [(1,.g (Op.nilQ (d:=11) (t:=10) (n:=7) (o:=0))),(5,.g (Op.lkEF (s:=s) (d:=15) (t:=13) (m:=2) (x:=14) (ls:=es) hes hn (dF hc2)))] [] [(5,vS 3 ([].map zaq.d)),(6,vb false)] h fun a w h=>qW (Je 8 [] [6] [(19,vb true)] h fun a w h=>cS true h (fun _=>?_) nofun);refine Jg 8 [(1,.g (Op.nilQ (d:=22) (t:=21) (n:=7) (o:=0))),(5,.call (OState s n hs hL hp))] [19] [(7,vp 8 0)] [] [(8,.box [cIs (zdb s n).1.locs,cZs (zdb s n).1.vals])] h fun a w h=>Jg 9 [(1,.g (Op.nilQ (d:=30) (t:=29) (n:=7) (o:=0))),(5,.call (OEdges s (zdb s n).1 (L:=L) (M:=L+3) hs hL hp (by omega) (bR _) (st19_ok hs hp n)))] [7] [(5,vS 3 ((zd5 s n).map zaq.d))] [8] [] h fun a w h=>Jh 9 [(1,.g (Op.nilQ (d:=36) (t:=35) (n:=7) (o:=0))),(6,.g (Op.upE (s:=s) (t:=38) (m:=2) (x:=39) (y:=40) (n:=n) (ls:=es) hes hn (dF hc2)))] [0,1] [] [] [(2,.mp (mpE s (es++[n])))] h fun a w h=>za0 (Jp 9 [] [(4,vS 3 ((zd5 s n).map zaq.d))] h fun a w h=>qV ?_);replace h:=cvM [] [] [] [(2,.mp (mpE s (zg8 es n)))] (by rw [addI_no hc2]; try kernel_rfl) h;refine rT (.c (.d (.sl 3 ((zd5 s n).map zaq.d)))) h rfl ?_;rfl
theorem SGood (s:zab) (ps:List zal) (au:zay) (fu:Int) (ot:Bool) (ls es:List Int) (fs sc:List PrD) (p:PrD) (hp0:0<=p.nd):Fn d6 99 [(7,(bxS s ps au fu ot)),(1,.mp (mpL s ps ls)),(2,.mp (mpE s es)),(3,.mp (mpP fs)),(4,.mp (mpP sc))] [vp 7 0,vG [cI p.st,cI p.nd]] (vb (zh7 au p)) [(7,(bxS s ps au fu ot)),(1,.mp (mpL s ps ls)),(2,.mp (mpE s es)),(3,.mp (mpP fs)),(4,.mp (mpP sc))]:=by
 refine fB Tryz.func99 rfl 25 fun w H B a h=>Jq 8 [] [(0,vp 7 0),(3,vp 8 0),(4,vb false)] [(7,(bxS s ps au fu ot)),(1,.mp (mpL s ps ls)),(2,.mp (mpE s es)),(3,.mp (mpP fs)),(4,.mp (mpP sc)),(8,.box [cI p.st,cI p.nd])] h fun a w h=>?_
 obtain ⟨k,hkk⟩:∃ k_:Nat,p.nd=(k_:Int):=⟨_,(cJ (by omega)).symm⟩;replace h:=cvM [] [] [] [(8,.box [cI p.st,cI (k:Int)])] (by rw [hkk]; try kernel_rfl) h
 rcases bL (decide ((k:Int)<(au.good.length:Int))) with hc1 | hc2
 ·have hc1':=dT hc1;obtain ⟨x1,hx1⟩:=gl au.good k;refine Jg 9 [(3,.g (Op.nilQ (d:=8) (t:=7) (n:=7) (o:=0))),(7,.len (za1 1 za3 au.good)),(8,.cmp (op:=.lss) (m:=(k:Int)) (n:=(au.good.length:Int)) (b:=true) .i64 hc1),(11,.g (Op.nilQ (d:=16) (t:=15) (n:=7) (o:=0))),(17,.g (xD 22 19 zda (za4 hx1 (f:=za3)) (d8 21 _)))] [0,3] [(4,vb x1)] [8] [] h fun a w h=>qV (rT (.c (cB x1)) h rfl ?_);have hz:zh7 au p=x1:=by unfold zh7;rw [decide_eq_true (p:=p.nd<(au.good.length:Int)) (by have:=dT hc1;omega),cK,show p.nd.toNat=k by omega,hx1];rfl
  rw [hz];try rfl
 have hc2':=dF hc2;refine Jg 9 [(3,.g (Op.nilQ (d:=8) (t:=7) (n:=7) (o:=0))),(7,.len (za1 1 za3 au.good)),(8,.cmp (op:=.lss) (m:=(k:Int)) (n:=(au.good.length:Int)) (b:=false) .i64 hc2)] [0,3] [] [8] [] h fun a w h=>qV (rT (.c (cB false)) h rfl ?_);have hz:zh7 au p=false:=by unfold zh7;rw [decide_eq_false (by have:=dF hc2;omega)];rfl
 rw [hz];try rfl
theorem SNext (way:List WkD) (hw0:0<way.length) (hwm:way.length<=1000000000000) (hwd:∀ w ∈ way,w.done<=w.moves.length) (hwl:∀ w ∈ way,w.moves.length<=1000000000000):Fn d6 98 [(9,.row 176 4 (way.map WkD.d))] [vO 9 way.length] (.tup [.agg [cI (if zbu way=true then zae way else mvz).act,cI (if zbu way=true then zae way else mvz).to_.st,cI (if zbu way=true then zae way else mvz).to_.nd],.c (cB (zbu way))]) [(9,.row 176 4 ((if zbu way=true then zas way else way).map WkD.d))]:=by
 refine fB Tryz.func98 rfl 39 fun w H B a h=>Jq 10 [] [(0,vO 9 way.length),(2,vp 10 0),(3,vb false)] [(9,.row 176 4 (way.map WkD.d)),(10,.box [cI 0,cI 0,cI 0])] h fun a w h=>Je 11 [(3,.g (Op.arith (op:=.sub) (d:=8) (xt:=3) (yt:=3) (k:=.i64) (m:=(way.length:Int)) (n:=1) (r:=((way.length - 1:Nat):Int)) (d8 7 _) (d7 (.int .i64 1) rfl) (.inr (.inl ⟨rfl,by omega⟩)) i6)),(4,.g (xO 9 5 9 way.length (way.length - 1) zka (d8 8 _)))] [0] [(4,.t (.c (.ptr 9 ((way.length - 1)*4))))] h fun a w h=>qW ?_
 obtain ⟨x1,hx1⟩:=gl way (way.length - 1);have hmx1:=lM hx1;have hdx1:=hwd x1 hmx1;have hlx1:=hwl x1 hmx1;have elx1:zb8 way=x1:=by unfold zb8;rw [hx1];rfl
 refine Je 11 [(1,.g (Op.nilQ (d:=11) (t:=10) (n:=9) (o:=(way.length - 1)*4))),(3,.g (Op.loadR_c (d:=13) (t:=12) (n:=9) (i:=(way.length - 1)) (fo:=3) (rty:=176) (es:=4) (x:=(.raw (.int .i64 ((x1.done:Nat):Int)))) tl_7 rfl (za4 hx1 (f:=WkD.d)) rfl)),(5,.g (Op.nilQ (d:=15) (t:=14) (n:=9) (o:=(way.length - 1)*4))),(7,.g (Op.loadR_c (d:=17) (t:=16) (n:=9) (i:=(way.length - 1)) (fo:=2) (rty:=176) (es:=4) (x:=(.sl 3 (x1.moves.map MvD.d))) qc1_6 rfl (za4 hx1 (f:=WkD.d)) rfl)),(8,.len (za1 3 MvD.d x1.moves))] [] [(19,vb (((x1.done:Nat):Int) == (x1.moves.length:Int)))] h fun a w h=>cS (((x1.done:Nat):Int) == (x1.moves.length:Int)) h (fun hc1=>?_) (fun hc2=>?_)
 ·have h8:x1.done=x1.moves.length:=by have:=hc1;simp at this;omega
  have emw:zbu way=false:=by unfold zbu;rw [elx1];exact decide_eq_false (fun h9=>h9 h8)
  refine Je 11 [] [19] [] h fun a w h=>qV (za2 ?_);replace h:=cvM [] [] [] [(9,.row 176 4 ((if zbu way=true then zas way else way).map WkD.d))] (by rw [if_neg (by rw [emw];exact Bool.noConfusion)]; try kernel_rfl) h;refine zdp [.agg [cI 0,cI 0,cI 0],.c (cB false)] h Exit.ret (.inl rfl)  rfl ⟨RV.agg _ 10 0 _ _ _ _ qc1_7 rfl rfl rfl rfl,vT9,trivial⟩ ?_;rw [emw];rfl
 have h8:x1.done≠x1.moves.length:=by have:=hc2;simp at this;omega
 have emw:zbu way=true:=by unfold zbu;rw [elx1];exact decide_eq_true h8
 have hltx1:x1.done<x1.moves.length:=by omega
 refine qU (za0 (Jg 11 [(1,.g (Op.nilQ (d:=22) (t:=21) (n:=9) (o:=(way.length - 1)*4))),(3,.g (Op.loadR_c (d:=24) (t:=23) (n:=9) (i:=(way.length - 1)) (fo:=3) (rty:=176) (es:=4) (x:=(.raw (.int .i64 ((x1.done:Nat):Int)))) tl_7 rfl (za4 hx1 (f:=WkD.d)) rfl)),(4,.add .i64 (m:=((x1.done:Nat):Int)) (n:=1) i6),(5,.g (Op.nilQ (d:=26) (t:=21) (n:=9) (o:=(way.length - 1)*4))),(7,.g (Op.storeR (t:=27) (n:=9) (i:=(way.length - 1)) (fo:=3) (rty:=176) (es:=4) (r:=WkD.d x1) (ds:=[.raw (.int .i64 (((x1.done:Nat):Int)+1))]) (rs:=[(25,vI (((x1.done:Nat):Int)+1))]) (rows:=way.map WkD.d) (rows':=(way.set (way.length - 1) (WkD.mk x1.at_ x1.moves (x1.done+1))).map WkD.d) tl_7 (d8 25 _) rfl rfl rfl (za4 hx1 (f:=WkD.d)) (by simp [WkD.d]) (zc9 (xs:=way) (F:=WkD.d) (way.length - 1) _ _ rfl)))] [19] [] [] [(9,.row 176 4 ((way.set (way.length - 1) (WkD.mk x1.at_ x1.moves (x1.done+1))).map WkD.d))] h fun a w h=>?_));obtain ⟨x2,hx2⟩:=gl ((WkD.mk x1.at_ x1.moves (x1.done+1)).moves) x1.done;refine Jg 11 [(1,.g (Op.nilQ (d:=29) (t:=28) (n:=9) (o:=(way.length - 1)*4))),(3,.g (Op.loadR_c (d:=31) (t:=30) (n:=9) (i:=(way.length - 1)) (fo:=2) (rty:=176) (es:=4) (x:=(.sl 3 ((WkD.mk x1.at_ x1.moves (x1.done+1)).moves.map MvD.d))) qc1_6 rfl (za4 (d5 (dO.1 hx1).1) (f:=WkD.d)) rfl)),(5,.g (Op.nilQ (d:=33) (t:=32) (n:=9) (o:=(way.length - 1)*4))),(7,.g (Op.loadR_c (d:=35) (t:=34) (n:=9) (i:=(way.length - 1)) (fo:=3) (rty:=176) (es:=4) (x:=(.raw (.int .i64 (((WkD.mk x1.at_ x1.moves (x1.done+1)).done:Nat):Int)))) tl_7 rfl (za4 (d5 (dO.1 hx1).1) (f:=WkD.d)) rfl)),(8,.g (Op.arith (op:=.sub) (d:=36) (xt:=3) (yt:=3) (k:=.i64) (m:=(((WkD.mk x1.at_ x1.moves (x1.done+1)).done:Nat):Int)) (n:=1) (r:=((x1.done:Nat):Int)) (d8 35 _) (d7 (.int .i64 1) rfl) (.inr (.inl ⟨rfl,by first | (show _=((x1.done+1:Nat):Int) - 1;omega) | (show ((x1.done+1:Nat):Int) - 1=_;omega)⟩)) i6)),(9,.g (xD 37 31 qc1_8 (za4 hx2 (f:=MvD.d)) (d8 36 _)))] [4] [(3,vb true)] [] [(10,.box [cI x2.act,cI x2.to_.st,cI x2.to_.nd])] h fun a w h=>?_;refine qV ?_;replace h:=cvM [] [] [] [(9,.row 176 4 ((if zbu way=true then zas way else way).map WkD.d))] (by rw [if_pos emw];unfold zas;rw [elx1]; try kernel_rfl) h;refine zdp [.agg [cI x2.act,cI x2.to_.st,cI x2.to_.nd],.c (cB true)] h Exit.ret (.inl rfl)  rfl ⟨RV.agg _ 10 0 _ _ _ _ qc1_7 rfl rfl rfl rfl,vT9,trivial⟩ ?_;rw [if_pos emw,show zae way=x2 by unfold zae;rw [elx1,hx2];rfl,emw];rfl
theorem qd1_1:zbg d6 136:=zbg.mk' (by kernel_rfl)
theorem qd1_4:zbg d6 137:=zbg.mk' (by kernel_rfl)
theorem SAl1p (k:Nat) (l:List Bool) (hl:l.length<=9223372036854775807):Fn d6 136 [(1,.box [.d (.sl 1 (l.map za3))])] [vN k,vp 1 0] (vb (hdB l (k:Int))) [(1,.box [.d (.sl 1 (l.map za3))])]:=by
 refine fB Tryz.func136 rfl 18 fun w H B a h=>Jq 5 [] [(0,vN k),(1,vp 1 0),(3,vb false)] [(1,.box [.d (.sl 1 (l.map za3))])] h fun a w h=>?_
 rcases bL (decide ((k:Int)<(l.length:Int))) with hc1 | hc2
 ·have hc1':=dT hc1;obtain ⟨x1,hx1⟩:=gl l k;refine Jp 5 [(1,.cmp (op:=.geq) (m:=(k:Int)) (n:=0) (b:=true) .i64 (show decide ((k:Int)>=0)=true from decide_eq_true (by omega))),(5,.len (za1 1 za3 l)),(6,.cmp (op:=.lss) (m:=(k:Int)) (n:=(l.length:Int)) (b:=true) .i64 hc1),(11,.g (xD 15 13 zda (za4 hx1 (f:=za3)) (d8 14 _)))] [(3,vb x1)] h fun a w h=>qV (rT (.c (cB x1)) h rfl ?_);have hz:hdB l (k:Int)=x1:=by unfold hdB;rw [decide_eq_true (p:=(0:Int)<=(k:Int)) (by omega),cK];rw [hc1,cK,show ((k:Int)).toNat=k by omega,hx1];rfl
  rw [hz];try rfl
 have hc2':=dF hc2;refine Jp 5 [(1,.cmp (op:=.geq) (m:=(k:Int)) (n:=0) (b:=true) .i64 (show decide ((k:Int)>=0)=true from decide_eq_true (by omega))),(5,.len (za1 1 za3 l)),(6,.cmp (op:=.lss) (m:=(k:Int)) (n:=(l.length:Int)) (b:=false) .i64 hc2)] [(3,vb false)] h fun a w h=>qV (rT (.c (cB false)) h rfl ?_);have hz:hdB l (k:Int)=false:=by unfold hdB;rw [decide_eq_true (p:=(0:Int)<=(k:Int)) (by omega),cK];rw [hc2];rfl
 rw [hz];try rfl
theorem SAl1n (p:Int) (l:List Bool) (hp:p<0):Fn d6 136 [(1,.box [.d (.sl 1 (l.map za3))])] [vI p,vp 1 0] (vb (hdB l p)) [(1,.box [.d (.sl 1 (l.map za3))])]:=by
 refine fB Tryz.func136 rfl 18 fun w H B a h=>Jq 5 [] [(0,vI p),(1,vp 1 0),(3,vb false)] [(1,.box [.d (.sl 1 (l.map za3))])] h fun a w h=>Jp 5 [(1,.cmp (op:=.geq) (m:=p) (n:=0) (b:=false) .i64 (show decide (p>=0)=false from decide_eq_false (by omega)))] [(3,vb false)] h fun a w h=>qV (rT (.c (cB false)) h rfl ?_)
 unfold hdB;rw [decide_eq_false (p:=0<=p) (by omega)];rfl
theorem SAl1 (l:List Bool) (p:Int) (hl:l.length<=9223372036854775807):Fn d6 136 [(1,.box [.d (.sl 1 (l.map za3))])] [vi .i64 p,vp 1 0] (vb (hdB l p)) [(1,.box [.d (.sl 1 (l.map za3))])]:=by
 by_cases hp:p<0
 ·exact SAl1n p l hp
 ·obtain ⟨k,rfl⟩:=Int.eq_ofNat_of_zero_le (show 0<=p by omega)
  exact SAl1p k l hl
theorem SAl2 (l:List Bool) (p:Int) (hl:l.length<=9223372036854775807):Fn d6 137 [(2,.box [.fn (.func 136) [] [.ptr 1 0]]),(1,.box [.d (.sl 1 (l.map za3))])] [vI p,vp 2 0] (vb (!hdB l p)) [(2,.box [.fn (.func 136) [] [.ptr 1 0]]),(1,.box [.d (.sl 1 (l.map za3))])]:=by
 refine fB Tryz.func137 rfl 8 fun w H B a h=>Jq 5 [] [(0,vI p),(1,vp 2 0),(3,vb false)] [(2,.box [.fn (.func 136) [] [.ptr 1 0]]),(1,.box [.d (.sl 1 (l.map za3))])] h fun a w h=>Jp 5 [(2,.g (Op.callV (d:=6) (t:=4) (cap:=[.ptr 1 0]) (args:=[vI p]) (rs:=[(5,vI p)]) (tys:=#[3]) (SAl1 l p hl) qd1_1 (d9 (d8 5 _) (OVs.nil))))] [(3,vb (!(hdB l p)))] h fun a w h=>qV (rT (.c (cB (!(hdB l p)))) h rfl ?_)
 rfl
theorem SIdxA1 (pr:Int->Bool) (xs:List Int) (l:List Bool) (hf:∀ x ∈ xs,Fn d6 136 [(1,.box [.d (.sl 1 (l.map za3))])] [vI x,vp 1 0] (vb (pr x)) [(1,.box [.d (.sl 1 (l.map za3))])]) (hl:xs.length<=9223372036854775807):Fn d6 67 [(1,.box [.d (.sl 1 (l.map za3))])] [(vIs xs),.t (.c (.fn (.func 136) [] [.ptr 1 0]))] (vI (zcn pr xs 0)) [(1,.box [.d (.sl 1 (l.map za3))])]:=by
 refine fB Tryz.func67 rfl 19 fun w H B a h=>Jq 5 [] [(0,(vIs xs)),(1,.t (.c (.fn (.func 136) [] [.ptr 1 0]))),(4,vI 0)] [(1,.box [.d (.sl 1 (l.map za3))])] h fun a w h=>qW (Je 5 [(1,.len (za1 1 za8 xs))] [] [(7,vN xs.length),(8,vI 0)] h fun a w h=>qZ ?_)
 refine zcc (ι:=(Nat)) (fun j=>j<=xs.length/\zcn pr xs 0=zcn pr (xs.drop j) j)
   [4] (fun j=>[(8,vN j)])
   [] (fun j=>[])
   (fun j=>xs.length - j) 0 ?_ h ?_
 ·exact ⟨bE _,rfl⟩
 clear h;rintro j a w hI h;obtain ⟨hI1,hI2⟩:=hI;refine Je 5 [] [] [(9,vb (decide ((j:Int)<(xs.length:Int))))] h fun a w h=>qW (zag ((j:Int)<(xs.length:Int)) h (fun hc1 hc1'=>?_) (fun hc4 hc4'=>?_))
 ·refine qU (za0 (qW (qZ (Je 5 [] [9] [(5,vN j)] h fun a w h=>?_))));obtain ⟨x1,hx1⟩:=gl xs j;refine Je 5 [(3,.g (xD 14 12 zdj (za4 hx1 (f:=za8)) (d8 13 _))),(5,.g (Op.callV (d:=16) (t:=11) (cap:=[.ptr 1 0]) (args:=[vI x1]) (rs:=[(15,vI x1)]) (tys:=#[3]) (hf x1 (lM hx1)) qd1_1 (d9 (d8 15 _) (OVs.nil))))] [] [(16,vb (pr x1))] h fun a w h=>cS (pr x1) h (fun hc2=>?_) (fun hc3=>?_)
  ·refine Je 5 [] [5,16] [(4,vN j)] h fun a w h=>qV (za6 (za2 (za2 (za6 (za2 (rT (.c (cI (j:Int))) h rfl ?_))))));have hz:zcn pr xs 0=(j:Int):=by rw [hI2,zci hx1,if_pos hc2]
   rw [hz];try rfl
  refine qU (za5 (za0 (Jf 5 [(0,.j1 j)] [5,16] [(8,vI ((j:Int)+1))] h fun a w h=>za0 (za9 (x:=j) (y:=j+1) h ?_ ?_))))
  ·exact ⟨by have:=zac hx1;omega,by rw [hI2,zci hx1,if_neg (by rw [hc3];exact Bool.noConfusion)]⟩
  (try simp);omega
 refine exA (Jp 5 [] [(4,vI (-1))] h fun a w h=>qV (rT (.c (cI (-1))) h rfl ?_));have hz:zcn pr xs 0=-1:=by rw [hI2,cX (by omega)];rfl
 rw [hz];try rfl
theorem SAnyA1 (pr:Int->Bool) (xs:List Int) (l:List Bool) (hf:∀ x ∈ xs,Fn d6 136 [(1,.box [.d (.sl 1 (l.map za3))])] [vI x,vp 1 0] (vb (pr x)) [(1,.box [.d (.sl 1 (l.map za3))])]) (hl:xs.length<=9223372036854775807):Fn d6 31 [(1,.box [.d (.sl 1 (l.map za3))])] [(vIs xs),.t (.c (.fn (.func 136) [] [.ptr 1 0]))] (vb (xs.any pr)) [(1,.box [.d (.sl 1 (l.map za3))])]:=by
 refine fB Tryz.func31 rfl 9 fun w H B a h=>Jq 5 [] [(0,(vIs xs)),(1,.t (.c (.fn (.func 136) [] [.ptr 1 0]))),(4,vb false)] [(1,.box [.d (.sl 1 (l.map za3))])] h fun a w h=>Jp 5 [(2,.call (SIdxA1 pr xs l hf  hl))] [(4,vb (decide (zcn pr xs 0>=0)))] h fun a w h=>qV (rT (.c (cB (decide (zcn pr xs 0>=0)))) h rfl ?_)
 rw [<- zgl];try rfl
theorem SIdxA2 (pr:Int->Bool) (xs:List Int) (l:List Bool) (hf:∀ x ∈ xs,Fn d6 137 [(2,.box [.fn (.func 136) [] [.ptr 1 0]]),(1,.box [.d (.sl 1 (l.map za3))])] [vI x,vp 2 0] (vb (pr x)) [(2,.box [.fn (.func 136) [] [.ptr 1 0]]),(1,.box [.d (.sl 1 (l.map za3))])]) (hl:xs.length<=9223372036854775807):Fn d6 67 [(2,.box [.fn (.func 136) [] [.ptr 1 0]]),(1,.box [.d (.sl 1 (l.map za3))])] [(vIs xs),.t (.c (.fn (.func 137) [] [.ptr 2 0]))] (vI (zcn pr xs 0)) [(2,.box [.fn (.func 136) [] [.ptr 1 0]]),(1,.box [.d (.sl 1 (l.map za3))])]:=by
 refine fB Tryz.func67 rfl 19 fun w H B a h=>Jq 5 [] [(0,(vIs xs)),(1,.t (.c (.fn (.func 137) [] [.ptr 2 0]))),(4,vI 0)] [(2,.box [.fn (.func 136) [] [.ptr 1 0]]),(1,.box [.d (.sl 1 (l.map za3))])] h fun a w h=>qW (Je 5 [(1,.len (za1 1 za8 xs))] [] [(7,vN xs.length),(8,vI 0)] h fun a w h=>qZ ?_)
 refine zcc (ι:=(Nat)) (fun j=>j<=xs.length/\zcn pr xs 0=zcn pr (xs.drop j) j)
   [4] (fun j=>[(8,vN j)])
   [] (fun j=>[])
   (fun j=>xs.length - j) 0 ?_ h ?_
 ·exact ⟨bE _,rfl⟩
 clear h;rintro j a w hI h;obtain ⟨hI1,hI2⟩:=hI;refine Je 5 [] [] [(9,vb (decide ((j:Int)<(xs.length:Int))))] h fun a w h=>qW (zag ((j:Int)<(xs.length:Int)) h (fun hc1 hc1'=>?_) (fun hc4 hc4'=>?_))
 ·refine qU (za0 (qW (qZ (Je 5 [] [9] [(5,vN j)] h fun a w h=>?_))));obtain ⟨x1,hx1⟩:=gl xs j;refine Je 5 [(3,.g (xD 14 12 zdj (za4 hx1 (f:=za8)) (d8 13 _))),(5,.g (Op.callV (d:=16) (t:=11) (cap:=[.ptr 2 0]) (args:=[vI x1]) (rs:=[(15,vI x1)]) (tys:=#[3]) (hf x1 (lM hx1)) qd1_4 (d9 (d8 15 _) (OVs.nil))))] [] [(16,vb (pr x1))] h fun a w h=>cS (pr x1) h (fun hc2=>?_) (fun hc3=>?_)
  ·refine Je 5 [] [5,16] [(4,vN j)] h fun a w h=>qV (za6 (za2 (za2 (za6 (za2 (rT (.c (cI (j:Int))) h rfl ?_))))));have hz:zcn pr xs 0=(j:Int):=by rw [hI2,zci hx1,if_pos hc2]
   rw [hz];try rfl
  refine qU (za5 (za0 (Jf 5 [(0,.j1 j)] [5,16] [(8,vI ((j:Int)+1))] h fun a w h=>za0 (za9 (x:=j) (y:=j+1) h ?_ ?_))))
  ·exact ⟨by have:=zac hx1;omega,by rw [hI2,zci hx1,if_neg (by rw [hc3];exact Bool.noConfusion)]⟩
  (try simp);omega
 refine exA (Jp 5 [] [(4,vI (-1))] h fun a w h=>qV (rT (.c (cI (-1))) h rfl ?_));have hz:zcn pr xs 0=-1:=by rw [hI2,cX (by omega)];rfl
 rw [hz];try rfl
theorem SAnyA2 (pr:Int->Bool) (xs:List Int) (l:List Bool) (hf:∀ x ∈ xs,Fn d6 137 [(2,.box [.fn (.func 136) [] [.ptr 1 0]]),(1,.box [.d (.sl 1 (l.map za3))])] [vI x,vp 2 0] (vb (pr x)) [(2,.box [.fn (.func 136) [] [.ptr 1 0]]),(1,.box [.d (.sl 1 (l.map za3))])]) (hl:xs.length<=9223372036854775807):Fn d6 31 [(2,.box [.fn (.func 136) [] [.ptr 1 0]]),(1,.box [.d (.sl 1 (l.map za3))])] [(vIs xs),.t (.c (.fn (.func 137) [] [.ptr 2 0]))] (vb (xs.any pr)) [(2,.box [.fn (.func 136) [] [.ptr 1 0]]),(1,.box [.d (.sl 1 (l.map za3))])]:=by
 refine fB Tryz.func31 rfl 9 fun w H B a h=>Jq 5 [] [(0,(vIs xs)),(1,.t (.c (.fn (.func 137) [] [.ptr 2 0]))),(4,vb false)] [(2,.box [.fn (.func 136) [] [.ptr 1 0]]),(1,.box [.d (.sl 1 (l.map za3))])] h fun a w h=>Jp 5 [(2,.call (SIdxA2 pr xs l hf  hl))] [(4,vb (decide (zcn pr xs 0>=0)))] h fun a w h=>qV (rT (.c (cB (decide (zcn pr xs 0>=0)))) h rfl ?_)
 rw [<- zgl];try rfl
theorem SAllows (nd:zaf) (l:List Bool) (hl:l.length<=9223372036854775807) (hn1:nd.must.length<=9223372036854775807) (hn2:nd.never.length<=9223372036854775807):Fn d6 95 [] [vG [cIs nd.must,cIs nd.never,cIs nd.next],vS 1 (l.map za3)] (vb (zha nd l)) []:=by
 refine fB Tryz.func95 rfl 19 fun w H B a h=>Jq 0 [] [(2,vp 0 0),(3,vp 1 0),(4,vb false)] [(0,.box [cIs nd.must,cIs nd.never,cIs nd.next]),(1,.box [.d (.sl 1 (l.map za3))])] h fun a w h=>Jg 2 [(0,.g (Op.makeFs (d:=6) (fn:=.func 136) [(3,1,0)]))] [3] [(5,vp 2 0)] [] [(2,.box [.fn (.func 136) [] [.ptr 1 0]])] h fun a w h=>?_
 rcases bL (nd.must.any (fun p=>!hdB l p)) with hc1 | hc2
 ·refine Jq 3 [(2,.g (Op.makeFs (d:=9) (fn:=.func 137) [(5,2,0)])),(3,.call (Fn.cast (SAnyA2 (fun p=>!hdB l p) nd.must l (fun p _=>SAl2 l p hl) hn1) (congrArg vb hc1)))] [(4,vb false)] [] h fun a w h=>qV (rT (.c (cB false)) h rfl ?_);have hz:zha nd l=(false):=by unfold zha;rw [hc1];rfl
  rw [hz];try rfl
 refine Jq 3 [(2,.g (Op.makeFs (d:=9) (fn:=.func 137) [(5,2,0)])),(3,.call (Fn.cast (SAnyA2 (fun p=>!hdB l p) nd.must l (fun p _=>SAl2 l p hl) hn1) (congrArg vb hc2))),(9,.call (SAnyA1 (hdB l) nd.never l (fun p _=>SAl1 l p hl) hn2))] [(4,vb (!(nd.never.any (hdB l))))] [] h fun a w h=>qV (rT (.c (cB (!(nd.never.any (hdB l))))) h rfl ?_);have hz:zha nd l=(!(nd.never.any (hdB l))):=by unfold zha;rw [hc2];rfl
 rw [hz];try rfl
theorem qe1_4:SlT d6 58 108 3:=SlT.mk' Tryz.underlying58 (by kernel_rfl)
theorem qe1_5:zbg d6 96:=zbg.mk' (by kernel_rfl)
theorem SIndexO (xs:List Int) (v:Int) (hl:xs.length<=1000000):Fn d6 135 [(9,.row 3 1 (xs.map za8))] [vO 9 xs.length,vI v] (vI (idxI v xs 0)) [(9,.row 3 1 (xs.map za8))]:=by
 refine fB Tryz.func135 rfl 19 fun w H B a h=>Jq 10 [] [(0,vO 9 xs.length),(1,vI v),(4,vI 0)] [(9,.row 3 1 (xs.map za8))] h fun a w h=>qW (Je 10 [] [] [(7,vN xs.length),(8,vI 0)] h fun a w h=>qZ ?_)
 refine zcc (ι:=(Nat)) (fun j=>j<=xs.length/\idxI v xs 0=idxI v (xs.drop j) j)
   [4] (fun j=>[(8,vN j)])
   [] (fun j=>[])
   (fun j=>xs.length - j) 0 ?_ h ?_
 ·exact ⟨bE _,rfl⟩
 clear h;rintro j a w hI h;obtain ⟨hI1,hI2⟩:=hI;refine Je 10 [] [] [(9,vb (decide ((j:Int)<(xs.length:Int))))] h fun a w h=>qW (zag ((j:Int)<(xs.length:Int)) h (fun hc1 hc1'=>?_) (fun hc4 hc4'=>?_))
 ·refine qU (za0 (qW (qZ (Je 10 [] [9] [(5,vN j)] h fun a w h=>?_))));obtain ⟨x1,hx1⟩:=gl xs j;refine Je 10 [(3,.g (xO 14 12 9 xs.length j zdj (d8 13 _))),(4,.g (Op.loadR_c (d:=15) (t:=14) (n:=9) (i:=j) (fo:=0) (rty:=3) (es:=1) (x:=(.raw (.int .i64 x1))) tl_7 rfl (za4 hx1 (f:=za8)) rfl))] [] [(16,vb (v == x1))] h fun a w h=>cS (v == x1) h (fun hc2=>?_) (fun hc3=>?_)
  ·refine Je 10 [] [5,16] [(4,vN j)] h fun a w h=>qV (za6 (za2 (za2 (za6 (za2 (rT (.c (cI (j:Int))) h rfl ?_))))));have hz:idxI v xs 0=(j:Int):=by rw [hI2,idxI_at hx1,if_pos (by simpa using hc2)]
   rw [hz];try rfl
  refine qU (za5 (za0 (Jf 10 [(0,.j1 j)] [5,16] [(8,vI ((j:Int)+1))] h fun a w h=>za0 (za9 (x:=j) (y:=j+1) h ?_ ?_))))
  ·exact ⟨by have:=zac hx1;omega,by rw [hI2,idxI_at hx1,if_neg (by simpa using hc3)]⟩
  show xs.length - (j+1)<xs.length - j;have:=zac hx1;omega
 refine exA (Jp 10 [] [(4,vI (-1))] h fun a w h=>qV (rT (.c (cI (-1))) h rfl ?_));have hz:idxI v xs 0=-1:=by rw [hI2,cX (by omega)];rfl
 rw [hz];try rfl
theorem SContainsO (xs:List Int) (v:Int) (hl:xs.length<=1000000):Fn d6 94 [(9,.row 3 1 (xs.map za8))] [vO 9 xs.length,vI v] (vb (hasI v xs)) [(9,.row 3 1 (xs.map za8))]:=by
 refine fB Tryz.func94 rfl 9 fun w H B a h=>Jq 10 [] [(0,vO 9 xs.length),(1,vI v),(4,vb false)] [(9,.row 3 1 (xs.map za8))] h fun a w h=>Jp 10 [(2,.call (SIndexO xs v hl))] [(4,vb (decide (idxI v xs 0>=0)))] h fun a w h=>qV (rT (.c (cB (decide (idxI v xs 0>=0)))) h rfl ?_)
 rfl
structure zfa (au:zay):Prop where
  nodes:au.nodes.length<=1000000
  first:au.first.length<=1000000
  good:au.good.length<=9223372036854775807
  node:∀ nd ∈ au.nodes,nd.must.length<=1000000/\nd.never.length<=1000000/\nd.next.length<=1000
variable {au:zay}
theorem ftn_snoc {l:List Bool} {x:Int} (h:nodes[j]?=some x):zbl au l (nodes.take (j+1))=fitO au l (zbl au l (nodes.take j)) x:=by
 unfold zbl;rw [bJ,h,List.foldl_append];rfl
theorem ftn_no {l:List Bool} {x:Int} (h:nodes[j]?=some x) (hk:(okN au x && !hasI x (zbl au l (nodes.take j)) && zha (zc4 au x) l)=false):zbl au l (nodes.take j)=zbl au l (nodes.take (j+1)):=by
 rw [ftn_snoc h];unfold fitO;rw [if_neg (by rw [hk];exact Bool.noConfusion)]
theorem ftn_yes {l:List Bool} {x:Int} (h:nodes[j]?=some x) (hk:(okN au x && !hasI x (zbl au l (nodes.take j)) && zha (zc4 au x) l)=true):zbl au l (nodes.take j)++[x]=zbl au l (nodes.take (j+1)):=by
 rw [ftn_snoc h];unfold fitO;rw [if_pos hk]
theorem ftn_ind (au:zay) (l:List Bool) {Q:List Int->Prop} (h0:Q []):∀ (nodes out:List Int),Q out->(∀ out x,x ∈ nodes->okN au x=true->Q out->Q (out++[x]))->Q (nodes.foldl (fitO au l) out)
 | [],out,h,_=>h
 | x :: xs,out,h,hs=>by
  refine ftn_ind au l h0 xs (fitO au l out x) ?_ fun o y hy=>hs o y (by simp [hy])
  unfold fitO
  split
  ·rename_i hc
   simp only [bI] at hc
   exact hs out x (by simp) hc.1.1 h
  ·exact h
theorem ftn_ok (au:zay) (l:List Bool) (nodes:List Int):∀ x ∈ zbl au l nodes,okN au x=true/\x ∈ nodes:=by
 refine ftn_ind au l (Q:=fun out=>∀ x ∈ out,okN au x=true/\x ∈ nodes) (fun x hx=>by cases hx) nodes [] (fun x hx=>by cases hx) fun out x hx hk ho y hy=>?_
 rcases bP.1 hy with hy | hy
 ·exact ho y hy
 ·rw [bK.1 hy];exact ⟨hk,hx⟩
theorem ftn_len (au:zay) (l:List Bool):∀ (nodes out:List Int),(nodes.foldl (fitO au l) out).length<=out.length+nodes.length
 | [],out=>bR _
 | x :: xs,out=>by
  have h:=ftn_len au l xs (fitO au l out x)
  have h2:(fitO au l out x).length<=out.length+1:=by unfold fitO;split <;> simp
  rw [List.foldl_cons,bT];omega
theorem ziu (au:zay) (l:List Bool) (nodes:List Int):(zbl au l nodes).length<=nodes.length:=bS (ftn_len au l nodes []) (by simp)
theorem addI_two (ls:List Int) (n:Int):zg8 (zg8 ls n) n=zg8 ls n:=by
 unfold zg8
 by_cases h:n ∈ ls
 ·rw [if_pos h,if_pos h]
 ·rw [if_neg h,if_pos (by simp)]
theorem lsF_no {x:Int} (h:nodes[j]?=some x) (hk:okN au x=false):lsF au ls n (nodes.take j)=lsF au ls n (nodes.take (j+1)):=by
 unfold lsF;rw [bJ,h,dP];simp [hk]
theorem lsF_yes {x:Int} (h:nodes[j]?=some x) (hk:okN au x=true):zg8 (lsF au ls n (nodes.take j)) n=lsF au ls n (nodes.take (j+1)):=by
 unfold lsF;rw [bJ,h,dP]
 simp only [Option.toList_some,List.any_cons,hk,List.any_nil,Bool.or_false,Bool.or_true,if_true]
 by_cases ha:(nodes.take j).any (okN au)=true
 ·rw [if_pos ha,addI_two]
 ·rw [if_neg ha]
theorem lsF_has {l:List Bool} {x:Int} (h:nodes[j]?=some x) (hk:hasI x (zbl au l (nodes.take j))=true):lsF au ls n (nodes.take j)=lsF au ls n (nodes.take (j+1)):=by
 obtain ⟨h1,h2⟩:=ftn_ok au l _ x (zkw.1 hk)
 unfold lsF;rw [bJ,h,dP,if_pos (List.any_eq_true.2 ⟨x,h2,h1⟩),if_pos (by rw [List.any_eq_true.2 ⟨x,h2,h1⟩];rfl)]
theorem kin_add (h:zj6 ls) (hn:InI n):zj6 (zg8 ls n):=by
 unfold zg8;split
 ·exact h
 ·intro m hm
  rcases bP.1 hm with hm | hm
  ·exact h m hm
  ·rw [bK.1 hm];exact hn
theorem kin_lsF (h:zj6 ls) (hn:InI n):zj6 (lsF au ls n nodes):=by
 unfold lsF;split
 ·exact kin_add h hn
 ·exact h
theorem okN_yes {x:Int} (h1:0<=x) (h2:x<(au.nodes.length:Int)):okN au x=true:=by unfold okN;rw [decide_eq_true h1,decide_eq_true h2];rfl
theorem okN_no {x:Int} (h:x<0\/(au.nodes.length:Int)<=x):okN au x=false:=by
 unfold okN
 rcases h with h | h
 ·rw [decide_eq_false (p:=0<=x) (by omega)];rfl
 ·rw [decide_eq_false (p:=x<(au.nodes.length:Int)) (by omega),Bool.and_false]
theorem nodA_at {nd:zaf} (h:au.nodes[k]?=some nd):zc4 au (k:Int)=nd:=by unfold zc4;rw [show ((k:Int)).toNat=k by omega,h];rfl
theorem SFitsX (s:zab) (ps:List zal) (au:zay) (fu:Int) (ot:Bool) (ls es:List Int) (fs sc:List PrD) (n:Int) (nodes:List Int) {L:Nat} (hs:zaw L s) (hL:L<=1000) (hp:zbp s) (hps:∀ p ∈ ps,zfl L p) (hpl:ps.length<=1000) (hau:zfa au) (hls:zj6 ls) (hn:InI n) (hnl:nodes.length<=1000000):Fn d6 50 [(7,(bxS s ps au fu ot)),(1,.mp (mpL s ps ls)),(2,.mp (mpE s es)),(3,.mp (mpP fs)),(4,.mp (mpP sc))] [vp 7 0,vI n,(vIs nodes)] (vIs (zbl au (zbc s ps n) nodes)) [(7,(bxS s ps au fu ot)),(1,.mp (mpL s ps (lsF au ls n nodes))),(2,.mp (mpE s es)),(3,.mp (mpP fs)),(4,.mp (mpP sc))]:=by
 refine fB Tryz.func50 rfl 54 fun w H B a h=>Jq 30 [] [(0,vp 7 0),(1,vI n),(2,(vIs nodes)),(6,vW zaa)] [(7,(bxS s ps au fu ot)),(1,.mp (mpL s ps ls)),(2,.mp (mpE s es)),(3,.mp (mpP fs)),(4,.mp (mpP sc))] h fun a w h=>Je 30 [] [] [(7,vW zaa)] h fun a w h=>qW (Je 30 [(1,.len (za1 1 za8 nodes))] [2] [(10,(vIs nodes)),(11,vN nodes.length),(12,vI 0)] h fun a w h=>qZ ?_)
 replace h:=zg1 7 0 30 1 3 (vW zaa) h;replace h:=zd8 30 9 h;replace h:=cvM [] [(7,vO 9 (zbl au (zbc s ps n) (nodes.take 0)).length)] [] [(1,.mp (mpL s ps (lsF au ls n (nodes.take 0)))),(9,.row 3 1 ((zbl au (zbc s ps n) (nodes.take 0)).map za8))] (by kernel_rfl) h
 refine zcc (ι:=(Nat)) (fun j=>j<=nodes.length)
   [] (fun j=>[(7,vO 9 (zbl au (zbc s ps n) (nodes.take j)).length),(12,vN j)])
   [] (fun j=>[(1,.mp (mpL s ps (lsF au ls n (nodes.take j)))),(9,.row 3 1 ((zbl au (zbc s ps n) (nodes.take j)).map za8))])
   (fun j=>nodes.length - j) 0 ?_ h ?_
 ·exact bE _
 clear h;rintro j a w hI h;have hkl:zj6 (lsF au ls n (nodes.take j)):=kin_lsF hls hn;have lfi:=ziu au (zbc s ps n) (nodes.take j);have ltk:(nodes.take j).length<=nodes.length:=by simp;omega
 have hlo:(zbl au (zbc s ps n) (nodes.take j)).length<=1000000:=by omega
 have hll:(zbc s ps n).length<=9223372036854775807:=by have:(zbc s ps n).length=ps.length:=bC _;omega
 refine Je 31 [] [] [(13,vb (decide ((j:Int)<(nodes.length:Int))))] h fun a w h=>qW (zag ((j:Int)<(nodes.length:Int)) h (fun hc1 hc1'=>?_) (fun hc10 hc10'=>?_))
 ·refine qU (za0 (qW (qZ ?_)));obtain ⟨x1,hx1⟩:=gl nodes j;refine Je 31 [(0,.g (xD 14 10 zdj (za4 hx1 (f:=za8)) (d8 12 _)))] [13] [(9,vI x1)] h fun a w h=>?_
  rcases bL (decide (x1>=0)) with hc2 | hc9
  ·have hc2':=dT hc2;obtain ⟨k,hkk⟩:∃ k_:Nat,x1=(k_:Int):=⟨_,(cJ (by have:=dT hc2;omega)).symm⟩;replace h:=cvM [] [(9,vN k)] [] [] (by rw [hkk]; try kernel_rfl) h
   rcases bL (decide ((k:Int)<(au.nodes.length:Int))) with hc3 | hc8
   ·have hc3':=dT hc3
    rcases bL (hasI (k:Int) (zbl au (zbc s ps n) (nodes.take j))) with hc4 | hc5
    ·refine Jg 31 [(1,.cmp (op:=.geq) (m:=(k:Int)) (n:=0) (b:=true) .i64 (show (decide ((k:Int)>=0))=true from by rw [<- hkk];exact hc2)),(5,.g (Op.nilQ (d:=21) (t:=20) (n:=7) (o:=0))),(9,.len (za1 3 zaf.d au.nodes)),(10,.cmp (op:=.lss) (m:=(k:Int)) (n:=(au.nodes.length:Int)) (b:=true) .i64 hc3),(15,.call (Fn.cast (SContainsO (zbl au (zbc s ps n) (nodes.take j)) (k:Int) hlo) (congrArg vb hc4)))] [] [(47,vb false)] [] [] h fun a w h=>zbs h (qU (za5 (za0 (Jf 31 [(0,.j1 j)] [9,47] [(12,vI ((j:Int)+1))] h fun a w h=>za0 ?_))));have hok:okN au x1=true:=okN_yes (by have:=dT hc2;omega) (by have:=dT hc3;omega);have hhs:hasI x1 (zbl au (zbc s ps n) (nodes.take j))=true:=by rw [hkk];exact hc4
     replace h:=cvM [] [(7,vO 9 (zbl au (zbc s ps n) (nodes.take (j+1))).length)] [] [(1,.mp (mpL s ps (lsF au ls n (nodes.take (j+1))))),(9,.row 3 1 ((zbl au (zbc s ps n) (nodes.take (j+1))).map za8))] (by rw [<- (ftn_no hx1 (by rw [hok,hhs];rfl):(zbl au (zbc s ps n) (nodes.take j))=(zbl au (zbc s ps n) (nodes.take (j+1)))),<- (lsF_has hx1 hhs:(lsF au ls n (nodes.take j))=(lsF au ls n (nodes.take (j+1))))]; try kernel_rfl) h;refine za9 (x:=j) (y:=j+1) h ?_ ?_
     ·have:=zac hx1;show j+1<=nodes.length;omega
     show nodes.length - (j+1)<nodes.length - j;have:=zac hx1;omega
    obtain ⟨x5,hx5⟩:=gl au.nodes k;refine Jg 31 [(1,.cmp (op:=.geq) (m:=(k:Int)) (n:=0) (b:=true) .i64 (show (decide ((k:Int)>=0))=true from by rw [<- hkk];exact hc2)),(5,.g (Op.nilQ (d:=21) (t:=20) (n:=7) (o:=0))),(9,.len (za1 3 zaf.d au.nodes)),(10,.cmp (op:=.lss) (m:=(k:Int)) (n:=(au.nodes.length:Int)) (b:=true) .i64 hc3),(15,.call (Fn.cast (SContainsO (zbl au (zbc s ps n) (nodes.take j)) (k:Int) hlo) (congrArg vb hc5))),(20,.g (Op.nilQ (d:=36) (t:=35) (n:=7) (o:=0))),(25,.g (xD 41 39 qe1_4 (za4 hx5 (f:=zaf.d)) (d8 40 _))),(29,.g (Op.callI (d:=45) (SLetterX s ps au fu ot (lsF au ls n (nodes.take j)) es fs sc n hs hL hp hps hpl hkl hn) qe1_5 [7,2,3,4] (tys:=#[113,3]) (d9 (d8 43 _) (d9 (d8 44 _) (OVs.nil))) rfl)),(30,.call (SAllows x5 (zbc s ps n) hll (by have:=(hau.node x5 (lM hx5)).1;omega) (by have:=(hau.node x5 (lM hx5)).2.1;omega)))] [] [(47,vb (zha x5 (zbc s ps n)))] [] [(1,.mp (mpL s ps (zg8 (lsF au ls n (nodes.take j)) n)))] h fun a w h=>cS (zha x5 (zbc s ps n)) h (fun hc6=>?_) (fun hc7=>?_)
    ·refine Jh 31 [(2,.g (bD 50 ([(k:Int)].map za8) [(49,vN k)] tb_0 (.cons (i:=0) (d8 49 _) (.nil)) (by kernel_rfl) (by simp [za8]))),(3,.g (Op.appOD (d:=51) (t:=48) (u:=50) (n:=9) (n':=31) (len:=(zbl au (zbc s ps n) (nodes.take j)).length) (len':=((zbl au (zbc s ps n) (nodes.take j))++[(k:Int)]).length) (rows:=(zbl au (zbc s ps n) (nodes.take j)).map za8) (rows2:=[(k:Int)].map za8) (rows':=((zbl au (zbc s ps n) (nodes.take j))++[(k:Int)]).map za8) tb_2 (by first | exact (bC _).symm | simp) (by first | (rw [bH,bC];done) | (simp;done) | (simp;omega)) (by simp) (by simp [za8]) (by first | omega | (simp at *;done) | (simp at *;omega))))] [9,47] [(7,vO 31 ((zbl au (zbc s ps n) (nodes.take j))++[(k:Int)]).length)] [9] [(31,.row 3 1 (((zbl au (zbc s ps n) (nodes.take j))++[(k:Int)]).map za8))] h fun a w h=>za5 (za0 (Jf 32 [(0,.j1 j)] [] [(12,vI ((j:Int)+1))] h fun a w h=>za0 ?_));have hok:okN au x1=true:=okN_yes (by have:=dT hc2;omega) (by have:=dT hc3;omega);have hhs:hasI x1 (zbl au (zbc s ps n) (nodes.take j))=false:=by rw [hkk];exact hc5
     have hal:zha (zc4 au x1) (zbc s ps n)=true:=by rw [hkk,nodA_at hx5];exact hc6
     replace h:=cvM [] [(7,vO 31 (zbl au (zbc s ps n) (nodes.take (j+1))).length)] [] [(1,.mp (mpL s ps (lsF au ls n (nodes.take (j+1))))),(31,.row 3 1 ((zbl au (zbc s ps n) (nodes.take (j+1))).map za8))] (by rw [<- (ftn_yes hx1 (by rw [hok,hhs,hal];rfl):(zbl au (zbc s ps n) (nodes.take j))++[x1]=(zbl au (zbc s ps n) (nodes.take (j+1)))),<- (lsF_yes hx1 hok:(zg8 (lsF au ls n (nodes.take j)) n)=(lsF au ls n (nodes.take (j+1)))),<- hkk]; try kernel_rfl) h;replace h:=zd8 31 9 h;refine za9 (x:=j) (y:=j+1) h ?_ ?_
     ·have:=zac hx1;show j+1<=nodes.length;omega
     show nodes.length - (j+1)<nodes.length - j;have:=zac hx1;omega
    refine qU (za5 (za0 (Jf 32 [(0,.j1 j)] [9,47] [(12,vI ((j:Int)+1))] h fun a w h=>za0 ?_)));have hok:okN au x1=true:=okN_yes (by have:=dT hc2;omega) (by have:=dT hc3;omega);have hhs:hasI x1 (zbl au (zbc s ps n) (nodes.take j))=false:=by rw [hkk];exact hc5
    have hal:zha (zc4 au x1) (zbc s ps n)=false:=by rw [hkk,nodA_at hx5];exact hc7
    replace h:=cvM [] [(7,vO 9 (zbl au (zbc s ps n) (nodes.take (j+1))).length)] [] [(1,.mp (mpL s ps (lsF au ls n (nodes.take (j+1))))),(9,.row 3 1 ((zbl au (zbc s ps n) (nodes.take (j+1))).map za8))] (by rw [<- (ftn_no hx1 (by rw [hok,hhs,hal];rfl):(zbl au (zbc s ps n) (nodes.take j))=(zbl au (zbc s ps n) (nodes.take (j+1)))),<- (lsF_yes hx1 hok:(zg8 (lsF au ls n (nodes.take j)) n)=(lsF au ls n (nodes.take (j+1))))]; try kernel_rfl) h;refine za9 (x:=j) (y:=j+1) h ?_ ?_
    ·have:=zac hx1;show j+1<=nodes.length;omega
    show nodes.length - (j+1)<nodes.length - j;have:=zac hx1;omega
   have hc8':=dF hc8;refine Jg 32 [(1,.cmp (op:=.geq) (m:=(k:Int)) (n:=0) (b:=true) .i64 (show (decide ((k:Int)>=0))=true from by rw [<- hkk];exact hc2)),(5,.g (Op.nilQ (d:=21) (t:=20) (n:=7) (o:=0))),(9,.len (za1 3 zaf.d au.nodes)),(10,.cmp (op:=.lss) (m:=(k:Int)) (n:=(au.nodes.length:Int)) (b:=false) .i64 hc8)] [] [(47,vb false)] [] [] h fun a w h=>zbs h (qU (za5 (za0 (Jf 32 [(0,.j1 j)] [9,47] [(12,vI ((j:Int)+1))] h fun a w h=>za0 ?_))));have hok:okN au x1=false:=okN_no (.inr (by have:=dF hc8;omega));replace h:=cvM [] [(7,vO 9 (zbl au (zbc s ps n) (nodes.take (j+1))).length)] [] [(1,.mp (mpL s ps (lsF au ls n (nodes.take (j+1))))),(9,.row 3 1 ((zbl au (zbc s ps n) (nodes.take (j+1))).map za8))] (by rw [<- (ftn_no hx1 (by rw [hok];rfl):(zbl au (zbc s ps n) (nodes.take j))=(zbl au (zbc s ps n) (nodes.take (j+1)))),<- (lsF_no hx1 hok:(lsF au ls n (nodes.take j))=(lsF au ls n (nodes.take (j+1))))]; try kernel_rfl) h;refine za9 (x:=j) (y:=j+1) h ?_ ?_
   ·have:=zac hx1;show j+1<=nodes.length;omega
   show nodes.length - (j+1)<nodes.length - j;have:=zac hx1;omega
  have hc9':=dF hc9;refine Je 32 [(1,.cmp (op:=.geq) (m:=x1) (n:=0) (b:=false) .i64 hc9)] [] [(47,vb false)] h fun a w h=>zbs h (qU (za5 (za0 (Jf 32 [(0,.j1 j)] [9,47] [(12,vI ((j:Int)+1))] h fun a w h=>za0 ?_))));have hok:okN au x1=false:=okN_no (.inl (by have:=dF hc9;omega));replace h:=cvM [] [(7,vO 9 (zbl au (zbc s ps n) (nodes.take (j+1))).length)] [] [(1,.mp (mpL s ps (lsF au ls n (nodes.take (j+1))))),(9,.row 3 1 ((zbl au (zbc s ps n) (nodes.take (j+1))).map za8))] (by rw [<- (ftn_no hx1 (by rw [hok];rfl):(zbl au (zbc s ps n) (nodes.take j))=(zbl au (zbc s ps n) (nodes.take (j+1)))),<- (lsF_no hx1 hok:(lsF au ls n (nodes.take j))=(lsF au ls n (nodes.take (j+1))))]; try kernel_rfl) h;refine za9 (x:=j) (y:=j+1) h ?_ ?_
  ·have:=zac hx1;show j+1<=nodes.length;omega
  show nodes.length - (j+1)<nodes.length - j;have:=zac hx1;omega
 refine exA (Jp 32 [] [(6,vO 9 (zbl au (zbc s ps n) (nodes.take j)).length)] h fun a w h=>qV ?_);replace h:=cvM [] [(6,vO 9 (zbl au (zbc s ps n) nodes).length)] [] [(1,.mp (mpL s ps (lsF au ls n nodes))),(9,.row 3 1 ((zbl au (zbc s ps n) nodes).map za8))] (by rw [show nodes.take j=nodes from b7 (by have:=dF hc10;omega)]; try kernel_rfl) h;replace h:=pubKX 9 1 3 ((zbl au (zbc s ps n) nodes).map za8) h [(zbl au (zbc s ps n) nodes).length] ⟨by first | exact (bC _).symm | (simp;done) | (simp;omega),trivial⟩;refine rT (.c (cIs (zbl au (zbc s ps n) nodes))) h rfl ?_;rfl
theorem qf1_4:zbg d6 50:=zbg.mk' (by kernel_rfl)
theorem qf1_6:ElZ d6 174 171 3:=ElZ.mk' Tryz.underlying174 _ _ rfl rfl
theorem qf1_7:ElT d6 174 171 3 24:=ElT.mk' Tryz.underlying174 _ _ rfl rfl
theorem hrn_in {s:zab} (hc:(zb3 s).2=true) (hf:zbk s x=true):∀ j,j<=(wdl s s.vars.length).length->0<=hrn s x j/\hrn s x j<prd ((wdl s s.vars.length).take j)
 | 0,_=>⟨b8 _,by rw [cT];exact (by decide:(0:Int)<1)⟩
 | j+1,h=>by
  obtain ⟨h1,h2⟩:=hrn_in hc hf j (by omega)
  have hw:(wdl s s.vars.length)[j]?=some ((wdl s s.vars.length)[j]'(by omega)):=bG _
  obtain ⟨d1,d2⟩:=dgN_in hc hf hw
  obtain ⟨e1,e2⟩:=hrn_step h1 h2 d1 d2
  rw [<- zk5 hw,zhl hw]
  exact ⟨by omega,e2⟩
theorem nmT_in (s:zab) (x:StD):0<=(nmT s x).1/\(nmT s x).1<=1048576:=by
 unfold nmT
 split
 ·rename_i h
  have h1:=hrn_in h.1 h.2 (s.procs.length+s.vars.length) (by rw [zeh];exact bR _)
  rw [b7 (by rw [zeh];exact bR _)] at h1
  have h2:=fit_prd h.1 h.2
  show 0<=hrn s x _/\hrn s x _<=1048576
  omega
 ·exact ⟨b8 _,by decide⟩
theorem nmN_in (s:zab) (e:zaq):InI (nmN s e):=by have:=nmT_in s e.to_;unfold nmN InI;omega
theorem edg_len {s:zab} {L:Nat} (hs:zaw L s) (n:Int):(zd5 s n).length<=20971521:=by
 unfold zd5 edT
 split
 ·rename_i h
  have h1:=egN_len hs h.1 h.2 s.acts.length
  have h2:=egP_len s (zdb s n).1 (-1) [[]]
  have h3:=hs.acts
  rw [bH]
  simp only [bT,cL] at h2
  omega
 ·exact bE _
section
variable {s:zab} {ps:List zal} {au:zay} {nodes:List Int} {es:List zaq} {e:zaq} {ls:List Int}
theorem mvE_len:(mvE s ps au nodes e).length<=nodes.length:=by unfold mvE;rw [bC];exact ziu _ _ _
theorem mvs_len:∀ (es:List zaq),(es.flatMap (mvE s ps au nodes)).length<=es.length*nodes.length
 | []=>bE _
 | e :: es=>by
  have h1:=mvs_len es
  have h2:=mvE_len (s:=s) (ps:=ps) (au:=au) (nodes:=nodes) (e:=e)
  rw [List.flatMap_cons,bH,bT,Nat.succ_mul];omega
theorem mvs_at (h:es[j]?=some e):(es.take j).flatMap (mvE s ps au nodes)++mvE s ps au nodes e=(es.take (j+1)).flatMap (mvE s ps au nodes):=by rw [bJ,h,cQ];simp
theorem lsE_at (h:es[j]?=some e):lsF au ((es.take j).foldl (lsE s au nodes) ls) (nmN s e) nodes=(es.take (j+1)).foldl (lsE s au nodes) ls:=by rw [bJ,h,List.foldl_append];rfl
theorem kin_lsM (hls:zj6 ls):∀ (es:List zaq),zj6 (es.foldl (lsE s au nodes) ls):=by
 intro es
 induction es generalizing ls with
 | nil=>exact hls
 | cons e es ih=>exact ih (kin_lsF hls (nmN_in s e))
theorem nodA_get (hk:p.nd=(k:Int)) (h:p.nd<(au.nodes.length:Int)):au.nodes[k]?=some (zc4 au p.nd):=by
 unfold zc4
 rw [hk,show ((k:Int)).toNat=k by omega,bG (by omega)];rfl
theorem nodA_ok (h:zfa au) (k:Int):(zc4 au k).next.length<=1000:=by
 unfold zc4
 cases hx:au.nodes[k.toNat]? with
 | none=>exact bE _
 | some x=>exact (h.node x (bV hx)).2.2
theorem movT_len {L:Nat} (hs:zaw L s) (hau:zfa au) (p:PrD):(zbr s ps au p).length<=20971521000:=by
 have h1:=mvs_len (s:=s) (ps:=ps) (au:=au) (nodes:=(zc4 au p.nd).next) (zd5 s p.st)
 have h2:=Nat.mul_le_mul (edg_len hs p.st) (nodA_ok hau p.nd)
 unfold zbr;omega
end
theorem SMoves (s:zab) (ps:List zal) (au:zay) (fu:Int) (ot:Bool) (ls es:List Int) (fs sc:List PrD) (p:PrD) {L:Nat} (hs:zaw L s) (hL:L<=1000) (hp:zbp s) (hps:∀ p ∈ ps,zfl L p) (hpl:ps.length<=1000) (hau:zfa au) (hls:zj6 ls) (hes:zj6 es) (hst:InI p.st) (hpn:okN au p.nd=true):Fn d6 139 [(7,(bxS s ps au fu ot)),(1,.mp (mpL s ps ls)),(2,.mp (mpE s es)),(3,.mp (mpP fs)),(4,.mp (mpP sc))] [vp 7 0,vG [cI p.st,cI p.nd]] (vS 3 ((zbr s ps au p).map MvD.d)) [(7,(bxS s ps au fu ot)),(1,.mp (mpL s ps (lsM s au ls p))),(2,.mp (mpE s (zg8 es p.st))),(3,.mp (mpP fs)),(4,.mp (mpP sc))]:=by
 have hp0:0<=p.nd/\p.nd<(au.nodes.length:Int):=by { have:=hpn;unfold okN at this;simpa using this }
 obtain ⟨hp0,hp1⟩:=hp0;have lnx:=nodA_ok hau p.nd;have led:=edg_len hs p.st;refine fB Tryz.func139 rfl 61 fun w H B a h=>Jq 30 [] [(0,vp 7 0),(3,vp 30 0),(4,vW zaa)] [(7,(bxS s ps au fu ot)),(1,.mp (mpL s ps ls)),(2,.mp (mpE s es)),(3,.mp (mpP fs)),(4,.mp (mpP sc)),(30,.box [cI p.st,cI p.nd])] h fun a w h=>Je 31 [] [] [(5,vW zaa)] h fun a w h=>qW ?_
 obtain ⟨k,hkk⟩:∃ k_:Nat,p.nd=(k_:Int):=⟨_,(cJ (by omega)).symm⟩;replace h:=cvM [] [] [] [(30,.box [cI p.st,cI (k:Int)])] (by rw [hkk]; try kernel_rfl) h;refine Jg 31 [(3,.call (SSteps s ps au fu ot ls es fs sc p.st hs hL hp hes hst)),(4,.len (za1 3 zaq.d (zd5 s p.st)))] [] [(15,vS 3 ((zd5 s p.st).map zaq.d)),(16,vI ((zd5 s p.st).length:Int)),(17,vI 0)] [] [(2,.mp (mpE s (zg8 es p.st)))] h fun a w h=>qZ ?_;replace h:=zg1 5 0 31 3 171 (vW zaa) h;replace h:=cvM [] [(5,vO 31 (((zd5 s p.st).take 0).flatMap (mvE s ps au (zc4 au p.nd).next)).length)] [] [(1,.mp (mpL s ps (((zd5 s p.st).take 0).foldl (lsE s au (zc4 au p.nd).next) ls))),(31,.row 171 3 ((((zd5 s p.st).take 0).flatMap (mvE s ps au (zc4 au p.nd).next)).map MvD.d))] (by kernel_rfl) h
 refine zcc (ι:=(Nat)) (fun i=>i<=(zd5 s p.st).length)
   [] (fun i=>[(5,vO 31 (((zd5 s p.st).take i).flatMap (mvE s ps au (zc4 au p.nd).next)).length),(17,vN i)])
   [] (fun i=>[(1,.mp (mpL s ps (((zd5 s p.st).take i).foldl (lsE s au (zc4 au p.nd).next) ls))),(31,.row 171 3 ((((zd5 s p.st).take i).flatMap (mvE s ps au (zc4 au p.nd).next)).map MvD.d))])
   (fun i=>(zd5 s p.st).length - i) 0 ?_ h ?_
 ·exact bE _
 clear h;rintro i a w hI h;have hkl:zj6 (((zd5 s p.st).take i).foldl (lsE s au (zc4 au p.nd).next) ls):=kin_lsM hls _;have hnd:au.nodes[k]?=some (zc4 au p.nd):=nodA_get hkk hp1;have lmi:=mvs_len (s:=s) (ps:=ps) (au:=au) (nodes:=(zc4 au p.nd).next) ((zd5 s p.st).take i);have lti:((zd5 s p.st).take i).length<=20971521:=by have:((zd5 s p.st).take i).length<=(zd5 s p.st).length:=by { rw [bU];omega };omega
 have lmm:=Nat.mul_le_mul lti lnx;refine Je 32 [] [] [(18,vb (decide ((i:Int)<((zd5 s p.st).length:Int))))] h fun a w h=>qW (zag ((i:Int)<((zd5 s p.st).length:Int)) h (fun hc1 hc1'=>?_) (fun hc4 hc4'=>?_))
 ·refine qU (za0 (qW (qZ ?_)));obtain ⟨x2,hx2⟩:=gl (zd5 s p.st) i;refine Jg 32 [(0,.g (xD 19 15 ol1_19 (za4 hx2 (f:=zaq.d)) (d8 17 _)))] [18] [(7,vp 32 0)] [] [(32,.box [cI x2.act,cIs x2.to_.locs,cZs x2.to_.vals])] h fun a w h=>Je 33 [(1,.g (Op.nilQ (d:=23) (t:=22) (n:=7) (o:=0))),(6,.call (ONumber s x2.to_ (L:=L) (M:=L+3) hs hL hp (by omega) (ed_ok hs hp (st19_can s p.st) hx2)))] [] [(8,vI (nmN s x2))] h fun a w h=>Jg 33 [(3,.g (Op.nilQ (d:=34) (t:=33) (n:=7) (o:=0))),(9,.g (xD 40 37 qe1_4 (za4 hnd (f:=zaf.d)) (d8 39 _))),(12,.g (Op.callI (d:=43) (SFitsX s ps au fu ot (((zd5 s p.st).take i).foldl (lsE s au (zc4 au p.nd).next) ls) (zg8 es p.st) fs sc (nmN s x2) (zc4 au p.nd).next hs hL hp hps hpl hau hkl (nmN_in s x2) (by omega)) qf1_4 [7,2,3,4] (tys:=#[113,3,44]) (d9 (d8 31 _) (d9 (d8 32 _) (d9 (d8 42 _) (OVs.nil)))) rfl)),(13,.len (za1 1 za8 (zbl au (zbc s ps (nmN s x2)) (zc4 au p.nd).next)))] [] [(43,(vIs (zbl au (zbc s ps (nmN s x2)) (zc4 au p.nd).next))),(44,vI ((zbl au (zbc s ps (nmN s x2)) (zc4 au p.nd).next).length:Int)),(45,vI 0)] [] [(1,.mp (mpL s ps (lsF au (((zd5 s p.st).take i).foldl (lsE s au (zc4 au p.nd).next) ls) (nmN s x2) (zc4 au p.nd).next)))] h fun a w h=>qZ ?_;replace h:=h.conv (f':=F.of [(0,vp 7 0),(3,vp 30 0),(4,vW zaa),(5,vO 31 ((((zd5 s p.st).take i).flatMap (mvE s ps au (zc4 au p.nd).next))++((zbl au (zbc s ps (nmN s x2)) (zc4 au p.nd).next).take 0).map fun k_=>(⟨x2.act,⟨nmN s x2,k_⟩⟩:MvD)).length),(7,vp 32 0),(8,vI (nmN s x2)),(15,vS 3 ((zd5 s p.st).map zaq.d)),(16,vI ((zd5 s p.st).length:Int)),(17,vN i),(43,(vIs (zbl au (zbc s ps (nmN s x2)) (zc4 au p.nd).next))),(44,vI ((zbl au (zbc s ps (nmN s x2)) (zc4 au p.nd).next).length:Int)),(45,vI 0)] [(7,(bxS s ps au fu ot)),(1,.mp (mpL s ps (lsF au (((zd5 s p.st).take i).foldl (lsE s au (zc4 au p.nd).next) ls) (nmN s x2) (zc4 au p.nd).next))),(2,.mp (mpE s (zg8 es p.st))),(3,.mp (mpP fs)),(4,.mp (mpP sc)),(30,.box [cI p.st,cI (k:Int)]),(31,.row 171 3 (((((zd5 s p.st).take i).flatMap (mvE s ps au (zc4 au p.nd).next))++((zbl au (zbc s ps (nmN s x2)) (zc4 au p.nd).next).take 0).map fun k_=>(⟨x2.act,⟨nmN s x2,k_⟩⟩:MvD)).map MvD.d)),(32,.box [cI x2.act,cIs x2.to_.locs,cZs x2.to_.vals])]) (by simp only [cT,List.map_nil,cR]; try kernel_rfl)
  refine zcc (ι:=(Nat)) (fun j=>j<=(zbl au (zbc s ps (nmN s x2)) (zc4 au p.nd).next).length)
    [] (fun j=>[(5,vO 31 ((((zd5 s p.st).take i).flatMap (mvE s ps au (zc4 au p.nd).next))++((zbl au (zbc s ps (nmN s x2)) (zc4 au p.nd).next).take j).map fun k_=>(⟨x2.act,⟨nmN s x2,k_⟩⟩:MvD)).length),(45,vN j)])
    [] (fun j=>[(31,.row 171 3 (((((zd5 s p.st).take i).flatMap (mvE s ps au (zc4 au p.nd).next))++((zbl au (zbc s ps (nmN s x2)) (zc4 au p.nd).next).take j).map fun k_=>(⟨x2.act,⟨nmN s x2,k_⟩⟩:MvD)).map MvD.d))])
    (fun j=>(zbl au (zbc s ps (nmN s x2)) (zc4 au p.nd).next).length - j) 0 ?_ h ?_
  ·exact bE _
  clear h;rintro j a w hI h;have lfn:=ziu au (zbc s ps (nmN s x2)) (zc4 au p.nd).next;have ljj:((zbl au (zbc s ps (nmN s x2)) (zc4 au p.nd).next).take j).length<=(zbl au (zbc s ps (nmN s x2)) (zc4 au p.nd).next).length:=by rw [bU];omega
  have lmj:((((zd5 s p.st).take i).flatMap (mvE s ps au (zc4 au p.nd).next))++((zbl au (zbc s ps (nmN s x2)) (zc4 au p.nd).next).take j).map fun k_=>(⟨x2.act,⟨nmN s x2,k_⟩⟩:MvD)).length<=30000000000:=by rw [bH,bC];omega
  refine Je 33 [] [] [(46,vb (decide ((j:Int)<((zbl au (zbc s ps (nmN s x2)) (zc4 au p.nd).next).length:Int))))] h fun a w h=>qW (zag ((j:Int)<((zbl au (zbc s ps (nmN s x2)) (zc4 au p.nd).next).length:Int)) h (fun hc2 hc2'=>?_) (fun hc3 hc3'=>?_))
  ·refine qU (za0 (qW (qZ ?_)));obtain ⟨x5,hx5⟩:=gl (zbl au (zbc s ps (nmN s x2)) (zc4 au p.nd).next) j;refine Je 33 [(0,.g (xD 47 43 zdj (za4 hx5 (f:=za8)) (d8 45 _)))] [46] [(11,vI x5)] h fun a w h=>Jh 33 [(7,.g (bD 56 ([(MvD.mk x2.act (PrD.mk (nmN s x2) x5))].map MvD.d) [(55,vG [cI x2.act,cI (nmN s x2),cI x5])] qf1_6 (.cons (i:=0) (d8 55 _) (.nil)) (by kernel_rfl) (by simp [MvD.d]))),(8,.g (Op.appOD (d:=57) (t:=49) (u:=56) (n:=31) (n':=33) (len:=((((zd5 s p.st).take i).flatMap (mvE s ps au (zc4 au p.nd).next))++((zbl au (zbc s ps (nmN s x2)) (zc4 au p.nd).next).take j).map fun k_=>(⟨x2.act,⟨nmN s x2,k_⟩⟩:MvD)).length) (len':=(((((zd5 s p.st).take i).flatMap (mvE s ps au (zc4 au p.nd).next))++((zbl au (zbc s ps (nmN s x2)) (zc4 au p.nd).next).take j).map fun k_=>(⟨x2.act,⟨nmN s x2,k_⟩⟩:MvD))++[(MvD.mk x2.act (PrD.mk (nmN s x2) x5))]).length) (rows:=((((zd5 s p.st).take i).flatMap (mvE s ps au (zc4 au p.nd).next))++((zbl au (zbc s ps (nmN s x2)) (zc4 au p.nd).next).take j).map fun k_=>(⟨x2.act,⟨nmN s x2,k_⟩⟩:MvD)).map MvD.d) (rows2:=[(MvD.mk x2.act (PrD.mk (nmN s x2) x5))].map MvD.d) (rows':=(((((zd5 s p.st).take i).flatMap (mvE s ps au (zc4 au p.nd).next))++((zbl au (zbc s ps (nmN s x2)) (zc4 au p.nd).next).take j).map fun k_=>(⟨x2.act,⟨nmN s x2,k_⟩⟩:MvD))++[(MvD.mk x2.act (PrD.mk (nmN s x2) x5))]).map MvD.d) qf1_7 (by first | exact (bC _).symm | simp) (by first | (rw [bH,bC];done) | (simp;done) | (simp;omega)) (by simp) (by simp [MvD.d]) (by first | omega | (simp at *;done) | (simp at *;omega))))] [11] [(5,vO 33 (((((zd5 s p.st).take i).flatMap (mvE s ps au (zc4 au p.nd).next))++((zbl au (zbc s ps (nmN s x2)) (zc4 au p.nd).next).take j).map fun k_=>(⟨x2.act,⟨nmN s x2,k_⟩⟩:MvD))++[(MvD.mk x2.act (PrD.mk (nmN s x2) x5))]).length)] [31] [(33,.row 171 3 ((((((zd5 s p.st).take i).flatMap (mvE s ps au (zc4 au p.nd).next))++((zbl au (zbc s ps (nmN s x2)) (zc4 au p.nd).next).take j).map fun k_=>(⟨x2.act,⟨nmN s x2,k_⟩⟩:MvD))++[(MvD.mk x2.act (PrD.mk (nmN s x2) x5))]).map MvD.d))] h fun a w h=>za5 (za0 (Jf 34 [(0,.j1 j)] [] [(45,vI ((j:Int)+1))] h fun a w h=>za0 ?_));have hnw:((((zd5 s p.st).take i).flatMap (mvE s ps au (zc4 au p.nd).next))++((zbl au (zbc s ps (nmN s x2)) (zc4 au p.nd).next).take (j+1)).map fun k_=>(⟨x2.act,⟨nmN s x2,k_⟩⟩:MvD))=((((zd5 s p.st).take i).flatMap (mvE s ps au (zc4 au p.nd).next))++((zbl au (zbc s ps (nmN s x2)) (zc4 au p.nd).next).take j).map fun k_=>(⟨x2.act,⟨nmN s x2,k_⟩⟩:MvD))++[(⟨x2.act,⟨nmN s x2,x5⟩⟩:MvD)]:=by rw [bJ,hx5,bX,<- dB];rfl
   replace h:=h.conv (f':=F.of [(0,vp 7 0),(3,vp 30 0),(4,vW zaa),(5,vO 33 ((((zd5 s p.st).take i).flatMap (mvE s ps au (zc4 au p.nd).next))++((zbl au (zbc s ps (nmN s x2)) (zc4 au p.nd).next).take (j+1)).map fun k_=>(⟨x2.act,⟨nmN s x2,k_⟩⟩:MvD)).length),(7,vp 32 0),(8,vI (nmN s x2)),(15,vS 3 ((zd5 s p.st).map zaq.d)),(16,vI ((zd5 s p.st).length:Int)),(17,vN i),(43,(vIs (zbl au (zbc s ps (nmN s x2)) (zc4 au p.nd).next))),(44,vI ((zbl au (zbc s ps (nmN s x2)) (zc4 au p.nd).next).length:Int)),(45,vI ((j:Int)+1))] [(7,(bxS s ps au fu ot)),(1,.mp (mpL s ps (lsF au (((zd5 s p.st).take i).foldl (lsE s au (zc4 au p.nd).next) ls) (nmN s x2) (zc4 au p.nd).next))),(2,.mp (mpE s (zg8 es p.st))),(3,.mp (mpP fs)),(4,.mp (mpP sc)),(30,.box [cI p.st,cI (k:Int)]),(32,.box [cI x2.act,cIs x2.to_.locs,cZs x2.to_.vals]),(33,.row 171 3 (((((zd5 s p.st).take i).flatMap (mvE s ps au (zc4 au p.nd).next))++((zbl au (zbc s ps (nmN s x2)) (zc4 au p.nd).next).take (j+1)).map fun k_=>(⟨x2.act,⟨nmN s x2,k_⟩⟩:MvD)).map MvD.d))]) (by rw [hnw];try rfl);replace h:=zd8 33 31 h;refine za9 (x:=j) (y:=j+1) h ?_ ?_
   ·have:=zac hx5;show j+1<=(zbl au (zbc s ps (nmN s x2)) (zc4 au p.nd).next).length;omega
   show (zbl au (zbc s ps (nmN s x2)) (zc4 au p.nd).next).length - (j+1)<(zbl au (zbc s ps (nmN s x2)) (zc4 au p.nd).next).length - j;have:=zac hx5;omega
  refine wp_exit (zbq (zbq (zao (za5 (za0 (Jh 34 [(0,.j1 i)] [7,8,43,44,45,46] [(17,vI ((i:Int)+1))] [32] [] h fun a w h=>za0 ?_))))));replace h:=cvM [] [(5,vO 31 (((zd5 s p.st).take (i+1)).flatMap (mvE s ps au (zc4 au p.nd).next)).length)] [] [(1,.mp (mpL s ps (((zd5 s p.st).take (i+1)).foldl (lsE s au (zc4 au p.nd).next) ls))),(31,.row 171 3 ((((zd5 s p.st).take (i+1)).flatMap (mvE s ps au (zc4 au p.nd).next)).map MvD.d))] (by rw [<- lsE_at hx2,<- mvs_at hx2,show ((zbl au (zbc s ps (nmN s x2)) (zc4 au p.nd).next).take j)=(zbl au (zbc s ps (nmN s x2)) (zc4 au p.nd).next) from b7 (by have:=dF hc3;omega)]; try kernel_rfl) h;refine za9 (x:=i) (y:=i+1) h ?_ ?_
  ·have:=zac hx2;show i+1<=(zd5 s p.st).length;omega
  show (zd5 s p.st).length - (i+1)<(zd5 s p.st).length - i;have:=zac hx2;omega
 refine exA (Jg 34 [] [0,3,5,15,16,17,18] [(4,vO 31 (((zd5 s p.st).take i).flatMap (mvE s ps au (zc4 au p.nd).next)).length)] [30] [] h fun a w h=>qV ?_);replace h:=cvM [] [(4,vO 31 (zbr s ps au p).length)] [] [(1,.mp (mpL s ps (lsM s au ls p))),(31,.row 171 3 ((zbr s ps au p).map MvD.d))] (by rw [show (zd5 s p.st).take i=(zd5 s p.st) from b7 (by have:=dF hc4;omega)]; try kernel_rfl) h;replace h:=pubKX 31 3 171 ((zbr s ps au p).map MvD.d) h [(zbr s ps au p).length] ⟨by first | exact (bC _).symm | (simp;done) | (simp;omega),trivial⟩;refine rT (.c (.d (.sl 3 ((zbr s ps au p).map MvD.d)))) h rfl ?_;rfl
theorem qg1_2:ElZ d6 122 176 4:=ElZ.mk' Tryz.underlying122 _ _ rfl rfl
theorem qg1_3:ElT d6 122 176 4 48:=ElT.mk' Tryz.underlying122 _ _ rfl rfl
theorem run_eqPr (hp:InI p.st/\InI p.nd) (hq:InI q.st/\InI q.nd) (x y:Operand) (w:World) :
  (do eqGuard .eql 121 x y (prV p) (prV q);binOp .eql 121 (prV p) (prV q):Sem Value).run d6 w = .ok (.bool (decide (p=q))) w:=by
 obtain ⟨lp,hlp⟩:=zir hp
 obtain ⟨lq,hlq⟩:=zir hq
 have h1:(eqGuard .eql 121 x y (prV p) (prV q)).run d6 w = .ok () w:=by
  unfold eqGuard
  simp [prV]
 obtain ⟨r,hr,hiff⟩:=run_equal_deep (P:=d6) w (m:=3) (by omega) (k:=121) (by kernel_rfl) (by rw [Tryz.underlying121]) hlp hlq
 have h2:(binOp .eql 121 (prV p) (prV q)).run d6 w = .ok (.bool (decide (p=q))) w:=by
  show (do pure (Value.bool (<- Op.equal 121 (prV p) (prV q))):Sem Value).run d6 w=_
  have e:r=decide (p=q):=by
   rw [Bool.eq_iff_iff,hiff,decide_eq_true_eq]
   constructor
   ·intro e
    rw [<- e] at hlq
    exact prV_inj (pairK.inj hlp hlq)
   ·intro e
    rw [e] at hlp
    rw [hlp] at hlq
    exact Option.some.inj hlq
  simp only [Sem.run_bind,hr,Result.andThen_ok,Sem.run_pure,e]
 simp only [Sem.run_bind,h1,Result.andThen_ok,h2]
theorem Op.eqPr {d x y:Nat} {pos:String} {af:Array Edge} {gd:Option (Nat × Bool)} (hp:InI p.st/\InI p.nd) (hq:InI q.st/\InI q.nd):zb6 d6 ⟨some d,.binOp .eql 121 (.tmp x) (.tmp y) 121,ty,pos,af,gd⟩ { rs:=[(x,.t (.agg [.d (.raw (.int .i64 p.st)),.d (.raw (.int .i64 p.nd))])),(y,.t (.agg [.d (.raw (.int .i64 q.st)),.d (.raw (.int .i64 q.nd))]))],ws:=[(d,some (vb (decide (p=q))))] } :=
 zb6.value d _ rfl rfl rfl fun e f H B a w hok hr=>by
  have h1:a.eval (.tmp x)=prV p:=(KV.agg2 _ _).eq (hok.slot x _ (hr.1 (x,.t (.agg [.d (.raw (.int .i64 p.st)),.d (.raw (.int .i64 p.nd))])) (by simp)))
  have h2:a.eval (.tmp y)=prV q:=(KV.agg2 _ _).eq (hok.slot y _ (hr.1 (y,.t (.agg [.d (.raw (.int .i64 q.st)),.d (.raw (.int .i64 q.nd))])) (by simp)))
  have h3:=run_eqPr hp hq (.tmp x) (.tmp y) w
  refine ⟨_,?_,DR.raw _ rfl⟩
  generalize a.eval=ρ at h1 h2 ⊢
  simp only [Sem.run_bind] at h3
  simp only [execOp,h1,h2,Sem.run_bind,h3,Result.andThen_ok,Sem.run_pure]
section
variable {s:zab} {ps:List zal} {au:zay} {fu:Int} {ot:Bool} {ls es:List Int} {fs sc:List PrD} {way:List WkD} {p:PrD}
theorem bgW_yes (h:decide (1+((zbr s ps au p).length:Int)<=fu)=true):way++[⟨p,zbr s ps au p,0⟩]=bgW s ps au ⟨fu,ot,ls,es,fs,sc⟩ way p:=(if_pos h).symm
theorem bgW_no (h:decide (1+((zbr s ps au p).length:Int)<=fu)=false):way=bgW s ps au ⟨fu,ot,ls,es,fs,sc⟩ way p:=(if_neg (by show ¬decide (1+((zbr s ps au p).length:Int)<=fu)=true;rw [h];exact Bool.noConfusion)).symm
theorem bg_fuel:(bgS s ps au ⟨fu,ot,ls,es,fs,sc⟩ p).fuel=tkF fu (1+((zbr s ps au p).length:Int)):=by
 unfold bgS tkS tkF tkB mvS cost
 by_cases h:1+((zbr s ps au p).length:Int)<=fu
 ·rw [if_pos (decide_eq_true h),if_pos h]
 ·rw [if_neg (by rw [decide_eq_false h];exact Bool.noConfusion),if_neg h]
theorem bg_ot:(bgS s ps au ⟨fu,ot,ls,es,fs,sc⟩ p).out=tkO fu ot (1+((zbr s ps au p).length:Int)):=by
 unfold bgS tkS tkO tkB mvS cost
 by_cases h:1+((zbr s ps au p).length:Int)<=fu
 ·rw [if_pos (decide_eq_true h),if_pos h]
 ·rw [if_neg (by rw [decide_eq_false h];exact Bool.noConfusion),if_neg h]
theorem bg_ls:(bgS s ps au ⟨fu,ot,ls,es,fs,sc⟩ p).ls=lsM s au ls p:=by unfold bgS tkS;split <;> rfl
theorem bg_es:(bgS s ps au ⟨fu,ot,ls,es,fs,sc⟩ p).es=zg8 es p.st:=by unfold bgS tkS;split <;> rfl
theorem bg_fs:(bgS s ps au ⟨fu,ot,ls,es,fs,sc⟩ p).fs=fs:=by unfold bgS tkS;split <;> rfl
theorem bg_sc:(bgS s ps au ⟨fu,ot,ls,es,fs,sc⟩ p).sc=sc:=by unfold bgS tkS;split <;> rfl
end
theorem SBegin (s:zab) (ps:List zal) (au:zay) (fu:Int) (ot:Bool) (ls es:List Int) (fs sc:List PrD) (way:List WkD) (p:PrD) {L:Nat} (hs:zaw L s) (hL:L<=1000) (hp:zbp s) (hps:∀ p ∈ ps,zfl L p) (hpl:ps.length<=1000) (hau:zfa au) (hls:zj6 ls) (hes:zj6 es) (hst:InI p.st) (hpn:okN au p.nd=true) (hf:0<=fu/\fu<=1073741824) (hwm:way.length<=1000000000000):Fn d6 97 [(7,(bxS s ps au fu ot)),(1,.mp (mpL s ps ls)),(2,.mp (mpE s es)),(3,.mp (mpP fs)),(4,.mp (mpP sc)),(9,.row 176 4 (way.map WkD.d))] [vp 7 0,vO 9 way.length,vG [cI p.st,cI p.nd]] (.tup [.c (.own 14 (bgW s ps au (SS.mk fu ot ls es fs sc) way p).length),.c (cB (bgB s ps au (SS.mk fu ot ls es fs sc) p))]) [(7,(bxS s ps au (tkF fu (1+((zbr s ps au p).length:Int))) (tkO fu ot (1+((zbr s ps au p).length:Int))))),(1,.mp (mpL s ps (lsM s au ls p))),(2,.mp (mpE s (zg8 es p.st))),(3,.mp (mpP fs)),(4,.mp (mpP sc)),(14,.row 176 4 ((bgW s ps au (SS.mk fu ot ls es fs sc) way p).map WkD.d))]:=by
 have lmv:=movT_len (ps:=ps) hs hau p;refine fB Tryz.func97 rfl 25 fun w H B a h=>Jq 30 [] [(0,vp 7 0),(1,vO 9 way.length),(5,vp 30 0),(6,vW zaa),(7,vb false)] [(7,(bxS s ps au fu ot)),(1,.mp (mpL s ps ls)),(2,.mp (mpE s es)),(3,.mp (mpP fs)),(4,.mp (mpP sc)),(9,.row 176 4 (way.map WkD.d)),(30,.box [cI p.st,cI p.nd])] h fun a w h=>Jg 31 [(2,.call (SMoves s ps au fu ot ls es fs sc p hs hL hp hps hpl hau hls hes hst hpn))] [] [(8,vS 3 ((zbr s ps au p).map MvD.d))] [] [(1,.mp (mpL s ps (lsM s au ls p))),(2,.mp (mpE s (zg8 es p.st)))] h fun a w h=>qW (Jg 31 [(2,.len (za1 3 MvD.d (zbr s ps au p))),(3,.add .i64 (m:=1) (n:=((zbr s ps au p).length:Int)) i6),(4,.call (STake s ps au fu ot (lsM s au ls p) (zg8 es p.st) fs sc (1+((zbr s ps au p).length:Int)) hf (by omega)))] [0] [(17,vb (!(decide (1+((zbr s ps au p).length:Int)<=fu))))] [] [(7,(bxS s ps au (tkF fu (1+((zbr s ps au p).length:Int))) (tkO fu ot (1+((zbr s ps au p).length:Int)))))] h fun a w h=>cS (!(decide (1+((zbr s ps au p).length:Int)<=fu))) h (fun hc1=>?_) (fun hc2=>?_))
 ·refine Je 31 [] [17] [(6,vO 9 way.length)] h fun a w h=>qV (za2 ?_);replace h:=zd8 9 14 h;replace h:=cvM [] [(1,vO 14 (bgW s ps au (SS.mk fu ot ls es fs sc) way p).length),(6,vO 14 (bgW s ps au (SS.mk fu ot ls es fs sc) way p).length)] [] [(14,.row 176 4 ((bgW s ps au (SS.mk fu ot ls es fs sc) way p).map WkD.d))] (by rw [<- bgW_no (s:=s) (ps:=ps) (au:=au) (fu:=fu) (ot:=ot) (ls:=ls) (es:=es) (fs:=fs) (sc:=sc) (way:=way) (show decide (1+((zbr s ps au p).length:Int)<=fu)=false by have:=hc1;simpa using this)]; try kernel_rfl) h;refine zdp [.c (.own 14 (bgW s ps au (SS.mk fu ot ls es fs sc) way p).length),.c (cB false)] h Exit.ret (.inl rfl)  rfl ⟨vT9,vT9,trivial⟩ ?_;rw [show bgB s ps au (SS.mk fu ot ls es fs sc) p=false from (show decide (1+((zbr s ps au p).length:Int)<=fu)=false by have:=hc1;simpa using this)];rfl
 refine qU (za0 (Jg 31 [(4,.g (bD 23 ([(WkD.mk p (zbr s ps au p) 0)].map WkD.d) [(22,vG [cI p.st,cI p.nd,.d (.sl 3 ((zbr s ps au p).map MvD.d)),cI 0])] qg1_2 (.cons (i:=0) (d8 22 _) (.nil)) (by kernel_rfl) (by simp [WkD.d]))),(5,.g (Op.appOD (d:=24) (t:=19) (u:=23) (n:=9) (n':=31) (len:=way.length) (len':=(way++[(WkD.mk p (zbr s ps au p) 0)]).length) (rows:=way.map WkD.d) (rows2:=[(WkD.mk p (zbr s ps au p) 0)].map WkD.d) (rows':=(way++[(WkD.mk p (zbr s ps au p) 0)]).map WkD.d) qg1_3 (by first | exact (bC _).symm | simp) (by first | (rw [bH,bC];done) | (simp;done) | (simp;omega)) (by simp) (by simp [WkD.d]) (by first | omega | (simp at *;done) | (simp at *;omega))))] [1,5,8,17] [(6,vO 31 (way++[(WkD.mk p (zbr s ps au p) 0)]).length),(7,vb true)] [9,30] [(31,.row 176 4 ((way++[(WkD.mk p (zbr s ps au p) 0)]).map WkD.d))] h fun a w h=>qV ?_));replace h:=zd8 31 14 h;replace h:=cvM [] [(6,vO 14 (bgW s ps au (SS.mk fu ot ls es fs sc) way p).length)] [] [(14,.row 176 4 ((bgW s ps au (SS.mk fu ot ls es fs sc) way p).map WkD.d))] (by rw [<- bgW_yes (s:=s) (ps:=ps) (au:=au) (fu:=fu) (ot:=ot) (ls:=ls) (es:=es) (fs:=fs) (sc:=sc) (way:=way) (show decide (1+((zbr s ps au p).length:Int)<=fu)=true by have:=hc2;simpa using this)]; try kernel_rfl) h;refine zdp [.c (.own 14 (bgW s ps au (SS.mk fu ot ls es fs sc) way p).length),.c (cB true)] h Exit.ret (.inl rfl)  rfl ⟨vT9,vT9,trivial⟩ ?_;rw [show bgB s ps au (SS.mk fu ot ls es fs sc) p=true from (show decide (1+((zbr s ps au p).length:Int)<=fu)=true by have:=hc2;simpa using this)];rfl
theorem SBegin0 (s:zab) (ps:List zal) (au:zay) (fu:Int) (ot:Bool) (ls es:List Int) (fs sc:List PrD) (p:PrD) {L:Nat} (hs:zaw L s) (hL:L<=1000) (hp:zbp s) (hps:∀ p ∈ ps,zfl L p) (hpl:ps.length<=1000) (hau:zfa au) (hls:zj6 ls) (hes:zj6 es) (hst:InI p.st) (hpn:okN au p.nd=true) (hf:0<=fu/\fu<=1073741824):Fn d6 97 [(7,(bxS s ps au fu ot)),(1,.mp (mpL s ps ls)),(2,.mp (mpE s es)),(3,.mp (mpP fs)),(4,.mp (mpP sc))] [vp 7 0,vW zaa,vG [cI p.st,cI p.nd]] (.tup [.c (.own 14 (bgW s ps au (SS.mk fu ot ls es fs sc) [] p).length),.c (cB (bgB s ps au (SS.mk fu ot ls es fs sc) p))]) [(7,(bxS s ps au (tkF fu (1+((zbr s ps au p).length:Int))) (tkO fu ot (1+((zbr s ps au p).length:Int))))),(1,.mp (mpL s ps (lsM s au ls p))),(2,.mp (mpE s (zg8 es p.st))),(3,.mp (mpP fs)),(4,.mp (mpP sc)),(14,.row 176 4 ((bgW s ps au (SS.mk fu ot ls es fs sc) [] p).map WkD.d))]:=by
 have lmv:=movT_len (ps:=ps) hs hau p;refine fB Tryz.func97 rfl 25 fun w H B a h=>Jq 30 [] [(0,vp 7 0),(1,vW zaa),(5,vp 30 0),(6,vW zaa),(7,vb false)] [(7,(bxS s ps au fu ot)),(1,.mp (mpL s ps ls)),(2,.mp (mpE s es)),(3,.mp (mpP fs)),(4,.mp (mpP sc)),(30,.box [cI p.st,cI p.nd])] h fun a w h=>?_
 replace h:=zg1 1 0 31 4 176 (vW zaa) h;refine Jg 32 [(2,.call (SMoves s ps au fu ot ls es fs sc p hs hL hp hps hpl hau hls hes hst hpn))] [] [(8,vS 3 ((zbr s ps au p).map MvD.d))] [] [(1,.mp (mpL s ps (lsM s au ls p))),(2,.mp (mpE s (zg8 es p.st)))] h fun a w h=>qW (Jg 32 [(2,.len (za1 3 MvD.d (zbr s ps au p))),(3,.add .i64 (m:=1) (n:=((zbr s ps au p).length:Int)) i6),(4,.call (STake s ps au fu ot (lsM s au ls p) (zg8 es p.st) fs sc (1+((zbr s ps au p).length:Int)) hf (by omega)))] [0] [(17,vb (!(decide (1+((zbr s ps au p).length:Int)<=fu))))] [] [(7,(bxS s ps au (tkF fu (1+((zbr s ps au p).length:Int))) (tkO fu ot (1+((zbr s ps au p).length:Int)))))] h fun a w h=>cS (!(decide (1+((zbr s ps au p).length:Int)<=fu))) h (fun hc1=>?_) (fun hc2=>?_))
 ·refine Je 32 [] [17] [(6,vO 31 0)] h fun a w h=>qV (za2 ?_);replace h:=zd8 31 14 h;replace h:=cvM [] [(1,vO 14 (bgW s ps au (SS.mk fu ot ls es fs sc) [] p).length),(6,vO 14 (bgW s ps au (SS.mk fu ot ls es fs sc) [] p).length)] [] [(14,.row 176 4 ((bgW s ps au (SS.mk fu ot ls es fs sc) [] p).map WkD.d))] (by rw [<- bgW_no (s:=s) (ps:=ps) (au:=au) (fu:=fu) (ot:=ot) (ls:=ls) (es:=es) (fs:=fs) (sc:=sc) (way:=[]) (show decide (1+((zbr s ps au p).length:Int)<=fu)=false by have:=hc1;simpa using this)]; try kernel_rfl) h;refine zdp [.c (.own 14 (bgW s ps au (SS.mk fu ot ls es fs sc) [] p).length),.c (cB false)] h Exit.ret (.inl rfl)  rfl ⟨vT9,vT9,trivial⟩ ?_;rw [show bgB s ps au (SS.mk fu ot ls es fs sc) p=false from (show decide (1+((zbr s ps au p).length:Int)<=fu)=false by have:=hc1;simpa using this)];rfl
 refine qU (za0 (Jg 32 [(4,.g (bD 23 ([(WkD.mk p (zbr s ps au p) 0)].map WkD.d) [(22,vG [cI p.st,cI p.nd,.d (.sl 3 ((zbr s ps au p).map MvD.d)),cI 0])] qg1_2 (.cons (i:=0) (d8 22 _) (.nil)) (by kernel_rfl) (by simp [WkD.d]))),(5,.g (Op.appOD (d:=24) (t:=19) (u:=23) (n:=31) (n':=32) (len:=0) (len':=[(WkD.mk p (zbr s ps au p) 0)].length) (rows:=[].map WkD.d) (rows2:=[(WkD.mk p (zbr s ps au p) 0)].map WkD.d) (rows':=[(WkD.mk p (zbr s ps au p) 0)].map WkD.d) qg1_3 (by first | exact (bC _).symm | simp) (by first | (rw [bH,bC];done) | (simp;done) | (simp;omega)) (by simp) (by simp [WkD.d]) (by first | omega | (simp at *;done) | (simp at *;omega))))] [1,5,8,17] [(6,vO 32 ([(WkD.mk p (zbr s ps au p) 0)].length)),(7,vb true)] [30,31] [(32,.row 176 4 ([(WkD.mk p (zbr s ps au p) 0)].map WkD.d))] h fun a w h=>qV ?_));replace h:=zd8 32 14 h;replace h:=cvM [] [(6,vO 14 (bgW s ps au (SS.mk fu ot ls es fs sc) [] p).length)] [] [(14,.row 176 4 ((bgW s ps au (SS.mk fu ot ls es fs sc) [] p).map WkD.d))] (by rw [<- bgW_yes (s:=s) (ps:=ps) (au:=au) (fu:=fu) (ot:=ot) (ls:=ls) (es:=es) (fs:=fs) (sc:=sc) (way:=[]) (show decide (1+((zbr s ps au p).length:Int)<=fu)=true by have:=hc2;simpa using this)]; try kernel_rfl) h;refine zdp [.c (.own 14 (bgW s ps au (SS.mk fu ot ls es fs sc) [] p).length),.c (cB true)] h Exit.ret (.inl rfl)  rfl ⟨vT9,vT9,trivial⟩ ?_;rw [show bgB s ps au (SS.mk fu ot ls es fs sc) p=true from (show decide (1+((zbr s ps au p).length:Int)<=fu)=true by have:=hc2;simpa using this)];rfl
variable {way:List WkD} {goal:PrD} {z:LS}
section
variable {s:zab} {ps:List zal} {a:zay} {d:Int}
theorem tk_yes {x:SS} (h:tkB x n=true):tkS x n={ x with fuel:=x.fuel - n }:=if_pos h
theorem tk_no {x:SS} (h:tkB x n=false):tkS x n={ x with fuel:=0,out:=true }:=if_neg (by rw [h];exact Bool.noConfusion)
theorem iter_ends {f:α->α ⊕ β} (μ:α->Nat) (I:α->Prop) (hI:∀ z y,I z->f z = .inl y->I y/\μ y<μ z):∀ n z,I z->μ z<n->∃ r,iter f n z = .inr r
 | 0,_,_,h=>by omega
 | n+1,z,hz,h=>by
  unfold iter
  cases e:f z with
  | inl y=>obtain ⟨h1,h2⟩:=hI z y hz e;exact iter_ends μ I hI n y h1 (by omega)
  | inr r=>exact ⟨r,rfl⟩
theorem zgk {f:α->α ⊕ β} (I:α->Prop) (J:β->Prop) (hI:∀ z,I z->match f z with | .inl y=>I y | .inr r=>J r):∀ n z,I z->∀ r,iter f n z = .inr r->J r
 | 0,_,_,_,h=>by cases h
 | n+1,z,hz,r,h=>by
  unfold iter at h
  have h1:=hI z hz
  cases e:f z with
  | inl y=>rw [e] at h h1;exact zgk I J hI n y h1 r h
  | inr r'=>rw [e] at h h1;cases h;exact h1
structure WayI (z:LS):Prop where
  fuel:0<=z.x.fuel
  done:∀ w ∈ z.way,w.done<=w.moves.length
theorem rem_app (xs ys:List WkD):remW (xs++ys)=remW xs+remW ys:=by
 unfold remW
 induction xs with
 | nil=>simp
 | cons x xs ih=>simp only [List.map_cons,List.cons_append,List.foldr_cons];omega
theorem zi5 (h:0<way.length):way=way.dropLast++[zb8 way]:=by
 have h1:=List.dropLast_concat_getLast (l:=way) (by intro e;rw [e] at h;cases h)
 have h2:zb8 way=way.getLast (by intro e;rw [e] at h;cases h):=by
  unfold zb8
  rw [List.getLast_eq_getElem,bG (by omega)];rfl
 rw [h2];exact h1.symm
theorem zi4 (h:0<way.length):zas way=way.dropLast++[{ zb8 way with done:=(zb8 way).done+1 }]:=by
 unfold zas
 generalize hq:({ zb8 way with done:=(zb8 way).done+1 }:WkD)=q
 have h1:=zi5 h
 generalize zb8 way=l at h1
 have h2:way.length - 1=way.dropLast.length:=by simp
 rw [h2]
 generalize way.dropLast=ds at h1 ⊢
 rw [h1]
 simp
theorem last_mem (h:0<way.length):zb8 way ∈ way:=by
 have h1:=zi5 h
 have h2:zb8 way ∈ way.dropLast++[zb8 way]:=by simp
 rw [<- h1] at h2;exact h2
theorem drop_mu (h:0<way.length):remW way.dropLast+way.dropLast.length<remW way+way.length:=by
 have h1:=zi5 h
 have h2:=rem_app way.dropLast [zb8 way]
 rw [<- h1] at h2
 have h3:way.dropLast.length=way.length - 1:=by simp
 omega
theorem next_mu (h:0<way.length) (hd:∀ w ∈ way,w.done<=w.moves.length) (hm:zbu way=true) :
  remW (zas way)+1=remW way/\(zas way).length=way.length/\∀ w ∈ zas way,w.done<=w.moves.length:=by
 have h1:=zi5 h
 have hl:=hd _ (last_mem h)
 have hne:=of_decide_eq_true hm
 have h2:=rem_app way.dropLast [zb8 way]
 rw [<- h1] at h2
 have h3:=rem_app way.dropLast [{ zb8 way with done:=(zb8 way).done+1 }]
 rw [<- zi4 h] at h3
 have e1:remW [zb8 way]=(zb8 way).moves.length - (zb8 way).done:=by unfold remW rem1;simp
 have e2:remW [{ zb8 way with done:=(zb8 way).done+1 }]=(zb8 way).moves.length - ((zb8 way).done+1):=by unfold remW rem1;simp
 refine ⟨by omega,by unfold zas;simp,?_⟩
 intro w hw
 rw [zi4 h] at hw
 rcases bP.1 hw with hw | hw
 ·exact hd w (bZ _ hw)
 ·rw [bK.1 hw]
  show (zb8 way).done+1<=(zb8 way).moves.length
  omega
theorem bg_mu {x:SS} (hf:0<=x.fuel) (hd:∀ w ∈ way,w.done<=w.moves.length) (ok:Bool) :
  WayI ⟨bgW s ps a x way p,ok,bgS s ps a x p⟩/\mu ⟨bgW s ps a x way p,ok,bgS s ps a x p⟩<=2*x.fuel.toNat+remW way+way.length:=by
 cases e:bgB s ps a x p with
 | true =>
  have hc:1+((zbr s ps a p).length:Int)<=x.fuel:=of_decide_eq_true e
  have e1:(bgS s ps a x p).fuel=x.fuel - (1+((zbr s ps a p).length:Int)):=by unfold bgS;rw [tk_yes (x:=mvS s a x p) e];rfl
  have e2:bgW s ps a x way p=way++[⟨p,zbr s ps a p,0⟩]:=if_pos e
  have e3:remW [(⟨p,zbr s ps a p,0⟩:WkD)]=(zbr s ps a p).length:=by unfold remW rem1;simp
  refine ⟨⟨by show 0<=(bgS s ps a x p).fuel;omega,?_⟩,?_⟩
  ·intro w hw
   have hw:w ∈ bgW s ps a x way p:=hw
   rw [e2] at hw
   rcases bP.1 hw with hw | hw
   ·exact hd w hw
   ·rw [bK.1 hw];exact bE _
  ·show 2*(bgS s ps a x p).fuel.toNat+remW (bgW s ps a x way p)+(bgW s ps a x way p).length<=_
   rw [e1,e2,rem_app,e3,bH]
   simp only [bT,cL]
   omega
 | false =>
  have e1:(bgS s ps a x p).fuel=0:=by unfold bgS;rw [tk_no (x:=mvS s a x p) e]
  have e2:bgW s ps a x way p=way:=if_neg (by rw [e];exact Bool.noConfusion)
  refine ⟨⟨by show 0<=(bgS s ps a x p).fuel;omega,fun w hw=>hd w (by have hw:w ∈ bgW s ps a x way p:=hw;rwa [e2] at hw)⟩,?_⟩
  show 2*(bgS s ps a x p).fuel.toNat+remW (bgW s ps a x way p)+(bgW s ps a x way p).length<=_
  rw [e1,e2]
  omega
theorem goB_mu {y:LS} (hz:WayI z) (h:goB s ps a goal z = .inl y):WayI y/\mu y<mu z:=by
 unfold goB at h
 split at h
 ·rename_i hc
  split at h
  ·rename_i hm
   obtain ⟨n1,n2,n3⟩:=next_mu hc.2 hz.done hm
   split at h
   ·cases h
   ·split at h
    ·cases h
     refine ⟨⟨hz.fuel,n3⟩,?_⟩
     unfold mu;dsimp only;omega
    ·cases h
     have h1:=bg_mu (s:=s) (ps:=ps) (a:=a) (x:={ z.x with sc:=z.x.sc++[(zae z.way).to_] }) (p:=(zae z.way).to_) hz.fuel n3 (bgB s ps a { z.x with sc:=z.x.sc++[(zae z.way).to_] } (zae z.way).to_)
     refine ⟨h1.1,Nat.lt_of_le_of_lt h1.2 ?_⟩
     unfold mu;dsimp only;omega
  ·cases h
   refine ⟨⟨hz.fuel,fun w hw=>hz.done w (bZ _ hw)⟩,?_⟩
   have:=drop_mu hc.2
   unfold mu;dsimp only;omega
 ·cases h
def stB (s:zab) (ps:List zal) (a:zay) (x:SS) (goal:PrD):LS:=⟨bgW s ps a x [] goal,bgB s ps a x goal,bgS s ps a x goal⟩
theorem stB_ok {x:SS} (hf:0<=x.fuel) (goal:PrD):WayI (stB s ps a x goal):=(bg_mu hf (fun w hw=>by cases hw) _).1
theorem ziy {x:SS} (hf:0<=x.fuel) (ho:x.out=false) (goal:PrD):iter (goB s ps a goal) (mu (stB s ps a x goal)+1) (stB s ps a x goal) = .inr (zav s ps a x goal):=by
 obtain ⟨r,hr⟩:=iter_ends mu WayI (fun z y hz h=>goB_mu hz h) (mu (stB s ps a x goal)+1) (stB s ps a x goal) (stB_ok hf goal) (Nat.lt_succ_self _)
 have e:zav s ps a x goal=r:=by
  unfold zav
  rw [if_neg (by rw [ho];exact Bool.noConfusion)]
  show (match iter (goB s ps a goal) (mu (stB s ps a x goal)+1) (stB s ps a x goal) with | .inr r=>r | .inl _=>(none,x))=r
  rw [hr]
 rw [hr,e]
theorem zl6 {x:SS} (ho:x.out=true) (goal:PrD):zav s ps a x goal=(none,x):=if_pos ho
theorem back_fuel {x:SS} (hf:0<=x.fuel) (goal:PrD):0<=(zav s ps a x goal).2.fuel/\(zav s ps a x goal).2.fuel<=x.fuel:=by
 cases ho:x.out with
 | true=>rw [zl6 ho];exact ⟨hf,b8 _⟩
 | false =>
  have h1:∀ y:SS,0<=y.fuel->∀ p,(bgS s ps a y p).fuel<=y.fuel:=fun y hy p=>by
   cases e:bgB s ps a y p with
   | true =>
    have e1:(bgS s ps a y p).fuel=y.fuel - (1+((zbr s ps a p).length:Int)):=by unfold bgS;rw [tk_yes (x:=mvS s a y p) e];rfl
    omega
   | false=>have e1:(bgS s ps a y p).fuel=0:=by { unfold bgS;rw [tk_no (x:=mvS s a y p) e] };omega
  refine zgk (fun z=>WayI z/\z.x.fuel<=x.fuel) (fun r=>0<=r.2.fuel/\r.2.fuel<=x.fuel) (fun z hz=>?_) _ _ ⟨stB_ok hf goal,h1 x hf goal⟩ _ (ziy hf ho goal)
  cases e:goB s ps a goal z with
  | inl y =>
   refine ⟨(goB_mu hz.1 e).1,?_⟩
   unfold goB at e
   split at e
   ·split at e
    ·split at e
     ·cases e
     ·split at e
      ·cases e;exact hz.2
      ·cases e;exact dA (h1 { z.x with sc:=z.x.sc++[(zae z.way).to_] } hz.1.fuel _) hz.2
    ·cases e;exact hz.2
   ·cases e
  | inr r =>
   unfold goB at e
   split at e
   ·split at e
    ·split at e
     ·cases e;exact ⟨hz.1.fuel,hz.2⟩
     ·split at e <;> cases e
    ·cases e
   ·cases e;exact ⟨hz.1.fuel,hz.2⟩
theorem goF_mu {y:LS} (hz:WayI z) (h:goF s ps a z = .inl y):WayI y/\mu y<mu z:=by
 unfold goF at h
 split at h
 ·rename_i hc
  have h9:=drop_mu hc.2
  have hdr:∀ w ∈ z.way.dropLast,w.done<=w.moves.length:=fun w hw=>hz.done w (bZ _ hw)
  split at h
  ·rename_i hm
   obtain ⟨n1,n2,n3⟩:=next_mu hc.2 hz.done hm
   split at h
   ·cases h
    refine ⟨⟨hz.fuel,n3⟩,?_⟩
    unfold mu;dsimp only;omega
   ·cases h
    have h1:=bg_mu (s:=s) (ps:=ps) (a:=a) (x:={ z.x with fs:=z.x.fs++[(zae z.way).to_] }) (p:=(zae z.way).to_) hz.fuel n3 (bgB s ps a { z.x with fs:=z.x.fs++[(zae z.way).to_] } (zae z.way).to_)
    refine ⟨h1.1,Nat.lt_of_le_of_lt h1.2 ?_⟩
    unfold mu;dsimp only;omega
  ·split at h
   ·have h1:=back_fuel (s:=s) (ps:=ps) (a:=a) hz.fuel (zb8 z.way).at_
    split at h
    ·cases h
    ·rename_i y' e
     rw [e] at h1
     have g1:0<=y'.fuel:=h1.1
     have g2:y'.fuel<=z.x.fuel:=h1.2
     cases h
     refine ⟨⟨g1,hdr⟩,?_⟩
     unfold mu;dsimp only;omega
   ·cases h
    refine ⟨⟨hz.fuel,hdr⟩,?_⟩
    unfold mu;dsimp only;omega
 ·cases h
def stF (s:zab) (ps:List zal) (a:zay) (x:SS) (p:PrD):LS:=stB s ps a { x with fs:=x.fs++[p] } p
theorem frm_run {x:SS} (hf:0<=x.fuel) (p:PrD):iter (goF s ps a) (mu (stF s ps a x p)+1) (stF s ps a x p) = .inr (zb5 s ps a x p):=by
 obtain ⟨r,hr⟩:=iter_ends mu WayI (fun z y hz h=>goF_mu hz h) (mu (stF s ps a x p)+1) (stF s ps a x p) (stB_ok (x:={ x with fs:=x.fs++[p] }) hf p) (Nat.lt_succ_self _)
 have e:zb5 s ps a x p=r:=by
  show (match iter (goF s ps a) (mu (stF s ps a x p)+1) (stF s ps a x p) with | .inr r=>r | .inl _=>(none,{ x with fs:=x.fs++[p] }))=r
  rw [hr]
 rw [hr,e]
end
def okP (au:zay) (p:PrD):Prop:=okN au p.nd=true/\InI p.st
structure WkOk (au:zay) (w:WkD):Prop where
  done:w.done<=w.moves.length
  len:w.moves.length<=20971521000
  mok:∀ m ∈ w.moves,okP au m.to_
  aok:okP au w.at_
structure XI (x:SS):Prop where
  f0:0<=x.fuel
  f1:x.fuel<=1073741824
  ls:zj6 x.ls
  es:zj6 x.es
  fs:KinP x.fs
  sc:KinP x.sc
structure LI (au:zay) (z:LS):Prop where
  x:XI z.x
  way:∀ w ∈ z.way,WkOk au w
  len:(z.way.length:Int)+z.x.fuel<=1073741824
section
variable {s:zab} {ps:List zal} {au:zay} {L:Nat}
theorem zh3 (hau:zfa au) (h:okP au p):InI p.st/\InI p.nd:=by
 have h1:0<=p.nd/\p.nd<(au.nodes.length:Int):=by have:=h.1;unfold okN at this;simpa using this
 have h2:=hau.nodes
 exact ⟨h.2,by unfold InI;omega⟩
theorem mvt_ok:∀ m ∈ zbr s ps au p,okP au m.to_:=fun m hm=>by
 unfold zbr at hm
 obtain ⟨e,_,h2⟩:=b9.1 hm
 unfold mvE at h2
 obtain ⟨k,hk,rfl⟩:=bF.1 h2
 exact ⟨(ftn_ok au _ _ k hk).1,nmN_in s e⟩
theorem kinP_snoc (h:KinP fs) (hp:InI p.st/\InI p.nd):KinP (fs++[p]):=fun q hq=>by
 rcases bP.1 hq with hq | hq
 ·exact h q hq
 ·rw [bK.1 hq];exact hp
theorem bg_XI {x:SS} (hx:XI x) (hp:okP au p):XI (bgS s ps au x p):=by
 have h1:zj6 (lsM s au x.ls p):=kin_lsM hx.ls _
 have h2:zj6 (zg8 x.es p.st):=kin_add hx.es hp.2
 cases e:bgB s ps au x p with
 | true =>
  have hc:1+((zbr s ps au p).length:Int)<=x.fuel:=of_decide_eq_true e
  have e1:bgS s ps au x p={ mvS s au x p with fuel:=x.fuel - (1+((zbr s ps au p).length:Int)) }:=by unfold bgS;rw [tk_yes (x:=mvS s au x p) e];rfl
  rw [e1]
  have:=hx.f1
  exact ⟨by show 0<=x.fuel - _;omega,by show x.fuel - _<=_;omega,h1,h2,hx.fs,hx.sc⟩
 | false =>
  have e1:bgS s ps au x p={ mvS s au x p with fuel:=0,out:=true }:=by unfold bgS;rw [tk_no (x:=mvS s au x p) e]
  rw [e1]
  exact ⟨b8 _,(by decide:(0:Int)<=1073741824),h1,h2,hx.fs,hx.sc⟩
theorem bg_LI {x:SS} (hs:zaw L s) (hau:zfa au) (hx:XI x) (hp:okP au p) (hw:∀ w ∈ way,WkOk au w) (hl:(way.length:Int)+x.fuel<=1073741824) (ok:Bool):LI au ⟨bgW s ps au x way p,ok,bgS s ps au x p⟩:=by
 refine ⟨bg_XI hx hp,?_,?_⟩
 ·intro w hw2
  have hw2:w ∈ bgW s ps au x way p:=hw2
  unfold bgW at hw2
  split at hw2
  ·rcases bP.1 hw2 with h | h
   ·exact hw w h
   ·rw [bK.1 h];exact ⟨bE _,movT_len hs hau p,mvt_ok,hp⟩
  ·exact hw w hw2
 ·show ((bgW s ps au x way p).length:Int)+(bgS s ps au x p).fuel<=_
  cases e:bgB s ps au x p with
  | true =>
   have hc:1+((zbr s ps au p).length:Int)<=x.fuel:=of_decide_eq_true e
   have e1:(bgS s ps au x p).fuel=x.fuel - (1+((zbr s ps au p).length:Int)):=by unfold bgS;rw [tk_yes (x:=mvS s au x p) e];rfl
   have e2:bgW s ps au x way p=way++[⟨p,zbr s ps au p,0⟩]:=if_pos e
   rw [e1,e2,bH]
   simp only [bT,cL]
   omega
  | false =>
   have e1:(bgS s ps au x p).fuel=0:=by unfold bgS;rw [tk_no (x:=mvS s au x p) e]
   have e2:bgW s ps au x way p=way:=if_neg (by rw [e];exact Bool.noConfusion)
   have:=hx.f0
   rw [e1,e2]
   omega
theorem next_ok (h:∀ w ∈ way,WkOk au w) (h0:0<way.length) (hm:zbu way=true):(∀ w ∈ zas way,WkOk au w)/\okP au (zae way).to_/\(zas way).length=way.length:=by
 have hl:=h _ (last_mem h0)
 have hne:(zb8 way).done≠(zb8 way).moves.length:=of_decide_eq_true hm
 have hd:=hl.done
 refine ⟨fun w hw=>?_,?_,by unfold zas;simp⟩
 ·rw [zi4 h0] at hw
  rcases bP.1 hw with hw | hw
  ·exact h w (bZ _ hw)
  ·rw [bK.1 hw]
   exact ⟨by show (zb8 way).done+1<=(zb8 way).moves.length;omega,hl.len,hl.mok,hl.aok⟩
 ·unfold zae
  rw [bG (by omega)]
  exact hl.mok _ (dH _)
theorem LI.drop (h:LI au z) (ok:Bool):LI au ⟨z.way.dropLast,ok,z.x⟩:=⟨h.x,fun w hw=>h.way w (bZ _ hw),by
 have:=h.len
 have e:z.way.dropLast.length<=z.way.length:=by simp
 show (z.way.dropLast.length:Int)+z.x.fuel<=_
 omega⟩
def gJ {β:Type} (au:zay) (J:β->Prop):LS ⊕ β->Prop
  | .inl y=>LI au y
  | .inr r=>J r
theorem iter_J {f:LS->LS ⊕ β} {J:β->Prop} (hI:∀ z,LI au z->gJ au J (f z)) (n:Nat) (z:LS) (hz:LI au z) (r:β) (h:iter f n z = .inr r):J r :=
 zgk (LI au) J (fun z hz=>by have h:=hI z hz;revert h;cases f z <;> exact id) n z hz r h
def jB (au:zay) (r:Option (List WkD) × SS):Prop:=XI r.2/\∀ w,r.1=some w->(∀ x ∈ w,WkOk au x)/\0<w.length/\(w.length:Int)<=1073741824
def jF (au:zay) (r:Option (List WkD × List WkD) × SS):Prop:=XI r.2/\∀ w,r.1=some w->((∀ x ∈ w.1,WkOk au x)/\0<w.1.length/\(w.1.length:Int)<=1073741824)/\(∀ x ∈ w.2,WkOk au x)/\0<w.2.length/\(w.2.length:Int)<=1073741824
theorem goB_LI (hs:zaw L s) (hau:zfa au) (hz:LI au z):gJ au (jB au) (goB s ps au goal z):=by
 unfold goB
 split
 ·rename_i hc
  split
  ·rename_i hm
   obtain ⟨n1,n2,n3⟩:=next_ok hz.way hc.2 hm
   split
   ·refine (show jB au (some (zas z.way),z.x) from ⟨hz.x,fun w hw=>?_⟩)
    cases hw
    have:=hz.len
    have:=hz.x.f0
    exact ⟨n1,by omega,by omega⟩
   ·split
    ·exact (show LI au ⟨zas z.way,z.ok,z.x⟩ from ⟨hz.x,n1,by have:=hz.len;show ((zas z.way).length:Int)+z.x.fuel<=_;omega⟩)
    ·refine bg_LI hs hau (show XI { z.x with sc:=z.x.sc++[(zae z.way).to_] } from ⟨hz.x.f0,hz.x.f1,hz.x.ls,hz.x.es,hz.x.fs,kinP_snoc hz.x.sc (zh3 hau n2)⟩) n2 n1 ?_ _
     have:=hz.len;show ((zas z.way).length:Int)+z.x.fuel<=_;omega
  ·exact hz.drop _
 ·exact (show jB au (none,z.x) from ⟨hz.x,fun w hw=>by cases hw⟩)
theorem stB_LI (hs:zaw L s) (hau:zfa au) {x:SS} (hx:XI x) (hg:okP au goal):LI au (stB s ps au x goal):=bg_LI hs hau hx hg (fun w hw=>by cases hw) (by have:=hx.f1;simpa using this) _
theorem back_LI (hs:zaw L s) (hau:zfa au) {x:SS} (hx:XI x) (hg:okP au goal):jB au (zav s ps au x goal):=by
 cases ho:x.out with
 | true=>rw [zl6 ho];exact ⟨hx,fun w hw=>by cases hw⟩
 | false=>exact iter_J (fun z hz=>goB_LI hs hau hz) _ _ (stB_LI hs hau hx hg) _ (ziy hx.f0 ho goal)
theorem goF_LI (hs:zaw L s) (hau:zfa au) (hz:LI au z):gJ au (jF au) (goF s ps au z):=by
 unfold goF
 split
 ·rename_i hc
  have hl:=hz.way _ (last_mem hc.2)
  split
  ·rename_i hm
   obtain ⟨n1,n2,n3⟩:=next_ok hz.way hc.2 hm
   split
   ·exact (show LI au ⟨zas z.way,z.ok,z.x⟩ from ⟨hz.x,n1,by have:=hz.len;show ((zas z.way).length:Int)+z.x.fuel<=_;omega⟩)
   ·refine bg_LI hs hau (show XI { z.x with fs:=z.x.fs++[(zae z.way).to_] } from ⟨hz.x.f0,hz.x.f1,hz.x.ls,hz.x.es,kinP_snoc hz.x.fs (zh3 hau n2),hz.x.sc⟩) n2 n1 ?_ _
    have:=hz.len;show ((zas z.way).length:Int)+z.x.fuel<=_;omega
  ·split
   ·have hb:=back_LI (ps:=ps) hs hau hz.x hl.aok
    have hf:=back_fuel (s:=s) (ps:=ps) (a:=au) hz.x.f0 (zb8 z.way).at_
    split
    ·rename_i r y e
     rw [e] at hb
     refine (show jF au (some (z.way,r),y) from ⟨hb.1,fun w hw=>?_⟩)
     cases hw
     have:=hz.len
     have:=hz.x.f0
     exact ⟨⟨hz.way,hc.2,by show (z.way.length:Int)<=_;omega⟩,hb.2 r rfl⟩
    ·rename_i y e
     rw [e] at hb hf
     have h1:=hz.drop z.ok
     refine (show LI au ⟨z.way.dropLast,z.ok,y⟩ from ⟨hb.1,h1.way,?_⟩)
     have h2:=h1.len
     have h3:y.fuel<=z.x.fuel:=hf.2
     show (z.way.dropLast.length:Int)+y.fuel<=_
     have h4:(z.way.dropLast.length:Int)+z.x.fuel<=1073741824:=h2
     omega
   ·exact hz.drop _
 ·exact (show jF au (none,z.x) from ⟨hz.x,fun w hw=>by cases hw⟩)
theorem stF_LI (hs:zaw L s) (hau:zfa au) {x:SS} (hx:XI x) (hg:okP au p):LI au (stF s ps au x p):=stB_LI hs hau (show XI { x with fs:=x.fs++[p] } from ⟨hx.f0,hx.f1,hx.ls,hx.es,kinP_snoc hx.fs (zh3 hau hg),hx.sc⟩) hg
theorem from_LI (hs:zaw L s) (hau:zfa au) {x:SS} (hx:XI x) (hg:okP au p):jF au (zb5 s ps au x p) :=
 iter_J (fun z hz=>goF_LI hs hau hz) _ _ (stF_LI hs hau hx hg) _ (frm_run hx.f0 p)
end
theorem iter_pos {f:α->α ⊕ β} {n:Nat} {z:α} {r:β} (h:iter f n z = .inr r):∃ m,n=m+1:=by
 cases n with
 | zero=>cases h
 | succ m=>exact ⟨m,rfl⟩
theorem iter_l {f:α->α ⊕ β} {z y:α} {r:β} (h:iter f (m+1) z = .inr r) (hf:f z = .inl y):iter f m y = .inr r:=by
 unfold iter at h;rw [hf] at h;exact h
theorem iter_r {f:α->α ⊕ β} {z:α} {r q:β} (h:iter f (m+1) z = .inr r) (hf:f z = .inr q):r=q:=by
 unfold iter at h;rw [hf] at h;exact (Sum.inr.inj h).symm
abbrev nxB (s:zab) (ps:List zal) (au:zay) (z:LS):LS:=LS.mk (bgW s ps au (SS.mk z.x.fuel z.x.out z.x.ls z.x.es z.x.fs (z.x.sc++[(zae z.way).to_])) (zas z.way) (zae z.way).to_) (bgB s ps au (SS.mk z.x.fuel z.x.out z.x.ls z.x.es z.x.fs (z.x.sc++[(zae z.way).to_])) (zae z.way).to_) (bgS s ps au (SS.mk z.x.fuel z.x.out z.x.ls z.x.es z.x.fs (z.x.sc++[(zae z.way).to_])) (zae z.way).to_)
section
variable {s:zab} {ps:List zal} {au:zay} {goal:PrD} {z y:LS} {L:Nat}
theorem goB_end (h:¬(z.ok=true/\0<z.way.length)):goB s ps au goal z = .inr (none,z.x):=by unfold goB;rw [if_neg h]
theorem goB_pop (h:z.ok=true/\0<z.way.length) (hm:zbu z.way=false):goB s ps au goal z = .inl ⟨z.way.dropLast,z.ok,z.x⟩:=by unfold goB;rw [if_pos h,if_neg (by rw [hm];exact Bool.noConfusion)]
theorem goB_hit (h:z.ok=true/\0<z.way.length) (hm:zbu z.way=true) (hg:(zae z.way).to_=goal):goB s ps au goal z = .inr (some (zas z.way),z.x):=by unfold goB;rw [if_pos h,if_pos hm,if_pos hg]
theorem goB_old (h:z.ok=true/\0<z.way.length) (hm:zbu z.way=true) (hg:¬(zae z.way).to_=goal) (hk:(zae z.way).to_ ∈ z.x.sc):goB s ps au goal z = .inl ⟨zas z.way,z.ok,z.x⟩:=by unfold goB;rw [if_pos h,if_pos hm,if_neg hg,if_pos hk]
theorem goB_new (h:z.ok=true/\0<z.way.length) (hm:zbu z.way=true) (hg:¬(zae z.way).to_=goal) (hk:(zae z.way).to_ ∉ z.x.sc):goB s ps au goal z = .inl (nxB s ps au z):=by unfold goB;rw [if_pos h,if_pos hm,if_neg hg,if_neg hk]
theorem LI.stepB (hz:LI au z) (hs:zaw L s) (hau:zfa au) (h:goB s ps au goal z = .inl y):LI au y:=by have h1:=goB_LI (ps:=ps) (goal:=goal) hs hau hz;rw [h] at h1;exact h1
theorem zil (way:List WkD):(zas way).length=way.length:=by unfold zas;simp
end
def bkV:Option (List WkD)->V
  | none => .t (.c (.d (.raw zaa)))
  | some r => .t (.c (.own 19 r.length))
def bkL:Option (List WkD)->List (Nat × L)
  | none=>[]
  | some r=>[(19,.row 176 4 (r.map WkD.d))]
theorem SBack (s:zab) (ps:List zal) (au:zay) (fu:Int) (ot:Bool) (ls es:List Int) (fs sc:List PrD) (goal:PrD) (o:Option (List WkD)) {L:Nat} (hs:zaw L s) (hL:L<=1000) (hp:zbp s) (hps:∀ p ∈ ps,zfl L p) (hpl:ps.length<=1000) (hau:zfa au) (hX:XI (SS.mk fu ot ls es fs sc)) (hg:okP au goal) (hr:(zav s ps au (SS.mk fu ot ls es fs sc) goal).1=o):Fn d6 100 [(7,(bxS s ps au fu ot)),(1,.mp (mpL s ps ls)),(2,.mp (mpE s es)),(3,.mp (mpP fs)),(4,.mp (mpP sc))] [vp 7 0,.t (.agg [.d (.raw (.int .i64 goal.st)),.d (.raw (.int .i64 goal.nd))])] (bkV o) ([(7,(bxS s ps au (zav s ps au (SS.mk fu ot ls es fs sc) goal).2.fuel (zav s ps au (SS.mk fu ot ls es fs sc) goal).2.out)),(1,.mp (mpL s ps (zav s ps au (SS.mk fu ot ls es fs sc) goal).2.ls)),(2,.mp (mpE s (zav s ps au (SS.mk fu ot ls es fs sc) goal).2.es)),(3,.mp (mpP (zav s ps au (SS.mk fu ot ls es fs sc) goal).2.fs)),(4,.mp (mpP (zav s ps au (SS.mk fu ot ls es fs sc) goal).2.sc))]++bkL o):=by
 refine fB Tryz.func100 rfl 67 fun w H B a h=>Jq 30 [] [(0,vp 7 0),(3,vp 30 0),(4,.t (.c (.d (.raw zaa))))] [(7,(bxS s ps au fu ot)),(1,.mp (mpL s ps ls)),(2,.mp (mpE s es)),(3,.mp (mpP fs)),(4,.mp (mpP sc)),(30,.box [.d (.raw (.int .i64 goal.st)),.d (.raw (.int .i64 goal.nd))])] h fun a w h=>qW (Je 31 [(1,.g (Op.nilQ (d:=10) (t:=9) (n:=7) (o:=0)))] [] [(12,vb ot)] h fun a w h=>cS ot h (fun hc1=>?_) (fun hc2=>?_))
 ·refine Je 31 [] [12] [] h fun a w h=>qV (za2 ?_);have eR:(zav s ps au (SS.mk fu ot ls es fs sc) goal)=(none,(SS.mk fu ot ls es fs sc)):=zl6 hc1 goal;have ho:=hr;rw [eR] at ho;obtain rfl:none=o:=ho
  replace h:=cvM [] [] [] [(7,(bxS s ps au (zav s ps au (SS.mk fu ot ls es fs sc) goal).2.fuel (zav s ps au (SS.mk fu ot ls es fs sc) goal).2.out)),(1,.mp (mpL s ps (zav s ps au (SS.mk fu ot ls es fs sc) goal).2.ls)),(2,.mp (mpE s (zav s ps au (SS.mk fu ot ls es fs sc) goal).2.es)),(3,.mp (mpP (zav s ps au (SS.mk fu ot ls es fs sc) goal).2.fs)),(4,.mp (mpP (zav s ps au (SS.mk fu ot ls es fs sc) goal).2.sc))] (by rw [eR]; try kernel_rfl) h;refine rT (.c (.d (.raw zaa))) h rfl ?_;rfl
 refine qU (za0 (Jg 31 [(2,.call (SBegin0 s ps au fu ot ls es fs sc goal hs hL hp hps hpl hau hX.ls hX.es hg.2 hg.1 ⟨hX.f0,hX.f1⟩))] [12] [(5,.t (.c (.own 14 (bgW s ps au (SS.mk fu ot ls es fs sc) [] goal).length))),(6,vb (bgB s ps au (SS.mk fu ot ls es fs sc) goal))] [] [(7,(bxS s ps au (tkF fu (1+((zbr s ps au goal).length:Int))) (tkO fu ot (1+((zbr s ps au goal).length:Int))))),(1,.mp (mpL s ps (lsM s au ls goal))),(2,.mp (mpE s (zg8 es goal.st))),(14,.row 176 4 ((bgW s ps au (SS.mk fu ot ls es fs sc) [] goal).map WkD.d))] h fun a w h=>qW (qZ ?_)));replace h:=zd8 14 9 h;replace h:=cvM [] [(5,.t (.c (.own 9 (stB s ps au (SS.mk fu ot ls es fs sc) goal).way.length))),(6,vb (stB s ps au (SS.mk fu ot ls es fs sc) goal).ok)] [] [(7,(bxS s ps au (stB s ps au (SS.mk fu ot ls es fs sc) goal).x.fuel (stB s ps au (SS.mk fu ot ls es fs sc) goal).x.out)),(1,.mp (mpL s ps (stB s ps au (SS.mk fu ot ls es fs sc) goal).x.ls)),(2,.mp (mpE s (stB s ps au (SS.mk fu ot ls es fs sc) goal).x.es)),(3,.mp (mpP (stB s ps au (SS.mk fu ot ls es fs sc) goal).x.fs)),(4,.mp (mpP (stB s ps au (SS.mk fu ot ls es fs sc) goal).x.sc)),(9,.row 176 4 ((stB s ps au (SS.mk fu ot ls es fs sc) goal).way.map WkD.d))] (by rw [(show (stB s ps au (SS.mk fu ot ls es fs sc) goal).x.fuel=tkF fu (1+((zbr s ps au goal).length:Int)) from bg_fuel (s:=s) (ps:=ps) (au:=au) (fu:=fu) (ot:=ot) (ls:=ls) (es:=es) (fs:=fs) (sc:=sc) (p:=goal)),(show (stB s ps au (SS.mk fu ot ls es fs sc) goal).x.out=tkO fu ot (1+((zbr s ps au goal).length:Int)) from bg_ot (s:=s) (ps:=ps) (au:=au) (fu:=fu) (ot:=ot) (ls:=ls) (es:=es) (fs:=fs) (sc:=sc) (p:=goal)),(show (stB s ps au (SS.mk fu ot ls es fs sc) goal).x.ls=lsM s au ls goal from bg_ls (s:=s) (ps:=ps) (au:=au) (fu:=fu) (ot:=ot) (ls:=ls) (es:=es) (fs:=fs) (sc:=sc) (p:=goal)),(show (stB s ps au (SS.mk fu ot ls es fs sc) goal).x.es=zg8 es goal.st from bg_es (s:=s) (ps:=ps) (au:=au) (fu:=fu) (ot:=ot) (ls:=ls) (es:=es) (fs:=fs) (sc:=sc) (p:=goal)),(show (stB s ps au (SS.mk fu ot ls es fs sc) goal).x.fs=fs from bg_fs (s:=s) (ps:=ps) (au:=au) (fu:=fu) (ot:=ot) (ls:=ls) (es:=es) (fs:=fs) (sc:=sc) (p:=goal)),(show (stB s ps au (SS.mk fu ot ls es fs sc) goal).x.sc=sc from bg_sc (s:=s) (ps:=ps) (au:=au) (fu:=fu) (ot:=ot) (ls:=ls) (es:=es) (fs:=fs) (sc:=sc) (p:=goal))]; try kernel_rfl) h;have hzB:=stB_LI (ps:=ps) hs hau hX hg;have hrun:=ziy (s:=s) (ps:=ps) (a:=au) (x:=(SS.mk fu ot ls es fs sc)) hX.f0 hc2 goal
 refine zcc (ι:=(LS) × (Nat)) (fun (z,n)=>LI au z/\iter (goB s ps au goal) n z = .inr (zav s ps au (SS.mk fu ot ls es fs sc) goal))
   [4] (fun (z,n)=>[(5,.t (.c (.own 9 z.way.length))),(6,vb z.ok)])
   [] (fun (z,n)=>[(7,(bxS s ps au z.x.fuel z.x.out)),(1,.mp (mpL s ps z.x.ls)),(2,.mp (mpE s z.x.es)),(3,.mp (mpP z.x.fs)),(4,.mp (mpP z.x.sc)),(9,.row 176 4 (z.way.map WkD.d))])
   (fun (z,n)=>n) ((stB s ps au (SS.mk fu ot ls es fs sc) goal),mu (stB s ps au (SS.mk fu ot ls es fs sc) goal)+1) ?_ h ?_
 ·exact ⟨hzB,hrun⟩
 clear h;rintro ⟨z,n⟩ a w hI h;dsimp only at h;obtain ⟨hI1,hI2⟩:=hI;obtain ⟨m,hm8⟩:=iter_pos hI2;rw [hm8] at hI2;refine qW ?_
 rcases bL z.ok with hc3 | hc12
 ·rw [hc3] at h;refine Jq 31 [] [(0,vp 7 0),(3,vp 30 0),(5,.t (.c (.own 9 z.way.length))),(6,vb true),(24,vb (decide ((z.way.length:Int)>0)))] [(7,(bxS s ps au z.x.fuel z.x.out)),(1,.mp (mpL s ps z.x.ls)),(2,.mp (mpE s z.x.es)),(3,.mp (mpP z.x.fs)),(4,.mp (mpP z.x.sc)),(30,.box [.d (.raw (.int .i64 goal.st)),.d (.raw (.int .i64 goal.nd))]),(9,.row 176 4 (z.way.map WkD.d))] h fun a w h=>zag ((z.way.length:Int)>0) h (fun hc4 hc4'=>?_) (fun hc11 hc11'=>?_)
  ·refine qU (za0 (qZ ?_));have hw0:0<z.way.length:=by have:=dT hc4;omega
   have hwm:z.way.length<=1000000000000:=by have:=hI1.len;have:=hI1.x.f0;omega
   have hwd:∀ w ∈ z.way,w.done<=w.moves.length:=fun w hw=>(hI1.way w hw).done
   have hwl:∀ w ∈ z.way,w.moves.length<=1000000000000:=fun w hw=>bS (hI1.way w hw).len (by decide)
   refine Jg 31 [(1,.call (SNext z.way hw0 hwm hwd hwl))] [24] [(7,vp 31 0),(8,vb (zbu z.way))] [] [(9,.row 176 4 ((if zbu z.way=true then zas z.way else z.way).map WkD.d)),(31,.box [.d (.raw (.int .i64 (if zbu z.way=true then zae z.way else mvz).act)),.d (.raw (.int .i64 (if zbu z.way=true then zae z.way else mvz).to_.st)),.d (.raw (.int .i64 (if zbu z.way=true then zae z.way else mvz).to_.nd))])] h fun a w h=>qZ (Je 32 [] [8] [(30,vb (!(zbu z.way)))] h fun a w h=>cS (!(zbu z.way)) h (fun hc5=>?_) (fun hc6=>?_))
   ·have hmo:zbu z.way=false:=(show (zbu z.way)=false by have:=hc5;simpa using this);replace h:=h.conv (f':=F.of [(0,vp 7 0),(3,vp 30 0),(5,.t (.c (.own 9 z.way.length))),(6,vb true),(7,vp 31 0),(30,vb (!(zbu z.way)))] [(7,(bxS s ps au z.x.fuel z.x.out)),(1,.mp (mpL s ps z.x.ls)),(2,.mp (mpE s z.x.es)),(3,.mp (mpP z.x.fs)),(4,.mp (mpP z.x.sc)),(30,.box [.d (.raw (.int .i64 goal.st)),.d (.raw (.int .i64 goal.nd))]),(9,.row 176 4 (z.way.map WkD.d)),(31,.box [.d (.raw (.int .i64 mvz.act)),.d (.raw (.int .i64 mvz.to_.st)),.d (.raw (.int .i64 mvz.to_.nd))])]) (by (first | rw [if_neg (by rw [hmo];exact Bool.noConfusion),if_neg (by rw [hmo];exact Bool.noConfusion)] | rw [if_neg (by rw [hmo];exact Bool.noConfusion)]); try kernel_rfl);refine Jh 32 [(3,.g (Op.arith (op:=.sub) (d:=36) (xt:=3) (yt:=3) (k:=.i64) (m:=(z.way.length:Int)) (n:=1) (r:=((z.way.length - 1:Nat):Int)) (d8 35 _) (d7 (.int .i64 1) rfl) (.inr (.inl ⟨rfl,by omega⟩)) i6)),(4,.g (Op.sliceHi (d:=37) (t:=33) (k:=.i64) (n:=9) (len:=z.way.length) (h:=(z.way.length - 1)) (rows:=z.way.map WkD.d) (rty:=176) zka (by rw [bC];exact Nat.sub_le _ _) (d8 36 _)))] [7,30] [(5,.t (.c (.own 9 (z.way.length - 1))))] [31] [] h fun a w h=>za5 (za5 (za0 ?_));replace h:=cutS 9 (z.way.length - 1) 4 176 (z.way.map WkD.d) [(0,vp 7 0),(3,vp 30 0),(5,.t (.c (.own 9 (z.way.length - 1)))),(6,vb true)] [(7,(bxS s ps au z.x.fuel z.x.out)),(1,.mp (mpL s ps z.x.ls)),(2,.mp (mpE s z.x.es)),(3,.mp (mpP z.x.fs)),(4,.mp (mpP z.x.sc)),(30,.box [.d (.raw (.int .i64 goal.st)),.d (.raw (.int .i64 goal.nd))]),(9,.row 176 4 ((z.way.map WkD.d).take (z.way.length - 1)))] h rfl (by kernel_rfl) (by kernel_rfl);replace h:=cvM [] [(5,.t (.c (.own 9 z.way.dropLast.length)))] [] [(9,.row 176 4 (z.way.dropLast.map WkD.d))] (by rw [dQ,cM,cY]; try kernel_rfl) h;have hgo:=goB_pop (s:=s) (ps:=ps) (au:=au) (goal:=goal) ⟨hc3,hw0⟩ (show (zbu z.way)=false by have:=hc5;simpa using this);replace h:=cvM [] [(5,.t (.c (.own 9 (LS.mk z.way.dropLast z.ok z.x).way.length))),(6,vb (LS.mk z.way.dropLast z.ok z.x).ok)] [] [(7,(bxS s ps au (LS.mk z.way.dropLast z.ok z.x).x.fuel (LS.mk z.way.dropLast z.ok z.x).x.out)),(1,.mp (mpL s ps (LS.mk z.way.dropLast z.ok z.x).x.ls)),(2,.mp (mpE s (LS.mk z.way.dropLast z.ok z.x).x.es)),(3,.mp (mpP (LS.mk z.way.dropLast z.ok z.x).x.fs)),(4,.mp (mpP (LS.mk z.way.dropLast z.ok z.x).x.sc)),(9,.row 176 4 ((LS.mk z.way.dropLast z.ok z.x).way.map WkD.d))] (by rw [show (LS.mk z.way.dropLast z.ok z.x).ok=true from hc3]; try kernel_rfl) h;refine za9 (x:=(z,n)) (y:=((LS.mk z.way.dropLast z.ok z.x),m)) h ?_ ?_
    ·exact ⟨hI1.stepB hs hau hgo,iter_l hI2 hgo⟩
    show m<n;omega
   have hmo:zbu z.way=true:=(show (zbu z.way)=true by have:=hc6;simpa using this);have hto:=(next_ok hI1.way hw0 hmo).2.1;replace h:=h.conv (f':=F.of [(0,vp 7 0),(3,vp 30 0),(5,.t (.c (.own 9 z.way.length))),(6,vb true),(7,vp 31 0),(30,vb (!(zbu z.way)))] [(7,(bxS s ps au z.x.fuel z.x.out)),(1,.mp (mpL s ps z.x.ls)),(2,.mp (mpE s z.x.es)),(3,.mp (mpP z.x.fs)),(4,.mp (mpP z.x.sc)),(30,.box [.d (.raw (.int .i64 goal.st)),.d (.raw (.int .i64 goal.nd))]),(9,.row 176 4 ((zas z.way).map WkD.d)),(31,.box [.d (.raw (.int .i64 (zae z.way).act)),.d (.raw (.int .i64 (zae z.way).to_.st)),.d (.raw (.int .i64 (zae z.way).to_.nd))])]) (by (first | rw [if_pos hmo,if_pos hmo] | rw [if_pos hmo]); try kernel_rfl);replace h:=cvM [] [(5,.t (.c (.own 9 (zas z.way).length)))] [] [] (by rw [zil]; try kernel_rfl) h;refine Jg 32 [(3,.g (Op.eqPr (d:=42) (x:=40) (y:=41) (p:=(zae z.way).to_) (q:=goal) (zh3 hau hto) (zh3 hau hg)))] [30] [(38,vb (decide ((zae z.way).to_=goal)))] [] [] h fun a w h=>zag ((zae z.way).to_=goal) h (fun hc7 hc7'=>?_) (fun hc8 hc8'=>?_)
   ·refine Jg 32 [] [7,38] [(4,.t (.c (.own 9 (zas z.way).length)))] [31] [] h fun a w h=>qV (za6 (za6 (za2 (za6 (za2 ?_)))));have eR:=iter_r hI2 (goB_hit (s:=s) (ps:=ps) (au:=au) ⟨hc3,hw0⟩ hmo (dT hc7));rw [eR] at hr;obtain rfl:some (zas z.way)=o:=hr
    replace h:=zd8 9 19 h;replace h:=cvM [] [] [] [(7,(bxS s ps au (zav s ps au (SS.mk fu ot ls es fs sc) goal).2.fuel (zav s ps au (SS.mk fu ot ls es fs sc) goal).2.out)),(1,.mp (mpL s ps (zav s ps au (SS.mk fu ot ls es fs sc) goal).2.ls)),(2,.mp (mpE s (zav s ps au (SS.mk fu ot ls es fs sc) goal).2.es)),(3,.mp (mpP (zav s ps au (SS.mk fu ot ls es fs sc) goal).2.fs)),(4,.mp (mpP (zav s ps au (SS.mk fu ot ls es fs sc) goal).2.sc))] (by rw [eR]; try kernel_rfl) h;refine rT (.c (.own 19 (zas z.way).length)) h rfl ?_;rfl
   refine Je 32 [(1,.g (Op.nilQ (d:=46) (t:=45) (n:=7) (o:=0))),(6,.g (Op.lkP (d:=51) (t:=48) (m:=4) (x:=50) (p:=(zae z.way).to_) (fs:=z.x.sc) (q:=(decide ((zae z.way).to_ ∈ z.x.sc))) hI1.x.sc (zh3 hau hto) rfl))] [38] [(44,vb (!(decide ((zae z.way).to_ ∈ z.x.sc))))] h fun a w h=>cS (!(decide ((zae z.way).to_ ∈ z.x.sc))) h (fun hc9=>?_) (fun hc10=>?_)
   ·refine Jg 32 [(1,.g (Op.nilQ (d:=54) (t:=53) (n:=7) (o:=0))),(6,.g (Op.upP (t:=56) (m:=4) (x:=58) (p:=(zae z.way).to_) (fs:=z.x.sc) hI1.x.sc (zh3 hau hto) (dF (show (decide ((zae z.way).to_ ∈ z.x.sc))=false by have:=hc9;simpa using this))))] [44] [] [] [(4,.mp (mpP (z.x.sc++[(zae z.way).to_])))] h fun a w h=>Jh 32 [(4,.call (SBegin s ps au z.x.fuel z.x.out z.x.ls z.x.es z.x.fs (z.x.sc++[(zae z.way).to_]) (zas z.way) (zae z.way).to_ hs hL hp hps hpl hau hI1.x.ls hI1.x.es hto.2 hto.1 ⟨hI1.x.f0,hI1.x.f1⟩ (by rw [zil];have:=hI1.len;have:=hI1.x.f0;omega)))] [7] [(5,.t (.c (.own 14 (bgW s ps au (SS.mk z.x.fuel z.x.out z.x.ls z.x.es z.x.fs (z.x.sc++[(zae z.way).to_])) (zas z.way) (zae z.way).to_).length))),(6,vb (bgB s ps au (SS.mk z.x.fuel z.x.out z.x.ls z.x.es z.x.fs (z.x.sc++[(zae z.way).to_])) (zae z.way).to_))] [9,31] [(7,(bxS s ps au (tkF z.x.fuel (1+((zbr s ps au (zae z.way).to_).length:Int))) (tkO z.x.fuel z.x.out (1+((zbr s ps au (zae z.way).to_).length:Int))))),(1,.mp (mpL s ps (lsM s au z.x.ls (zae z.way).to_))),(2,.mp (mpE s (zg8 z.x.es (zae z.way).to_.st))),(14,.row 176 4 ((bgW s ps au (SS.mk z.x.fuel z.x.out z.x.ls z.x.es z.x.fs (z.x.sc++[(zae z.way).to_])) (zas z.way) (zae z.way).to_).map WkD.d))] h fun a w h=>za5 (za5 (za0 ?_));have hgo:=goB_new (s:=s) (ps:=ps) (au:=au) ⟨hc3,hw0⟩ (show (zbu z.way)=true by have:=hc6;simpa using this) (dF hc8) (dF (show (decide ((zae z.way).to_ ∈ z.x.sc))=false by have:=hc9;simpa using this));replace h:=zd8 14 9 h;replace h:=cvM [] [(5,.t (.c (.own 9 (nxB s ps au z).way.length))),(6,vb (nxB s ps au z).ok)] [] [(7,(bxS s ps au (nxB s ps au z).x.fuel (nxB s ps au z).x.out)),(1,.mp (mpL s ps (nxB s ps au z).x.ls)),(2,.mp (mpE s (nxB s ps au z).x.es)),(3,.mp (mpP (nxB s ps au z).x.fs)),(4,.mp (mpP (nxB s ps au z).x.sc)),(9,.row 176 4 ((nxB s ps au z).way.map WkD.d))] (by rw [(show (nxB s ps au z).x.fuel=tkF z.x.fuel (1+((zbr s ps au (zae z.way).to_).length:Int)) from bg_fuel (s:=s) (ps:=ps) (au:=au) (fu:=z.x.fuel) (ot:=z.x.out) (ls:=z.x.ls) (es:=z.x.es) (fs:=z.x.fs) (sc:=(z.x.sc++[(zae z.way).to_])) (p:=(zae z.way).to_)),(show (nxB s ps au z).x.out=tkO z.x.fuel z.x.out (1+((zbr s ps au (zae z.way).to_).length:Int)) from bg_ot (s:=s) (ps:=ps) (au:=au) (fu:=z.x.fuel) (ot:=z.x.out) (ls:=z.x.ls) (es:=z.x.es) (fs:=z.x.fs) (sc:=(z.x.sc++[(zae z.way).to_])) (p:=(zae z.way).to_)),(show (nxB s ps au z).x.ls=lsM s au z.x.ls (zae z.way).to_ from bg_ls (s:=s) (ps:=ps) (au:=au) (fu:=z.x.fuel) (ot:=z.x.out) (ls:=z.x.ls) (es:=z.x.es) (fs:=z.x.fs) (sc:=(z.x.sc++[(zae z.way).to_])) (p:=(zae z.way).to_)),(show (nxB s ps au z).x.es=zg8 z.x.es (zae z.way).to_.st from bg_es (s:=s) (ps:=ps) (au:=au) (fu:=z.x.fuel) (ot:=z.x.out) (ls:=z.x.ls) (es:=z.x.es) (fs:=z.x.fs) (sc:=(z.x.sc++[(zae z.way).to_])) (p:=(zae z.way).to_)),(show (nxB s ps au z).x.fs=z.x.fs from bg_fs (s:=s) (ps:=ps) (au:=au) (fu:=z.x.fuel) (ot:=z.x.out) (ls:=z.x.ls) (es:=z.x.es) (fs:=z.x.fs) (sc:=(z.x.sc++[(zae z.way).to_])) (p:=(zae z.way).to_)),(show (nxB s ps au z).x.sc=(z.x.sc++[(zae z.way).to_]) from bg_sc (s:=s) (ps:=ps) (au:=au) (fu:=z.x.fuel) (ot:=z.x.out) (ls:=z.x.ls) (es:=z.x.es) (fs:=z.x.fs) (sc:=(z.x.sc++[(zae z.way).to_])) (p:=(zae z.way).to_))]; try kernel_rfl) h;refine za9 (x:=(z,n)) (y:=((nxB s ps au z),m)) h ?_ ?_
    ·exact ⟨hI1.stepB hs hau hgo,iter_l hI2 hgo⟩
    show m<n;omega
   refine qU (za5 (za5 (za0 ?_)));have hgo:=goB_old (s:=s) (ps:=ps) (au:=au) ⟨hc3,hw0⟩ (show (zbu z.way)=true by have:=hc6;simpa using this) (dF hc8) (dT (show (decide ((zae z.way).to_ ∈ z.x.sc))=true by have:=hc10;simpa using this));replace h:=cvM [] [(5,.t (.c (.own 9 (LS.mk (zas z.way) z.ok z.x).way.length))),(6,vb (LS.mk (zas z.way) z.ok z.x).ok)] [] [(7,(bxS s ps au (LS.mk (zas z.way) z.ok z.x).x.fuel (LS.mk (zas z.way) z.ok z.x).x.out)),(1,.mp (mpL s ps (LS.mk (zas z.way) z.ok z.x).x.ls)),(2,.mp (mpE s (LS.mk (zas z.way) z.ok z.x).x.es)),(3,.mp (mpP (LS.mk (zas z.way) z.ok z.x).x.fs)),(4,.mp (mpP (LS.mk (zas z.way) z.ok z.x).x.sc)),(9,.row 176 4 ((LS.mk (zas z.way) z.ok z.x).way.map WkD.d))] (by rw [show (LS.mk (zas z.way) z.ok z.x).ok=true from hc3]; try kernel_rfl) h;refine za9 (x:=(z,n)) (y:=((LS.mk (zas z.way) z.ok z.x),m)) h ?_ ?_
   ·exact ⟨hI1.stepB hs hau hgo,iter_l hI2 hgo⟩
   show m<n;omega
  refine exA (Jg 32 [] [0,3,5,6,24] [(4,.t (.c (.d (.raw zaa))))] [30,9] [] h fun a w h=>qV ?_);have eR:=iter_r hI2 (goB_end (s:=s) (ps:=ps) (au:=au) (goal:=goal) (fun h8=>by have:=dF hc11;have:=h8.2;omega));have ho:=hr;rw [eR] at ho;obtain rfl:none=o:=ho
  replace h:=cvM [] [] [] [(7,(bxS s ps au (zav s ps au (SS.mk fu ot ls es fs sc) goal).2.fuel (zav s ps au (SS.mk fu ot ls es fs sc) goal).2.out)),(1,.mp (mpL s ps (zav s ps au (SS.mk fu ot ls es fs sc) goal).2.ls)),(2,.mp (mpE s (zav s ps au (SS.mk fu ot ls es fs sc) goal).2.es)),(3,.mp (mpP (zav s ps au (SS.mk fu ot ls es fs sc) goal).2.fs)),(4,.mp (mpP (zav s ps au (SS.mk fu ot ls es fs sc) goal).2.sc))] (by rw [eR]; try kernel_rfl) h;refine rT (.c (.d (.raw zaa))) h rfl ?_;rfl
 rw [hc12] at h;refine Jq 32 [] [(0,vp 7 0),(3,vp 30 0),(5,.t (.c (.own 9 z.way.length))),(6,vb false),(24,vb false)] [(7,(bxS s ps au z.x.fuel z.x.out)),(1,.mp (mpL s ps z.x.ls)),(2,.mp (mpE s z.x.es)),(3,.mp (mpP z.x.fs)),(4,.mp (mpP z.x.sc)),(30,.box [.d (.raw (.int .i64 goal.st)),.d (.raw (.int .i64 goal.nd))]),(9,.row 176 4 (z.way.map WkD.d))] h fun a w h=>zbs h (exA (Jg 32 [] [0,3,5,6,24] [(4,.t (.c (.d (.raw zaa))))] [30,9] [] h fun a w h=>qV ?_));have eR:=iter_r hI2 (goB_end (s:=s) (ps:=ps) (au:=au) (goal:=goal) (fun h8=>by have:=h8.1;rw [hc12] at this;cases this));have ho:=hr;rw [eR] at ho;obtain rfl:none=o:=ho
 replace h:=cvM [] [] [] [(7,(bxS s ps au (zav s ps au (SS.mk fu ot ls es fs sc) goal).2.fuel (zav s ps au (SS.mk fu ot ls es fs sc) goal).2.out)),(1,.mp (mpL s ps (zav s ps au (SS.mk fu ot ls es fs sc) goal).2.ls)),(2,.mp (mpE s (zav s ps au (SS.mk fu ot ls es fs sc) goal).2.es)),(3,.mp (mpP (zav s ps au (SS.mk fu ot ls es fs sc) goal).2.fs)),(4,.mp (mpP (zav s ps au (SS.mk fu ot ls es fs sc) goal).2.sc))] (by rw [eR]; try kernel_rfl) h;refine rT (.c (.d (.raw zaa))) h rfl ?_;rfl
theorem qj1_3:Sz d6 121 2 true:=Sz.mk' (by kernel_rfl) Tryz.underlying121 _ rfl
section
variable {P:Program}
theorem run_neNil (hu:P.underlying xt=some (.slice el)) (ao:Option Addr) (n c:Nat) (x y:Operand) (w:World) :
  (do eqGuard .neq xt x y (.slice ao n c) zaa;binOp .neq xt (.slice ao n c) zaa:Sem Value).run P w = .ok (.bool !ao.isNone) w:=by
 have h1:(eqGuard .neq xt x y (.slice ao n c) zaa).run P w = .ok () w:=by simp [eqGuard,zaa]
 have h2:(binOp .neq xt (.slice ao n c) zaa).run P w = .ok (.bool !ao.isNone) w:=by
  show (do pure (Value.bool !(<- Op.equal xt (.slice ao n c) (.slice none 0 0))):Sem Value).run P w=_
  simp only [Sem.run_bind,run_equal_slice_nil (P:=P) w xt el ao n c hu,Result.andThen_ok,Sem.run_pure]
 simp only [Sem.run_bind,h1,Result.andThen_ok,h2]
theorem Op.neNilR {d:Nat} {y:Operand} {yt:TypeId} {pos af gd} (hu:P.underlying xt=some (.slice el)) (h':OV y (.t (.c (.d (.raw zaa)))) rs') :
  zb6 P ⟨some d,.binOp .neq xt (.tmp t) y yt,ty,pos,af,gd⟩ { rs:=(t,.t (.c (.d (.raw zaa)))) :: rs', ws:=[(d,some (vb false))] }:=by
 refine Op.raw2 rfl (d8 t _) h' rfl fun ρ w h1 h2=>?_
 have:=run_neNil (P:=P) hu none 0 0 (.tmp t) y w
 have e:zaa = .slice none 0 0:=rfl
 simp only [Sem.run_bind] at this
 rw [<- e] at this
 simp only [execOp,h1,h2,Sem.run_bind,this,Result.andThen_ok,Sem.run_pure]
 rfl
theorem Op.neNilO {d n len:Nat} {y:Operand} {yt:TypeId} {pos af gd} (hu:P.underlying xt=some (.slice el)) (hn:0<len) (h':OV y (.t (.c (.d (.raw zaa)))) rs') :
  zb6 P ⟨some d,.binOp .neq xt (.tmp t) y yt,ty,pos,af,gd⟩ { rs:=(t,.t (.c (.own n len))) :: rs', ws:=[(d,some (vb true))] } :=
 zb6.value d _ rfl rfl rfl fun e f H B a w hok hr2=>by
  have h1:=hok.slot t _ (hr2.1 (t,.t (.c (.own n len))) (by simp))
  have h2:a.eval y=zaa:=(h'.eval hok fun p hp=>hr2.1 p (by simp [hp])).rawI
  have h3:CR H B (.own n len) (a.eval (.tmp t)):=h1
  generalize hv0:a.eval (.tmp t)=v at h3
  simp only [CR] at h3
  cases hB:B n with
  | none=>rw [hB] at h3;omega
  | some q =>
   obtain ⟨b,c⟩:=q
   rw [hB] at h3
   subst h3
   refine ⟨.bool true,?_,DR.raw _ rfl⟩
   generalize a.eval=ρ at hv0 h2 ⊢
   have:=run_neNil (P:=P) hu (some ⟨b,0,none⟩) len c (.tmp t) y w
   simp only [Sem.run_bind] at this
   simp only [execOp,hv0,h2,Sem.run_bind,this,Result.andThen_ok,Sem.run_pure]
   rfl
end
abbrev nxF (s:zab) (ps:List zal) (au:zay) (z:LS):LS:=LS.mk (bgW s ps au (SS.mk z.x.fuel z.x.out z.x.ls z.x.es (z.x.fs++[(zae z.way).to_]) z.x.sc) (zas z.way) (zae z.way).to_) (bgB s ps au (SS.mk z.x.fuel z.x.out z.x.ls z.x.es (z.x.fs++[(zae z.way).to_]) z.x.sc) (zae z.way).to_) (bgS s ps au (SS.mk z.x.fuel z.x.out z.x.ls z.x.es (z.x.fs++[(zae z.way).to_]) z.x.sc) (zae z.way).to_)
section
variable {s:zab} {ps:List zal} {au:zay} {z y:LS} {L:Nat} {r:List WkD}
theorem goF_end (h:¬(z.ok=true/\0<z.way.length)):goF s ps au z = .inr (none,z.x):=by unfold goF;rw [if_neg h]
theorem goF_old (h:z.ok=true/\0<z.way.length) (hm:zbu z.way=true) (hk:(zae z.way).to_ ∈ z.x.fs):goF s ps au z = .inl ⟨zas z.way,z.ok,z.x⟩:=by unfold goF;rw [if_pos h,if_pos hm,if_pos hk]
theorem goF_new (h:z.ok=true/\0<z.way.length) (hm:zbu z.way=true) (hk:(zae z.way).to_ ∉ z.x.fs):goF s ps au z = .inl (nxF s ps au z):=by unfold goF;rw [if_pos h,if_pos hm,if_neg hk]
theorem goF_bad (h:z.ok=true/\0<z.way.length) (hm:zbu z.way=false) (hg:zh7 au (zb8 z.way).at_=false):goF s ps au z = .inl ⟨z.way.dropLast,z.ok,z.x⟩:=by unfold goF;rw [if_pos h,if_neg (by rw [hm];exact Bool.noConfusion),if_neg (by rw [hg];exact Bool.noConfusion)]
theorem goF_none (h:z.ok=true/\0<z.way.length) (hm:zbu z.way=false) (hg:zh7 au (zb8 z.way).at_=true) (hb:(zav s ps au z.x (zb8 z.way).at_).1=none):goF s ps au z = .inl ⟨z.way.dropLast,z.ok,(zav s ps au z.x (zb8 z.way).at_).2⟩:=by
 unfold goF
 rw [if_pos h,if_neg (by rw [hm];exact Bool.noConfusion),if_pos hg]
 cases e:zav s ps au z.x (zb8 z.way).at_ with
 | mk q y=>rw [e] at hb;cases q with
  | none=>rfl
  | some r=>cases hb
theorem goF_some (h:z.ok=true/\0<z.way.length) (hm:zbu z.way=false) (hg:zh7 au (zb8 z.way).at_=true) (hb:(zav s ps au z.x (zb8 z.way).at_).1=some r):goF s ps au z = .inr (some (z.way,r),(zav s ps au z.x (zb8 z.way).at_).2):=by
 unfold goF
 rw [if_pos h,if_neg (by rw [hm];exact Bool.noConfusion),if_pos hg]
 cases e:zav s ps au z.x (zb8 z.way).at_ with
 | mk q y=>rw [e] at hb;cases q with
  | none=>cases hb
  | some r'=>cases hb;rfl
theorem LI.stepF (hz:LI au z) (hs:zaw L s) (hau:zfa au) (h:goF s ps au z = .inl y):LI au y:=by have h1:=goF_LI (ps:=ps) hs hau hz;rw [h] at h1;exact h1
end
def frV:Option (List WkD × List WkD)->V
  | none => .tup [.c (.d (.raw zaa)),.c (.d (.raw zaa))]
  | some (st,cy) => .tup [.c (.own 29 st.length),.c (.own 19 cy.length)]
def frL:Option (List WkD × List WkD)->List (Nat × L)
  | none=>[]
  | some (st,cy)=>[(29,.row 176 4 (st.map WkD.d)),(19,.row 176 4 (cy.map WkD.d))]
theorem SFromA (s:zab) (ps:List zal) (au:zay) (fu:Int) (ot:Bool) (ls es:List Int) (fs sc:List PrD) (p:PrD) (o:Option (List WkD × List WkD)) {L:Nat} (hs:zaw L s) (hL:L<=1000) (hp:zbp s) (hps:∀ p ∈ ps,zfl L p) (hpl:ps.length<=1000) (hau:zfa au) (hX:XI (SS.mk fu ot ls es fs sc)) (hg:okP au p) (hpf:decide (p ∈ fs)=false) (hr:(zb5 s ps au (SS.mk fu ot ls es fs sc) p).1=o):Fn d6 51 [(7,(bxS s ps au fu ot)),(1,.mp (mpL s ps ls)),(2,.mp (mpE s es)),(3,.mp (mpP fs)),(4,.mp (mpP sc))] [vp 7 0,.t (.agg [.d (.raw (.int .i64 p.st)),.d (.raw (.int .i64 p.nd))])] (frV o) ([(7,(bxS s ps au (zb5 s ps au (SS.mk fu ot ls es fs sc) p).2.fuel (zb5 s ps au (SS.mk fu ot ls es fs sc) p).2.out)),(1,.mp (mpL s ps (zb5 s ps au (SS.mk fu ot ls es fs sc) p).2.ls)),(2,.mp (mpE s (zb5 s ps au (SS.mk fu ot ls es fs sc) p).2.es)),(3,.mp (mpP (zb5 s ps au (SS.mk fu ot ls es fs sc) p).2.fs)),(4,.mp (mpP (zb5 s ps au (SS.mk fu ot ls es fs sc) p).2.sc))]++frL o):=by
 refine fB Tryz.func51 rfl 79 fun w H B a h=>Jq 30 [] [(0,vp 7 0),(3,vp 30 0),(4,.t (.c (.d (.raw zaa)))),(5,.t (.c (.d (.raw zaa))))] [(7,(bxS s ps au fu ot)),(1,.mp (mpL s ps ls)),(2,.mp (mpE s es)),(3,.mp (mpP fs)),(4,.mp (mpP sc)),(30,.box [.d (.raw (.int .i64 p.st)),.d (.raw (.int .i64 p.nd))])] h fun a w h=>Jg 31 [(1,.g (Op.nilQ (d:=13) (t:=12) (n:=7) (o:=0))),(5,.g (Op.upP (t:=15) (m:=3) (x:=16) (p:=p) (fs:=fs) hX.fs (zh3 hau hg) (dF hpf)))] [] [] [] [(3,.mp (mpP (fs++[p])))] h fun a w h=>Jg 31 [(2,.call (SBegin0 s ps au fu ot ls es (fs++[p]) sc p hs hL hp hps hpl hau hX.ls hX.es hg.2 hg.1 ⟨hX.f0,hX.f1⟩))] [3] [(6,.t (.c (.own 14 (bgW s ps au (SS.mk fu ot ls es (fs++[p]) sc) [] p).length))),(7,vb (bgB s ps au (SS.mk fu ot ls es (fs++[p]) sc) p))] [30] [(7,(bxS s ps au (tkF fu (1+((zbr s ps au p).length:Int))) (tkO fu ot (1+((zbr s ps au p).length:Int))))),(1,.mp (mpL s ps (lsM s au ls p))),(2,.mp (mpE s (zg8 es p.st))),(14,.row 176 4 ((bgW s ps au (SS.mk fu ot ls es (fs++[p]) sc) [] p).map WkD.d))] h fun a w h=>qW (qZ ?_)
 replace h:=zd8 14 9 h;replace h:=cvM [] [(6,.t (.c (.own 9 (stF s ps au (SS.mk fu ot ls es fs sc) p).way.length))),(7,vb (stF s ps au (SS.mk fu ot ls es fs sc) p).ok)] [] [(7,(bxS s ps au (stF s ps au (SS.mk fu ot ls es fs sc) p).x.fuel (stF s ps au (SS.mk fu ot ls es fs sc) p).x.out)),(1,.mp (mpL s ps (stF s ps au (SS.mk fu ot ls es fs sc) p).x.ls)),(2,.mp (mpE s (stF s ps au (SS.mk fu ot ls es fs sc) p).x.es)),(3,.mp (mpP (stF s ps au (SS.mk fu ot ls es fs sc) p).x.fs)),(4,.mp (mpP (stF s ps au (SS.mk fu ot ls es fs sc) p).x.sc)),(9,.row 176 4 ((stF s ps au (SS.mk fu ot ls es fs sc) p).way.map WkD.d))] (by rw [(show (stF s ps au (SS.mk fu ot ls es fs sc) p).x.fuel=tkF fu (1+((zbr s ps au p).length:Int)) from bg_fuel (s:=s) (ps:=ps) (au:=au) (fu:=fu) (ot:=ot) (ls:=ls) (es:=es) (fs:=(fs++[p])) (sc:=sc) (p:=p)),(show (stF s ps au (SS.mk fu ot ls es fs sc) p).x.out=tkO fu ot (1+((zbr s ps au p).length:Int)) from bg_ot (s:=s) (ps:=ps) (au:=au) (fu:=fu) (ot:=ot) (ls:=ls) (es:=es) (fs:=(fs++[p])) (sc:=sc) (p:=p)),(show (stF s ps au (SS.mk fu ot ls es fs sc) p).x.ls=lsM s au ls p from bg_ls (s:=s) (ps:=ps) (au:=au) (fu:=fu) (ot:=ot) (ls:=ls) (es:=es) (fs:=(fs++[p])) (sc:=sc) (p:=p)),(show (stF s ps au (SS.mk fu ot ls es fs sc) p).x.es=zg8 es p.st from bg_es (s:=s) (ps:=ps) (au:=au) (fu:=fu) (ot:=ot) (ls:=ls) (es:=es) (fs:=(fs++[p])) (sc:=sc) (p:=p)),(show (stF s ps au (SS.mk fu ot ls es fs sc) p).x.fs=(fs++[p]) from bg_fs (s:=s) (ps:=ps) (au:=au) (fu:=fu) (ot:=ot) (ls:=ls) (es:=es) (fs:=(fs++[p])) (sc:=sc) (p:=p)),(show (stF s ps au (SS.mk fu ot ls es fs sc) p).x.sc=sc from bg_sc (s:=s) (ps:=ps) (au:=au) (fu:=fu) (ot:=ot) (ls:=ls) (es:=es) (fs:=(fs++[p])) (sc:=sc) (p:=p))]; try kernel_rfl) h;have hzB:=stF_LI (ps:=ps) hs hau hX hg;have hrun:=frm_run (s:=s) (ps:=ps) (a:=au) (x:=(SS.mk fu ot ls es fs sc)) hX.f0 p
 refine loopS (ι:=(LS) × (Nat)) (fun (z,n)=>LI au z/\iter (goF s ps au) n z = .inr (zb5 s ps au (SS.mk fu ot ls es fs sc) p))
   (fun (z,n)=>[(0,vp 7 0),(6,.t (.c (.own 9 z.way.length))),(7,vb z.ok)])
   (fun (z,n)=>[(7,(bxS s ps au z.x.fuel z.x.out)),(1,.mp (mpL s ps z.x.ls)),(2,.mp (mpE s z.x.es)),(3,.mp (mpP z.x.fs)),(4,.mp (mpP z.x.sc)),(9,.row 176 4 (z.way.map WkD.d))])
   (fun (z,n)=>n) ((stF s ps au (SS.mk fu ot ls es fs sc) p),mu (stF s ps au (SS.mk fu ot ls es fs sc) p)+1) ?_ h (by kernel_rfl) (by kernel_rfl) ?_
 ·exact ⟨hzB,hrun⟩
 clear h;rintro ⟨z,n⟩ a w hI h;dsimp only at h;obtain ⟨hI1,hI2⟩:=hI;obtain ⟨m,hm8⟩:=iter_pos hI2;rw [hm8] at hI2;refine qW ?_
 rcases bL z.ok with hc1 | hc10
 ·rw [hc1] at h;refine Jq 31 [] [(0,vp 7 0),(6,.t (.c (.own 9 z.way.length))),(7,vb true),(28,vb (decide ((z.way.length:Int)>0)))] [(7,(bxS s ps au z.x.fuel z.x.out)),(1,.mp (mpL s ps z.x.ls)),(2,.mp (mpE s z.x.es)),(3,.mp (mpP z.x.fs)),(4,.mp (mpP z.x.sc)),(9,.row 176 4 (z.way.map WkD.d))] h fun a w h=>zag ((z.way.length:Int)>0) h (fun hc2 hc2'=>?_) (fun hc9 hc9'=>?_)
  ·refine qU (za0 (qZ ?_));have hw0:0<z.way.length:=by have:=dT hc2;omega
   have hwm:z.way.length<=1000000000000:=by have:=hI1.len;have:=hI1.x.f0;omega
   have hwd:∀ w ∈ z.way,w.done<=w.moves.length:=fun w hw=>(hI1.way w hw).done
   have hwl:∀ w ∈ z.way,w.moves.length<=1000000000000:=fun w hw=>bS (hI1.way w hw).len (by decide)
   refine Jg 31 [(1,.call (SNext z.way hw0 hwm hwd hwl))] [28] [(8,vp 31 0),(9,vb (zbu z.way))] [] [(9,.row 176 4 ((if zbu z.way=true then zas z.way else z.way).map WkD.d)),(31,.box [.d (.raw (.int .i64 (if zbu z.way=true then zae z.way else mvz).act)),.d (.raw (.int .i64 (if zbu z.way=true then zae z.way else mvz).to_.st)),.d (.raw (.int .i64 (if zbu z.way=true then zae z.way else mvz).to_.nd))])] h fun a w h=>qW (Je 32 [] [9] [(34,vb (zbu z.way))] h fun a w h=>cS (zbu z.way) h (fun hc3=>?_) (fun hc6=>?_))
   ·refine qW ?_;have hmo:zbu z.way=true:=hc3;have hto:=(next_ok hI1.way hw0 hmo).2.1;replace h:=h.conv (f':=F.of [(0,vp 7 0),(6,.t (.c (.own 9 z.way.length))),(7,vb true),(8,vp 31 0),(34,vb (zbu z.way))] [(7,(bxS s ps au z.x.fuel z.x.out)),(1,.mp (mpL s ps z.x.ls)),(2,.mp (mpE s z.x.es)),(3,.mp (mpP z.x.fs)),(4,.mp (mpP z.x.sc)),(9,.row 176 4 ((zas z.way).map WkD.d)),(31,.box [.d (.raw (.int .i64 (zae z.way).act)),.d (.raw (.int .i64 (zae z.way).to_.st)),.d (.raw (.int .i64 (zae z.way).to_.nd))])]) (by (first | rw [if_pos hmo,if_pos hmo] | rw [if_pos hmo]); try kernel_rfl);replace h:=cvM [] [(6,.t (.c (.own 9 (zas z.way).length)))] [] [] (by rw [zil]; try kernel_rfl) h;refine Jg 32 [(1,.g (Op.nilQ (d:=36) (t:=35) (n:=7) (o:=0))),(6,.g (Op.lkP (d:=41) (t:=38) (m:=3) (x:=40) (p:=(zae z.way).to_) (fs:=z.x.fs) (q:=(decide ((zae z.way).to_ ∈ z.x.fs))) hI1.x.fs (zh3 hau hto) rfl))] [34] [(42,vb (!(decide ((zae z.way).to_ ∈ z.x.fs))))] [] [] h fun a w h=>cS (!(decide ((zae z.way).to_ ∈ z.x.fs))) h (fun hc4=>?_) (fun hc5=>?_)
    ·refine Jg 32 [(1,.g (Op.nilQ (d:=44) (t:=43) (n:=7) (o:=0))),(6,.g (Op.upP (t:=46) (m:=3) (x:=48) (p:=(zae z.way).to_) (fs:=z.x.fs) hI1.x.fs (zh3 hau hto) (dF (show (decide ((zae z.way).to_ ∈ z.x.fs))=false by have:=hc4;simpa using this))))] [42] [] [] [(3,.mp (mpP (z.x.fs++[(zae z.way).to_])))] h fun a w h=>Jh 32 [(4,.call (SBegin s ps au z.x.fuel z.x.out z.x.ls z.x.es (z.x.fs++[(zae z.way).to_]) z.x.sc (zas z.way) (zae z.way).to_ hs hL hp hps hpl hau hI1.x.ls hI1.x.es hto.2 hto.1 ⟨hI1.x.f0,hI1.x.f1⟩ (by rw [zil];have:=hI1.len;have:=hI1.x.f0;omega)))] [8] [(6,.t (.c (.own 14 (bgW s ps au (SS.mk z.x.fuel z.x.out z.x.ls z.x.es (z.x.fs++[(zae z.way).to_]) z.x.sc) (zas z.way) (zae z.way).to_).length))),(7,vb (bgB s ps au (SS.mk z.x.fuel z.x.out z.x.ls z.x.es (z.x.fs++[(zae z.way).to_]) z.x.sc) (zae z.way).to_))] [9,31] [(7,(bxS s ps au (tkF z.x.fuel (1+((zbr s ps au (zae z.way).to_).length:Int))) (tkO z.x.fuel z.x.out (1+((zbr s ps au (zae z.way).to_).length:Int))))),(1,.mp (mpL s ps (lsM s au z.x.ls (zae z.way).to_))),(2,.mp (mpE s (zg8 z.x.es (zae z.way).to_.st))),(14,.row 176 4 ((bgW s ps au (SS.mk z.x.fuel z.x.out z.x.ls z.x.es (z.x.fs++[(zae z.way).to_]) z.x.sc) (zas z.way) (zae z.way).to_).map WkD.d))] h fun a w h=>za0 (wp_exit (zbq (zao (za0 ?_))));have hgo:=goF_new (s:=s) (ps:=ps) (au:=au) ⟨hc1,hw0⟩ hc3 (dF (show (decide ((zae z.way).to_ ∈ z.x.fs))=false by have:=hc4;simpa using this));replace h:=zd8 14 9 h;replace h:=cvM [] [(6,.t (.c (.own 9 (nxF s ps au z).way.length))),(7,vb (nxF s ps au z).ok)] [] [(7,(bxS s ps au (nxF s ps au z).x.fuel (nxF s ps au z).x.out)),(1,.mp (mpL s ps (nxF s ps au z).x.ls)),(2,.mp (mpE s (nxF s ps au z).x.es)),(3,.mp (mpP (nxF s ps au z).x.fs)),(4,.mp (mpP (nxF s ps au z).x.sc)),(9,.row 176 4 ((nxF s ps au z).way.map WkD.d))] (by rw [(show (nxF s ps au z).x.fuel=tkF z.x.fuel (1+((zbr s ps au (zae z.way).to_).length:Int)) from bg_fuel (s:=s) (ps:=ps) (au:=au) (fu:=z.x.fuel) (ot:=z.x.out) (ls:=z.x.ls) (es:=z.x.es) (fs:=(z.x.fs++[(zae z.way).to_])) (sc:=z.x.sc) (p:=(zae z.way).to_)),(show (nxF s ps au z).x.out=tkO z.x.fuel z.x.out (1+((zbr s ps au (zae z.way).to_).length:Int)) from bg_ot (s:=s) (ps:=ps) (au:=au) (fu:=z.x.fuel) (ot:=z.x.out) (ls:=z.x.ls) (es:=z.x.es) (fs:=(z.x.fs++[(zae z.way).to_])) (sc:=z.x.sc) (p:=(zae z.way).to_)),(show (nxF s ps au z).x.ls=lsM s au z.x.ls (zae z.way).to_ from bg_ls (s:=s) (ps:=ps) (au:=au) (fu:=z.x.fuel) (ot:=z.x.out) (ls:=z.x.ls) (es:=z.x.es) (fs:=(z.x.fs++[(zae z.way).to_])) (sc:=z.x.sc) (p:=(zae z.way).to_)),(show (nxF s ps au z).x.es=zg8 z.x.es (zae z.way).to_.st from bg_es (s:=s) (ps:=ps) (au:=au) (fu:=z.x.fuel) (ot:=z.x.out) (ls:=z.x.ls) (es:=z.x.es) (fs:=(z.x.fs++[(zae z.way).to_])) (sc:=z.x.sc) (p:=(zae z.way).to_)),(show (nxF s ps au z).x.fs=(z.x.fs++[(zae z.way).to_]) from bg_fs (s:=s) (ps:=ps) (au:=au) (fu:=z.x.fuel) (ot:=z.x.out) (ls:=z.x.ls) (es:=z.x.es) (fs:=(z.x.fs++[(zae z.way).to_])) (sc:=z.x.sc) (p:=(zae z.way).to_)),(show (nxF s ps au z).x.sc=z.x.sc from bg_sc (s:=s) (ps:=ps) (au:=au) (fu:=z.x.fuel) (ot:=z.x.out) (ls:=z.x.ls) (es:=z.x.es) (fs:=(z.x.fs++[(zae z.way).to_])) (sc:=z.x.sc) (p:=(zae z.way).to_))]; try kernel_rfl) h;refine za9 (x:=(z,n)) (y:=((nxF s ps au z),m)) h ?_ ?_
     ·exact ⟨hI1.stepF hs hau hgo,iter_l hI2 hgo⟩
     show m<n;omega
    refine qU (za0 (wp_exit (zbq (zao (za0 ?_)))));have hgo:=goF_old (s:=s) (ps:=ps) (au:=au) ⟨hc1,hw0⟩ hc3 (dT (show (decide ((zae z.way).to_ ∈ z.x.fs))=true by have:=hc5;simpa using this));replace h:=cvM [] [(6,.t (.c (.own 9 (LS.mk (zas z.way) z.ok z.x).way.length))),(7,vb (LS.mk (zas z.way) z.ok z.x).ok)] [] [(7,(bxS s ps au (LS.mk (zas z.way) z.ok z.x).x.fuel (LS.mk (zas z.way) z.ok z.x).x.out)),(1,.mp (mpL s ps (LS.mk (zas z.way) z.ok z.x).x.ls)),(2,.mp (mpE s (LS.mk (zas z.way) z.ok z.x).x.es)),(3,.mp (mpP (LS.mk (zas z.way) z.ok z.x).x.fs)),(4,.mp (mpP (LS.mk (zas z.way) z.ok z.x).x.sc)),(9,.row 176 4 ((LS.mk (zas z.way) z.ok z.x).way.map WkD.d))] (by rw [show (LS.mk (zas z.way) z.ok z.x).ok=true from hc1]; try kernel_rfl) h;refine za9 (x:=(z,n)) (y:=((LS.mk (zas z.way) z.ok z.x),m)) h ?_ ?_
    ·exact ⟨hI1.stepF hs hau hgo,iter_l hI2 hgo⟩
    show m<n;omega
   refine qU (za0 (qW ?_));have hmo:zbu z.way=false:=hc6;replace h:=h.conv (f':=F.of [(0,vp 7 0),(6,.t (.c (.own 9 z.way.length))),(7,vb true),(8,vp 31 0),(34,vb (zbu z.way))] [(7,(bxS s ps au z.x.fuel z.x.out)),(1,.mp (mpL s ps z.x.ls)),(2,.mp (mpE s z.x.es)),(3,.mp (mpP z.x.fs)),(4,.mp (mpP z.x.sc)),(9,.row 176 4 (z.way.map WkD.d)),(31,.box [.d (.raw (.int .i64 mvz.act)),.d (.raw (.int .i64 mvz.to_.st)),.d (.raw (.int .i64 mvz.to_.nd))])]) (by (first | rw [if_neg (by rw [hmo];exact Bool.noConfusion),if_neg (by rw [hmo];exact Bool.noConfusion)] | rw [if_neg (by rw [hmo];exact Bool.noConfusion)]); try kernel_rfl);obtain ⟨x4,hx4⟩:=gl z.way (z.way.length - 1);have el9:zb8 z.way=x4:=by unfold zb8;rw [hx4];rfl
   have hat9:okP au x4.at_:=(hI1.way x4 (lM hx4)).aok;have hnd9:0<=x4.at_.nd:=by { have:=hat9.1;unfold okN at this;simp at this;omega }
   refine Jg 32 [(3,.g (Op.arith (op:=.sub) (d:=60) (xt:=3) (yt:=3) (k:=.i64) (m:=(z.way.length:Int)) (n:=1) (r:=((z.way.length - 1:Nat):Int)) (d8 59 _) (d7 (.int .i64 1) rfl) (.inr (.inl ⟨rfl,by omega⟩)) i6)),(4,.g (xO 61 57 9 z.way.length (z.way.length - 1) zka (d8 60 _))),(6,.g (Op.loadR_agg (d:=63) (t:=62) (n:=9) (i:=(z.way.length - 1)) (fo:=0) (rty:=176) (es:=4) (xs:=[.raw (.int .i64 x4.at_.st),.raw (.int .i64 x4.at_.nd)]) qj1_3 rfl (za4 hx4 (f:=WkD.d)) rfl rfl))] [8,34] [(10,vp 32 0)] [31] [(32,.box [.d (.raw (.int .i64 x4.at_.st)),.d (.raw (.int .i64 x4.at_.nd))])] h fun a w h=>Je 33 [(2,.call (SGood s ps au z.x.fuel z.x.out z.x.ls z.x.es z.x.fs z.x.sc x4.at_ hnd9))] [] [(66,vb (zh7 au x4.at_))] h fun a w h=>cS (zh7 au x4.at_) h (fun hc7=>?_) (fun hc8=>?_)
   ·rcases hbk:(zav s ps au z.x x4.at_).1 with _ | r8
    ·skip
     refine Jg 33 [(2,.call (SBack s ps au z.x.fuel z.x.out z.x.ls z.x.es z.x.fs z.x.sc x4.at_ none hs hL hp hps hpl hau hI1.x hat9 hbk))] [10,66] [(11,.t (.c (.d (.raw zaa))))] [32] [(7,(bxS s ps au (zav s ps au z.x x4.at_).2.fuel (zav s ps au z.x x4.at_).2.out)),(1,.mp (mpL s ps (zav s ps au z.x x4.at_).2.ls)),(2,.mp (mpE s (zav s ps au z.x x4.at_).2.es)),(3,.mp (mpP (zav s ps au z.x x4.at_).2.fs)),(4,.mp (mpP (zav s ps au z.x x4.at_).2.sc))] h fun a w h=>Je 33 [(1,.g (Op.neNilR (d:=71) (t:=70) (xt:=122) (yt:=122) zka.hu (d7 zaa rfl)))] [] [(71,vb false)] h fun a w h=>zbs h (qU (za0 (Jf 33 [(3,.g (Op.arith (op:=.sub) (d:=77) (xt:=3) (yt:=3) (k:=.i64) (m:=(z.way.length:Int)) (n:=1) (r:=((z.way.length - 1:Nat):Int)) (d8 76 _) (d7 (.int .i64 1) rfl) (.inr (.inl ⟨rfl,by omega⟩)) i6)),(4,.g (Op.sliceHi (d:=78) (t:=74) (k:=.i64) (n:=9) (len:=z.way.length) (h:=(z.way.length - 1)) (rows:=z.way.map WkD.d) (rty:=176) zka (by rw [bC];exact Nat.sub_le _ _) (d8 77 _)))] [11,71] [(6,.t (.c (.own 9 (z.way.length - 1))))] h fun a w h=>za5 (za0 ?_))));replace h:=cutS 9 (z.way.length - 1) 4 176 (z.way.map WkD.d) [(0,vp 7 0),(6,.t (.c (.own 9 (z.way.length - 1)))),(7,vb true)] [(7,(bxS s ps au (zav s ps au z.x x4.at_).2.fuel (zav s ps au z.x x4.at_).2.out)),(1,.mp (mpL s ps (zav s ps au z.x x4.at_).2.ls)),(2,.mp (mpE s (zav s ps au z.x x4.at_).2.es)),(3,.mp (mpP (zav s ps au z.x x4.at_).2.fs)),(4,.mp (mpP (zav s ps au z.x x4.at_).2.sc)),(9,.row 176 4 ((z.way.map WkD.d).take (z.way.length - 1)))] h rfl (by kernel_rfl) (by kernel_rfl);replace h:=cvM [] [(6,.t (.c (.own 9 z.way.dropLast.length)))] [] [(9,.row 176 4 (z.way.dropLast.map WkD.d))] (by rw [dQ,cM,cY]; try kernel_rfl) h;have hgo:=goF_none (s:=s) (ps:=ps) (au:=au) ⟨hc1,hw0⟩ hc6 (by rw [el9];exact hc7) (by rw [el9];exact hbk);rw [el9] at hgo;replace h:=cvM [] [(6,.t (.c (.own 9 (LS.mk z.way.dropLast z.ok (zav s ps au z.x x4.at_).2).way.length))),(7,vb (LS.mk z.way.dropLast z.ok (zav s ps au z.x x4.at_).2).ok)] [] [(7,(bxS s ps au (LS.mk z.way.dropLast z.ok (zav s ps au z.x x4.at_).2).x.fuel (LS.mk z.way.dropLast z.ok (zav s ps au z.x x4.at_).2).x.out)),(1,.mp (mpL s ps (LS.mk z.way.dropLast z.ok (zav s ps au z.x x4.at_).2).x.ls)),(2,.mp (mpE s (LS.mk z.way.dropLast z.ok (zav s ps au z.x x4.at_).2).x.es)),(3,.mp (mpP (LS.mk z.way.dropLast z.ok (zav s ps au z.x x4.at_).2).x.fs)),(4,.mp (mpP (LS.mk z.way.dropLast z.ok (zav s ps au z.x x4.at_).2).x.sc)),(9,.row 176 4 ((LS.mk z.way.dropLast z.ok (zav s ps au z.x x4.at_).2).way.map WkD.d))] (by rw [show (LS.mk z.way.dropLast z.ok (zav s ps au z.x x4.at_).2).ok=true from hc1]; try kernel_rfl) h;refine za9 (x:=(z,n)) (y:=((LS.mk z.way.dropLast z.ok (zav s ps au z.x x4.at_).2),m)) h ?_ ?_
     ·exact ⟨hI1.stepF hs hau hgo,iter_l hI2 hgo⟩
     show m<n;omega
    have hln9:0<r8.length:=((back_LI (ps:=ps) hs hau hI1.x hat9).2 r8 hbk).2.1;refine Jg 33 [(2,.call (SBack s ps au z.x.fuel z.x.out z.x.ls z.x.es z.x.fs z.x.sc x4.at_ (some r8) hs hL hp hps hpl hau hI1.x hat9 hbk))] [10,66] [(11,.t (.c (.own 19 r8.length)))] [32] [(7,(bxS s ps au (zav s ps au z.x x4.at_).2.fuel (zav s ps au z.x x4.at_).2.out)),(1,.mp (mpL s ps (zav s ps au z.x x4.at_).2.ls)),(2,.mp (mpE s (zav s ps au z.x x4.at_).2.es)),(3,.mp (mpP (zav s ps au z.x x4.at_).2.fs)),(4,.mp (mpP (zav s ps au z.x x4.at_).2.sc)),(19,.row 176 4 (r8.map WkD.d))] h fun a w h=>Je 33 [(1,.g (Op.neNilO (d:=71) (t:=70) (n:=19) (len:=r8.length) (xt:=122) (yt:=122) zka.hu hln9 (d7 zaa rfl)))] [] [(71,vb true)] h fun a w h=>cS true h (fun _=>?_) nofun
    refine Je 33 [] [11,71] [(4,.t (.c (.own 9 z.way.length))),(5,.t (.c (.own 19 r8.length)))] h fun a w h=>qV (za2 (za6 (za2 (za6 (za2 ?_)))));have eR:=iter_r hI2 (goF_some (s:=s) (ps:=ps) (au:=au) ⟨hc1,hw0⟩ hmo (by rw [el9];exact hc7) (by rw [el9];exact hbk));rw [el9] at eR;rw [eR] at hr;obtain rfl:some (z.way,r8)=o:=hr
    replace h:=zd8 9 29 h;replace h:=cvM [] [] [] [(7,(bxS s ps au (zb5 s ps au (SS.mk fu ot ls es fs sc) p).2.fuel (zb5 s ps au (SS.mk fu ot ls es fs sc) p).2.out)),(1,.mp (mpL s ps (zb5 s ps au (SS.mk fu ot ls es fs sc) p).2.ls)),(2,.mp (mpE s (zb5 s ps au (SS.mk fu ot ls es fs sc) p).2.es)),(3,.mp (mpP (zb5 s ps au (SS.mk fu ot ls es fs sc) p).2.fs)),(4,.mp (mpP (zb5 s ps au (SS.mk fu ot ls es fs sc) p).2.sc))] (by rw [eR]; try kernel_rfl) h;refine zdp [.c (.own 29 z.way.length),.c (.own 19 r8.length)] h Exit.ret (.inl rfl)  rfl ⟨vT9,vT9,trivial⟩ ?_;rfl
   refine qU (za0 (Jh 33 [(3,.g (Op.arith (op:=.sub) (d:=77) (xt:=3) (yt:=3) (k:=.i64) (m:=(z.way.length:Int)) (n:=1) (r:=((z.way.length - 1:Nat):Int)) (d8 76 _) (d7 (.int .i64 1) rfl) (.inr (.inl ⟨rfl,by omega⟩)) i6)),(4,.g (Op.sliceHi (d:=78) (t:=74) (k:=.i64) (n:=9) (len:=z.way.length) (h:=(z.way.length - 1)) (rows:=z.way.map WkD.d) (rty:=176) zka (by rw [bC];exact Nat.sub_le _ _) (d8 77 _)))] [10,66] [(6,.t (.c (.own 9 (z.way.length - 1))))] [32] [] h fun a w h=>za5 (za0 ?_)));replace h:=cutS 9 (z.way.length - 1) 4 176 (z.way.map WkD.d) [(0,vp 7 0),(6,.t (.c (.own 9 (z.way.length - 1)))),(7,vb true)] [(7,(bxS s ps au z.x.fuel z.x.out)),(1,.mp (mpL s ps z.x.ls)),(2,.mp (mpE s z.x.es)),(3,.mp (mpP z.x.fs)),(4,.mp (mpP z.x.sc)),(9,.row 176 4 ((z.way.map WkD.d).take (z.way.length - 1)))] h rfl (by kernel_rfl) (by kernel_rfl);replace h:=cvM [] [(6,.t (.c (.own 9 z.way.dropLast.length)))] [] [(9,.row 176 4 (z.way.dropLast.map WkD.d))] (by rw [dQ,cM,cY]; try kernel_rfl) h;have hgo:=goF_bad (s:=s) (ps:=ps) (au:=au) ⟨hc1,hw0⟩ hc6 (by rw [el9];exact hc8);replace h:=cvM [] [(6,.t (.c (.own 9 (LS.mk z.way.dropLast z.ok z.x).way.length))),(7,vb (LS.mk z.way.dropLast z.ok z.x).ok)] [] [(7,(bxS s ps au (LS.mk z.way.dropLast z.ok z.x).x.fuel (LS.mk z.way.dropLast z.ok z.x).x.out)),(1,.mp (mpL s ps (LS.mk z.way.dropLast z.ok z.x).x.ls)),(2,.mp (mpE s (LS.mk z.way.dropLast z.ok z.x).x.es)),(3,.mp (mpP (LS.mk z.way.dropLast z.ok z.x).x.fs)),(4,.mp (mpP (LS.mk z.way.dropLast z.ok z.x).x.sc)),(9,.row 176 4 ((LS.mk z.way.dropLast z.ok z.x).way.map WkD.d))] (by rw [show (LS.mk z.way.dropLast z.ok z.x).ok=true from hc1]; try kernel_rfl) h;refine za9 (x:=(z,n)) (y:=((LS.mk z.way.dropLast z.ok z.x),m)) h ?_ ?_
   ·exact ⟨hI1.stepF hs hau hgo,iter_l hI2 hgo⟩
   show m<n;omega
  refine exA (Jg 33 [] [0,6,7,28] [(4,.t (.c (.d (.raw zaa)))),(5,.t (.c (.d (.raw zaa))))] [9] [] h fun a w h=>qV ?_);have eR:=iter_r hI2 (goF_end (s:=s) (ps:=ps) (au:=au) (fun h8=>by have:=dF hc9;have:=h8.2;omega));have ho:=hr;rw [eR] at ho;obtain rfl:none=o:=ho
  replace h:=cvM [] [] [] [(7,(bxS s ps au (zb5 s ps au (SS.mk fu ot ls es fs sc) p).2.fuel (zb5 s ps au (SS.mk fu ot ls es fs sc) p).2.out)),(1,.mp (mpL s ps (zb5 s ps au (SS.mk fu ot ls es fs sc) p).2.ls)),(2,.mp (mpE s (zb5 s ps au (SS.mk fu ot ls es fs sc) p).2.es)),(3,.mp (mpP (zb5 s ps au (SS.mk fu ot ls es fs sc) p).2.fs)),(4,.mp (mpP (zb5 s ps au (SS.mk fu ot ls es fs sc) p).2.sc))] (by rw [eR]; try kernel_rfl) h;refine zdp [.c (.d (.raw zaa)),.c (.d (.raw zaa))] h Exit.ret (.inl rfl)  rfl ⟨vT9,vT9,trivial⟩ ?_;rfl
 rw [hc10] at h;refine Jq 33 [] [(0,vp 7 0),(6,.t (.c (.own 9 z.way.length))),(7,vb false),(28,vb false)] [(7,(bxS s ps au z.x.fuel z.x.out)),(1,.mp (mpL s ps z.x.ls)),(2,.mp (mpE s z.x.es)),(3,.mp (mpP z.x.fs)),(4,.mp (mpP z.x.sc)),(9,.row 176 4 (z.way.map WkD.d))] h fun a w h=>zbs h (exA (Jg 33 [] [0,6,7,28] [(4,.t (.c (.d (.raw zaa)))),(5,.t (.c (.d (.raw zaa))))] [9] [] h fun a w h=>qV ?_));have eR:=iter_r hI2 (goF_end (s:=s) (ps:=ps) (au:=au) (fun h8=>by have:=h8.1;rw [hc10] at this;cases this));have ho:=hr;rw [eR] at ho;obtain rfl:none=o:=ho
 replace h:=cvM [] [] [] [(7,(bxS s ps au (zb5 s ps au (SS.mk fu ot ls es fs sc) p).2.fuel (zb5 s ps au (SS.mk fu ot ls es fs sc) p).2.out)),(1,.mp (mpL s ps (zb5 s ps au (SS.mk fu ot ls es fs sc) p).2.ls)),(2,.mp (mpE s (zb5 s ps au (SS.mk fu ot ls es fs sc) p).2.es)),(3,.mp (mpP (zb5 s ps au (SS.mk fu ot ls es fs sc) p).2.fs)),(4,.mp (mpP (zb5 s ps au (SS.mk fu ot ls es fs sc) p).2.sc))] (by rw [eR]; try kernel_rfl) h;refine zdp [.c (.d (.raw zaa)),.c (.d (.raw zaa))] h Exit.ret (.inl rfl)  rfl ⟨vT9,vT9,trivial⟩ ?_;rfl
def DI (z:LS):Prop:=∀ w ∈ z.way.dropLast,1<=w.done
section
variable {s:zab} {ps:List zal} {au:zay}
theorem nextW_done (h0:0<way.length) (h:∀ w ∈ way.dropLast,1<=w.done):(∀ w ∈ zas way,1<=w.done):=fun w hw=>by
 rw [zi4 h0] at hw
 rcases bP.1 hw with hw | hw
 ·exact h w hw
 ·rw [bK.1 hw];show 1<=(zb8 way).done+1;omega
theorem zl5 {x:SS} (h:∀ w ∈ way,1<=w.done) (ok:Bool) (y:SS):DI ⟨bgW s ps au x way p,ok,y⟩:=by
 show ∀ w ∈ (bgW s ps au x way p).dropLast,1<=w.done
 unfold bgW
 split
 ·rw [List.dropLast_concat];exact h
 ·exact fun w hw=>h w (bZ _ hw)
theorem DI.drop (h:DI z) (ok:Bool) (y:SS):DI ⟨z.way.dropLast,ok,y⟩:=fun w hw=>h w (bZ _ hw)
theorem DI.sub (h:∀ w ∈ way,1<=w.done) (ok:Bool) (y:SS):DI ⟨way,ok,y⟩:=fun w hw=>h w (bZ _ hw)
def dJ {β:Type} (J:β->Prop):LS ⊕ β->Prop
  | .inl y=>DI y
  | .inr r=>J r
def kB (r:Option (List WkD) × SS):Prop:=∀ w,r.1=some w->∀ v ∈ w,1<=v.done
def kF (r:Option (List WkD × List WkD) × SS):Prop:=∀ w,r.1=some w->(∀ v ∈ w.1.dropLast,1<=v.done)/\∀ v ∈ w.2,1<=v.done
theorem goB_done (hz:DI z):dJ kB (goB s ps au goal z):=by
 unfold goB
 split
 ·rename_i hc
  have hn:=nextW_done hc.2 hz
  split
  ·split
   ·exact (show kB (some (zas z.way),z.x) from fun w hw=>by cases hw;exact hn)
   ·split
    ·exact DI.sub hn _ _
    ·exact zl5 hn _ _
  ·exact hz.drop _ _
 ·exact (show kB (none,z.x) from fun w hw=>by cases hw)
theorem back_done {x:SS} (hf:0<=x.fuel) (goal:PrD):kB (zav s ps au x goal):=by
 cases ho:x.out with
 | true=>rw [zl6 ho];intro w hw;cases hw
 | false =>
  refine zgk DI kB (fun z hz=>?_) _ _ (zl5 (way:=[]) (fun w hw=>by cases hw) _ _) _ (ziy hf ho goal)
  have h:=goB_done (s:=s) (ps:=ps) (au:=au) (goal:=goal) hz
  revert h;cases goB s ps au goal z <;> exact id
theorem goF_done (hw:WayI z) (hz:DI z):dJ kF (goF s ps au z):=by
 unfold goF
 split
 ·rename_i hc
  have hn:=nextW_done hc.2 hz
  split
  ·split
   ·exact DI.sub hn _ _
   ·exact zl5 hn _ _
  ·split
   ·have hb:=back_done (s:=s) (ps:=ps) (au:=au) hw.fuel (zb8 z.way).at_
    split
    ·rename_i r y e
     rw [e] at hb
     exact (show kF (some (z.way,r),y) from fun w hw2=>by cases hw2;exact ⟨hz,hb r rfl⟩)
    ·exact hz.drop _ _
   ·exact hz.drop _ _
 ·exact (show kF (none,z.x) from fun w hw=>by cases hw)
theorem from_done {x:SS} (hf:0<=x.fuel) (p:PrD):kF (zb5 s ps au x p):=by
 refine zgk (fun z=>WayI z/\DI z) kF (fun z hz=>?_) _ _ ⟨stB_ok (x:={ x with fs:=x.fs++[p] }) hf p,zl5 (way:=[]) (fun w hw=>by cases hw) _ _⟩ _ (frm_run hf p)
 have h:=goF_done (s:=s) (ps:=ps) (au:=au) hz.1 hz.2
 cases e:goF s ps au z with
 | inl y=>rw [e] at h;exact ⟨(goF_mu hz.1 e).1,h⟩
 | inr r=>rw [e] at h;exact h
end
theorem qk1_7:zbg d6 101:=zbg.mk' (by kernel_rfl)
theorem qk1_8:Sz d6 67 3 true:=Sz.mk' (by kernel_rfl) Tryz.underlying67 _ rfl
theorem SPut0 (s:zab) (ps:List zal) (au:zay) (fu:Int) (ot:Bool) (ls es:List Int) (fs sc:List PrD) (way:List WkD) {L:Nat} (hs:zaw L s) (hL:L<=1000) (hp:zbp s) (hwy:∀ w ∈ way,WkOk au w/\1<=w.done) (hwn:way.length<=1073741824) :Fn d6 101 [(7,(bxS s ps au fu ot)),(1,.mp (mpL s ps ls)),(2,.mp (mpE s es)),(3,.mp (mpP fs)),(4,.mp (mpP sc))] [vp 7 0,vS 4 (way.map WkD.d),vW zaa,vW zaa] (.tup [.c (.own 16 (way.map (zdr s)).length),.c (.own 14 (way.map zbd).length)]) [(7,(bxS s ps au fu ot)),(1,.mp (mpL s ps ls)),(2,.mp (mpE s es)),(3,.mp (mpP fs)),(4,.mp (mpP sc)),(16,.row 47 2 ((way.map (zdr s)).map eA)),(14,.row 3 1 ((way.map zbd).map za8))]:=by
 refine fB Tryz.func101 rfl 49 fun w H B a h=>Jq 30 [] [(0,vp 7 0),(1,vS 4 (way.map WkD.d)),(2,vW zaa),(3,vW zaa),(8,vW zaa),(9,vW zaa)] [(7,(bxS s ps au fu ot)),(1,.mp (mpL s ps ls)),(2,.mp (mpE s es)),(3,.mp (mpP fs)),(4,.mp (mpP sc))] h fun a w h=>qW (Je 30 [(1,.len (za1 4 WkD.d way))] [1] [(14,vS 4 (way.map WkD.d)),(15,vN way.length),(16,vI 0)] h fun a w h=>qZ ?_)
 replace h:=zg1 2 0 30 2 47 (vW zaa) h;replace h:=zg1 3 0 31 1 3 (vW zaa) h;replace h:=zd8 31 25 h;replace h:=zd8 30 26 h;replace h:=cvM [] [(2,vO 26 ((way.take 0).map (zdr s)).length),(3,vO 25 ((way.take 0).map zbd).length)] [] [(25,.row 3 1 (((way.take 0).map zbd).map za8)),(26,.row 47 2 (((way.take 0).map (zdr s)).map eA))] (by kernel_rfl) h
 refine zcc (ι:=(Nat)) (fun j=>j<=way.length)
   [] (fun j=>[(2,vO 26 ((way.take j).map (zdr s)).length),(3,vO 25 ((way.take j).map zbd).length),(16,vN j)])
   [] (fun j=>[(25,.row 3 1 (((way.take j).map zbd).map za8)),(26,.row 47 2 (((way.take j).map (zdr s)).map eA))])
   (fun j=>way.length - j) 0 ?_ h ?_
 ·exact bE _
 clear h;rintro j a w hI h;have ltk:(way.take j).length<=way.length:=by { rw [bU];omega }
 have lst:((way.take j).map (zdr s)).length<=1073741824:=by { rw [bC];omega }
 have lac:((way.take j).map zbd).length<=3000000000:=by { rw [bC];omega }
 refine Je 32 [] [] [(17,vb (decide ((j:Int)<(way.length:Int))))] h fun a w h=>qW (zag ((j:Int)<(way.length:Int)) h (fun hc1 hc1'=>?_) (fun hc2 hc2'=>?_))
 ·refine qU (za0 (qW (qZ ?_)));obtain ⟨x1,hx1⟩:=gl way j;have hk9:=hwy x1 (lM hx1);have hd9:=hk9.1.done;have hd8:=hk9.2;have hl9:=hk9.1.len;refine Jg 32 [(0,.g (xD 18 14 zka (za4 hx1 (f:=WkD.d)) (d8 16 _)))] [17] [(11,vp 32 0)] [] [(32,.box [cI x1.at_.st,cI x1.at_.nd,.d (.sl 3 (x1.moves.map MvD.d)),cI ((x1.done:Nat):Int)])] h fun a w h=>Jg 33 [(1,.g (Op.nilQ (d:=22) (t:=21) (n:=7) (o:=0))),(7,.call (OState s x1.at_.st hs hL hp))] [] [(12,vp 33 0)] [] [(33,.box [cIs (zdb s x1.at_.st).1.locs,cZs (zdb s x1.at_.st).1.vals])] h fun a w h=>Jg 34 [(2,.g (bD 33 ([(zdb s x1.at_.st).1].map eA) [(32,vG [cIs (zdb s x1.at_.st).1.locs,cZs (zdb s x1.at_.st).1.vals])] of1_0 (.cons (i:=0) (d8 32 _) (.nil)) (by kernel_rfl) (by simp [eA]))),(3,.g (Op.appOD (d:=34) (t:=31) (u:=33) (n:=26) (n':=34) (len:=((way.take j).map (zdr s)).length) (len':=(((way.take j).map (zdr s))++[(zdb s x1.at_.st).1]).length) (rows:=((way.take j).map (zdr s)).map eA) (rows2:=[(zdb s x1.at_.st).1].map eA) (rows':=(((way.take j).map (zdr s))++[(zdb s x1.at_.st).1]).map eA) kn_1 (by first | exact (bC _).symm | simp) (by first | (rw [bH,bC];done) | (simp;done) | (simp;omega)) (by simp) (by simp [eA]) (by first | omega | (simp at *;done) | (simp at *;omega))))] [12] [(2,vO 34 (((way.take j).map (zdr s))++[(zdb s x1.at_.st).1]).length)] [26,33] [(34,.row 47 2 ((((way.take j).map (zdr s))++[(zdb s x1.at_.st).1]).map eA))] h fun a w h=>?_;obtain ⟨x3,hx3⟩:=gl x1.moves (x1.done - 1);refine Jh 35 [(5,.g (Op.arith (op:=.sub) (d:=40) (xt:=3) (yt:=3) (k:=.i64) (m:=((x1.done:Nat):Int)) (n:=1) (r:=((x1.done - 1:Nat):Int)) (d8 39 _) (d7 (.int .i64 1) rfl) (.inr (.inl ⟨rfl,by omega⟩)) i6)),(6,.g (xD 41 37 qc1_8 (za4 hx3 (f:=MvD.d)) (d8 40 _))),(9,.g (bD 44 ([x3.act].map za8) [(43,vI x3.act)] tb_0 (.cons (i:=0) (d8 43 _) (.nil)) (by kernel_rfl) (by simp [za8]))),(10,.g (Op.appOD (d:=45) (t:=35) (u:=44) (n:=25) (n':=35) (len:=((way.take j).map zbd).length) (len':=(((way.take j).map zbd)++[x3.act]).length) (rows:=((way.take j).map zbd).map za8) (rows2:=[x3.act].map za8) (rows':=(((way.take j).map zbd)++[x3.act]).map za8) tb_2 (by first | exact (bC _).symm | simp) (by first | (rw [bH,bC];done) | (simp;done) | (simp;omega)) (by simp) (by simp [za8]) (by first | omega | (simp at *;done) | (simp at *;omega))))] [11] [(3,vO 35 (((way.take j).map zbd)++[x3.act]).length)] [25,32] [(35,.row 3 1 ((((way.take j).map zbd)++[x3.act]).map za8))] h fun a w h=>za5 (za0 (Jf 36 [(0,.j1 j)] [] [(16,vI ((j:Int)+1))] h fun a w h=>za0 ?_));replace h:=zd8 34 26 h;replace h:=zd8 35 25 h;have hac:zbd x1=x3.act:=by unfold zbd;rw [hx3];rfl
  have hsn:((way.take (j+1)).map (zdr s))=((way.take j).map (zdr s))++[(zdb s x1.at_.st).1]:=by rw [bJ,hx1,bX];rfl
  have han:((way.take (j+1)).map zbd)=((way.take j).map zbd)++[x3.act]:=by rw [bJ,hx1,bX,<- hac];rfl
  replace h:=cvM [] [(2,vO 26 ((way.take (j+1)).map (zdr s)).length),(3,vO 25 ((way.take (j+1)).map zbd).length)] [] [(26,.row 47 2 (((way.take (j+1)).map (zdr s)).map eA)),(25,.row 3 1 (((way.take (j+1)).map zbd).map za8))] (by rw [hsn,han]; try kernel_rfl) h;refine za9 (x:=j) (y:=j+1) h ?_ ?_
  ·have:=zac hx1;show j+1<=way.length;omega
  show way.length - (j+1)<way.length - j;have:=zac hx1;omega
 refine exA (Jp 36 [] [(8,vO 26 ((way.take j).map (zdr s)).length),(9,vO 25 ((way.take j).map zbd).length)] h fun a w h=>qV ?_);replace h:=zd8 25 14 h;replace h:=zd8 26 16 h;replace h:=cvM [] [(8,vO 16 (way.map (zdr s)).length),(9,vO 14 (way.map zbd).length)] [] [(14,.row 3 1 ((way.map zbd).map za8)),(16,.row 47 2 ((way.map (zdr s)).map eA))] (by rw [show way.take j=way from b7 (by have:=dF hc2;omega)]; try kernel_rfl) h;refine zdp [.c (.own 16 (way.map (zdr s)).length),.c (.own 14 (way.map zbd).length)] h Exit.ret (.inl rfl)  rfl ⟨vT9,vT9,trivial⟩ ?_;rfl
theorem SPut1 (s:zab) (ps:List zal) (au:zay) (fu:Int) (ot:Bool) (ls es:List Int) (fs sc:List PrD) (way:List WkD) (acts:List Int) {L:Nat} (hs:zaw L s) (hL:L<=1000) (hp:zbp s) (hwy:∀ w ∈ way,WkOk au w/\1<=w.done) (hwn:way.length<=1073741824) (hal:acts.length<=1073741824):Fn d6 101 [(7,(bxS s ps au fu ot)),(1,.mp (mpL s ps ls)),(2,.mp (mpE s es)),(3,.mp (mpP fs)),(4,.mp (mpP sc)),(14,.row 3 1 (acts.map za8))] [vp 7 0,vS 4 (way.map WkD.d),vW zaa,vO 14 acts.length] (.tup [.c (.own 17 (way.map (zdr s)).length),.c (.own 15 (acts++way.map zbd).length)]) [(7,(bxS s ps au fu ot)),(1,.mp (mpL s ps ls)),(2,.mp (mpE s es)),(3,.mp (mpP fs)),(4,.mp (mpP sc)),(17,.row 47 2 ((way.map (zdr s)).map eA)),(15,.row 3 1 ((acts++way.map zbd).map za8))]:=by
 refine fB Tryz.func101 rfl 49 fun w H B a h=>Jq 30 [] [(0,vp 7 0),(1,vS 4 (way.map WkD.d)),(2,vW zaa),(3,vO 14 acts.length),(8,vW zaa),(9,vW zaa)] [(7,(bxS s ps au fu ot)),(1,.mp (mpL s ps ls)),(2,.mp (mpE s es)),(3,.mp (mpP fs)),(4,.mp (mpP sc)),(14,.row 3 1 (acts.map za8))] h fun a w h=>qW (Je 30 [(1,.len (za1 4 WkD.d way))] [1] [(14,vS 4 (way.map WkD.d)),(15,vN way.length),(16,vI 0)] h fun a w h=>qZ ?_)
 replace h:=zg1 2 0 30 2 47 (vW zaa) h;replace h:=zd8 14 25 h;replace h:=zd8 30 26 h;replace h:=h.conv (f':=F.of [(0,vp 7 0),(2,vO 26 ((way.take 0).map (zdr s)).length),(3,vO 25 (acts++(way.take 0).map zbd).length),(8,vW zaa),(9,vW zaa),(14,vS 4 (way.map WkD.d)),(15,vN way.length),(16,vI 0)] [(7,(bxS s ps au fu ot)),(1,.mp (mpL s ps ls)),(2,.mp (mpE s es)),(3,.mp (mpP fs)),(4,.mp (mpP sc)),(25,.row 3 1 ((acts++(way.take 0).map zbd).map za8)),(26,.row 47 2 (((way.take 0).map (zdr s)).map eA))]) (by simp only [cT,List.map_nil,cR,cL]; try kernel_rfl)
 refine zcc (ι:=(Nat)) (fun j=>j<=way.length)
   [] (fun j=>[(2,vO 26 ((way.take j).map (zdr s)).length),(3,vO 25 (acts++(way.take j).map zbd).length),(16,vN j)])
   [] (fun j=>[(25,.row 3 1 ((acts++(way.take j).map zbd).map za8)),(26,.row 47 2 (((way.take j).map (zdr s)).map eA))])
   (fun j=>way.length - j) 0 ?_ h ?_
 ·exact bE _
 clear h;rintro j a w hI h;have ltk:(way.take j).length<=way.length:=by { rw [bU];omega }
 have lst:((way.take j).map (zdr s)).length<=1073741824:=by { rw [bC];omega }
 have lac:(acts++(way.take j).map zbd).length<=3000000000:=by { rw [bH];rw [bC];omega }
 refine Je 31 [] [] [(17,vb (decide ((j:Int)<(way.length:Int))))] h fun a w h=>qW (zag ((j:Int)<(way.length:Int)) h (fun hc1 hc1'=>?_) (fun hc2 hc2'=>?_))
 ·refine qU (za0 (qW (qZ ?_)));obtain ⟨x1,hx1⟩:=gl way j;have hk9:=hwy x1 (lM hx1);have hd9:=hk9.1.done;have hd8:=hk9.2;have hl9:=hk9.1.len;refine Jg 31 [(0,.g (xD 18 14 zka (za4 hx1 (f:=WkD.d)) (d8 16 _)))] [17] [(11,vp 31 0)] [] [(31,.box [cI x1.at_.st,cI x1.at_.nd,.d (.sl 3 (x1.moves.map MvD.d)),cI ((x1.done:Nat):Int)])] h fun a w h=>Jg 32 [(1,.g (Op.nilQ (d:=22) (t:=21) (n:=7) (o:=0))),(7,.call (OState s x1.at_.st hs hL hp))] [] [(12,vp 32 0)] [] [(32,.box [cIs (zdb s x1.at_.st).1.locs,cZs (zdb s x1.at_.st).1.vals])] h fun a w h=>Jg 33 [(2,.g (bD 33 ([(zdb s x1.at_.st).1].map eA) [(32,vG [cIs (zdb s x1.at_.st).1.locs,cZs (zdb s x1.at_.st).1.vals])] of1_0 (.cons (i:=0) (d8 32 _) (.nil)) (by kernel_rfl) (by simp [eA]))),(3,.g (Op.appOD (d:=34) (t:=31) (u:=33) (n:=26) (n':=33) (len:=((way.take j).map (zdr s)).length) (len':=(((way.take j).map (zdr s))++[(zdb s x1.at_.st).1]).length) (rows:=((way.take j).map (zdr s)).map eA) (rows2:=[(zdb s x1.at_.st).1].map eA) (rows':=(((way.take j).map (zdr s))++[(zdb s x1.at_.st).1]).map eA) kn_1 (by first | exact (bC _).symm | simp) (by first | (rw [bH,bC];done) | (simp;done) | (simp;omega)) (by simp) (by simp [eA]) (by first | omega | (simp at *;done) | (simp at *;omega))))] [12] [(2,vO 33 (((way.take j).map (zdr s))++[(zdb s x1.at_.st).1]).length)] [26,32] [(33,.row 47 2 ((((way.take j).map (zdr s))++[(zdb s x1.at_.st).1]).map eA))] h fun a w h=>?_;obtain ⟨x3,hx3⟩:=gl x1.moves (x1.done - 1);refine Jh 34 [(5,.g (Op.arith (op:=.sub) (d:=40) (xt:=3) (yt:=3) (k:=.i64) (m:=((x1.done:Nat):Int)) (n:=1) (r:=((x1.done - 1:Nat):Int)) (d8 39 _) (d7 (.int .i64 1) rfl) (.inr (.inl ⟨rfl,by omega⟩)) i6)),(6,.g (xD 41 37 qc1_8 (za4 hx3 (f:=MvD.d)) (d8 40 _))),(9,.g (bD 44 ([x3.act].map za8) [(43,vI x3.act)] tb_0 (.cons (i:=0) (d8 43 _) (.nil)) (by kernel_rfl) (by simp [za8]))),(10,.g (Op.appOD (d:=45) (t:=35) (u:=44) (n:=25) (n':=34) (len:=(acts++(way.take j).map zbd).length) (len':=((acts++(way.take j).map zbd)++[x3.act]).length) (rows:=(acts++(way.take j).map zbd).map za8) (rows2:=[x3.act].map za8) (rows':=((acts++(way.take j).map zbd)++[x3.act]).map za8) tb_2 (by first | exact (bC _).symm | simp) (by first | (rw [bH,bC];done) | (simp;done) | (simp;omega)) (by simp) (by simp [za8]) (by first | omega | (simp at *;done) | (simp at *;omega))))] [11] [(3,vO 34 ((acts++(way.take j).map zbd)++[x3.act]).length)] [25,31] [(34,.row 3 1 (((acts++(way.take j).map zbd)++[x3.act]).map za8))] h fun a w h=>za5 (za0 (Jf 35 [(0,.j1 j)] [] [(16,vI ((j:Int)+1))] h fun a w h=>za0 ?_));replace h:=zd8 33 26 h;replace h:=zd8 34 25 h;have hac:zbd x1=x3.act:=by unfold zbd;rw [hx3];rfl
  have hsn:((way.take (j+1)).map (zdr s))=((way.take j).map (zdr s))++[(zdb s x1.at_.st).1]:=by rw [bJ,hx1,bX];rfl
  have han:(acts++(way.take (j+1)).map zbd)=(acts++(way.take j).map zbd)++[x3.act]:=by rw [bJ,hx1,bX,<- dB,<- hac];rfl
  replace h:=cvM [] [(2,vO 26 ((way.take (j+1)).map (zdr s)).length),(3,vO 25 (acts++(way.take (j+1)).map zbd).length)] [] [(26,.row 47 2 (((way.take (j+1)).map (zdr s)).map eA)),(25,.row 3 1 ((acts++(way.take (j+1)).map zbd).map za8))] (by rw [hsn,han]; try kernel_rfl) h;refine za9 (x:=j) (y:=j+1) h ?_ ?_
  ·have:=zac hx1;show j+1<=way.length;omega
  show way.length - (j+1)<way.length - j;have:=zac hx1;omega
 refine exA (Jp 35 [] [(8,vO 26 ((way.take j).map (zdr s)).length),(9,vO 25 (acts++(way.take j).map zbd).length)] h fun a w h=>qV ?_);replace h:=zd8 25 15 h;replace h:=zd8 26 17 h;replace h:=cvM [] [(8,vO 17 (way.map (zdr s)).length),(9,vO 15 (acts++way.map zbd).length)] [] [(15,.row 3 1 ((acts++way.map zbd).map za8)),(17,.row 47 2 ((way.map (zdr s)).map eA))] (by rw [show way.take j=way from b7 (by have:=dF hc2;omega)]; try kernel_rfl) h;refine zdp [.c (.own 17 (way.map (zdr s)).length),.c (.own 15 (acts++way.map zbd).length)] h Exit.ret (.inl rfl)  rfl ⟨vT9,vT9,trivial⟩ ?_;rfl
theorem SRunX (s:zab) (ps:List zal) (au:zay) (fu:Int) (ot:Bool) (ls es:List Int) (fs sc:List PrD) (st cy:List WkD) {L:Nat} (hs:zaw L s) (hL:L<=1000) (hp:zbp s) (hst:∀ w ∈ st,WkOk au w) (hsd:∀ w ∈ st.dropLast,1<=w.done) (hs0:0<st.length) (hsl:st.length<=1073741824) (hcy:∀ w ∈ cy,WkOk au w) (hcd:∀ w ∈ cy,1<=w.done) (hcl:cy.length<=1073741824):Fn d6 52 [(7,(bxS s ps au fu ot)),(1,.mp (mpL s ps ls)),(2,.mp (mpE s es)),(3,.mp (mpP fs)),(4,.mp (mpP sc))] [vp 7 0,vS 4 (st.map WkD.d),vS 4 (cy.map WkD.d)] (vG [.d (.sl 2 ((runT s st cy).stem.map eA)),.d (.sl 2 ((runT s st cy).cycle.map eA)),cIs (runT s st cy).acts]) [(7,(bxS s ps au fu ot)),(1,.mp (mpL s ps ls)),(2,.mp (mpE s es)),(3,.mp (mpP fs)),(4,.mp (mpP sc))]:=by
 refine fB Tryz.func52 rfl 31 fun w H B a h=>Jq 30 [] [(0,vp 7 0),(1,vS 4 (st.map WkD.d)),(2,vS 4 (cy.map WkD.d)),(6,vp 30 0)] [(7,(bxS s ps au fu ot)),(1,.mp (mpL s ps ls)),(2,.mp (mpE s es)),(3,.mp (mpP fs)),(4,.mp (mpP sc)),(30,.box [nCl,nCl,nCl])] h fun a w h=>Jg 31 [] [] [(7,vp 31 0)] [] [(31,.box [nCl,nCl,nCl])] h fun a w h=>Jg 32 [(3,.len (za1 4 WkD.d st)),(4,.g (Op.arith (op:=.sub) (d:=13) (xt:=3) (yt:=3) (k:=.i64) (m:=(st.length:Int)) (n:=1) (r:=((st.length - 1:Nat):Int)) (d8 12 _) (d7 (.int .i64 1) rfl) (.inr (.inl ⟨rfl,by omega⟩)) i6)),(5,.g (Op.sliceD (d:=14) (t:=10) (l:=0) (h:=(st.length - 1)) (rows:=st.map WkD.d) (rows':=(st.take (st.length - 1)).map WkD.d) zka (BO.no _) (BO.yes (k:=.i64) (i:=(st.length - 1)) _ (d8 13 _)) (by first | omega | (simp at *;omega)) (by first | omega | (simp only [bC];omega) | (simp at *;omega)) (by simp [cY]))),(6,.g (Op.callI (d:=15) (SPut0 s ps au fu ot ls es fs sc (st.take (st.length - 1)) hs hL hp (fun w hw=>⟨hst w (List.mem_of_mem_take hw),hsd w (by rw [cM];exact hw)⟩) (by rw [bU];omega)) qk1_7 [7,1,2,3,4] (tys:=#[113,122,42,44]) (d9 (d8 9 _) (d9 (d8 14 _) (d9 (d7 zaa rfl) (d9 (d7 zaa rfl) (OVs.nil))))) rfl))] [1] [] [] [(31,.box [.own 16 ((st.take (st.length - 1)).map (zdr s)).length,nCl,.own 14 ((st.take (st.length - 1)).map zbd).length]),(16,.row 47 2 (((st.take (st.length - 1)).map (zdr s)).map eA)),(14,.row 3 1 (((st.take (st.length - 1)).map zbd).map za8))] h fun a w h=>Jg 32 [(4,.g (Op.callI (d:=25) (SPut1 s ps au fu ot ls es fs sc cy ((st.take (st.length - 1)).map zbd) hs hL hp (fun w hw=>⟨hcy w hw,hcd w hw⟩) (by omega) (by rw [bC,bU];omega)) qk1_7 [7,1,2,3,4] (tys:=#[113,122,42,44]) (d9 (d8 21 _) (d9 (d8 22 _) (d9 (d7 zaa rfl) (d9 (d8 24 _) (OVs.nil))))) rfl))] [0,2] [] [14] [(31,.box ([.own 16 ((st.take (st.length - 1)).map (zdr s)).length,.own 17 (cy.map (zdr s)).length,.own 15 (((st.take (st.length - 1)).map zbd)++cy.map zbd).length])),(17,.row 47 2 ((cy.map (zdr s)).map eA)),(15,.row 3 1 ((((st.take (st.length - 1)).map zbd)++cy.map zbd).map za8))] h fun a w h=>Jg 32 [] [7] [] [31] [(30,.box ([.own 16 ((st.take (st.length - 1)).map (zdr s)).length,.own 17 (cy.map (zdr s)).length,.own 15 (((st.take (st.length - 1)).map zbd)++cy.map zbd).length]))] h fun a w h=>qV ?_
 replace h:=pubKX 16 2 47 (((st.take (st.length - 1)).map (zdr s)).map eA) h [((st.take (st.length - 1)).map (zdr s)).length] ⟨by first | exact (bC _).symm | (simp;done) | (simp;omega),trivial⟩;replace h:=pubKX 17 2 47 ((cy.map (zdr s)).map eA) h [(cy.map (zdr s)).length] ⟨by first | exact (bC _).symm | (simp;done) | (simp;omega),trivial⟩;replace h:=pubKX 15 1 3 ((((st.take (st.length - 1)).map zbd)++cy.map zbd).map za8) h [(((st.take (st.length - 1)).map zbd)++cy.map zbd).length] ⟨by first | exact (bC _).symm | (simp;done) | (simp;omega),trivial⟩;refine rA 30 ([.d (.sl 2 (((st.take (st.length - 1)).map (zdr s)).map eA)),.d (.sl 2 ((cy.map (zdr s)).map eA)),cIs (((st.take (st.length - 1)).map zbd)++cy.map zbd)]) h qk1_8 rfl ?_;unfold runT;rw [cM];rfl
theorem zf3 {xs:List α} {x:α} (h:xs[i]?=some x):xs.drop i=x :: xs.drop (i+1):=by
 obtain ⟨hi,rfl⟩:=dO.1 h
 exact List.drop_eq_getElem_cons hi
theorem fst_ok {s:zab} {L:Nat} (hs:zaw L s) (hp:zbp s) (h:(zg4 s)[i]?=some x):zdh (L+3) x:=by
 obtain ⟨j,hj⟩:=c7 (cG.1 (bV h)).1
 exact all_ok hs hp hj
theorem fst_len (s:zab):(zg4 s).length<=1048576:=by
 have h1:(zg4 s).length<=(zkd s).length:=List.length_filter_le _ _
 rw [all_len] at h1
 have h2:(zb3 s).1<=1048576:=by
  unfold zb3 prdB
  split
  ·split
   ·decide
   ·split
    ·assumption
    ·decide
  ·decide
 unfold cN at h1
 omega
section
variable {s:zab} {ps:List zal} {au:zay} {x y:SS} {n k:Int} {ks:List Int} {st cy:List WkD} {f:StD} {fs:List StD} {r:AnsD} {fuel:Int}
theorem goK_skip (h:(⟨n,k⟩:PrD) ∈ x.fs):goK s ps au n x (k :: ks)=goK s ps au n x ks:=by rw [goK,if_pos h]
theorem goK_hit (h:(⟨n,k⟩:PrD) ∉ x.fs) (hf:(zb5 s ps au x ⟨n,k⟩).1=some (st,cy)):goK s ps au n x (k :: ks) = .inl ⟨1,runT s st cy,(zb5 s ps au x ⟨n,k⟩).2.fuel⟩:=by
 rw [goK,if_neg h]
 cases e:zb5 s ps au x ⟨n,k⟩ with
 | mk q y=>rw [e] at hf;cases hf;rfl
theorem goK_dry (h:(⟨n,k⟩:PrD) ∉ x.fs) (hf:(zb5 s ps au x ⟨n,k⟩).1=none) (ho:(zb5 s ps au x ⟨n,k⟩).2.out=true):goK s ps au n x (k :: ks) = .inl ⟨3,run0,0⟩:=by
 rw [goK,if_neg h]
 cases e:zb5 s ps au x ⟨n,k⟩ with
 | mk q y=>rw [e] at hf ho;cases hf;exact if_pos ho
theorem goK_on (h:(⟨n,k⟩:PrD) ∉ x.fs) (hf:(zb5 s ps au x ⟨n,k⟩).1=none) (ho:(zb5 s ps au x ⟨n,k⟩).2.out=false):goK s ps au n x (k :: ks)=goK s ps au n (zb5 s ps au x ⟨n,k⟩).2 ks:=by
 rw [goK,if_neg h]
 cases e:zb5 s ps au x ⟨n,k⟩ with
 | mk q y=>rw [e] at hf ho;cases hf;exact if_neg (by rw [ho];exact Bool.noConfusion)
def inX (s:zab) (ps:List zal) (au:zay) (x:SS) (f:StD):AnsD ⊕ SS:=goK s ps au (nmT s f).1 { x with ls:=lsF au x.ls (nmT s f).1 au.first } (zbl au (zbc s ps (nmT s f).1) au.first)
theorem goX_inl (h:inX s ps au x f = .inl r):goX s ps au x (f :: fs) = .inl r:=by
 have h:goK s ps au (nmT s f).1 { x with ls:=lsF au x.ls (nmT s f).1 au.first } (zbl au (zbc s ps (nmT s f).1) au.first) = .inl r:=h
 rw [goX,h]
theorem goX_inr (h:inX s ps au x f = .inr y):goX s ps au x (f :: fs)=goX s ps au y fs:=by
 have h:goK s ps au (nmT s f).1 { x with ls:=lsF au x.ls (nmT s f).1 au.first } (zbl au (zbc s ps (nmT s f).1) au.first) = .inr y:=h
 rw [goX,h]
def X0 (fuel:Int):SS:=⟨zes fuel,false,[],[],[],[]⟩
theorem sea_no (h:(zb3 s).2=false):zey s ps au fuel=⟨3,run0,zes fuel⟩:=by unfold zey;rw [if_neg (by rw [h];exact Bool.noConfusion)]
theorem sea_inl (h:(zb3 s).2=true) (hx:goX s ps au (X0 fuel) (zg4 s) = .inl r):zey s ps au fuel=r:=by
 have hx:goX s ps au ⟨zes fuel,false,[],[],[],[]⟩ (zg4 s) = .inl r:=hx
 unfold zey;rw [if_pos h,hx]
theorem sea_inr (h:(zb3 s).2=true) (hx:goX s ps au (X0 fuel) (zg4 s) = .inr y):zey s ps au fuel=⟨2,run0,y.fuel⟩:=by
 have hx:goX s ps au ⟨zes fuel,false,[],[],[],[]⟩ (zg4 s) = .inr y:=hx
 unfold zey;rw [if_pos h,hx]
theorem X0_ok (fuel:Int):XI (X0 fuel):=by
 refine ⟨?_,?_,fun n hn=>(by cases hn),fun n hn=>(by cases hn),fun n hn=>(by cases hn),fun n hn=>(by cases hn)⟩
 ·show 0<=zes fuel;unfold zes;omega
 ·show zes fuel<=_;unfold zes;omega
end
end S
end Go.Proofs.YtdnhcneallkljaaGreat
