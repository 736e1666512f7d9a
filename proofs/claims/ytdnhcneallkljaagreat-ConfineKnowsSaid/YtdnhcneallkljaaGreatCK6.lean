/-
  Part 6 of the proof of the statement ConfineKnows. It holds for every input.
-/
import Derived.Test.YtdnhcneallkljaaGreatCK5
import Derived.Test.YtdnhcneallkljaaGreatCK4
set_option maxRecDepth 100000
set_option maxHeartbeats 20000000
open Go.RowKit
open List renaming length_map->bC,lookup_cons->bE,mem_singleton->bF,mem_append->bG,range->bI,range_succ->bK,length_append->bL,all_eq_true->bM,mem_append_left->bP,mem_of_getElem?->bR,mem_flatMap->bU,getElem?_eq_some_iff->bV,map_append->bW,getElem?_mapIdx->bX,length_cons->b7,getElem?_map->b9,getElem?_eq_getElem->cC,length_set->cD,mem_range->cE,length_nil->cF,filter_append->cH,append_nil->cJ,append_assoc->cK,getElem?_eq_none->cL,take_add_one->cM,take_zero->cO,take_of_length_le->cP,ext_getElem?->cR,mem_map->cT,mem_cons_of_mem->cV,any_eq_true->cW,mem_flatten->cX,getElem?_set_self->cY,getElem?_set_ne->cZ,flatMap_append->c7,nodup_append->c8,foldl_append->dC,any_append->dD,length_range->dH,length_filter_le->dL,map_cons->dR,getElem?_range->dS,filter_cons_of_pos->dV,filter_cons_of_neg->dW,filter_nil->dX,mem_filter->dY,getElem_of_mem->dZ,pairwise_append->d3,mem_cons->d4,drop_of_length_le->d6,mem_iff_getElem?->d8,pairwise_singleton->eA
open Nat renaming zero_le->bH,le_refl->bS,beq_refl->bZ,blt_eq->cQ,add_sub_cancel->dG,le_trans->dI,add_mul->dM,one_mul->dN,not_lt_zero->dP
open Bool renaming eq_false_or_eq_true->bJ,and_eq_true->bT,true_and->cG,and_false->dB,or_eq_true->dQ,or_false->dU,or_eq_false_iff->d7
open Option renaming map_some->b8,map_eq_some_iff->dE,getD_some->d5,toList_some->d9
open Int renaming mul_add->cU,mul_nonneg->dA,mul_one->dO
open Go.Proofs.Tryz renaming prog->eB
open Go.Proofs.YtdnhcneallkljaaGreat.S.OV renaming tmp->eC
open Go.Proofs.YtdnhcneallkljaaGreat.S.Op renaming loadR_c->eD,storeR->eE
open Go.Proofs.YtdnhcneallkljaaGreat.S.StD renaming d->eF
open Go.Proofs.YtdnhcneallkljaaGreat.S.zaf renaming d->eG
namespace Go.Proofs.YtdnhcneallkljaaGreat
namespace S
variable {α:Type} {j n es t i m k:Nat} {x:Int} {e:E} {f:F} {a:Act} {w:World} {ty el:TypeId} {rows:List (List C)} {tl:Nat->Option L} {sl:List (Nat × V)} {lc:List (Nat × L)} {l:L} {draw b:Bool} {y:Code} {nm:Nat->Nat} {r':List (List D)} {M:List (List Bool)} {au:zay} {nx:List Int} {ps:List zal} {z:LS}
theorem qn1_1:Sz eB 69 5 true:=Sz.mk' (by kernel_rfl) Tryz.underlying69 _ rfl
theorem qn1_9:zbg eB 52:=zbg.mk' (by kernel_rfl)
theorem SSearch (s:zab) (ps:List zal) (au:zay) (fuel:Int) {L:Nat} (hs:zaw L s) (hL:L<=1000) (hp:zbp s) (hps:∀ p ∈ ps,zfl L p) (hpl:ps.length<=1000) (hau:zfa au):Fn eB 20 [] [vG [.d (.sl 1 (s.vars.map zdz)),.d (.sl 5 (s.bounds.map zaj.d)),cI s.init.kind,cPs s.init.r.t.parts,cB s.init.r.t.k.neg,.d (nsl s.init.r.t.k.abs),cB s.init.r.eq,cFs s.init.kids,.d (.sl 3 (s.procs.map zb2.d)),.d (.sl 10 (s.acts.map zb1.d))],vS 9 (ps.map zal.d),vG [.d (.sl 3 (au.nodes.map eG)),cIs au.first,.d (.sl 1 (au.good.map za3))],vI fuel] (vG [cI (zey s ps au fuel).state,.d (.sl 2 ((zey s ps au fuel).run.stem.map eF)),.d (.sl 2 ((zey s ps au fuel).run.cycle.map eF)),cIs (zey s ps au fuel).run.acts,cI (zey s ps au fuel).left]) []:=by
 have lfs:=fst_len s;have lfa:=hau.first
 refine fB Tryz.func20 rfl 104 fun w H B a h=>Jq 30 [] [(1,vS 9 (ps.map zal.d)),(3,vI fuel),(4,vp 30 0),(6,vp 31 0),(8,vp 32 0)] [(30,.box [.d (.sl 1 (s.vars.map zdz)),.d (.sl 5 (s.bounds.map zaj.d)),cI s.init.kind,cPs s.init.r.t.parts,cB s.init.r.t.k.neg,.d (nsl s.init.r.t.k.abs),cB s.init.r.eq,cFs s.init.kids,.d (.sl 3 (s.procs.map zb2.d)),.d (.sl 10 (s.acts.map zb1.d))]),(31,.box [.d (.sl 3 (au.nodes.map eG)),cIs au.first,.d (.sl 1 (au.good.map za3))]),(32,.box [cI 0,nCl,nCl,nCl,cI 0])] h fun a w h=>Je 33 [(1,.g (Op.max2 (d:=22) (tys:=#[3,3]) (k:=.i64) (m:=fuel) (n:=0) (r:=(max fuel 0)) (eC 21 _) (OV.const (.int .i64 0) rfl) rfl)),(2,.g (Op.min2 (d:=23) (tys:=#[3,3]) (k:=.i64) (m:=(max fuel 0)) (n:=1073741824) (r:=(zes fuel)) (eC 22 _) (OV.const (.int .i64 1073741824) rfl) rfl))] [] [(3,vI (zes fuel))] h fun a w h=>qW (Je 33 [(1,.call (OCount s hs hL hp))] [] [(10,vb (zb3 s).2)] h fun a w h=>Je 33 [] [10] [(30,vb (!(zb3 s).2))] h fun a w h=>cS (!(zb3 s).2) h (fun hc1=>?_) (fun hc2=>?_))
 ·refine Jg 33 [] [30] [] [] [(32,.box [cI 3,nCl,nCl,nCl,cI (zes fuel)])] h fun a w h=>qV (za2 ?_);replace h:=zb7 32 1 2 [cI 3,nCl,nCl,nCl,cI (zes fuel)] h;replace h:=zb7 32 2 2 [cI 3,.d (.sl 2 ([].map eF)),nCl,nCl,cI (zes fuel)] h;replace h:=zb7 32 3 1 [cI 3,.d (.sl 2 ([].map eF)),.d (.sl 2 ([].map eF)),nCl,cI (zes fuel)] h;refine rA 32 [cI 3,.d (.sl 2 ([].map eF)),.d (.sl 2 ([].map eF)),cIs [],cI (zes fuel)] h qn1_1 rfl ?_;rw [sea_no (show (zb3 s).2=false by have:=hc1;simpa using this)];rfl
 refine qU (za0 (Jg 33 [(4,.g (Op.mkMap (d:=37) (n:=34) (t:=114))),(5,.g (Op.mkMap (d:=38) (n:=35) (t:=115))),(6,.g (Op.mkMap (d:=39) (n:=36) (t:=116))),(7,.g (Op.mkMap (d:=40) (n:=37) (t:=116)))] [1,3,30] [(11,vp 33 0)] [] [(34,.mp (mpL s ps [])),(35,.mp (mpE s [])),(36,.mp (mpP [])),(37,.mp (mpP [])),(33,.box [.d (.sl 1 (s.vars.map zdz)),.d (.sl 5 (s.bounds.map zaj.d)),cI s.init.kind,cPs s.init.r.t.parts,cB s.init.r.t.k.neg,.d (nsl s.init.r.t.k.abs),cB s.init.r.eq,cFs s.init.kids,.d (.sl 3 (s.procs.map zb2.d)),.d (.sl 10 (s.acts.map zb1.d)),.d (.sl 9 (ps.map zal.d)),.d (.sl 3 (au.nodes.map eG)),cIs au.first,.d (.sl 1 (au.good.map za3)),cI (zes fuel),cB false,.mp 34,.mp 35,.mp 36,.mp 37])] h fun a w h=>qW ?_));replace h:=zd8 33 7 h;replace h:=zd8 34 1 h;replace h:=zd8 35 2 h;replace h:=zd8 36 3 h;replace h:=zd8 37 4 h;refine Je 38 [(1,.call (OFirsts s hs hL hp)),(2,.len (za1 2 eF (zg4 s)))] [] [(44,vS 2 ((zg4 s).map eF)),(45,vI ((zg4 s).length:Int)),(46,vI 0)] h fun a w h=>qZ ?_;replace h:=cvM [] [] [] [(7,(bxS s ps au (X0 fuel).fuel (X0 fuel).out)),(1,.mp (mpL s ps (X0 fuel).ls)),(2,.mp (mpE s (X0 fuel).es)),(3,.mp (mpP (X0 fuel).fs)),(4,.mp (mpP (X0 fuel).sc))] (by kernel_rfl) h
 refine zcc (ι:=(Nat) × (SS)) (fun (i,x)=>i<=(zg4 s).length/\XI x/\goX s ps au (X0 fuel) (zg4 s)=goX s ps au x ((zg4 s).drop i))
   [] (fun (i,x)=>[(46,vN i)])
   [] (fun (i,x)=>[(7,(bxS s ps au x.fuel x.out)),(1,.mp (mpL s ps x.ls)),(2,.mp (mpE s x.es)),(3,.mp (mpP x.fs)),(4,.mp (mpP x.sc))])
   (fun (i,x)=>(zg4 s).length - i) (0,(X0 fuel)) ?_ h ?_
 ·exact ⟨bH _,X0_ok fuel,rfl⟩
 clear h;rintro ⟨i,x⟩ a w hI h;dsimp only at h;obtain ⟨hI1,hI3,hI2⟩:=hI;refine Je 38 [] [] [(47,vb (decide ((i:Int)<((zg4 s).length:Int))))] h fun a w h=>qW (zag ((i:Int)<((zg4 s).length:Int)) h (fun hc3 hc3'=>?_) (fun hc10 hc10'=>?_))
 ·refine qU (za0 (qW (qZ ?_)));obtain ⟨x3,hx3⟩:=gl (zg4 s) i;have hnN:InI (nmT s x3).1:=by have:=nmT_in s x3;unfold InI;omega
  refine Jg 38 [(0,.g (xD 48 44 kn_0 (za4 hx3 (f:=eF)) (eC 46 _)))] [47] [(13,vp 38 0)] [] [(38,.box [cIs x3.locs,cZs x3.vals])] h fun a w h=>Jg 39 [(2,.call (ONumber s x3 (L:=L) (M:=L+3) hs hL hp (by omega) (fst_ok hs hp hx3)))] [13] [(14,vI (nmT s x3).1)] [38] [] h fun a w h=>Jg 39 [(4,.g (Op.callI (d:=60) (SFitsX s ps au x.fuel x.out x.ls x.es x.fs x.sc (nmT s x3).1 au.first hs hL hp hps hpl hau hI3.ls hnN lfa) qf1_4 [7,2,3,4] (tys:=#[113,3,44]) (OVs.cons (eC 56 _) (OVs.cons (eC 57 _) (OVs.cons (eC 59 _) (OVs.nil)))) rfl)),(5,.len (za1 1 za8 (zbl au (zbc s ps (nmT s x3).1) au.first)))] [] [(60,(vIs (zbl au (zbc s ps (nmT s x3).1) au.first))),(61,vI ((zbl au (zbc s ps (nmT s x3).1) au.first).length:Int)),(62,vI 0)] [] [(1,.mp (mpL s ps (lsF au x.ls (nmT s x3).1 au.first)))] h fun a w h=>qZ ?_;replace h:=cvM [] [] [] [(7,(bxS s ps au (SS.mk x.fuel x.out (lsF au x.ls (nmT s x3).1 au.first) x.es x.fs x.sc).fuel (SS.mk x.fuel x.out (lsF au x.ls (nmT s x3).1 au.first) x.es x.fs x.sc).out)),(1,.mp (mpL s ps (SS.mk x.fuel x.out (lsF au x.ls (nmT s x3).1 au.first) x.es x.fs x.sc).ls)),(2,.mp (mpE s (SS.mk x.fuel x.out (lsF au x.ls (nmT s x3).1 au.first) x.es x.fs x.sc).es)),(3,.mp (mpP (SS.mk x.fuel x.out (lsF au x.ls (nmT s x3).1 au.first) x.es x.fs x.sc).fs)),(4,.mp (mpP (SS.mk x.fuel x.out (lsF au x.ls (nmT s x3).1 au.first) x.es x.fs x.sc).sc))] (by kernel_rfl) h;have hY0:XI (SS.mk x.fuel x.out (lsF au x.ls (nmT s x3).1 au.first) x.es x.fs x.sc):=⟨hI3.f0,hI3.f1,kin_lsF hI3.ls hnN,hI3.es,hI3.fs,hI3.sc⟩
  refine zcc (ι:=(Nat) × (SS)) (fun (j,y)=>j<=(zbl au (zbc s ps (nmT s x3).1) au.first).length/\XI y/\inX s ps au x x3=goK s ps au (nmT s x3).1 y ((zbl au (zbc s ps (nmT s x3).1) au.first).drop j))
    [] (fun (j,y)=>[(62,vN j)])
    [] (fun (j,y)=>[(7,(bxS s ps au y.fuel y.out)),(1,.mp (mpL s ps y.ls)),(2,.mp (mpE s y.es)),(3,.mp (mpP y.fs)),(4,.mp (mpP y.sc))])
    (fun (j,y)=>(zbl au (zbc s ps (nmT s x3).1) au.first).length - j) (0,(SS.mk x.fuel x.out (lsF au x.ls (nmT s x3).1 au.first) x.es x.fs x.sc)) ?_ h ?_
  ·exact ⟨bH _,hY0,rfl⟩
  clear h;rintro ⟨j,y⟩ a w hI h;dsimp only at h;obtain ⟨hJ1,hJ3,hJ2⟩:=hI;have lks:=ziu au (zbc s ps (nmT s x3).1) au.first
  refine Je 39 [] [] [(63,vb (decide ((j:Int)<((zbl au (zbc s ps (nmT s x3).1) au.first).length:Int))))] h fun a w h=>qW (zag ((j:Int)<((zbl au (zbc s ps (nmT s x3).1) au.first).length:Int)) h (fun hc4 hc4'=>?_) (fun hc9 hc9'=>?_))
  ·refine qU (za0 (qW (qZ ?_)));obtain ⟨x6,hx6⟩:=gl (zbl au (zbc s ps (nmT s x3).1) au.first) j;have hok9:okP au (PrD.mk (nmT s x3).1 x6):=⟨(ftn_ok au _ _ x6 (lM hx6)).1,hnN⟩;refine Je 39 [(0,.g (xD 64 60 zdj (za4 hx6 (f:=za8)) (eC 62 _)))] [63] [(17,vI x6)] h fun a w h=>Jg 39 [] [17] [(18,vp 39 0)] [] [(39,.box [cI (nmT s x3).1,cI x6])] h fun a w h=>qW (Je 40 [(1,.g (Op.nilQ (d:=70) (t:=69) (n:=7) (o:=0))),(5,.g (Op.lkP (d:=74) (t:=72) (m:=3) (x:=73) (p:=(PrD.mk (nmT s x3).1 x6)) (fs:=y.fs) (q:=(decide ((PrD.mk (nmT s x3).1 x6) ∈ y.fs))) hJ3.fs (zh3 hau hok9) rfl))] [] [(74,vb (decide ((PrD.mk (nmT s x3).1 x6) ∈ y.fs)))] h fun a w h=>zag ((PrD.mk (nmT s x3).1 x6) ∈ y.fs) h (fun hc5 hc5'=>?_) (fun hc6 hc6'=>?_))
   ·refine wp_exit (zbq (zao (za0 (Jh 40 [(0,.j1 j)] [18,74] [(62,vI ((j:Int)+1))] [39] [] h fun a w h=>za0 (za9 (x:=(j,y)) (y:=(j+1,y)) h ?_ ?_)))))
    ·have:=zac hx6;exact ⟨by omega,hJ3,by rw [hJ2,zf3 hx6];exact goK_skip (dT hc5)⟩
    show (zbl au (zbc s ps (nmT s x3).1) au.first).length - (j+1)<(zbl au (zbc s ps (nmT s x3).1) au.first).length - j;have:=zac hx6;omega
   refine qU (za0 (qW ?_))
   rcases hfr:(zb5 s ps au y (PrD.mk (nmT s x3).1 x6)).1 with _ | ⟨st,cy⟩
   ·skip
    refine Jg 40 [(2,.call (SFromA s ps au y.fuel y.out y.ls y.es y.fs y.sc (PrD.mk (nmT s x3).1 x6) none hs hL hp hps hpl hau hJ3 hok9 hc6 hfr))] [18,74] [(19,vW zaa),(20,vW zaa)] [39] [(7,(bxS s ps au (zb5 s ps au y (PrD.mk (nmT s x3).1 x6)).2.fuel (zb5 s ps au y (PrD.mk (nmT s x3).1 x6)).2.out)),(1,.mp (mpL s ps (zb5 s ps au y (PrD.mk (nmT s x3).1 x6)).2.ls)),(2,.mp (mpE s (zb5 s ps au y (PrD.mk (nmT s x3).1 x6)).2.es)),(3,.mp (mpP (zb5 s ps au y (PrD.mk (nmT s x3).1 x6)).2.fs)),(4,.mp (mpP (zb5 s ps au y (PrD.mk (nmT s x3).1 x6)).2.sc))] h fun a w h=>Je 40 [(1,.g (Op.neNilR (d:=82) (t:=81) (xt:=122) (yt:=122) zka.hu (OV.const zaa rfl)))] [] [(82,vb false)] h fun a w h=>zbs h (qU (za0 (Je 40 [(1,.g (Op.nilQ (d:=93) (t:=92) (n:=7) (o:=0)))] [19,20,82] [(95,vb (zb5 s ps au y (PrD.mk (nmT s x3).1 x6)).2.out)] h fun a w h=>cS (zb5 s ps au y (PrD.mk (nmT s x3).1 x6)).2.out h (fun hc7=>?_) (fun hc8=>?_))))
    ·refine Jg 40 [] [95] [] [] [(32,.box [cI 3,nCl,nCl,nCl,cI 0])] h fun a w h=>qV (za6 (za2 (za2 (za6 (za6 (za2 (za2 (za6 (za2 ?_)))))))));replace h:=zb7 32 1 2 [cI 3,nCl,nCl,nCl,cI 0] h;replace h:=zb7 32 2 2 [cI 3,.d (.sl 2 ([].map eF)),nCl,nCl,cI 0] h;replace h:=zb7 32 3 1 [cI 3,.d (.sl 2 ([].map eF)),.d (.sl 2 ([].map eF)),nCl,cI 0] h;refine rA 32 [cI 3,.d (.sl 2 ([].map eF)),.d (.sl 2 ([].map eF)),cIs [],cI 0] h qn1_1 rfl ?_;have hin:inX s ps au x x3 = .inl (⟨3,run0,0⟩:AnsD):=by rw [hJ2,zf3 hx6];exact goK_dry (dF hc6) hfr hc7
     rw [sea_inl (show (zb3 s).2=true by have:=hc2;simpa using this) (by rw [hI2,zf3 hx3];exact goX_inl hin)];rfl
    refine qU (za5 (za0 (Jf 40 [(0,.j1 j)] [95] [(62,vI ((j:Int)+1))] h fun a w h=>za0 ?_)));replace h:=cvM [] [] [] [] (by kernel_rfl) h;refine za9 (x:=(j,y)) (y:=(j+1,(zb5 s ps au y (PrD.mk (nmT s x3).1 x6)).2)) h ?_ ?_
    ·have:=zac hx6;exact ⟨by omega,(from_LI (ps:=ps) hs hau hJ3 hok9).1,by rw [hJ2,zf3 hx6];exact goK_on (dF hc6) hfr hc8⟩
    show (zbl au (zbc s ps (nmT s x3).1) au.first).length - (j+1)<(zbl au (zbc s ps (nmT s x3).1) au.first).length - j;have:=zac hx6;omega
   obtain ⟨⟨gs1,gs2,gs3⟩,gc1,gc2,gc3⟩:=(from_LI (ps:=ps) hs hau hJ3 hok9).2 (st,cy) hfr;obtain ⟨gd1,gd2⟩:=from_done (s:=s) (ps:=ps) (au:=au) hJ3.f0 (PrD.mk (nmT s x3).1 x6) (st,cy) hfr;have hln9:0<cy.length:=gc2;refine Jg 40 [(2,.call (SFromA s ps au y.fuel y.out y.ls y.es y.fs y.sc (PrD.mk (nmT s x3).1 x6) (some (st,cy)) hs hL hp hps hpl hau hJ3 hok9 hc6 hfr))] [18,74] [(19,vO 29 st.length),(20,vO 19 cy.length)] [39] [(7,(bxS s ps au (zb5 s ps au y (PrD.mk (nmT s x3).1 x6)).2.fuel (zb5 s ps au y (PrD.mk (nmT s x3).1 x6)).2.out)),(1,.mp (mpL s ps (zb5 s ps au y (PrD.mk (nmT s x3).1 x6)).2.ls)),(2,.mp (mpE s (zb5 s ps au y (PrD.mk (nmT s x3).1 x6)).2.es)),(3,.mp (mpP (zb5 s ps au y (PrD.mk (nmT s x3).1 x6)).2.fs)),(4,.mp (mpP (zb5 s ps au y (PrD.mk (nmT s x3).1 x6)).2.sc)),(29,.row 176 4 (st.map WkD.d)),(19,.row 176 4 (cy.map WkD.d))] h fun a w h=>Je 40 [(1,.g (Op.neNilO (d:=82) (t:=81) (n:=19) (len:=cy.length) (xt:=122) (yt:=122) zka.hu hln9 (OV.const zaa rfl)))] [] [(82,vb true)] h fun a w h=>cS true h (fun _=>?_) nofun
   replace h:=zhz 29 4 176 (st.map WkD.d) h [st.length] ⟨by first | exact (bC _).symm | (simp;done) | (simp;omega),trivial⟩;replace h:=zhz 19 4 176 (cy.map WkD.d) h [cy.length] ⟨by first | exact (bC _).symm | (simp;done) | (simp;omega),trivial⟩;refine Jg 40 [(3,.g (Op.callI (d:=86) (SRunX s ps au (zb5 s ps au y (PrD.mk (nmT s x3).1 x6)).2.fuel (zb5 s ps au y (PrD.mk (nmT s x3).1 x6)).2.out (zb5 s ps au y (PrD.mk (nmT s x3).1 x6)).2.ls (zb5 s ps au y (PrD.mk (nmT s x3).1 x6)).2.es (zb5 s ps au y (PrD.mk (nmT s x3).1 x6)).2.fs (zb5 s ps au y (PrD.mk (nmT s x3).1 x6)).2.sc st cy hs hL hp gs1 gd1 gs2 (by have h8:(st.length:Int)<=1073741824:=gs3;omega) gc1 gd2 (by have h8:(cy.length:Int)<=1073741824:=gc3;omega)) qn1_9 [7,1,2,3,4] (tys:=#[113,122,122]) (OVs.cons (eC 83 _) (OVs.cons (eC 84 _) (OVs.cons (eC 85 _) (OVs.nil)))) rfl)),(5,.g (Op.nilQ (d:=88) (t:=87) (n:=7) (o:=0)))] [19,20,82] [] [] [(32,.box [cI 1,.d (.sl 2 ((runT s st cy).stem.map eF)),.d (.sl 2 ((runT s st cy).cycle.map eF)),cIs (runT s st cy).acts,cI (zb5 s ps au y (PrD.mk (nmT s x3).1 x6)).2.fuel])] h fun a w h=>qV (za2 (za6 (za2 (za2 (za6 (za6 (za2 (za2 (za6 (za2 (rA 32 [cI 1,.d (.sl 2 ((runT s st cy).stem.map eF)),.d (.sl 2 ((runT s st cy).cycle.map eF)),cIs (runT s st cy).acts,cI (zb5 s ps au y (PrD.mk (nmT s x3).1 x6)).2.fuel] h qn1_1 rfl ?_)))))))))));have hin:inX s ps au x x3 = .inl (⟨1,runT s st cy,(zb5 s ps au y (PrD.mk (nmT s x3).1 x6)).2.fuel⟩:AnsD):=by rw [hJ2,zf3 hx6];exact goK_hit (dF hc6) hfr
   rw [sea_inl (show (zb3 s).2=true by have:=hc2;simpa using this) (by rw [hI2,zf3 hx3];exact goX_inl hin)];rfl
  refine wp_exit (zbq (zbq (zao (za5 (za0 (Jf 40 [(0,.j1 i)] [14,60,61,62,63] [(46,vI ((i:Int)+1))] h fun a w h=>za0 ?_))))));have hjd:(zbl au (zbc s ps (nmT s x3).1) au.first).drop j=[]:=d6 (by have:=dF hc9;omega);rw [hjd] at hJ2;have hin:inX s ps au x x3 = .inr y:=hJ2;refine za9 (x:=(i,x)) (y:=(i+1,y)) h ?_ ?_
  ·have:=zac hx3;exact ⟨by omega,hJ3,by rw [hI2,zf3 hx3];exact goX_inr hin⟩
  show (zg4 s).length - (i+1)<(zg4 s).length - i;have:=zac hx3;omega
 refine exA (Jq 40 [(1,.g (Op.nilQ (d:=100) (t:=99) (n:=7) (o:=0)))] [(8,vp 32 0)] [(32,.box [cI 2,nCl,nCl,nCl,cI x.fuel])] h fun a w h=>qV ?_);replace h:=zb7 32 1 2 [cI 2,nCl,nCl,nCl,cI x.fuel] h;replace h:=zb7 32 2 2 [cI 2,.d (.sl 2 ([].map eF)),nCl,nCl,cI x.fuel] h;replace h:=zb7 32 3 1 [cI 2,.d (.sl 2 ([].map eF)),.d (.sl 2 ([].map eF)),nCl,cI x.fuel] h;refine rA 32 [cI 2,.d (.sl 2 ([].map eF)),.d (.sl 2 ([].map eF)),cIs [],cI x.fuel] h qn1_1 rfl ?_;have hid:(zg4 s).drop i=[]:=d6 (by have:=dF hc10;omega);rw [hid] at hI2;rw [sea_inr (show (zb3 s).2=true by have:=hc2;simpa using this) hI2];rfl
def fewP (ps:List zal):Bool:=ps.all (fun p=>ziv p.f 20 3) && decide ((ps.length:Int)<=4)
def fewND (nd:zaf):Bool:=!(decide ((nd.must.length:Int)>6) || decide ((nd.never.length:Int)>6) || decide ((nd.next.length:Int)>6))
def fewU (au:zay):Bool:=!(decide ((au.nodes.length:Int)>4) || decide ((au.first.length:Int)>6)) && au.nodes.all fewND
theorem alls_snoc {f:α->Bool} {xs:List α} {x:α} (h:xs[j]?=some x) (hx:f x=true) (hp:(xs.take j).all f=true):(xs.take (j+1)).all f=true:=by
 rw [cM,h,List.all_append,hp];simp [hx]
theorem zl9 {f:α->Bool} {xs:List α} {x:α} (h:xs[j]?=some x) (hx:f x=false):xs.all f=false:=by
 cases e:xs.all f with
 | false=>rfl
 | true=>have:=bM.1 e x (bR h);rw [hx] at this;cases this
theorem SFewP (ps:List zal) (hpl2:∀ p ∈ ps,p.f.lb) (hpl:ps.length<=9223372036854775807):Fn eB 18 [] [vS 9 (ps.map zal.d)] (vb (fewP ps)) []:=by
 refine fB Tryz.func18 rfl 19 fun w H B a h=>Jq 0 [] [(0,vS 9 (ps.map zal.d)),(2,vb false)] [] h fun a w h=>qW (Jg 0 [(1,.len (za1 9 zal.d ps))] [] [(5,vS 9 (ps.map zal.d)),(6,vN ps.length),(7,vI 0)] [] [] h fun a w h=>qZ ?_)
 refine zcc (ι:=(Nat)) (fun j=>j<=ps.length/\(ps.take j).all (fun p=>ziv p.f 20 3)=true)
   [2] (fun j=>[(7,vN j)])
   [] (fun j=>[])
   (fun j=>ps.length - j) 0 ?_ h ?_
 ·exact ⟨bH _,by rw [cO];rfl⟩
 clear h;rintro j a w hI h;obtain ⟨hI1,hI2⟩:=hI;refine Jg 0 [] [] [(8,vb (decide ((j:Int)<(ps.length:Int))))] [] [] h fun a w h=>qW (zag ((j:Int)<(ps.length:Int)) h (fun hc1 hc1'=>?_) (fun hc4 hc4'=>?_))
 ·refine qU (za0 (qW (qZ ?_)));obtain ⟨x1,hx1⟩:=gl ps j;refine Jg 0 [(0,.g (xD 9 5 kn_10 (za4 hx1 (f:=zal.d)) (eC 7 _)))] [8] [(4,vp 0 0)] [] [(0,.box [cB x1.at_,cI x1.proc,cI x1.loc,cI x1.f.kind,cPs x1.f.r.t.parts,cB x1.f.r.t.k.neg,.d (nsl x1.f.r.t.k.abs),cB x1.f.r.eq,cFs x1.f.kids])] h fun a w h=>Jg 1 [(2,.call (SFewF x1.f 20 3 (hpl2 x1 (lM hx1)) (by decide) (by decide)))] [4] [(14,vb (!(ziv x1.f 20 3)))] [0] [] h fun a w h=>cS (!(ziv x1.f 20 3)) h (fun hc2=>?_) (fun hc3=>?_)
  ·refine Jg 1 [] [14] [(2,vb false)] [] [] h fun a w h=>qV (za6 (za2 (za2 (za6 (za2 (rT (.c (cB false)) h rfl ?_))))));have hz:fewP ps=false:=by unfold fewP;rw [zl9 (f:=fun p=>ziv p.f 20 3) hx1 (show (ziv x1.f 20 3)=false by have:=hc2;simpa using this)];rfl
   rw [hz];try rfl
  refine qU (za5 (za0 (Jh 1 [(0,.j1 j)] [14] [(7,vI ((j:Int)+1))] [] [] h fun a w h=>za0 (za9 (x:=j) (y:=j+1) h ?_ ?_))))
  ·have:=zac hx1;exact ⟨by omega,alls_snoc hx1 (show (ziv x1.f 20 3)=true by have:=hc3;simpa using this) hI2⟩
  show ps.length - (j+1)<ps.length - j;have:=zac hx1;omega
 refine exA (Jq 1 [(1,.len (za1 9 zal.d ps))] [(2,vb (decide ((ps.length:Int)<=4)))] [] h fun a w h=>qV (rT (.c (cB (decide ((ps.length:Int)<=4)))) h rfl ?_));have hz:fewP ps=(decide ((ps.length:Int)<=4)):=by unfold fewP;rw [show ps.take j=ps from cP (by have:=dF hc4;omega)] at hI2;rw [hI2];rfl
 rw [hz];try rfl
theorem SFewU (au:zay) (hnl:au.nodes.length<=9223372036854775807):Fn eB 17 [] [vG [.d (.sl 3 (au.nodes.map eG)),cIs au.first,.d (.sl 1 (au.good.map za3))]] (vb (fewU au)) []:=by
 refine fB Tryz.func17 rfl 39 fun w H B a h=>Jq 0 [] [(1,vp 0 0),(2,vb false)] [(0,.box [.d (.sl 3 (au.nodes.map eG)),cIs au.first,.d (.sl 1 (au.good.map za3))])] h fun a w h=>qW ?_
 rcases bJ (decide ((au.nodes.length:Int)>4)) with hc1 | hc2
 ·have hc1':=dT hc1;refine Je 1 [(2,.len (za1 3 eG au.nodes)),(3,.cmp (op:=.gtr) (m:=(au.nodes.length:Int)) (n:=4) (b:=true) .i64 hc1)] [] [(14,vb true)] h fun a w h=>cS true h (fun _=>?_) nofun
  refine Je 1 [] [14] [] h fun a w h=>qV (za2 (rT (.c (cB false)) h rfl ?_));have hz:fewU au=false:=by unfold fewU;rw [hc1];rfl
  rw [hz];try rfl
 have hc2':=dF hc2;refine Je 1 [(2,.len (za1 3 eG au.nodes)),(3,.cmp (op:=.gtr) (m:=(au.nodes.length:Int)) (n:=4) (b:=false) .i64 hc2),(7,.len (za1 1 za8 au.first))] [] [(14,vb (decide ((au.first.length:Int)>6)))] h fun a w h=>zag ((au.first.length:Int)>6) h (fun hc3 hc3'=>?_) (fun hc4 hc4'=>?_)
 ·refine Je 1 [] [14] [] h fun a w h=>qV (za2 (rT (.c (cB false)) h rfl ?_));have hz:fewU au=false:=by unfold fewU;rw [hc2,hc3];rfl
  rw [hz];try rfl
 refine qU (za0 (qW (Jd 1 [(2,.len (za1 3 eG au.nodes))] [1,14] [(16,vS 3 (au.nodes.map eG)),(17,vN au.nodes.length),(18,vI 0)] [] h fun a w h=>qZ ?_)))
 refine zcc (ι:=(Nat)) (fun j=>j<=au.nodes.length/\(au.nodes.take j).all fewND=true)
   [2] (fun j=>[(18,vN j)])
   [] (fun j=>[])
   (fun j=>au.nodes.length - j) 0 ?_ h ?_
 ·exact ⟨bH _,by rw [cO];rfl⟩
 clear h;rintro j a w hI h;obtain ⟨hI1,hI2⟩:=hI;refine Jg 1 [] [] [(19,vb (decide ((j:Int)<(au.nodes.length:Int))))] [] [] h fun a w h=>qW (zag ((j:Int)<(au.nodes.length:Int)) h (fun hc5 hc5'=>?_) (fun hc12 hc12'=>?_))
 ·refine qU (za0 (qW (qZ ?_)));obtain ⟨x1,hx1⟩:=gl au.nodes j;refine Jg 1 [(0,.g (xD 20 16 qe1_4 (za4 hx1 (f:=eG)) (eC 18 _)))] [19] [(4,vp 1 0)] [] [(1,.box [cIs x1.must,cIs x1.never,cIs x1.next])] h fun a w h=>?_
  rcases bJ (decide ((x1.must.length:Int)>6)) with hc6 | hc7
  ·have hc6':=dT hc6;refine Jg 2 [(2,.len (za1 1 za8 x1.must)),(3,.cmp (op:=.gtr) (m:=(x1.must.length:Int)) (n:=6) (b:=true) .i64 hc6)] [4] [(37,vb true)] [1] [] h fun a w h=>cS true h (fun _=>?_) nofun
   refine Jg 2 [] [37] [(2,vb false)] [] [] h fun a w h=>qV (za6 (za2 (za2 (za6 (za2 (rT (.c (cB false)) h rfl ?_))))));have hz:fewU au=false:=by unfold fewU;rw [zl9 (f:=fewND) hx1 (by unfold fewND;rw [hc6];rfl),dB]
   rw [hz];try rfl
  have hc7':=dF hc7
  rcases bJ (decide ((x1.never.length:Int)>6)) with hc8 | hc9
  ·have hc8':=dT hc8;refine Jg 2 [(2,.len (za1 1 za8 x1.must)),(3,.cmp (op:=.gtr) (m:=(x1.must.length:Int)) (n:=6) (b:=false) .i64 hc7),(7,.len (za1 1 za8 x1.never)),(8,.cmp (op:=.gtr) (m:=(x1.never.length:Int)) (n:=6) (b:=true) .i64 hc8)] [4] [(37,vb true)] [1] [] h fun a w h=>cS true h (fun _=>?_) nofun
   refine Jg 2 [] [37] [(2,vb false)] [] [] h fun a w h=>qV (za6 (za2 (za2 (za6 (za2 (rT (.c (cB false)) h rfl ?_))))));have hz:fewU au=false:=by unfold fewU;rw [zl9 (f:=fewND) hx1 (by unfold fewND;rw [hc7,hc8];rfl),dB]
   rw [hz];try rfl
  have hc9':=dF hc9;refine Jg 2 [(2,.len (za1 1 za8 x1.must)),(3,.cmp (op:=.gtr) (m:=(x1.must.length:Int)) (n:=6) (b:=false) .i64 hc7),(7,.len (za1 1 za8 x1.never)),(8,.cmp (op:=.gtr) (m:=(x1.never.length:Int)) (n:=6) (b:=false) .i64 hc9),(13,.len (za1 1 za8 x1.next))] [4] [(37,vb (decide ((x1.next.length:Int)>6)))] [1] [] h fun a w h=>zag ((x1.next.length:Int)>6) h (fun hc10 hc10'=>?_) (fun hc11 hc11'=>?_)
  ·refine Jg 2 [] [37] [(2,vb false)] [] [] h fun a w h=>qV (za6 (za2 (za2 (za6 (za2 (rT (.c (cB false)) h rfl ?_))))));have hz:fewU au=false:=by unfold fewU;rw [zl9 (f:=fewND) hx1 (by unfold fewND;rw [hc7,hc9,hc10];rfl),dB]
   rw [hz];try rfl
  refine qU (za5 (za0 (Jh 2 [(0,.j1 j)] [37] [(18,vI ((j:Int)+1))] [] [] h fun a w h=>za0 (za9 (x:=j) (y:=j+1) h ?_ ?_))))
  ·have:=zac hx1;exact ⟨by omega,alls_snoc hx1 (by unfold fewND;rw [hc7,hc9,hc11];rfl) hI2⟩
  show au.nodes.length - (j+1)<au.nodes.length - j;have:=zac hx1;omega
 refine exA (Jq 2 [] [(2,vb true)] [] h fun a w h=>qV (rT (.c (cB true)) h rfl ?_));have hz:fewU au=true:=by unfold fewU;rw [show au.nodes.take j=au.nodes from cP (by have:=dF hc12;omega)] at hI2;rw [hc2,hc4,hI2];rfl
 rw [hz];try rfl
theorem qp1_2:ElZ eB 58 108 3:=ElZ.mk' Tryz.underlying58 _ _ rfl rfl
theorem qp1_4:ElZ eB 57 110 9:=ElZ.mk' Tryz.underlying57 _ _ rfl rfl
def zgw:zay:=⟨[⟨[],[],[0]⟩],[0],[true]⟩
def nevA9:zay:=⟨[⟨[0],[],[0]⟩],[0],[true]⟩
def ps9:List zal:=[⟨true,0,1,form0⟩]
def x90:StD:=⟨[0],[ZI.of 0]⟩
def x91:StD:=⟨[1],[ZI.of 1]⟩
def run9:RunD:=⟨[x90],[x91],[0,-1]⟩
set_option maxRecDepth 1000000 in
theorem ev91:zey zcm ps9 zgw 1000=⟨1,run9,994⟩:=by kernel_rfl
set_option maxRecDepth 1000000 in
theorem ev92:zey zcm ps9 nevA9 1000=⟨2,run0,1000⟩:=by kernel_rfl
set_option maxRecDepth 1000000 in
theorem ev93:zey zcm ps9 zgw 1=⟨3,run0,0⟩:=by kernel_rfl
set_option maxRecDepth 1000000 in
theorem rt9:right zcm run9=true:=by kernel_rfl
theorem ps9_ok:∀ p ∈ ps9,zfl 3 p:=fun p hp=>by
 rw [mem1 hp]
 exact ⟨zkz,za7.few_ok form0 (by kernel_rfl) zkz⟩
theorem any9_ok:zfa zgw:=⟨by decide,by decide,by decide,fun nd h=>by rw [mem1 h];decide⟩
theorem nev9_ok:zfa nevA9:=⟨by decide,by decide,by decide,fun nd h=>by rw [mem1 h];decide⟩
theorem run9_ok:RunOk 6 run9:=⟨by decide,fun x hx=>by rw [mem1 hx];exact ⟨by decide,by decide,fun z hz=>by rw [mem1 hz];exact ⟨ZI.lb_of 0,by decide⟩⟩,fun x hx=>by rw [mem1 hx];exact ⟨by decide,by decide,fun z hz=>by rw [mem1 hz];exact ⟨ZI.lb_of 1,by decide⟩⟩⟩
theorem wkP9:WkV (.t (.c (.d (.sl 9 [[.raw (.bool true),.raw (.int .i64 0),.raw (.int .i64 1),.raw (.int .i64 0),.raw zaa,.raw (.bool false),nsl [],.raw (.bool false),.raw zaa]])))) (.t (.c (.d (.sl 9 (ps9.map zal.d))))):=by
 refine WkV.c _ _ (Wk.sl _ _ _ (.cons _ _ _ _ ?_ .nil))
 repeat (first | exact .nil | refine .cons _ _ _ _ (by first | exact .refl _ | exact .nil _) ?_)
theorem wkanyA9:WkV (.t (.agg [.d (.sl 3 [[.raw zaa,.raw zaa,.sl 1 ([0].map za8)]]),.d (.sl 1 ([0].map za8)),.d (.sl 1 ([true].map za3))])) (.t (.agg [.d (.sl 3 (zgw.nodes.map eG)),.d (.sl 1 (zgw.first.map za8)),.d (.sl 1 (zgw.good.map za3))])):=by
 refine WkV.agg _ _ (WkC.d _ _ _ _ (Wk.sl _ _ _ (.cons _ _ _ _ ?_ .nil)) ?_)
 ·repeat (first | exact .nil | refine .cons _ _ _ _ (by first | exact .refl _ | exact .nil _) ?_)
 ·repeat (first | exact WkC.nil | refine WkC.d _ _ _ _ (.refl _) ?_)
theorem wknevA9:WkV (.t (.agg [.d (.sl 3 [[.sl 1 ([0].map za8),.raw zaa,.sl 1 ([0].map za8)]]),.d (.sl 1 ([0].map za8)),.d (.sl 1 ([true].map za3))])) (.t (.agg [.d (.sl 3 (nevA9.nodes.map eG)),.d (.sl 1 (nevA9.first.map za8)),.d (.sl 1 (nevA9.good.map za3))])):=by
 refine WkV.agg _ _ (WkC.d _ _ _ _ (Wk.sl _ _ _ (.cons _ _ _ _ ?_ .nil)) ?_)
 ·repeat (first | exact .nil | refine .cons _ _ _ _ (by first | exact .refl _ | exact .nil _) ?_)
 ·repeat (first | exact WkC.nil | refine WkC.d _ _ _ _ (.refl _) ?_)
theorem Ssearching :Fn eB 16 [] [] (vb true) []:=by
 refine fB Tryz.func16 rfl 60 fun w H B a h=>Jq 0 [] [(0,vb false)] [] h fun a w h=>Jg 0 [(0,.call (SSys19))] [] [(1,vp 0 0)] [] [(0,.box [.d (.sl 1 (zcm.vars.map zdz)),.d (.sl 5 (zcm.bounds.map zaj.d)),cI zcm.init.kind,cPs zcm.init.r.t.parts,cB zcm.init.r.t.k.neg,.d (nsl zcm.init.r.t.k.abs),cB zcm.init.r.eq,cFs zcm.init.kids,.d (.sl 3 (zcm.procs.map zb2.d)),.d (.sl 10 (zcm.acts.map zb1.d))])] h fun a w h=>Jg 1 [(0,.g (Op.buildD (d:=9) (len:=1) (rows:=[0].map za8) (rs:=[]) tb_0 (.cons (i:=0) (OV.const (.int .i64 0) rfl) (.nil)) (by kernel_rfl) rfl (by simp [za8]) (by decide) (by decide))),(2,.g (bD 11 ([[.raw zaa,.raw zaa,.sl 1 ([0].map za8)]]) [(10,vG [nCl,nCl,cIs [0]])] qp1_2 (.cons (i:=0) (eC 10 _) (.nil)) (by kernel_rfl) (by simp))),(3,.g (Op.buildD (d:=12) (len:=1) (rows:=[0].map za8) (rs:=[]) tb_0 (.cons (i:=0) (OV.const (.int .i64 0) rfl) (.nil)) (by kernel_rfl) rfl (by simp [za8]) (by decide) (by decide))),(4,.g (Op.buildD (d:=13) (len:=1) (rows:=[true].map za3) (rs:=[]) zjk (.cons (i:=0) (OV.const (.bool true) rfl) (.nil)) (by kernel_rfl) rfl (by simp [za3]) (by decide) (by decide)))] [] [(2,vp 1 0)] [] [(1,.box [.d (.sl 3 [[.raw zaa,.raw zaa,.sl 1 ([0].map za8)]]),cIs [0],.d (.sl 1 ([true].map za3))])] h fun a w h=>Jg 2 [(0,.g (Op.buildD (d:=15) (len:=1) (rows:=[0].map za8) (rs:=[]) tb_0 (.cons (i:=0) (OV.const (.int .i64 0) rfl) (.nil)) (by kernel_rfl) rfl (by simp [za8]) (by decide) (by decide))),(1,.g (Op.buildD (d:=16) (len:=1) (rows:=[0].map za8) (rs:=[]) tb_0 (.cons (i:=0) (OV.const (.int .i64 0) rfl) (.nil)) (by kernel_rfl) rfl (by simp [za8]) (by decide) (by decide))),(3,.g (bD 18 ([[.sl 1 ([0].map za8),.raw zaa,.sl 1 ([0].map za8)]]) [(17,vG [cIs [0],nCl,cIs [0]])] qp1_2 (.cons (i:=0) (eC 17 _) (.nil)) (by kernel_rfl) (by simp))),(4,.g (Op.buildD (d:=19) (len:=1) (rows:=[0].map za8) (rs:=[]) tb_0 (.cons (i:=0) (OV.const (.int .i64 0) rfl) (.nil)) (by kernel_rfl) rfl (by simp [za8]) (by decide) (by decide))),(5,.g (Op.buildD (d:=20) (len:=1) (rows:=[true].map za3) (rs:=[]) zjk (.cons (i:=0) (OV.const (.bool true) rfl) (.nil)) (by kernel_rfl) rfl (by simp [za3]) (by decide) (by decide)))] [] [(3,vp 2 0)] [] [(2,.box [.d (.sl 3 [[.sl 1 ([0].map za8),.raw zaa,.sl 1 ([0].map za8)]]),cIs [0],.d (.sl 1 ([true].map za3))])] h fun a w h=>?_
 refine Je 3 [(1,.g (bD 23 ([[.raw (.bool true),.raw (.int .i64 0),.raw (.int .i64 1),.raw (.int .i64 0),.raw zaa,.raw (.bool false),nsl [],.raw (.bool false),.raw zaa]]) [(22,vG [cB true,cI 0,cI 1,cI 0,nCl,cB false,.d (nsl []),cB false,nCl])] qp1_4 (.cons (i:=0) (eC 22 _) (.nil)) (by kernel_rfl) (by simp)))] [] [(4,vS 9 [[.raw (.bool true),.raw (.int .i64 0),.raw (.int .i64 1),.raw (.int .i64 0),.raw zaa,.raw (.bool false),nsl [],.raw (.bool false),.raw zaa]])] h fun a w h=>Jg 3 [(3,.call (Fn.argw (Fn.cast (SSearch zcm ps9 zgw 1000 (L:=3) zkg (by decide) prc19 ps9_ok (by decide) any9_ok) (show (vG [cI (zey zcm ps9 zgw 1000).state,.d (.sl 2 ((zey zcm ps9 zgw 1000).run.stem.map eF)),.d (.sl 2 ((zey zcm ps9 zgw 1000).run.cycle.map eF)),cIs (zey zcm ps9 zgw 1000).run.acts,cI (zey zcm ps9 zgw 1000).left]:V) = .t (.agg [cI 1,.d (.sl 2 (run9.stem.map eF)),.d (.sl 2 (run9.cycle.map eF)),cIs run9.acts,cI 994]) from by rw [ev91])) (WkA.cons _ _ _ _ (WkV.refl _) (WkA.cons _ _ _ _ wkP9 (WkA.cons _ _ _ _ wkanyA9 (WkA.cons _ _ _ _ (WkV.refl _) .nil)))))),(7,.call (Fn.argw (Fn.cast (SSearch zcm ps9 nevA9 1000 (L:=3) zkg (by decide) prc19 ps9_ok (by decide) nev9_ok) (show (vG [cI (zey zcm ps9 nevA9 1000).state,.d (.sl 2 ((zey zcm ps9 nevA9 1000).run.stem.map eF)),.d (.sl 2 ((zey zcm ps9 nevA9 1000).run.cycle.map eF)),cIs (zey zcm ps9 nevA9 1000).run.acts,cI (zey zcm ps9 nevA9 1000).left]:V) = .t (.agg [cI 2,.d (.sl 2 (run0.stem.map eF)),.d (.sl 2 (run0.cycle.map eF)),cIs run0.acts,cI 1000]) from by rw [ev92])) (WkA.cons _ _ _ _ (WkV.refl _) (WkA.cons _ _ _ _ wkP9 (WkA.cons _ _ _ _ wknevA9 (WkA.cons _ _ _ _ (WkV.refl _) .nil)))))),(11,.call (Fn.argw (Fn.cast (SSearch zcm ps9 zgw 1 (L:=3) zkg (by decide) prc19 ps9_ok (by decide) any9_ok) (show (vG [cI (zey zcm ps9 zgw 1).state,.d (.sl 2 ((zey zcm ps9 zgw 1).run.stem.map eF)),.d (.sl 2 ((zey zcm ps9 zgw 1).run.cycle.map eF)),cIs (zey zcm ps9 zgw 1).run.acts,cI (zey zcm ps9 zgw 1).left]:V) = .t (.agg [cI 3,.d (.sl 2 (run0.stem.map eF)),.d (.sl 2 (run0.cycle.map eF)),cIs run0.acts,cI 0]) from by rw [ev93])) (WkA.cons _ _ _ _ (WkV.refl _) (WkA.cons _ _ _ _ wkP9 (WkA.cons _ _ _ _ wkanyA9 (WkA.cons _ _ _ _ (WkV.refl _) .nil))))))] [2,3,4] [(5,vp 3 0),(6,vp 4 0),(7,vp 5 0)] [1,2] [(3,.box [cI 1,.d (.sl 2 (run9.stem.map eF)),.d (.sl 2 (run9.cycle.map eF)),cIs run9.acts,cI 994]),(4,.box [cI 2,.d (.sl 2 (run0.stem.map eF)),.d (.sl 2 (run0.cycle.map eF)),cIs run0.acts,cI 1000]),(5,.box [cI 3,.d (.sl 2 (run0.stem.map eF)),.d (.sl 2 (run0.cycle.map eF)),cIs run0.acts,cI 0])] h fun a w h=>Jq 6 [(2,.cmp (op:=.eql) (m:=1) (n:=1) (b:=true) .i64 (show ((1:Int) == 1)=true from by decide)),(7,.call (Fn.cast (SRRight zcm run9 (L:=3) (M:=6) (by decide) zkg run9_ok) (congrArg vb rt9))),(12,.cmp (op:=.eql) (m:=2) (n:=2) (b:=true) .i64 (show ((2:Int) == 2)=true from by decide)),(17,.cmp (op:=.eql) (m:=3) (n:=3) (b:=true) .i64 (show ((3:Int) == 3)=true from by decide)),(22,.cmp (op:=.eql) (m:=0) (n:=0) (b:=true) .i64 (show ((0:Int) == 0)=true from by decide))] [(0,vb true)] [] h fun a w h=>qV (rT (.c (cB true)) h rfl ?_);rfl
section
variable {s:zab} {ps:List zal} {au:zay}
theorem small_few {most:Int} (h:zgo s most=true):zbn 3 s=true:=by unfold zgo at h;rw [bT] at h;exact h.1
theorem fewP_ok (h:fewP ps=true) (hl:∀ p ∈ ps,p.f.lb):(∀ p ∈ ps,zfl 3 p)/\ps.length<=1000:=by
 unfold fewP at h
 rw [bT,decide_eq_true_eq] at h
 exact ⟨fun p hp=>⟨hl p hp,fewF_ok (bM.1 h.1 p hp) (hl p hp)⟩,by omega⟩
theorem fewU_ok (h:fewU au=true) (hg:au.good.length<=9223372036854775807):zfa au:=by
 unfold fewU at h
 simp only [bT,Bool.not_eq_true', d7,decide_eq_false_iff_not] at h
 refine ⟨by omega,by omega,hg,fun nd hnd=>?_⟩
 have h2:=bM.1 h.2 nd hnd
 unfold fewND at h2
 simp only [Bool.not_eq_true', d7,decide_eq_false_iff_not] at h2
 omega
end
section
open Go.WideShapes
section
variable {w:World} {n:Nat}
theorem rep_PropQ:zfk w n 110 zal.d (fun p=>p.f.lb) :=
 ((zcf (n:=n) Tryz.underlying110 (by kernel_rfl) (.cons (k0:=1) rfl (by kernel_rfl) (zhj Tryz.underlying4) (.cons (k0:=1) rfl (by kernel_rfl) (zgc Tryz.underlying3) (.cons (k0:=1) rfl (by kernel_rfl) (zgc Tryz.underlying3) (.cons (k0:=6) rfl (by kernel_rfl) zkk .nil))))).map (fun p=>⟨p.1,p.2.1,p.2.2.1,p.2.2.2.1⟩) (fun _=>by rw [za7.d_eq];rfl) fun _ h=>h.2.2.2.1).mono (Nat.le_succ n)
theorem rep_PropsQ:zfk w n 57 (slD 9 zal.d) (fun xs=>xs.length<=maxLen/\∀ x ∈ xs,x.f.lb) :=
 zcw (k:=9) Tryz.underlying57 (by kernel_rfl) (by decide) (fun _=>rfl) rep_PropQ
theorem rep_boolsQ:zfk w n 59 (slD 1 za3) (fun xs=>xs.length<=maxLen/\∀ x ∈ xs,True) :=
 zcw (k:=1) Tryz.underlying59 (by kernel_rfl) (by decide) (fun _=>rfl) (zhj Tryz.underlying4)
theorem rep_NodeQ:zfk w n 108 eG (fun _=>True) :=
 ((zcf (n:=n) Tryz.underlying108 (by kernel_rfl) (.cons (k0:=1) rfl (by kernel_rfl) zkj (.cons (k0:=1) rfl (by kernel_rfl) zkj (.cons (k0:=1) rfl (by kernel_rfl) zkj .nil)))).map (fun p=>⟨p.1,p.2.1,p.2.2.1⟩) (fun _=>rfl) fun _ _=>trivial).mono (Nat.le_succ n)
theorem rep_NodesQ:zfk w n 58 (slD 3 eG) (fun xs=>xs.length<=maxLen/\∀ x ∈ xs,True) :=
 zcw (k:=3) Tryz.underlying58 (by kernel_rfl) (by decide) (fun _=>rfl) rep_NodeQ
theorem rep_AutQ:zfk w n 61 zay.d (fun x=>x.nodes.length<=maxLen/\x.good.length<=maxLen) :=
 ((zcf (n:=n) Tryz.underlying61 (by kernel_rfl) (.cons (k0:=1) rfl (by kernel_rfl) rep_NodesQ (.cons (k0:=1) rfl (by kernel_rfl) zkj (.cons (k0:=1) rfl (by kernel_rfl) rep_boolsQ .nil)))).map (fun p=>⟨p.1,p.2.1,p.2.2.1⟩) (fun _=>rfl) fun _ h=>⟨h.1.1,h.2.2.1.1⟩).mono (Nat.le_succ n)
end
end
theorem notin_snoc {xs:List Int} {n:Int} (h:xs[j]?=some x) (hx:(x == n)=false) (hp:n ∉ xs.take j):n ∉ xs.take (j+1):=by
 rw [cM,h]
 intro hm
 rcases bG.1 hm with hm | hm
 ·exact hp hm
 ·have:n=x:=by simpa using hm
  subst this;simp at hx
def gdN (a:zay) (k:Nat):Bool:=(a.good[k]?).getD false
def anS (list:List Int) (keep:List Bool) (z:List Int × Int) (i:Nat):List Int × Int :=
  if (keep[i]?).getD false=true then (if decide ((i:Int) ∈ list)=true then z.1++[z.2] else z.1,z.2+1) else z
def anK (list:List Int) (keep:List Bool) (j:Nat):List Int × Int:=(bI j).foldl (anS list keep) ([],0)
def ze9 (list:List Int) (keep:List Bool):List Int:=(anK list keep keep.length).1
theorem zl8 (list:List Int) (keep:List Bool) (j:Nat):anK list keep (j+1)=anS list keep (anK list keep j) j:=by unfold anK;rw [bK,dC];rfl
theorem anK_ok (list:List Int) (keep:List Bool):∀ j,(anK list keep j).1.length<=j/\0<=(anK list keep j).2/\(anK list keep j).2<=(j:Int)
 | 0=>⟨bS _,Int.le_refl _,Int.le_refl _⟩
 | j+1=>by
  have h:=anK_ok list keep j
  rw [zl8];unfold anS
  split
  ·refine ⟨?_,by show 0<=_+1;omega,by show _+1<=((j+1:Nat):Int);omega⟩
   split
   ·show (_++[_]).length<=_;simp;omega
   ·show (anK list keep j).1.length<=_;omega
  ·exact ⟨by omega,h.2.1,by omega⟩
def zem (s:zab) (x y:StD):Bool:=(bI (s.acts.length+1)).any fun k=>zcp s x ((k:Int) - 1) y
theorem any_snoc {f:Nat->Bool} (h:(bI j).any f=false) (hx:f j=false):(bI (j+1)).any f=false:=by
 rw [bK,dD,h];simp [hx]
theorem any_hit {f:Nat->Bool} (h:f j=true) (hj:j<n):(bI n).any f=true:=cW.2 ⟨j,cE.2 hj,h⟩
theorem any_at {f:α->Bool} {xs:List α} {x:α} (h:xs[j]?=some x) (hx:f x=true):xs.any f=true:=cW.2 ⟨x,bR h,hx⟩
theorem any_take {f:α->Bool} {xs:List α} {x:α} (h:xs[j]?=some x) (hx:f x=false) (hp:(xs.take j).any f=false):(xs.take (j+1)).any f=false:=by
 rw [cM,h,dD,hp];simp [hx]
theorem SIn17 (xs:List Int) (n:Int) (hl:xs.length<=9223372036854775807):Fn eB 104 [] [(vIs xs),vI n] (vb (decide (n ∈ xs))) []:=by
 refine fB Tryz.func104 rfl 18 fun w H B a h=>Jq 0 [] [(0,(vIs xs)),(1,vI n),(4,vb false)] [] h fun a w h=>qW (Jg 0 [] [] [(5,vI 0)] [] [] h fun a w h=>qZ ?_)
 refine zcc (ι:=(Nat)) (fun j=>j<=xs.length/\n ∉ xs.take j)
   [4] (fun j=>[(5,vN j)])
   [] (fun j=>[])
   (fun j=>xs.length - j) 0 ?_ h ?_
 ·exact ⟨bH _,by rw [cO];simp⟩
 clear h;rintro j a w hI h;obtain ⟨hI1,hI2⟩:=hI;refine qW (Jg 0 [(2,.len (za1 1 za8 xs))] [] [(9,vb (decide ((j:Int)<(xs.length:Int))))] [] [] h fun a w h=>zag ((j:Int)<(xs.length:Int)) h (fun hc1 hc1'=>?_) (fun hc4 hc4'=>?_))
 ·refine qU (za0 (qW (qZ ?_)));obtain ⟨x1,hx1⟩:=gl xs j;refine Jg 0 [(2,.g (xD 14 12 zdj (za4 hx1 (f:=za8)) (eC 13 _)))] [9] [(17,vb (x1 == n))] [] [] h fun a w h=>cS (x1 == n) h (fun hc2=>?_) (fun hc3=>?_)
  ·refine Jg 0 [] [17] [(4,vb true)] [] [] h fun a w h=>qV (za6 (za2 (za2 (za6 (za2 (rT (.c (cB true)) h rfl ?_))))));have hz:decide (n ∈ xs)=true:=decide_eq_true (by have h9:=lM hx1;rw [show x1=n by simpa using hc2] at h9;exact h9);rw [hz];try rfl
  refine qU (za5 (za0 (Jh 0 [(1,.j1 j)] [17] [(5,vI ((j:Int)+1))] [] [] h fun a w h=>za0 (za9 (x:=j) (y:=j+1) h ?_ ?_))))
  ·have:=zac hx1;exact ⟨by omega,notin_snoc hx1 hc3 hI2⟩
  show xs.length - (j+1)<xs.length - j;have:=zac hx1;omega
 refine exA (Jq 0 [] [(4,vb false)] [] h fun a w h=>qV (rT (.c (cB false)) h rfl ?_));have hz:decide (n ∈ xs)=false:=decide_eq_false (by rw [show xs.take j=xs from cP (by omega)] at hI2;exact hI2);rw [hz];try rfl
theorem SGood17 (au:zay) (k:Nat) (hl:au.good.length<=9223372036854775807):Fn eB 105 [] [vG [.d (.sl 3 (au.nodes.map eG)),cIs au.first,.d (.sl 1 (au.good.map za3))],vN k] (vb (gdN au k)) []:=by
 refine fB Tryz.func105 rfl 17 fun w H B a h=>Jq 0 [] [(1,vN k),(2,vp 0 0),(4,vb false)] [(0,.box [.d (.sl 3 (au.nodes.map eG)),cIs au.first,.d (.sl 1 (au.good.map za3))])] h fun a w h=>?_
 rcases bJ (decide ((k:Int)<(au.good.length:Int))) with hc1 | hc2
 ·have hc1':=dT hc1;obtain ⟨x1,hx1⟩:=gl au.good k;refine Jq 1 [(3,.len (za1 1 za3 au.good)),(4,.cmp (op:=.lss) (m:=(k:Int)) (n:=(au.good.length:Int)) (b:=true) .i64 hc1),(9,.g (xD 14 12 zda (za4 hx1 (f:=za3)) (eC 13 _)))] [(4,vb x1)] [] h fun a w h=>qV (rT (.c (cB x1)) h rfl ?_);have hz:gdN au k=x1:=by unfold gdN;rw [hx1];rfl
  rw [hz];try rfl
 have hc2':=dF hc2;refine Jq 1 [(3,.len (za1 1 za3 au.good)),(4,.cmp (op:=.lss) (m:=(k:Int)) (n:=(au.good.length:Int)) (b:=false) .i64 hc2)] [(4,vb false)] [] h fun a w h=>qV (rT (.c (cB false)) h rfl ?_);have hz:gdN au k=false:=by unfold gdN;rw [cL (by have:=dF hc2;omega)];rfl
 rw [hz];try rfl
theorem SAnew17 (list:List Int) (keep:List Bool) (hl:list.length<=9223372036854775807) (hk:keep.length<=1000000):Fn eB 106 [] [(vIs list),vS 1 (keep.map za3)] (vIs (ze9 list keep)) []:=by
 refine fB Tryz.func106 rfl 29 fun w H B a h=>Jq 0 [] [(0,(vIs list)),(1,vS 1 (keep.map za3)),(4,vW zaa)] [] h fun a w h=>Jg 0 [(0,.g (Op.buildE (d:=8) (n:=0) tb_0))] [] [(5,vO 0 0)] [] [(0,.row 3 1 ([].map za8))] h fun a w h=>Je 1 [] [] [(6,vI 0)] h fun a w h=>qW (Je 1 [] [] [(7,vI 0)] h fun a w h=>qZ ?_)
 replace h:=zd8 0 9 h;replace h:=cvM [] [(5,vO 9 (anK list keep 0).1.length),(6,vI (anK list keep 0).2)] [] [(9,.row 3 1 ((anK list keep 0).1.map za8))] (by kernel_rfl) h
 refine zcc (ι:=(Nat)) (fun j=>j<=keep.length)
   [] (fun j=>[(5,vO 9 (anK list keep j).1.length),(6,vI (anK list keep j).2),(7,vN j)])
   [] (fun j=>[(9,.row 3 1 ((anK list keep j).1.map za8))])
   (fun j=>keep.length - j) 0 ?_ h ?_
 ·exact bH _
 clear h;rintro j a w hI h;have lan:=anK_ok list keep j;refine qW (Je 1 [(2,.len (za1 1 za3 keep))] [] [(12,vb (decide ((j:Int)<(keep.length:Int))))] h fun a w h=>zag ((j:Int)<(keep.length:Int)) h (fun hc1 hc1'=>?_) (fun hc6 hc6'=>?_))
 ·refine qU (za0 (qW (qZ ?_)));obtain ⟨x1,hx1⟩:=gl keep j;refine Je 1 [(2,.g (xD 17 15 zda (za4 hx1 (f:=za3)) (eC 16 _)))] [12] [(18,vb x1)] h fun a w h=>cS x1 h (fun hc2=>?_) (fun hc5=>?_)
  ·refine qW (Je 1 [(2,.call (SIn17 list (j:Int) hl))] [18] [(21,vb (decide ((j:Int) ∈ list)))] h fun a w h=>zag ((j:Int) ∈ list) h (fun hc3 hc3'=>?_) (fun hc4 hc4'=>?_))
   ·refine Jh 1 [(2,.g (bD 24 ([(anK list keep j).2].map za8) [(23,vI (anK list keep j).2)] tb_0 (.cons (i:=0) (eC 23 _) (.nil)) (by kernel_rfl) (by simp [za8]))),(3,.g (Op.appOD (d:=25) (t:=22) (u:=24) (n:=9) (n':=1) (len:=(anK list keep j).1.length) (len':=((anK list keep j).1++[(anK list keep j).2]).length) (rows:=(anK list keep j).1.map za8) (rows2:=[(anK list keep j).2].map za8) (rows':=((anK list keep j).1++[(anK list keep j).2]).map za8) tb_2 (by first | exact (bC _).symm | simp) (by first | (rw [bL,bC];done) | (simp;done) | (simp;omega)) (by simp) (by simp [za8]) (by first | omega | (simp only [bC,b7,cF];omega))))] [21] [(5,vO 1 ((anK list keep j).1++[(anK list keep j).2]).length)] [9] [(1,.row 3 1 (((anK list keep j).1++[(anK list keep j).2]).map za8))] h fun a w h=>za0 (Jf 2 [(1,.add .i64 (m:=(anK list keep j).2) (n:=1) i6)] [] [(6,vI ((anK list keep j).2+1))] h fun a w h=>za5 (za0 (Jf 2 [(1,.j1 j)] [] [(7,vI ((j:Int)+1))] h fun a w h=>za0 ?_)));have hst:anK list keep (j+1)=(((anK list keep j).1++[(anK list keep j).2],(anK list keep j).2+1):List Int × Int):=(zl8 list keep j).trans ((if_pos (by rw [hx1];exact hc2)).trans (by rw [if_pos hc3]));replace h:=cvM [] [(5,vO 1 (anK list keep (j+1)).1.length),(6,vI (anK list keep (j+1)).2)] [] [(1,.row 3 1 ((anK list keep (j+1)).1.map za8))] (by rw [hst]; try kernel_rfl) h;replace h:=zd8 1 9 h;refine za9 (x:=j) (y:=j+1) h ?_ ?_
    ·have:=zac hx1;show j+1<=keep.length;omega
    show keep.length - (j+1)<keep.length - j;have:=zac hx1;omega
   refine qU (za0 (Jf 2 [(1,.add .i64 (m:=(anK list keep j).2) (n:=1) i6)] [21] [(6,vI ((anK list keep j).2+1))] h fun a w h=>za5 (za0 (Jf 2 [(1,.j1 j)] [] [(7,vI ((j:Int)+1))] h fun a w h=>za0 ?_))));have hst:anK list keep (j+1)=(((anK list keep j).1,(anK list keep j).2+1):List Int × Int):=(zl8 list keep j).trans ((if_pos (by rw [hx1];exact hc2)).trans (by rw [if_neg (by rw [hc4];exact Bool.noConfusion)]));replace h:=cvM [] [(5,vO 9 (anK list keep (j+1)).1.length),(6,vI (anK list keep (j+1)).2)] [] [(9,.row 3 1 ((anK list keep (j+1)).1.map za8))] (by rw [hst]; try kernel_rfl) h;refine za9 (x:=j) (y:=j+1) h ?_ ?_
   ·have:=zac hx1;show j+1<=keep.length;omega
   show keep.length - (j+1)<keep.length - j;have:=zac hx1;omega
  refine qU (za5 (za0 (Jf 2 [(1,.j1 j)] [18] [(7,vI ((j:Int)+1))] h fun a w h=>za0 ?_)));have hst:anK list keep (j+1)=(anK list keep j):=(zl8 list keep j).trans (if_neg (by rw [hx1,show (some x1).getD false=x1 from rfl,hc5];exact Bool.noConfusion));replace h:=cvM [] [(5,vO 9 (anK list keep (j+1)).1.length),(6,vI (anK list keep (j+1)).2)] [] [(9,.row 3 1 ((anK list keep (j+1)).1.map za8))] (by rw [hst]; try kernel_rfl) h;refine za9 (x:=j) (y:=j+1) h ?_ ?_
  ·have:=zac hx1;show j+1<=keep.length;omega
  show keep.length - (j+1)<keep.length - j;have:=zac hx1;omega
 refine exA (Jp 2 [] [(4,vO 9 (anK list keep j).1.length)] h fun a w h=>qV ?_);replace h:=cvM [] [(4,vO 9 (ze9 list keep).length)] [] [(9,.row 3 1 ((ze9 list keep).map za8))] (by rw [show j=keep.length by have:=dF hc6;omega]; try kernel_rfl) h;replace h:=zhz 9 1 3 ((ze9 list keep).map za8) h [(ze9 list keep).length] ⟨by first | exact (bC _).symm | (simp;done) | (simp;omega),trivial⟩;refine rT (.c (cIs (ze9 list keep))) h rfl ?_;rfl
theorem SLet15p (k:Nat) (l:List Bool) (hl:l.length<=9223372036854775807):Fn eB 102 [] [vG [nCl,.d (.sl 1 ([l].map (slD 1 za3)))],vI 0,vN k] (vb (hdB l (k:Int))) []:=by
 refine fB Tryz.func102 rfl 46 fun w H B a h=>Jq 0 [] [(1,vI 0),(2,vN k),(3,vp 0 0),(6,vb false)] [(0,.box [nCl,.d (.sl 1 ([l].map (slD 1 za3)))])] h fun a w h=>Je 1 [(0,.g (Op.buildED (d:=8) zjk))] [] [(7,vS 1 ([].map za3))] h fun a w h=>qW (Je 1 [(4,.cmp (op:=.lss) (m:=0) (n:=0) (b:=false) .i64 (show (decide (0<0))=false from by decide))] [] [(13,vb false)] h fun a w h=>zbs h (Jh 1 [(6,.sub .i64 (m:=0) (n:=0) i6),(9,.len (c:=(.d (.sl 1 ([l].map (slD 1 za3))))) (n:=[l].length) (za1 _ _ _)),(10,.g (Op.rem (d:=29) (xt:=3) (yt:=3) (k:=.i64) (m:=(0 - 0)) (n:=([l].length:Int)) (r:=0) (eC 25 _) (eC 28 _) (by show (1:Int)≠0;decide) (by show Int.tmod (0 - 0) 1=0;decide))),(11,.g (xD 30 20 zek (za4 (show [l][0]?=some l from rfl) (f:=(slD 1 za3))) (eC 29 _)))] [1,3,13] [(7,vS 1 (l.map za3))] [0] [] h fun a w h=>za0 ?_))
 rcases bJ (decide ((k:Int)<(l.length:Int))) with hc1 | hc2
 ·have hc1':=dT hc1;obtain ⟨x1,hx1⟩:=gl l k;refine Jq 1 [(1,.cmp (op:=.geq) (m:=(k:Int)) (n:=0) (b:=true) .i64 (show decide ((k:Int)>=0)=true from decide_eq_true (by omega))),(5,.len (za1 1 za3 l)),(6,.cmp (op:=.lss) (m:=(k:Int)) (n:=(l.length:Int)) (b:=true) .i64 hc1),(11,.g (xD 43 41 zda (za4 hx1 (f:=za3)) (eC 42 _)))] [(6,vb x1)] [] h fun a w h=>qV (rT (.c (cB x1)) h rfl ?_);have hz:hdB l (k:Int)=x1:=by unfold hdB;rw [decide_eq_true (p:=(0:Int)<=(k:Int)) (by omega),cG];rw [hc1,cG,show ((k:Int)).toNat=k by omega,hx1];rfl
  rw [hz];try rfl
 have hc2':=dF hc2;refine Jq 1 [(1,.cmp (op:=.geq) (m:=(k:Int)) (n:=0) (b:=true) .i64 (show decide ((k:Int)>=0)=true from decide_eq_true (by omega))),(5,.len (za1 1 za3 l)),(6,.cmp (op:=.lss) (m:=(k:Int)) (n:=(l.length:Int)) (b:=false) .i64 hc2)] [(6,vb false)] [] h fun a w h=>qV (rT (.c (cB false)) h rfl ?_);have hz:hdB l (k:Int)=false:=by unfold hdB;rw [decide_eq_true (p:=(0:Int)<=(k:Int)) (by omega),cG];rw [hc2];rfl
 rw [hz];try rfl
theorem SLet15n (p:Int) (l:List Bool) (hp:p<0):Fn eB 102 [] [vG [nCl,.d (.sl 1 ([l].map (slD 1 za3)))],vI 0,vI p] (vb (hdB l p)) []:=by
 refine fB Tryz.func102 rfl 46 fun w H B a h=>Jq 0 [] [(1,vI 0),(2,vI p),(3,vp 0 0),(6,vb false)] [(0,.box [nCl,.d (.sl 1 ([l].map (slD 1 za3)))])] h fun a w h=>Je 1 [(0,.g (Op.buildED (d:=8) zjk))] [] [(7,vS 1 ([].map za3))] h fun a w h=>qW (Je 1 [(4,.cmp (op:=.lss) (m:=0) (n:=0) (b:=false) .i64 (show (decide (0<0))=false from by decide))] [] [(13,vb false)] h fun a w h=>zbs h (Jh 1 [(6,.sub .i64 (m:=0) (n:=0) i6),(9,.len (c:=(.d (.sl 1 ([l].map (slD 1 za3))))) (n:=[l].length) (za1 _ _ _)),(10,.g (Op.rem (d:=29) (xt:=3) (yt:=3) (k:=.i64) (m:=(0 - 0)) (n:=([l].length:Int)) (r:=0) (eC 25 _) (eC 28 _) (by show (1:Int)≠0;decide) (by show Int.tmod (0 - 0) 1=0;decide))),(11,.g (xD 30 20 zek (za4 (show [l][0]?=some l from rfl) (f:=(slD 1 za3))) (eC 29 _)))] [1,3,13] [(7,vS 1 (l.map za3))] [0] [] h fun a w h=>za0 (Jq 1 [(1,.cmp (op:=.geq) (m:=p) (n:=0) (b:=false) .i64 (show decide (p>=0)=false from decide_eq_false (by omega)))] [(6,vb false)] [] h fun a w h=>qV (rT (.c (cB false)) h rfl ?_))))
 unfold hdB;rw [decide_eq_false (p:=0<=p) (by omega)];rfl
theorem SLet15 (l:List Bool) (p:Int) (hl:l.length<=9223372036854775807):Fn eB 102 [] [vG [nCl,.d (.sl 1 ([l].map (slD 1 za3)))],vi .i64 0,vi .i64 p] (vb (hdB l p)) []:=by
 by_cases hp:p<0
 ·exact SLet15n p l hp
 ·obtain ⟨k,rfl⟩:=Int.eq_ofNat_of_zero_le (show 0<=p by omega)
  exact SLet15p k l hl
theorem SAllows19 (nd:zaf) (l:List Bool) (hl:l.length<=9223372036854775807) (hn1:nd.must.length<=9223372036854775807) (hn2:nd.never.length<=9223372036854775807):Fn eB 55 [] [vG [cIs nd.must,cIs nd.never,cIs nd.next],vS 1 (l.map za3)] (vb (zha nd l)) []:=by
 refine fB Tryz.func55 rfl 40 fun w H B a h=>Jq 0 [] [(1,vS 1 (l.map za3)),(2,vp 0 0),(4,vb false)] [(0,.box [cIs nd.must,cIs nd.never,cIs nd.next])] h fun a w h=>Jg 1 [(1,.g (bD 9 ([l].map (slD 1 za3)) [(8,vS 1 (l.map za3))] kn_15 (.cons (i:=0) (eC 8 _) (.nil)) (by kernel_rfl) (by simp [slD])))] [1] [(5,vp 1 0)] [] [(1,.box [nCl,.d (.sl 1 ([l].map (slD 1 za3)))])] h fun a w h=>qW (Je 2 [] [] [(6,vI 0)] h fun a w h=>qZ ?_)
 refine zcc (ι:=(Nat)) (fun j=>j<=nd.must.length/\(nd.must.take j).any (fun p=>!hdB l p)=false)
   [4] (fun j=>[(6,vN j)])
   [] (fun j=>[])
   (fun j=>nd.must.length - j) 0 ?_ h ?_
 ·exact ⟨bH _,by rw [cO];rfl⟩
 clear h;rintro j a w hI h;obtain ⟨hI1,hI2⟩:=hI;refine qW (Je 2 [(3,.len (za1 1 za8 nd.must))] [] [(15,vb (decide ((j:Int)<(nd.must.length:Int))))] h fun a w h=>zag ((j:Int)<(nd.must.length:Int)) h (fun hc1 hc1'=>?_) (fun hc4 hc4'=>?_))
 ·refine qU (za0 (qW (qZ ?_)));obtain ⟨x1,hx1⟩:=gl nd.must j;refine Je 2 [(4,.g (xD 22 20 zdj (za4 hx1 (f:=za8)) (eC 21 _))),(6,.call (SLet15 l x1 hl))] [15] [(25,vb (!(hdB l x1)))] h fun a w h=>cS (!(hdB l x1)) h (fun hc2=>?_) (fun hc3=>?_)
  ·refine Je 2 [] [25] [(4,vb false)] h fun a w h=>qV (za6 (za2 (za2 (za6 (za2 (rT (.c (cB false)) h rfl ?_))))));have hz:zha nd l=false:=by unfold zha;rw [any_at (f:=fun p=>!hdB l p) hx1 (by rw [(show (hdB l x1)=false from by simpa using hc2)];rfl)];rfl
   rw [hz];try rfl
  refine qU (za5 (za0 (Jf 2 [(1,.j1 j)] [25] [(6,vI ((j:Int)+1))] h fun a w h=>za0 (za9 (x:=j) (y:=j+1) h ?_ ?_))))
  ·have:=zac hx1;exact ⟨by omega,any_take (f:=(fun p=>!hdB l p)) hx1 (by rw [(show (hdB l x1)=true from by simpa using hc3)];rfl) hI2⟩
  show nd.must.length - (j+1)<nd.must.length - j;have:=zac hx1;omega
 refine exA (qW ?_);have hmu:nd.must.any (fun p=>!hdB l p)=false:=by rw [show nd.must.take j=nd.must from cP (by have:=dF hc4;omega)] at hI2;exact hI2
 refine Je 2 [] [6,15] [(7,vI 0)] h fun a w h=>qZ ?_
 refine zcc (ι:=(Nat)) (fun j=>j<=nd.never.length/\(nd.never.take j).any (hdB l)=false)
   [] (fun j=>[(7,vN j)])
   [] (fun j=>[])
   (fun j=>nd.never.length - j) 0 ?_ h ?_
 ·exact ⟨bH _,by rw [cO];rfl⟩
 clear h;rintro j a w hI h;obtain ⟨hI1,hI2⟩:=hI;refine qW (Je 2 [(3,.len (za1 1 za8 nd.never))] [] [(30,vb (decide ((j:Int)<(nd.never.length:Int))))] h fun a w h=>zag ((j:Int)<(nd.never.length:Int)) h (fun hc5 hc5'=>?_) (fun hc8 hc8'=>?_))
 ·refine qU (za0 (qW (qZ ?_)));obtain ⟨x3,hx3⟩:=gl nd.never j;refine Je 2 [(4,.g (xD 37 35 zdj (za4 hx3 (f:=za8)) (eC 36 _))),(6,.call (SLet15 l x3 hl))] [30] [(39,vb (hdB l x3))] h fun a w h=>cS (hdB l x3) h (fun hc6=>?_) (fun hc7=>?_)
  ·refine Je 2 [] [39] [(4,vb false)] h fun a w h=>qV (za6 (za2 (za2 (za6 (za2 (rT (.c (cB false)) h rfl ?_))))));have hz:zha nd l=false:=by unfold zha;rw [any_at (f:=hdB l) hx3 hc6,Bool.not_true,dB]
   rw [hz];try rfl
  refine qU (za5 (za0 (Jf 2 [(1,.j1 j)] [39] [(7,vI ((j:Int)+1))] h fun a w h=>za0 (za9 (x:=j) (y:=j+1) h ?_ ?_))))
  ·have:=zac hx3;exact ⟨by omega,any_take (f:=(hdB l)) hx3 hc7 hI2⟩
  show nd.never.length - (j+1)<nd.never.length - j;have:=zac hx3;omega
 refine exA (Jq 2 [] [(4,vb true)] [] h fun a w h=>qV (rT (.c (cB true)) h rfl ?_));have hz:zha nd l=true:=by unfold zha;rw [show nd.never.take j=nd.never from cP (by have:=dF hc8;omega)] at hI2;rw [hmu,hI2];rfl
 rw [hz];try rfl
theorem SRLeads19 (s:zab) (x y:StD) {L M:Nat} (hL:L+M<=1900) (hs:zaw L s) (hx:zdh M x) (hy:zdh M y):Fn eB 54 [] [vG [.d (.sl 1 (s.vars.map zdz)),.d (.sl 5 (s.bounds.map zaj.d)),cI s.init.kind,cPs s.init.r.t.parts,cB s.init.r.t.k.neg,.d (nsl s.init.r.t.k.abs),cB s.init.r.eq,cFs s.init.kids,.d (.sl 3 (s.procs.map zb2.d)),.d (.sl 10 (s.acts.map zb1.d))],vG [cIs x.locs,cZs x.vals],vG [cIs y.locs,cZs y.vals]] (vb (zem s x y)) []:=by
 have lac:=hs.acts;refine fB Tryz.func54 rfl 20 fun w H B a h=>Jq 0 [] [(3,vp 0 0),(4,vp 1 0),(5,vp 2 0),(6,vb false)] [(0,.box [.d (.sl 1 (s.vars.map zdz)),.d (.sl 5 (s.bounds.map zaj.d)),cI s.init.kind,cPs s.init.r.t.parts,cB s.init.r.t.k.neg,.d (nsl s.init.r.t.k.abs),cB s.init.r.eq,cFs s.init.kids,.d (.sl 3 (s.procs.map zb2.d)),.d (.sl 10 (s.acts.map zb1.d))]),(1,.box [cIs x.locs,cZs x.vals]),(2,.box [cIs y.locs,cZs y.vals])] h fun a w h=>qW (Je 3 [] [] [(7,vI (-1))] h fun a w h=>qZ ?_)
 replace h:=cvM [] [(7,vI (((0:Nat):Int) - 1))] [] [] (by rw [show ((-1):Int)=((0:Nat):Int) - 1 from rfl]; try kernel_rfl) h
 refine zcc (ι:=(Nat)) (fun k=>k<=s.acts.length+1/\(bI k).any (fun k=>zcp s x ((k:Int) - 1) y)=false)
   [6] (fun k=>[(7,vI ((k:Int) - 1))])
   [] (fun k=>[])
   (fun k=>s.acts.length+1 - k) 0 ?_ h ?_
 ·exact ⟨bH _,rfl⟩
 clear h;rintro k a w hI h;obtain ⟨hI1,hI2⟩:=hI;refine qW (Je 3 [(3,.len (za1 10 zb1.d s.acts))] [] [(12,vb (decide (((k:Int) - 1)<(s.acts.length:Int))))] h fun a w h=>zag (((k:Int) - 1)<(s.acts.length:Int)) h (fun hc1 hc1'=>?_) (fun hc4 hc4'=>?_))
 ·refine qU (za0 (qW (qZ (Je 3 [(4,.call (SRLeads s x ((k:Int) - 1) y (L:=L) (M:=M) hL hs hx hy))] [12] [(19,vb (zcp s x ((k:Int) - 1) y))] h fun a w h=>cS (zcp s x ((k:Int) - 1) y) h (fun hc2=>?_) (fun hc3=>?_)))))
  ·refine Je 3 [] [19] [(6,vb true)] h fun a w h=>qV (za6 (za2 (za2 (za6 (za2 (rT (.c (cB true)) h rfl ?_))))));have hz:zem s x y=true:=any_hit (f:=fun k=>zcp s x ((k:Int) - 1) y) hc2 (by have:=dT hc1;omega);rw [hz];try rfl
  refine qU (za5 (za0 (Jf 3 [(1,.add .i64 (m:=((k:Int) - 1)) (n:=1) i6)] [19] [(7,vI (((k:Int) - 1)+1))] h fun a w h=>za0 ?_)));replace h:=cvM [] [(7,vI (((k+1:Nat):Int) - 1))] [] [] (by rw [show (((k:Int) - 1)+1:Int)=((k+1:Nat):Int) - 1 from by omega]; try kernel_rfl) h;refine za9 (x:=k) (y:=k+1) h ?_ ?_
  ·have:=dT hc1;exact ⟨by omega,any_snoc (f:=fun k=>zcp s x ((k:Int) - 1) y) hI2 hc3⟩
  have:=dT hc1;show s.acts.length+1 - (k+1)<s.acts.length+1 - k;omega
 refine exA (Jq 3 [] [(6,vb false)] [] h fun a w h=>qV (rT (.c (cB false)) h rfl ?_));have hz:zem s x y=false:=by unfold zem;rw [show s.acts.length+1=k by have:=dF hc4;omega];exact hI2
 rw [hz];try rfl
abbrev RowAtC (H:Im) (B:Bl):=zk8 (CR H B)
section
variable {P:Program}
theorem Ok.rowc {H:Im} {B:Bl} (h:Ok e f H B a w) (hl:f.l n=some (.rowc ty es rows)) {b c:Nat} (hB:B n=some (b,c)) :
  ∃ arr:List Value,w.heap[b]?=some (.cells ⟨arr⟩ ty (0,0))/\arr.length=c*es/\rows.length<=c/\c<=maxLen/\(∀ r ∈ rows,r.length=es)/\RowAtC H B arr es rows:=by
 have h1:=h.loc n _ hl
 simp only [LR,hB] at h1
 obtain ⟨arr,h1,h2,h3,h4,h5,h6⟩:=h1
 exact ⟨arr,h1,h2,h3,h4,h5,(zea h2 h3 h5).1 h6⟩
theorem Op.loadC_c {d o fo:Nat} {r:List C} {x:C} {rty xt:TypeId} {pos af gd} (hs:Sz P xt m false) (ho:o=i*es+fo) (hr:rows[i]?=some r) (hx:r[fo]?=some x) :
  zb6 P ⟨some d,.load xt (.tmp t),ty,pos,af,gd⟩ { rs:=[(t,vp n o)],rl:=[(n,.rowc rty es rows)],ws:=[(d,some (.t (.c x)))] } :=
 zb6.value d _ rfl rfl rfl fun e f H B a w hok hr2=>by
  obtain ⟨b,c,hb,hu⟩:=(hok.slot t _ (hr2.1 (t,vp n o) (by simp))).ptrI
  obtain ⟨arr,h1,h2,h3,h4,h5,h6⟩:=hok.rowc (hr2.2 (n,.rowc rty es rows) (by simp)) hb
  obtain ⟨u,g1,g2⟩:=h6 i r hr fo x hx
  rw [<- ho] at g1
  refine ⟨u,?_,g2⟩
  have h7:a.eval (.tmp t) = .pointer (some ⟨b,o,none⟩):=hu
  generalize a.eval=ρ at h7 ⊢
  have h8:=zfw (P:=P) hs (ze7 h1 g1)
  simp only [execOp,h7,Instr.loadAt,Instr.sureAddr,Sem.run_bind,Sem.run_pure,Result.andThen_ok,h8]
theorem Op.buildOC {d len:Nat} {xs:List (Nat × Operand)} {vs:List (Nat × T)} {rs:List (Nat × V)} {t:TypeId} {pos af gd} (hT:ElZ P t el es) (h:OPs xs vs rs) (hf:zjq (plS len 0 es) (List.replicate (len*es) .any) vs=some rows.flatten)
  (hlen:rows.length=len) (hes:∀ r ∈ rows,r.length=es) (hl0:0<len) (hsm:len*es<=16777216) (hn0:∀ x ∈ rows.flatten,n ∉ x.tags) :
  zb6 P ⟨some d,.buildSlice t len ⟨xs⟩,ty,pos,af,gd⟩ { rs:=rs,ws:=[(d,some (.t (.c (.own n len))))],wl:=[(n,some (.rowc el es rows))],nw:=[n] }:=by
 refine zb6.news d n _ _ rfl rfl rfl (by simp) fun e f H B a w hok hr hn=>?_
 have hp:=h.eval hok hr.1
 obtain ⟨l,h1,h2⟩:=buildS_run (P:=P) hT hl0 hsm hp hf w
 have hfl:rows.flatten.length=len*es:=by rw [zit hes,hlen]
 have hll:l.length=len*es:=by rw [<- h2.length,hfl]
 refine ⟨.slice (some ⟨w.heap.size,0,none⟩) len len,len,.cells ⟨l⟩ el,?_,?_,?_⟩
 ·have e1:((⟨xs⟩:Array (Nat × Operand)).map fun x=>(x.1,a.eval x.2))=⟨xs.map fun p=>(p.1,a.eval p.2)⟩:=by simp
  simp only [execOp,e1,Sem.run_bind,h1,Result.andThen_ok,Sem.run_pure]
 ·simp only [LR,if_true]
  refine ⟨l,heap_alloc_new w _,hll,by omega,?_,hes,?_⟩
  ·have:len*1<=len*es:=Nat.mul_le_mul_left _ hT.pos
   simp only [maxLen];omega
  ·rw [cP (by rw [hll,hlen];exact bS _)]
   exact zb4.tagsMono h2 hn0
 ·simp [VR,TR,CR]
theorem Ok.ownC {H:Im} {B:Bl} (h:Ok e f H B a w) (hl:f.l n=some (.rowc el es rows)) {v:Value} (h1:CR H B (.own n rows.length) v):OwnR (CR H B) w el es rows v (B n):=by
 simp only [CR] at h1
 cases hB:B n with
 | none=>rw [hB] at h1;obtain ⟨h3,h4⟩:=h1;exact ⟨List.length_eq_zero_iff.1 h3,h4⟩
 | some q=>rw [hB] at h1;exact ⟨h1,h.rowc hl hB⟩
theorem Op.appOOC {d u n' sn len len2 len' bs:Nat} {rows2 rows':List (List C)} {xt:TypeId} {pos af gd} (hT:ElT P xt el es bs) (hlen:len=rows.length) (hlen2:len2=rows2.length) (hlen':len'=len+rows2.length) (hrow:rows++rows2=rows')
  (hb:(len+rows2.length)*bs<=140737488355328) :
  zb6 P ⟨some d,.call { callee:=.builtin .append,args:=#[.tmp t,.tmp u],argTypes:=#[xt,xt] }, ty,pos,af,gd⟩
   { rs:=[(t,.t (.c (.own n len))),(u,.t (.c (.own sn len2)))],rl:=[(n,.rowc el es rows),(sn,.rowc el es rows2)],ws:=[(d,some (.t (.c (.own n' len'))))],wl:=[(n', some (.rowc el es rows')),(n,none)],nw:=[n'] }:=by
 subst hlen hlen2 hlen' hrow
 refine Op.appG (List.mem_cons_self ..) fun e f H B a w hok hs hl hnew=>?_
 have hl1:=hl (n,.rowc el es rows) (by simp)
 have hl2:=hl (sn,.rowc el es rows2) (by simp)
 have h2:=hok.ownC hl2 (hok.slot u _ (hs (u,.t (.c (.own sn rows2.length))) (by simp)))
 obtain ⟨v,w', p,r1,r2,r⟩:=append_run (ty:=ty) hT (hok.ownC hl1 (hok.slot t _ (hs (t,.t (.c (.own n rows.length))) (by simp)))) h2.hes (h2.src fun _ _ h=>CR.flat h) hb
 refine ⟨v,w', p,r1,r2.cr (if_pos rfl) bL,?_,r⟩
 simp only [LR,if_true]
 cases p with
 | none=>exact r2.1
 | some q =>
  obtain ⟨_,arr,g1,g2,g3,g4,g5,g6⟩:=r2
  refine ⟨arr,g1,g2,g3,g4,g5,(zea g2 g3 g5).2 fun i r hri f x hx2=>?_⟩
  obtain ⟨u,j1,j2⟩:=g6 i r hri f x hx2
  refine ⟨u,j1,CR.mono (Le.refl H) (fun m hm=>if_neg (show ¬ m=n' from fun q=>?_)) j2⟩
  subst q
  rcases bG.1 (bR hri) with h' | h'
  ·exact hnew.2.2.2 n _ hl1 (by simp only [L.tags,bU];exact ⟨x,cX.2 ⟨r,h', bR hx2⟩,hm⟩)
  ·exact hnew.2.2.2 sn _ hl2 (by simp only [L.tags,bU];exact ⟨x,cX.2 ⟨r,h', bR hx2⟩,hm⟩)
end
def F.oft (sl:List (Nat × V)) (lc:List (Nat × L)) (tl:Nat->Option L):F:=⟨fun t=>sl.lookup t,fun n=>match lc.lookup n with | some l=>some l | none=>tl n⟩
structure Tl (tl:Nat->Option L) (low:Nat->Bool):Prop where
  z:∀ n,low n=true->tl n=none
  t:∀ n l,tl n=some l->∀ k ∈ l.tags,low k=false
def newT (low:Nat->Bool) (K:List Nat) (sl:List (Nat × V)) (lc:List (Nat × L)) (n:Nat):Bool:=low n && newB K sl lc n
theorem newT_spec {low:Nat->Bool} (hT:Tl tl low) {K:List Nat} (h:newT low K sl lc n=true):New K (F.oft sl lc tl) n:=by
 unfold newT at h
 rw [bT] at h
 obtain ⟨h1,h2,h3,h4⟩:=zcx h.2
 have h2:lc.lookup n=none:=h2
 refine ⟨h1,?_,h3,fun m l hm=>?_⟩
 ·show (match lc.lookup n with | some l=>some l | none=>tl n)=none
  rw [h2];exact hT.z n h.1
 ·have hm:(match lc.lookup m with | some l=>some l | none=>tl m)=some l:=hm
  cases e:lc.lookup m with
  | some x=>rw [e] at hm;injection hm with hm;subst hm;exact h4 m x e
  | none=>rw [e] at hm;intro hn;have:=hT.t m l hm n hn;rw [h.1] at this;cases this
theorem le_ofT (h1:leS f sl=sl.map fun p=>some p.2) (h2:leN f lc=lc.map fun p=>some p.2) (h3:∀ n l,tl n=some l->lc.lookup n=none->f.l n=some l):f.le (F.oft sl lc tl) :=
 ⟨fun _ _ hv=>zbw h1 _ (zau hv),fun n l hv=>by
  have hv:(match lc.lookup n with | some l=>some l | none=>tl n)=some l:=hv
  cases e:lc.lookup n with
  | some x=>rw [e] at hv;injection hv with hv;subst hv;exact zbw h2 _ (zau e)
  | none=>rw [e] at hv;exact h3 n l hv e⟩
theorem oft_l (h:n ∉ lc.map (·.1)):(F.oft sl lc tl).l n=tl n:=by
 show (match lc.lookup n with | some l=>some l | none=>tl n)=_
 rw [zdf h]
theorem runF_out:∀ {is:List I} {f:F} {n:Nat}, n ∉ is.flatMap (fun i=>i.wl.map (·.1))->(zig f is).l n=f.l n
 | [],_,_,_=>rfl
 | i :: is,f,n,h=>by
  simp only [List.flatMap_cons,bG,not_or] at h
  show (zig (f.app i) is).l n=_
  rw [runF_out h.2,zdo h.1]
def chkT (low:Nat->Bool) (draw:Bool) (ops:List Oper) (is:List I) (N:Nat) (K:List Nat) (sl:List (Nat × V)) (lc:List (Nat × L)):Bool :=
  zjh draw ops is && (is.all fun i=>i.ws.all fun p=>Nat.blt p.1 N) && (is.all fun i=>i.nw.all (newT low K sl lc)) && (is.all fun i=>!i.k0 || K.isEmpty) && ((lc.map (·.1)).all low && (is.flatMap fun i=>i.wl.map (·.1)).all low)
section
variable {P:Program} {Q:Exit->Act->World->Prop} {w0:World} {H0:Im} {B0:Bl} {K:List Nat} {N:Nat} {tl:Nat->Option L} {low:Nat->Bool}
theorem lowIn {ns:List Nat} (hT:Tl tl low) (h:ns.all low=true) (hn:tl n=some l):n ∉ ns:=fun hm=>by
 have:=hT.z n (bM.1 h n hm)
 rw [hn] at this;cases this
theorem regionT {id:Nat} {ops:Array Oper} (hT:Tl tl low) (is:List I) (sl':List (Nat × V)) (lc':List (Nat × L)) (hm:P.follows .mixedOrders=true)
  (hdo:AllDo P ops ops.toList is) (hc:chkT low draw ops.toList is N K sl lc=true) (h1:runS (F.oft sl lc tl) is=zj7 is) (h2:runN (F.oft sl lc tl) is=zj8 is)
  (h3:leS (zig (F.oft sl lc tl) is) sl'=sl'.map fun p=>some p.2) (h4:leN (zig (F.oft sl lc tl) is) lc'=lc'.map fun p=>some p.2)
  (h:St ⟨w0,H0,B0,K,N⟩ (F.oft sl lc tl) a w) (hQ:∀ a w,St ⟨w0,H0,B0,K,N⟩ (F.oft sl' lc' tl) a w->Q .normal a w):(Code.region id ops draw).wp P Q a w:=by
 simp only [chkT,bT] at hc
 obtain ⟨⟨⟨⟨c1,c2⟩,c3⟩,c4⟩,c5,c6⟩:=hc
 have hmem:∀ k,at_ is k ∈ is\/at_ is k={}:=by
  intro k
  unfold at_
  rw [List.getD_eq_getElem?_getD]
  cases hk:is[k]? with
  | none=>exact .inr rfl
  | some x=>exact .inl (bR hk)
 refine wp_region_S is (F.oft sl' lc' tl) hm c1 (fun k o ho=>hdo.get k o (by simpa using ho)) ?_ ?_ ?_ h hQ
 ·intro k
  refine ⟨fun p hp=>?_,fun h0=>?_⟩
  ·rcases hmem k with hk | hk
   ·have:=bM.1 (bM.1 c2 _ hk) p hp
    simpa [cQ] using this
   ·rw [hk] at hp;cases hp
  ·rcases hmem k with hk | hk
   ·have:=bM.1 c4 _ hk
    rw [h0] at this
    simpa using this
   ·rw [hk] at h0;cases h0
 ·intro k n hn
  rcases hmem k with hk | hk
  ·exact newT_spec hT (bM.1 (bM.1 c3 _ hk) n hn)
  ·rw [hk] at hn;cases hn
 ·have:=RunL.of (g:=F.oft sl' lc' tl) [] is (F.oft sl lc tl) h1 h2 (le_ofT h3 h4 fun n l hn _=>by
   rw [runF_out (lowIn hT c6 hn),oft_l (lowIn hT c5 hn)];exact hn)
  have hl:=hdo.length
  simp only [List.nil_append,cF] at this
  rw [List.range_eq_range', <- Array.length_toList,hl]
  exact this
theorem condST {x:Code} (b:Bool) (h:St ⟨w0,H0,B0,K,N⟩ (F.oft sl lc tl) a w) (ht:(F.oft sl lc tl).s t=some (vb b)) (hx:b=true->x.wp P Q a w) (hy:b=false->y.wp P Q a w):(Code.cond (.tmp t) x y).wp P Q a w :=
 wp_cond_S b h ht hx hy
theorem atST {sl':List (Nat × V)} {lc':List (Nat × L)} (hT:Tl tl low) (h:St ⟨w0,H0,B0,K,N⟩ (F.oft sl lc tl) a w) (h0:(lc.map (·.1)).all low=true) (h1:leS (F.oft sl lc tl) sl'=sl'.map fun p=>some p.2) (h2:leN (F.oft sl lc tl) lc'=lc'.map fun p=>some p.2):St ⟨w0,H0,B0,K,N⟩ (F.oft sl' lc' tl) a w :=
 h.weaken (le_ofT h1 h2 fun n l hn _=>by rw [oft_l (lowIn hT h0 hn)];exact hn)
theorem loopST {ι:Type} {c:Code} (I:ι->Prop) (sls:ι->List (Nat × V)) (lcs:ι->List (Nat × L)) (tls:ι->Nat->Option L) (μ:ι->Nat) (x:ι) (hI:I x) (hT:Tl (tls x) low) (h:St ⟨w0,H0,B0,K,N⟩ (F.oft sl lc (tls x)) a w) (h0:(lc.map (·.1)).all low=true)
  (h1:leS (F.oft sl lc (tls x)) (sls x)=(sls x).map fun p=>some p.2) (h2:leN (F.oft sl lc (tls x)) (lcs x)=(lcs x).map fun p=>some p.2)
  (round:∀ x a w,I x->St ⟨w0,H0,B0,K,N⟩ (F.oft (sls x) (lcs x) (tls x)) a w->c.wp P (Exit.then (fun a' w'=>∃ y,(I y/\μ y<μ x)/\St ⟨w0,H0,B0,K,N⟩ (F.oft (sls y) (lcs y) (tls y)) a' w') Q) a w):(Code.loop c).wp P Q a w:=by
 refine wp_loop_S (ι:={x // I x}) (fun x=>F.oft (sls x.1) (lcs x.1) (tls x.1)) (fun x=>μ x.1) ⟨x,hI⟩ (atST hT h h0 h1 h2) fun x a w hst=>wp_mono (round x.1 a w x.2 hst) fun en a w hq=>?_
 cases en with
 | normal=>obtain ⟨y,⟨hy,hlt⟩,hst⟩:=hq;exact ⟨⟨y,hy⟩,hlt,hst⟩
 | _=>exact hq
theorem zfo {ι:Type} {I:ι->Prop} {sls:ι->List (Nat × V)} {lcs:ι->List (Nat × L)} {tls:ι->Nat->Option L} {μ:ι->Nat} {x:ι} (y:ι) (hT:Tl (tls y) low) (h:St ⟨w0,H0,B0,K,N⟩ (F.oft sl lc (tls y)) a w) (hy:I y) (hlt:μ y<μ x) (h0:(lc.map (·.1)).all low=true)
  (h1:leS (F.oft sl lc (tls y)) (sls y)=(sls y).map fun p=>some p.2) (h2:leN (F.oft sl lc (tls y)) (lcs y)=(lcs y).map fun p=>some p.2):∃ y,(I y/\μ y<μ x)/\St ⟨w0,H0,B0,K,N⟩ (F.oft (sls y) (lcs y) (tls y)) a w :=
 ⟨y,⟨hy,hlt⟩,atST hT h h0 h1 h2⟩
inductive Chn (P:Program) (ops:Array Oper) (e:E) (g:F):F->List Nat->Prop
  | nil {f:F} (h:f.le g):Chn P ops e g f []
  | cons {f:F} {k:Nat} {l:List Nat} {o:Oper} (i:I) (ho:ops[k]?=some o) (hd:Does P ops o i) (hb:FitsE e i) (hr:zi2 f i) (hn:∀ n ∈ i.nw,New e.K f n) (h:Chn P ops e g (f.app i) l):Chn P ops e g f (k :: l)
theorem Chn.ops {ops:Array Oper} {g:F} (hQ:∀ a w,St e g a w->Q .normal a w):∀ (l:List Nat) (f:F) (a:Act) (w:World),Chn P ops e g f l->St e f a w->wpOps P ops Q l a w
 | [],f,a,w,hc,h=>by cases hc with | nil hg=>exact hQ a w (h.weaken hg)
 | k :: l,f,a,w,hc,h=>by
  rw [wpOps_cons]
  cases hc with
  | cons i ho hd hb hr hn h'=>exact wpOp_mono (fun a' w' h2=>Chn.ops hQ l _ a' w' h' h2) (Does.wpOp ho hd h hr hn hb)
theorem regionC {id:Nat} {ops:Array Oper} {g:F} (hc:Chn P ops e g f (bI ops.size)) (h:St e f a w) (hQ:∀ a w,St e g a w->Q .normal a w):(Code.region id ops false).wp P Q a w :=
 wp_region (Chn.ops hQ _ _ _ _ hc h)
end
section
variable {Q:Exit->Act->World->Prop} {w0:World} {H0:Im} {B0:Bl} {K:List Nat} {N:Nat} {tl:Nat->Option L} {low:Nat->Bool}
theorem rST {tb:Tb} (htb:zj5 eB tb) (hT:Tl tl low) {id:Nat} {ops:Array Oper} (nx:Nat) (cs:List (Nat × Orc eB)) (sl':List (Nat × V)) (lc':List (Nat × L))
  (hc:((zkc ops.toList cs).map (·.1),(zd3 tb ops (F.oft sl lc tl) nx 0 ops.toList cs).isSome,(zd3 tb ops (F.oft sl lc tl) nx 0 ops.toList cs).map fun is=>Seen.mk (chkT low draw ops.toList is N K sl lc) (runS (F.oft sl lc tl) is) (runN (F.oft sl lc tl) is) (leS (zig (F.oft sl lc tl) is) sl') (leN (zig (F.oft sl lc tl) is) lc')) =
   ((zkc ops.toList cs).map (·.2),true,(zd3 tb ops (F.oft sl lc tl) nx 0 ops.toList cs).map fun is=>Seen.mk true (zj7 is) (zj8 is) (sl'.map fun p=>some p.2) (lc'.map fun p=>some p.2)))
  (h:St ⟨w0,H0,B0,K,N⟩ (F.oft sl lc tl) a w) (hQ:∀ a w,St ⟨w0,H0,B0,K,N⟩ (F.oft sl' lc' tl) a w->Q .normal a w):(Code.region id ops draw).wp eB Q a w:=by
 simp only [Prod.mk.injEq] at hc
 obtain ⟨hg,hs,hm⟩:=hc
 cases hi:zd3 tb ops (F.oft sl lc tl) nx 0 ops.toList cs with
 | none=>rw [hi] at hs;cases hs
 | some is =>
  rw [hi] at hm
  simp only [b8,Option.some.injEq,Seen.mk.injEq] at hm
  exact regionT hT is sl' lc' mixed (zkt htb hg _ _ _ _ _ rfl hi) hm.1 hm.2.1 hm.2.2.1 hm.2.2.2.1 hm.2.2.2.2 h hQ
theorem rnt {tb:Tb} (htb:zj5 eB tb) (hT:Tl tl low) {id:Nat} {ops:Array Oper} (nx:Nat) (cs:List (Nat × Orc eB)) (ds:List Nat) (nw:List (Nat × V)) (md:List Nat) (mn:List (Nat × L)) (h:St ⟨w0,H0,B0,K,N⟩ (F.oft sl lc tl) a w) (hQ:∀ a w,St ⟨w0,H0,B0,K,N⟩ (F.oft (uK ds nw sl) (uL md mn lc) tl) a w->Q .normal a w) (hc:((zkc ops.toList cs).map (·.1),(zd3 tb ops (F.oft sl lc tl) nx 0 ops.toList cs).isSome,(zd3 tb ops (F.oft sl lc tl) nx 0 ops.toList cs).map fun is=>Seen.mk (chkT low draw ops.toList is N K sl lc) (runS (F.oft sl lc tl) is) (runN (F.oft sl lc tl) is) (leS (zig (F.oft sl lc tl) is) (uK ds nw sl)) (leN (zig (F.oft sl lc tl) is) (uL md mn lc))) =
   ((zkc ops.toList cs).map (·.2),true,(zd3 tb ops (F.oft sl lc tl) nx 0 ops.toList cs).map fun is=>Seen.mk true (zj7 is) (zj8 is) ((uK ds nw sl).map fun p=>some p.2) ((uL md mn lc).map fun p=>some p.2)):=by kernel_rfl):(Code.region id ops draw).wp eB Q a w:=rST htb hT nx cs (uK ds nw sl) (uL md mn lc) hc h hQ
theorem rSeqT {tb:Tb} (htb:zj5 eB tb) (hT:Tl tl low) {id:Nat} {ops:Array Oper} (nx:Nat) (cs:List (Nat × Orc eB)) (sl':List (Nat × V)) (lc':List (Nat × L))
  (hc:((zkc ops.toList cs).map (·.1),(zd3 tb ops (F.oft sl lc tl) nx 0 ops.toList cs).isSome,(zd3 tb ops (F.oft sl lc tl) nx 0 ops.toList cs).map fun is=>Seen.mk (chkT low draw ops.toList is N K sl lc) (runS (F.oft sl lc tl) is) (runN (F.oft sl lc tl) is) (leS (zig (F.oft sl lc tl) is) sl') (leN (zig (F.oft sl lc tl) is) lc')) =
   ((zkc ops.toList cs).map (·.2),true,(zd3 tb ops (F.oft sl lc tl) nx 0 ops.toList cs).map fun is=>Seen.mk true (zj7 is) (zj8 is) (sl'.map fun p=>some p.2) (lc'.map fun p=>some p.2)))
  (h:St ⟨w0,H0,B0,K,N⟩ (F.oft sl lc tl) a w) (hQ:∀ a w,St ⟨w0,H0,B0,K,N⟩ (F.oft sl' lc' tl) a w->y.wp eB Q a w):(Code.seq (Code.region id ops draw) y).wp eB Q a w :=
 qW (rST htb hT nx cs sl' lc' hc h hQ)
theorem cvT (ds:List Nat) (nw:List (Nat × V)) (md:List Nat) (mn:List (Nat × L)) (tl':Nat->Option L) (p:(sl,lc,tl)=(uK ds nw sl,uL md mn lc,tl')) (h:St e (F.oft sl lc tl) a w):St e (F.oft (uK ds nw sl) (uL md mn lc) tl') a w :=
  h.conv (congr (congr (congrArg F.oft (congrArg Prod.fst p)) (congrArg (fun q=>q.2.1) p)) (congrArg (fun q=>q.2.2) p))
theorem rqt {tb:Tb} (htb:zj5 eB tb) (hT:Tl tl low) {id:Nat} {ops:Array Oper} (nx:Nat) (cs:List (Nat × Orc eB)) (ds:List Nat) (nw:List (Nat × V)) (md:List Nat) (mn:List (Nat × L)) (h:St ⟨w0,H0,B0,K,N⟩ (F.oft sl lc tl) a w) (hQ:∀ a w,St ⟨w0,H0,B0,K,N⟩ (F.oft (uK ds nw sl) (uL md mn lc) tl) a w->y.wp eB Q a w) (hc:((zkc ops.toList cs).map (·.1),(zd3 tb ops (F.oft sl lc tl) nx 0 ops.toList cs).isSome,(zd3 tb ops (F.oft sl lc tl) nx 0 ops.toList cs).map fun is=>Seen.mk (chkT low draw ops.toList is N K sl lc) (runS (F.oft sl lc tl) is) (runN (F.oft sl lc tl) is) (leS (zig (F.oft sl lc tl) is) (uK ds nw sl)) (leN (zig (F.oft sl lc tl) is) (uL md mn lc))) =
   ((zkc ops.toList cs).map (·.2),true,(zd3 tb ops (F.oft sl lc tl) nx 0 ops.toList cs).map fun is=>Seen.mk true (zj7 is) (zj8 is) ((uK ds nw sl).map fun p=>some p.2) ((uL md mn lc).map fun p=>some p.2)):=by kernel_rfl):(Code.seq (Code.region id ops draw) y).wp eB Q a w:=rSeqT htb hT nx cs (uK ds nw sl) (uL md mn lc) hc h hQ
end
theorem C.ren_id {c:C} (h:n ∉ c.tags):c.ren n m=c:=by
 have hA:∀ x:A,n ∉ x.tags->x.ren n m=x:=fun x hx=>by
  cases x with
  | d x=>rfl
  | ptr k o=>simp only [A.ren];rw [zgm (fun e=>hx (by simp [A.tags,e]))];rfl
 cases c with
 | fn f fs cs =>
  simp only [C.tags,bG,bU,not_or,not_exists,not_and] at h
  simp only [C.ren];rw [zc2 fun x hx=>hA x (h.1 x hx),zc2 fun x hx=>hA x (h.2 x hx)]
 | own k l=>simp only [C.ren];rw [zgm (fun e=>h (by simp [C.tags,e]))];rfl
 | ptr k o=>simp only [C.ren];rw [zgm (fun e=>h (by simp [C.tags,e]))];rfl
 | sub k o l=>simp only [C.ren];rw [zgm (fun e=>h (by simp [C.tags,e]))];rfl
 | mp k=>simp only [C.ren];rw [zgm (fun e=>h (by simp [C.tags,e]))];rfl
 | d x=>rfl
 | el x=>rfl
 | any=>rfl
theorem T.ren_id {x:T} (h:n ∉ x.tags):x.ren n m=x:=by
 cases x with
 | c x=>simp only [T.ren];rw [C.ren_id h]
 | agg cs=>simp only [T.ren];rw [zc2 fun c hc=>C.ren_id fun hn=>h (bU.2 ⟨c,hc,hn⟩)]
theorem V.ren_id {x:V} (h:n ∉ x.tags):x.ren n m=x:=by
 cases x with
 | t x=>simp only [V.ren];rw [T.ren_id h]
 | tup cs=>simp only [V.ren];rw [zc2 fun c hc=>T.ren_id fun hn=>h (bU.2 ⟨c,hc,hn⟩)]
theorem L.ren_id {x:L} (h:n ∉ x.tags):x.ren n m=x:=by
 cases x with
 | box cs=>simp only [L.ren];rw [zc2 fun c hc=>C.ren_id fun hn=>h (bU.2 ⟨c,hc,hn⟩)]
 | row _ _ _=>rfl
 | rowc _ _ r=>simp only [L.ren];rw [zc2 fun r hr=>zc2 fun c hc=>C.ren_id fun hn=>h (bU.2 ⟨c,cX.2 ⟨r,hr,hc⟩,hn⟩)]
 | mp _=>rfl
 | bld _ c rest =>
  simp only [L.tags,bG,not_or,bU,not_exists,not_and] at h
  simp only [L.ren];rw [C.ren_id h.1,zc2 fun c hc=>C.ren_id fun hn=>h.2 c hc hn]
def lo9 (n:Nat):Bool:=Nat.blt n 999
def lo10 (n:Nat):Bool:=Nat.blt n 1000
def lowS (sl:List (Nat × V)):Bool:=sl.all fun p=>p.2.tags.all lo9
def lowL (lc:List (Nat × L)):Bool:=lc.all fun p=>lo9 p.1 && p.2.tags.all lo9
theorem zgr (h:lo9 n=true):n<999:=by simpa [lo9,cQ] using h
theorem lowS_lt (h:lowS sl=true) {v:V} (hv:sl.lookup t=some v) (hn:n ∈ v.tags):n<999:=zgr (bM.1 (bM.1 h _ (zau hv)) n hn)
theorem ze2 (h:lowL lc=true) (hv:lc.lookup m=some l):m<999/\∀ n ∈ l.tags,n<999:=by
 have:=bM.1 h _ (zau hv)
 rw [bT] at this
 exact ⟨zgr this.1,fun n hn=>zgr (bM.1 this.2 n hn)⟩
def lowS9 (sl:List (Nat × V)):Bool:=sl.all fun p=>p.2.tags.all lo10
theorem zkp (h:lowS9 sl=true) {v:V} (hv:sl.lookup t=some v) (hn:n ∈ v.tags):n<1000:=by
 have:=bM.1 (bM.1 h _ (zau hv)) n hn
 simpa [lo10,cQ] using this
theorem zc8 (h:lowL lc=true) (hn:999<=n):lc.lookup n=none:=by
 cases e:lc.lookup n with
 | none=>rfl
 | some l=>have:=(ze2 h e).1;omega
section
variable (hty ty:TypeId) (es:Nat)
def hdN (nm:Nat->Nat) (M:List (List (List D))):List (List C):=M.mapIdx fun j r=>[C.own (nm j) r.length]
def nm0 (j:Nat):Nat:=j+1000
def nmU (nm:Nat->Nat) (i p:Nat):Nat->Nat:=fun j=>if j=i then p else nm j
def mtN (hd:Option (List (List C))) (nm:Nat->Nat) (M:List (List (List D))):Nat->Option L:=fun x=>if x=999 then hd.map (L.rowc hty 1) else if 1000<=x/\nm (x - 1000)=x then (M[x - 1000]?).map (L.row ty es) else none
def mtT (M:List (List (List D))):Nat->Option L:=mtN hty ty es (some (hdN nm0 M)) nm0 M
end
section
variable {hty ty:TypeId} {es:Nat}
theorem zdu {M:List (List (List D))} {r:List (List D)} (h:M[i]?=some r):(hdN nm M)[i]?=some [C.own (nm i) r.length]:=by
 unfold hdN;rw [bX,h];rfl
theorem zh6 {M:List (List (List D))} (h:n ∈ (hdN nm M).flatten.flatMap C.tags):∃ j,j<M.length/\n=nm j:=by
 obtain ⟨c,hc,hn⟩:=bU.1 h
 obtain ⟨r,hr,hc⟩:=cX.1 hc
 obtain ⟨j,hj⟩:=d8.1 hr
 unfold hdN at hj
 rw [bX] at hj
 cases e:M[j]? with
 | none=>rw [e] at hj;cases hj
 | some q =>
  rw [e] at hj
  have hj:=Option.some.inj hj
  rw [<- hj] at hc
  rw [bF.1 hc] at hn
  exact ⟨j,(bV.1 e).1,by simpa [C.tags] using hn⟩
theorem hdN_ren {nm':Nat->Nat} {M:List (List (List D))} (h:∀ j,j<M.length->(if Nat.beq (nm j) n then m else nm j)=nm' j):(hdN nm M).map (List.map (C.ren n m))=hdN nm' M:=by
 refine cR fun j=>?_
 unfold hdN
 rw [b9,bX,bX]
 cases e:M[j]? with
 | none=>rfl
 | some q =>
  have:=h j (bV.1 e).1
  simp only [b8,dR,List.map_nil,C.ren]
  rw [this]
theorem hdN_set {M:List (List (List D))} {r:List (List D)} (h:M[i]?=some r) (hl:r'.length=r.length):hdN nm (M.set i r')=hdN nm M:=by
 refine cR fun j=>?_
 unfold hdN
 rw [bX,bX]
 by_cases e:i=j
 ·subst e
  rw [cY (bV.1 h).1,h]
  simp only [b8];rw [hl]
 ·rw [cZ e]
theorem hdN_app {M:List (List (List D))} {r:List (List D)}:hdN nm (M++[r])=hdN nm M++[[C.own (nm M.length) r.length]]:=by
 unfold hdN;rw [List.mapIdx_append];simp
theorem mtN_tl (nm:Nat->Nat) (M:List (List (List D))):Tl (mtN hty ty es none nm M) lo10 :=
  ⟨fun n hn=>by
    have hn:n<1000:=by simpa [lo10,cQ] using hn
    unfold mtN;split
    · rfl
    · rw [if_neg (by omega)],
   fun n l hl k hk=>by
    unfold mtN at hl
    split at hl
    · cases hl
    · split at hl
      · obtain ⟨r,_,rfl⟩:=dE.1 hl;cases hk
      · cases hl⟩
theorem zbi (M:List (List (List D))):Tl (mtT hty ty es M) lo9 :=
  ⟨fun n hn=>by
    have hn:n<999:=zgr hn
    unfold mtT mtN;rw [if_neg (by omega),if_neg (by omega)],
   fun n l hl k hk=>by
    unfold mtT mtN at hl
    split at hl
    · have hl:=Option.some.inj hl
      subst hl
      obtain ⟨j,_,rfl⟩:=zh6 hk
      cases e:lo9 (nm0 j) with
      | true=>have:=zgr e;unfold nm0 at this;omega
      | false=>rfl
    · split at hl
      · obtain ⟨r,_,rfl⟩:=dE.1 hl;cases hk
      · cases hl⟩
theorem zim {hd:Option (List (List C))} {M:List (List (List D))} (h:nm i=i+1000):mtN hty ty es hd nm M (i+1000)=(M[i]?).map (L.row ty es):=by
 unfold mtN;rw [if_neg (by omega),if_pos (by rw [dG];exact ⟨by omega,h⟩),dG]
theorem zd1 {hd:Option (List (List C))} {M:List (List (List D))} (h:mtN hty ty es hd nm M n=some l):(n=999/\hd.map (L.rowc hty 1)=some l)\/∃ i r,n=i+1000/\nm i=i+1000/\M[i]?=some r/\l = .row ty es r:=by
 unfold mtN at h
 split at h
 ·rename_i e;exact .inl ⟨e,h⟩
 ·split at h
  ·rename_i e
   obtain ⟨r,h1,rfl⟩:=dE.1 h
   exact .inr ⟨n - 1000,r,by omega,by rw [e.2];omega,h1,rfl⟩
  ·cases h
variable {w0:World} {H0:Im} {B0:Bl} {N:Nat} {a:Act} {w:World} {sl:List (Nat × V)} {lc:List (Nat × L)} {M:List (List (List D))}
theorem zd0 (h:(F.oft sl lc tl).l n=some l):lc.lookup n=some l\/(lc.lookup n=none/\tl n=some l):=by
 have h:(match lc.lookup n with | some l=>some l | none=>tl n)=some l:=h
 cases e:lc.lookup n with
 | some x=>rw [e] at h;exact .inl h
 | none=>rw [e] at h;exact .inr ⟨rfl,h⟩
theorem zff (h:lc.lookup n=some l):(F.oft sl lc tl).l n=some l:=by
 show (match lc.lookup n with | some l=>some l | none=>tl n)=_
 rw [h]
theorem zco (h:lc.lookup n=none):(F.oft sl lc tl).l n=tl n:=by
 show (match lc.lookup n with | some l=>some l | none=>tl n)=_
 rw [h]
theorem mt_open (h:St ⟨w0,H0,B0,[],N⟩ (F.oft sl lc (mtT hty ty es M)) a w) (hL:lowL lc=true):St ⟨w0,H0,B0,[],N⟩ (F.oft sl ((999,.rowc hty 1 (hdN nm0 M)) :: lc) (mtN hty ty es none nm0 M)) a w :=
 h.weaken ⟨fun _ _ hv=>hv,fun n l hn=>by
  rcases zd0 hn with h1 | ⟨h1,h2⟩
  ·rw [bE] at h1
   cases e:(n == 999) with
   | true =>
    rw [e] at h1
    have e:n=999:=by simpa using e
    subst e
    rw [zco (zc8 hL (bS _))]
    exact h1
   | false=>rw [e] at h1;exact zff h1
  ·rw [bE] at h1
   rcases zd1 h2 with ⟨_,h3⟩ | ⟨i,r,rfl,h3,h4,rfl⟩
   ·cases h3
   ·rw [zco (zc8 hL (by omega))]
    show mtN hty ty es _ nm0 M _=_
    rw [zim (nm:=nm0) rfl,h4];rfl⟩
theorem mt_close (h:St ⟨w0,H0,B0,[],N⟩ (F.oft sl ((999,.rowc hty 1 (hdN nm0 M)) :: lc) (mtN hty ty es none nm0 M)) a w) (hL:lowL lc=true):St ⟨w0,H0,B0,[],N⟩ (F.oft sl lc (mtT hty ty es M)) a w :=
 h.weaken ⟨fun _ _ hv=>hv,fun n l hn=>by
  rcases zd0 hn with h1 | ⟨h1,h2⟩
  ·refine zff ?_
   rw [bE]
   have:=(ze2 hL h1).1
   rw [show (n == 999)=false by simp;omega]
   exact h1
  ·rcases zd1 h2 with ⟨rfl,h3⟩ | ⟨i,r,rfl,h3,h4,rfl⟩
   ·refine zff ?_
    rw [bE]
    exact h3
   ·rw [zco (by rw [bE,show (i+1000 == 999)=false from beq_eq_false_iff_ne.2 (by omega)];exact zc8 hL (by omega)),zim (nm:=nm0) rfl,h4];rfl⟩
def NmOk (nm:Nat->Nat):Prop:=∀ j,nm j=j+1000\/nm j<999
theorem nm0_ok:NmOk nm0:=fun _ => .inl rfl
theorem nmU_ok (h:NmOk nm) {p:Nat} (hp:p<999):NmOk (nmU nm i p):=fun j=>by
 unfold nmU;split
 ·exact .inr hp
 ·exact h j
theorem mt_name (hnm:NmOk nm) (i p:Nat) {r:List (List D)} (hr:M[i]?=some r) (hi:nm i=i+1000) (hp:lo9 p=true) (hpn:∀ j,nm j≠p)
  (h:St ⟨w0,H0,B0,[],N⟩ (F.oft sl ((999,.rowc hty 1 (hdN nm M)) :: lc) (mtN hty ty es none nm M)) a w) (hnew:newB [] sl lc p=true) (hS:lowS9 sl=true) (hL:lowL lc=true) :
  St ⟨w0,H0,B0,[],N⟩ (F.oft sl ((999,.rowc hty 1 (hdN (nmU nm i p) M)) :: (p,.row ty es r) :: lc) (mtN hty ty es none (nmU nm i p) M)) a w:=by
 have hp9:=zgr hp
 obtain ⟨_,hw2,hw3,hw4⟩:=zcx hnew
 have hw2:lc.lookup p=none:=hw2
 have hne:New [] (F.oft sl ((999,.rowc hty 1 (hdN nm M)) :: lc) (mtN hty ty es none nm M)) p:=by
  refine ⟨by simp,?_,hw3,fun m l hm hk=>?_⟩
  ·rw [zco (by rw [bE,show (p == 999)=false by simp;omega];exact hw2)]
   exact (mtN_tl nm M).z p (by simp [lo10,cQ];omega)
  ·rcases zd0 hm with h1 | ⟨_,h2⟩
   ·rw [bE] at h1
    cases e:(m == 999) with
    | true =>
     rw [e] at h1
     have h1:=Option.some.inj h1
     rw [<- h1] at hk
     obtain ⟨j,_,e2⟩:=zh6 hk
     exact hpn j e2.symm
    | false=>rw [e] at h1;exact hw4 m l h1 hk
   ·rcases zd1 h2 with ⟨_,h3⟩ | ⟨_,r2,_,_,_,rfl⟩
    ·cases h3
    ·cases hk
 refine (h.ren (i+1000) p hne).weaken ⟨fun t v hv=>?_,fun n l hn=>?_⟩
 ·have hv:sl.lookup t=some v:=hv
  show (sl.lookup t).map (V.ren (i+1000) p)=some v
  rw [hv]
  exact congrArg some (V.ren_id fun hk=>by have:=zkp hS hv hk;omega)
 ·simp only [F.ren]
  rcases zd0 hn with h1 | ⟨h1,h2⟩
  ·rw [bE] at h1
   cases e:(n == 999) with
   | true =>
    rw [e] at h1
    have e:n=999:=by simpa using e
    subst e
    have h1:=Option.some.inj h1
    rw [zgm (show 999≠p by omega),if_neg (by simp),zgm (show 999≠i+1000 by omega),if_neg (by simp)]
    rw [zff (l:=.rowc hty 1 (hdN nm M)) (by rw [bE];rfl),<- h1]
    simp only [b8,L.ren]
    rw [hdN_ren (nm':=nmU nm i p) fun j _=>?_]
    by_cases ej:j=i
    ·subst ej;rw [hi,bZ,if_pos rfl];unfold nmU;rw [if_pos rfl]
    ·rw [zgm (fun e=>ej (by rcases hnm j with h' | h' <;> omega)),if_neg (by simp)];unfold nmU;rw [if_neg ej]
   | false =>
    rw [e] at h1
    have h1:((p,L.row ty es r) :: lc).lookup n=some l:=h1
    have e:n≠999:=by simpa using e
    cases e2:(n == p) with
    | true =>
     have e2:n=p:=by simpa using e2
     subst e2
     rw [bE,show (n == n)=true by simp] at h1
     have h1:some (L.row ty es r)=some l:=h1
     have h1:=Option.some.inj h1
     rw [bZ,if_pos rfl,zco (by rw [bE,show (i+1000 == 999)=false from beq_eq_false_iff_ne.2 (by omega)];exact zc8 hL (by omega)),zim hi,hr,<- h1];rfl
    | false =>
     rw [bE,e2] at h1
     have h1:lc.lookup n=some l:=h1
     have e2:n≠p:=by simpa using e2
     obtain ⟨q1,q2⟩:=ze2 hL h1
     rw [zgm e2,zgm (show n≠i+1000 by omega),if_neg (by simp),if_neg (by simp),zff (l:=l) (by rw [bE,show (n == 999)=false by simpa using e];exact h1)]
     exact congrArg some (L.ren_id fun hk=>by have:=q2 _ hk;omega)
  ·rcases zd1 h2 with ⟨_,h3⟩ | ⟨j,r2,rfl,h3,h4,rfl⟩
   ·cases h3
   ·have hji:j≠i:=fun e=>by subst e;unfold nmU at h3;rw [if_pos rfl] at h3;omega
    have h5:nm j=j+1000:=by unfold nmU at h3;rw [if_neg hji] at h3;exact h3
    rw [zgm (show j+1000≠p by omega),zgm (show j+1000≠i+1000 by omega),if_neg (by simp),if_neg (by simp),zco (by rw [bE,show (j+1000 == 999)=false from beq_eq_false_iff_ne.2 (by omega)];exact zc8 hL (by omega)),zim h5,h4];rfl
theorem mt_back (hnm:NmOk nm) (i p:Nat) {r:List (List D)} (hr:M[i]?=some r) (hl:r'.length=r.length) (hi:nm i=p) (hp:lo9 p=true) (hpn:∀ j,j≠i->nm j≠p)
  (h:St ⟨w0,H0,B0,[],N⟩ (F.oft sl ((999,.rowc hty 1 (hdN nm M)) :: (p,.row ty es r') :: lc) (mtN hty ty es none nm M)) a w) (hnew:newB [] sl lc p=true) (hS:lowS9 sl=true) (hL:lowL lc=true) :
  St ⟨w0,H0,B0,[],N⟩ (F.oft sl ((999,.rowc hty 1 (hdN (nmU nm i (i+1000)) (M.set i r'))) :: lc) (mtN hty ty es none (nmU nm i (i+1000)) (M.set i r'))) a w:=by
 have hp9:=zgr hp
 have hlt:=(bV.1 hr).1
 obtain ⟨_,hw2,hw3,hw4⟩:=zcx hnew
 have hw2:lc.lookup p=none:=hw2
 have hlk:∀ {n:Nat}, n≠999->n≠p->((999,L.rowc hty 1 (hdN nm M)) :: (p,L.row ty es r') :: lc).lookup n=lc.lookup n:=fun {n} h1 h2=>by
  rw [bE,show (n == 999)=false by simpa using h1]
  show ((p,L.row ty es r') :: lc).lookup n=_
  rw [bE,show (n == p)=false by simpa using h2]
 have hne:New [] (F.oft sl ((999,.rowc hty 1 (hdN nm M)) :: (p,.row ty es r') :: lc) (mtN hty ty es none nm M)) (i+1000):=by
  refine ⟨by simp,?_,fun t v hv hk=>?_,fun m l hm hk=>?_⟩
  ·rw [zco (by rw [hlk (by omega) (by omega)];exact zc8 hL (by omega))]
   unfold mtN
   rw [if_neg (by omega),if_neg (by rw [dG,hi];omega)]
  ·have:=zkp hS hv hk;omega
  ·rcases zd0 hm with h1 | ⟨_,h2⟩
   ·by_cases e:m=999
    ·subst e
     rw [bE] at h1
     have h1:=Option.some.inj h1
     rw [<- h1] at hk
     obtain ⟨j,_,e2⟩:=zh6 hk
     rcases hnm j with h' | h'
     ·have:j=i:=by omega
      subst this;omega
     ·omega
    ·by_cases e3:m=p
     ·subst e3
      rw [bE,show (m == 999)=false by simpa using e] at h1
      have h1:((m,L.row ty es r') :: lc).lookup m=some l:=h1
      rw [bE,show (m == m)=true by simp] at h1
      have h1:=Option.some.inj h1
      rw [<- h1] at hk;cases hk
     ·rw [hlk e e3] at h1
      have:=(ze2 hL h1).2 _ hk;omega
   ·rcases zd1 h2 with ⟨_,h3⟩ | ⟨_,r2,_,_,_,rfl⟩
    ·cases h3
    ·cases hk
 refine (h.ren p (i+1000) hne).weaken ⟨fun t v hv=>?_,fun n l hn=>?_⟩
 ·have hv:sl.lookup t=some v:=hv
  show (sl.lookup t).map (V.ren p (i+1000))=some v
  rw [hv]
  exact congrArg some (V.ren_id fun hk=>hw3 t v hv hk)
 ·simp only [F.ren]
  rcases zd0 hn with h1 | ⟨h1,h2⟩
  ·rw [bE] at h1
   cases e:(n == 999) with
   | true =>
    rw [e] at h1
    have e:n=999:=by simpa using e
    subst e
    have h1:=Option.some.inj h1
    rw [zgm (show 999≠i+1000 by omega),if_neg (by simp),zgm (show 999≠p by omega),if_neg (by simp)]
    rw [zff (l:=.rowc hty 1 (hdN nm M)) (by rw [bE];rfl),<- h1]
    simp only [b8,L.ren]
    rw [hdN_set hr hl,hdN_ren (nm':=nmU nm i (i+1000)) fun j _=>?_]
    by_cases ej:j=i
    ·subst ej;rw [hi,bZ,if_pos rfl];unfold nmU;rw [if_pos rfl]
    ·rw [zgm (hpn j ej),if_neg (by simp)];unfold nmU;rw [if_neg ej]
   | false =>
    rw [e] at h1
    have e:n≠999:=by simpa using e
    have h1:lc.lookup n=some l:=h1
    obtain ⟨q1,q2⟩:=ze2 hL h1
    have e2:n≠p:=fun e=>by rw [e,hw2] at h1;cases h1
    rw [zgm (show n≠i+1000 by omega),zgm e2,if_neg (by simp),if_neg (by simp),zff (l:=l) (by rw [hlk e e2];exact h1)]
    exact congrArg some (L.ren_id fun hk=>hw4 n l h1 hk)
  ·rcases zd1 h2 with ⟨_,h3⟩ | ⟨j,r2,rfl,h3,h4,rfl⟩
   ·cases h3
   ·by_cases ej:j=i
    ·subst ej
     rw [cY hlt] at h4
     have h4:=Option.some.inj h4
     subst h4
     rw [bZ,if_pos rfl,zff (l:=.row ty es r') (by rw [bE,show (p == 999)=false by simp;omega];show ((p,L.row ty es r') :: lc).lookup p=_;rw [bE,show (p == p)=true by simp])];rfl
    ·have h5:nm j=j+1000:=by unfold nmU at h3;rw [if_neg ej] at h3;exact h3
     rw [cZ (fun e=>ej e.symm)] at h4
     rw [zgm (show j+1000≠i+1000 by omega),zgm (show j+1000≠p by omega),if_neg (by simp),if_neg (by simp),zco (by rw [hlk (by omega) (by omega)];exact zc8 hL (by omega)),zim h5,h4];rfl
theorem lk_map {β:Type} (g:α->β) (t:Nat) (v:β):∀ l:List (Nat × α),(l.map fun p=>(p.1,g p.2)).lookup t=some v->(l.lookup t).map g=some v
 | [],h=>by cases h
 | p :: l,h=>by
  rw [dR,bE] at h
  rw [bE]
  cases e:(t == p.1) with
  | true=>rw [e] at h;exact h
  | false=>rw [e] at h;exact lk_map g t v l h
theorem mt_begin (n:Nat) (h:St ⟨w0,H0,B0,[],N⟩ (F.of sl ((n,.row hty 1 []) :: lc)) a w) (hn:lo9 n=true) (hL:lowL lc=true) (hS:lowS sl=true) (sl':List (Nat × V)) (hnew:newB [] [] lc n=true)
  (hsl:sl.map (fun p=>(p.1,p.2.ren n 999))=sl'):St ⟨w0,H0,B0,[],N⟩ (F.oft sl' lc (mtT hty ty es [])) a w:=by
 have hn9:=zgr hn
 obtain ⟨_,hw2,_,hw4⟩:=zcx hnew
 have hw2:lc.lookup n=none:=hw2
 have hlk:∀ {m:Nat}, m≠n->((n,L.row hty 1 []) :: lc).lookup m=lc.lookup m:=fun {m} h1=>by rw [bE,show (m == n)=false by simpa using h1]
 have hne:New [] (F.of sl ((n,.row hty 1 []) :: lc)) 999:=by
  refine ⟨by simp,?_,fun t v hv hk=>?_,fun m l hm hk=>?_⟩
  ·show ((n,L.row hty 1 []) :: lc).lookup 999=none
   rw [hlk (by omega)];exact zc8 hL (bS _)
  ·have:=lowS_lt hS hv hk;omega
  ·have hm:((n,L.row hty 1 []) :: lc).lookup m=some l:=hm
   by_cases e:m=n
   ·subst e
    rw [bE,show (m == m)=true by simp] at hm
    have hm:=Option.some.inj hm
    rw [<- hm] at hk;cases hk
   ·rw [hlk e] at hm
    have:=(ze2 hL hm).2 _ hk;omega
 have h1:=h.ren n 999 hne
 have hat:((F.of sl ((n,.row hty 1 []) :: lc)).ren n 999).l 999=some (.row hty 1 []):=by
  simp only [F.ren]
  rw [bZ,if_pos rfl]
  show (((n,L.row hty 1 []) :: lc).lookup n).map _=_
  rw [bE,show (n == n)=true by simp];rfl
 obtain ⟨H,B,hok⟩:=h1
 have h2:St ⟨w0,H0,B0,[],N⟩ (((F.of sl ((n,.row hty 1 []) :: lc)).ren n 999).setL 999 (.rowc hty 1 [])) a w:=⟨H,B,hok.setL 999 (.row hty 1 []) (.rowc hty 1 []) hat fun h3=>by
  simp only [LR] at h3 ⊢
  cases hB:B 999 with
  | none=>trivial
  | some q =>
   rw [hB] at h3
   obtain ⟨arr,g1,g2,g3,g4,g5,g6⟩:=h3
   exact ⟨arr,g1,g2,g3,g4,(fun r hr=>by cases hr),by simp [zb4]⟩⟩
 refine h2.weaken ⟨fun t v hv=>?_,fun m l hm=>?_⟩
 ·have hv:sl'.lookup t=some v:=hv
  show (sl.lookup t).map (V.ren n 999)=some v
  rw [<- hsl] at hv
  exact lk_map _ _ _ _ hv
 ·simp only [F.setL]
  rcases zd0 hm with h3 | ⟨h3,h4⟩
  ·obtain ⟨q1,q2⟩:=ze2 hL h3
   have e2:m≠n:=fun e=>by rw [e,hw2] at h3;cases h3
   rw [zgm (show m≠999 by omega)]
   simp only [F.ren,Bool.false_eq_true,if_false]
   rw [zgm (show m≠999 by omega),zgm e2,if_neg (by simp),if_neg (by simp)]
   show (((n,L.row hty 1 []) :: lc).lookup m).map _=_
   rw [hlk e2,h3]
   exact congrArg some (L.ren_id fun hk=>hw4 m l h3 hk)
  ·rcases zd1 h4 with ⟨rfl,h5⟩ | ⟨j,r2,rfl,h5,h6,rfl⟩
   ·rw [bZ,if_pos rfl];exact h5
   ·cases h6
theorem mt_push (n:Nat) {rw:List (List D)} (h:St ⟨w0,H0,B0,[],N⟩ (F.oft sl ((n,.row ty es rw) :: lc) (mtT hty ty es M)) a w) (hn:lo9 n=true) (hL:lowL lc=true) (hS:lowS9 sl=true) (hnew:newB [] [] lc n=true)
  (sl':List (Nat × V)) (hsl:sl.map (fun p=>(p.1,p.2.ren n (M.length+1000)))=sl'):St ⟨w0,H0,B0,[],N⟩ (F.oft sl' lc (mtN hty ty es (some (hdN nm0 M)) nm0 (M++[rw]))) a w:=by
 have hn9:=zgr hn
 obtain ⟨_,hw2,_,hw4⟩:=zcx hnew
 have hw2:lc.lookup n=none:=hw2
 have hlk:∀ {m:Nat}, m≠n->((n,L.row ty es rw) :: lc).lookup m=lc.lookup m:=fun {m} h1=>by rw [bE,show (m == n)=false by simpa using h1]
 have hne:New [] (F.oft sl ((n,.row ty es rw) :: lc) (mtT hty ty es M)) (M.length+1000):=by
  refine ⟨by simp,?_,fun t v hv hk=>?_,fun m l hm hk=>?_⟩
  ·rw [zco (by rw [hlk (by omega)];exact zc8 hL (by omega))]
   show mtN hty ty es _ nm0 M _=none
   rw [zim (nm:=nm0) rfl,cL (bS _)];rfl
  ·have:=zkp hS hv hk;omega
  ·rcases zd0 hm with h1 | ⟨_,h2⟩
   ·by_cases e:m=n
    ·subst e
     rw [bE,show (m == m)=true by simp] at h1
     have h1:=Option.some.inj h1
     rw [<- h1] at hk;cases hk
    ·rw [hlk e] at h1
     have:=(ze2 hL h1).2 _ hk;omega
   ·rcases zd1 h2 with ⟨rfl,h3⟩ | ⟨_,r2,_,_,_,rfl⟩
    ·have h3:=Option.some.inj h3
     rw [<- h3] at hk
     obtain ⟨j,hj,e2⟩:=zh6 hk
     unfold nm0 at e2;omega
    ·cases hk
 refine (h.ren n (M.length+1000) hne).weaken ⟨fun t v hv=>?_,fun m l hm=>?_⟩
 ·have hv:sl'.lookup t=some v:=hv
  show (sl.lookup t).map (V.ren n (M.length+1000))=some v
  rw [<- hsl] at hv
  exact lk_map _ _ _ _ hv
 ·simp only [F.ren]
  rcases zd0 hm with h3 | ⟨h3,h4⟩
  ·obtain ⟨q1,q2⟩:=ze2 hL h3
   have e2:m≠n:=fun e=>by rw [e,hw2] at h3;cases h3
   rw [zgm (show m≠M.length+1000 by omega),if_neg (by simp),zgm e2,if_neg (by simp),zff (l:=l) (by rw [hlk e2];exact h3)]
   exact congrArg some (L.ren_id fun hk=>hw4 m l h3 hk)
  ·rcases zd1 h4 with ⟨rfl,h5⟩ | ⟨j,r2,rfl,h5,h6,rfl⟩
   ·have h5:=Option.some.inj h5
    rw [zgm (show 999≠M.length+1000 by omega),if_neg (by simp),zgm (show 999≠n by omega),if_neg (by simp),zco (by rw [hlk (by omega)];exact h3)]
    show Option.map _ (some (L.rowc hty 1 (hdN nm0 M)))=_
    rw [<- h5]
    refine congrArg some (L.ren_id fun hk=>?_)
    obtain ⟨j,hj,e2⟩:=zh6 hk
    unfold nm0 at e2;omega
   ·by_cases hj:j=M.length
    ·subst hj
     rw [List.getElem?_append_right (bS _),Nat.sub_self] at h6
     have h6:rw=r2:=by simpa using h6
     rw [bZ,if_pos rfl,zff (l:=.row ty es rw) (by rw [bE,show (n == n)=true by simp]),<- h6];rfl
    ·have hj2:j<M.length:=by have:=(bV.1 h6).1;rw [bL] at this;simp at this;omega
     rw [List.getElem?_append_left hj2] at h6
     rw [zgm (show j+1000≠M.length+1000 by omega),if_neg (by simp),zgm (show j+1000≠n by omega),if_neg (by simp),zco (by rw [hlk (by omega)];exact zc8 hL (by omega))]
     show Option.map _ (mtN hty ty es _ nm0 M _)=_
     rw [zim (nm:=nm0) rfl,h6];rfl
theorem mt_pop (n:Nat) (h:St ⟨w0,H0,B0,[],N⟩ (F.oft sl ((n,.rowc hty 1 (hdN nm0 M)) :: lc) (mtN hty ty es none nm0 M)) a w) (hn:lo9 n=true) (hL:lowL lc=true) (hS:lowS sl=true) (hnew:newB [] [] lc n=true)
  (sl':List (Nat × V)) (hsl:sl.map (fun p=>(p.1,p.2.ren n 999))=sl'):St ⟨w0,H0,B0,[],N⟩ (F.oft sl' lc (mtT hty ty es M)) a w:=by
 have hn9:=zgr hn
 obtain ⟨_,hw2,_,hw4⟩:=zcx hnew
 have hw2:lc.lookup n=none:=hw2
 have hlk:∀ {m:Nat}, m≠n->((n,L.rowc hty 1 (hdN nm0 M)) :: lc).lookup m=lc.lookup m:=fun {m} h1=>by rw [bE,show (m == n)=false by simpa using h1]
 have hne:New [] (F.oft sl ((n,.rowc hty 1 (hdN nm0 M)) :: lc) (mtN hty ty es none nm0 M)) 999:=by
  refine ⟨by simp,?_,fun t v hv hk=>?_,fun m l hm hk=>?_⟩
  ·rw [zco (by rw [hlk (by omega)];exact zc8 hL (bS _))];rfl
  ·have:=lowS_lt hS hv hk;omega
  ·rcases zd0 hm with h1 | ⟨_,h2⟩
   ·by_cases e:m=n
    ·subst e
     rw [bE,show (m == m)=true by simp] at h1
     have h1:=Option.some.inj h1
     rw [<- h1] at hk
     obtain ⟨j,hj,e2⟩:=zh6 hk
     unfold nm0 at e2;omega
    ·rw [hlk e] at h1
     have:=(ze2 hL h1).2 _ hk;omega
   ·rcases zd1 h2 with ⟨_,h3⟩ | ⟨_,r2,_,_,_,rfl⟩
    ·cases h3
    ·cases hk
 refine (h.ren n 999 hne).weaken ⟨fun t v hv=>?_,fun m l hm=>?_⟩
 ·have hv:sl'.lookup t=some v:=hv
  show (sl.lookup t).map (V.ren n 999)=some v
  rw [<- hsl] at hv
  exact lk_map _ _ _ _ hv
 ·simp only [F.ren]
  rcases zd0 hm with h3 | ⟨h3,h4⟩
  ·obtain ⟨q1,q2⟩:=ze2 hL h3
   have e2:m≠n:=fun e=>by rw [e,hw2] at h3;cases h3
   rw [zgm (show m≠999 by omega),if_neg (by simp),zgm e2,if_neg (by simp),zff (l:=l) (by rw [hlk e2];exact h3)]
   exact congrArg some (L.ren_id fun hk=>hw4 m l h3 hk)
  ·rcases zd1 h4 with ⟨rfl,h5⟩ | ⟨j,r2,rfl,h5,h6,rfl⟩
   ·have h5:=Option.some.inj h5
    rw [bZ,if_pos rfl,zff (l:=.rowc hty 1 (hdN nm0 M)) (by rw [bE,show (n == n)=true by simp]),<- h5]
    refine congrArg some (L.ren_id fun hk=>?_)
    obtain ⟨j,hj,e2⟩:=zh6 hk
    unfold nm0 at e2;omega
   ·rw [zgm (show j+1000≠999 by omega),if_neg (by simp),zgm (show j+1000≠n by omega),if_neg (by simp),zco (by rw [hlk (by omega)];exact zc8 hL (by omega)),zim (nm:=nm0) rfl,h6];rfl
def hdP (es k:Nat) (M:List (List (List D))):List (List C):=M.mapIdx fun j r=>[if j<k then C.d (.sl es r) else C.own (j+1000) r.length]
def mtP (hty ty:TypeId) (es k:Nat) (M:List (List (List D))):Nat->Option L:=fun x=>if x=999 then some (.rowc hty 1 (hdP es k M)) else if k+1000<=x then (M[x - 1000]?).map (L.row ty es) else none
theorem mtP_some (h:mtP hty ty es k M n=some l):(n=999/\l = .rowc hty 1 (hdP es k M))\/∃ i r,n=i+1000/\k<=i/\M[i]?=some r/\l = .row ty es r:=by
 unfold mtP at h
 split at h
 ·rename_i e;have h:=Option.some.inj h;exact .inl ⟨e,h.symm⟩
 ·split at h
  ·obtain ⟨r,h1,rfl⟩:=dE.1 h
   exact .inr ⟨n - 1000,r,by omega,by omega,h1,rfl⟩
  ·cases h
theorem mtP_at (h:k<=i):mtP hty ty es k M (i+1000)=(M[i]?).map (L.row ty es):=by
 unfold mtP;rw [if_neg (by omega),if_pos (by omega),dG]
theorem mt_pub1 (k:Nat) (hk:k<M.length) (h:St ⟨w0,H0,B0,[],N⟩ (F.oft sl lc (mtP hty ty es k M)) a w) (hL:lowL lc=true) (hS:lowS9 sl=true):St ⟨w0,H0,B0,[],N⟩ (F.oft sl lc (mtP hty ty es (k+1) M)) a w:=by
 have hr:M[k]?=some M[k]:=cC hk
 have hsl:∀ t v,sl.lookup t=some v->(k+1000) ∉ v.tags:=fun t v hv hm=>by have:=zkp hS hv hm;omega
 have hlc:∀ m l,lc.lookup m=some l->(k+1000) ∉ l.tags:=fun m l hm hk2=>by have:=(ze2 hL hm).2 _ hk2;omega
 refine (h.pub (k+1000) es ty M[k] (by rw [zco (zc8 hL (by omega)),mtP_at (bS _),hr];rfl) (fun t v hv k' hk'=>absurd (V.owns_tags hk') (hsl t v hv)) (fun m l hm k' hk'=>?_)).weaken ⟨fun t v hv=>?_,fun n l hn=>?_⟩
 ·rcases zd0 hm with h1 | ⟨h1,h2⟩
  ·exact absurd (L.owns_tags hk') (hlc m l h1)
  ·rcases mtP_some h2 with ⟨_,rfl⟩ | ⟨i,r,_,_,_,rfl⟩
   ·simp only [L.owns,bU] at hk'
    obtain ⟨c,hc,hk'⟩:=hk'
    obtain ⟨r,hr2,hc⟩:=cX.1 hc
    obtain ⟨j,hj⟩:=d8.1 hr2
    unfold hdP at hj
    rw [bX] at hj
    cases e:M[j]? with
    | none=>rw [e] at hj;cases hj
    | some q =>
     rw [e] at hj
     have hj:=Option.some.inj hj
     rw [<- hj] at hc
     rw [bF.1 hc] at hk'
     split at hk'
     ·cases hk'
     ·simp only [C.owns] at hk'
      split at hk'
      ·rename_i e3
       have e3:=Nat.eq_of_beq_eq_true e3
       have:j=k:=by omega
       subst this
       rw [hr] at e;have e:=Option.some.inj e
       rw [bF.1 hk', e]
      ·cases hk'
   ·cases hk'
 ·have hv:sl.lookup t=some v:=hv
  show (sl.lookup t).map (V.pub (k+1000) es M[k])=some v
  rw [hv]
  exact congrArg some (V.pub_id (hsl t v hv))
 ·simp only [F.pub]
  rcases zd0 hn with h1 | ⟨h1,h2⟩
  ·have:=(ze2 hL h1).1
   rw [zgm (show n≠k+1000 by omega),if_neg (by simp),zff h1]
   exact congrArg some (L.pub_id (hlc n l h1))
  ·rcases mtP_some h2 with ⟨rfl,rfl⟩ | ⟨i,r,rfl,h3,h4,rfl⟩
   ·rw [zgm (show 999≠k+1000 by omega),if_neg (by simp),zco h1]
    show some (L.rowc hty 1 ((hdP es k M).map (List.map (C.pub (k+1000) es M[k]))))=_
    refine congrArg (fun z=>some (L.rowc hty 1 z)) (cR fun j=>?_)
    unfold hdP
    rw [b9,bX,bX]
    cases e:M[j]? with
    | none=>rfl
    | some q =>
     simp only [b8,dR,List.map_nil]
     by_cases h5:j<k
     ·rw [if_pos h5,if_pos (show j<k+1 by omega)];rfl
     ·by_cases h6:j=k
      ·subst h6
       rw [hr] at e;have e:=Option.some.inj e
       rw [if_neg (by omega),if_pos (by omega)]
       simp only [C.pub]
       rw [bZ,if_pos rfl,e]
      ·rw [if_neg h5,if_neg (show ¬ j<k+1 by omega)]
       simp only [C.pub]
       rw [zgm (show j+1000≠k+1000 by omega)];rfl
   ·rw [zgm (show i+1000≠k+1000 by omega),if_neg (by simp),zco h1,mtP_at (show k<=i by omega),h4];rfl
theorem mt_pubs (hL:lowL lc=true) (hS:lowS9 sl=true) (h:St ⟨w0,H0,B0,[],N⟩ (F.oft sl lc (mtP hty ty es 0 M)) a w):∀ k,k<=M.length->St ⟨w0,H0,B0,[],N⟩ (F.oft sl lc (mtP hty ty es k M)) a w
 | 0,_=>h
 | k+1,hk=>mt_pub1 k (by omega) (mt_pubs hL hS h k (by omega)) hL hS
theorem mt_pub (h:St ⟨w0,H0,B0,[],N⟩ (F.oft sl lc (mtT hty ty es M)) a w) (hL:lowL lc=true) (hS:lowS9 sl=true):St ⟨w0,H0,B0,[],N⟩ (F.of sl ((999,.row hty 1 (M.map fun r=>[D.sl es r])) :: lc)) a w:=by
 have e0:mtT hty ty es M=mtP hty ty es 0 M:=by
  funext x
  unfold mtT mtN mtP
  by_cases h1:x=999
  ·rw [if_pos h1,if_pos h1];rfl
  ·rw [if_neg h1,if_neg h1]
   by_cases h2:1000<=x
   ·rw [if_pos ⟨h2,by unfold nm0;omega⟩,if_pos (show 0+1000<=x by omega)]
   ·rw [if_neg (fun h=>h2 h.1),if_neg (show ¬ 0+1000<=x by omega)]
 rw [e0] at h
 obtain ⟨H,B,hok⟩:=mt_pubs hL hS h M.length (bS _)
 have hat:(F.oft sl lc (mtP hty ty es M.length M)).l 999=some (.rowc hty 1 ((M.map fun r=>[D.sl es r]).map (List.map C.d))):=by
  rw [zco (zc8 hL (bS _))]
  show some (L.rowc hty 1 (hdP es M.length M))=_
  refine congrArg (fun z=>some (L.rowc hty 1 z)) (cR fun j=>?_)
  unfold hdP
  rw [bX,b9,b9]
  cases e:M[j]? with
  | none=>rfl
  | some q=>simp only [b8];rw [if_pos (bV.1 e).1];rfl
 have h2:St ⟨w0,H0,B0,[],N⟩ ((F.oft sl lc (mtP hty ty es M.length M)).setL 999 (.row hty 1 (M.map fun r=>[D.sl es r]))) a w:=⟨H,B,hok.setL 999 _ _ hat fun h3=>by
  simp only [LR] at h3 ⊢
  cases hB:B 999 with
  | none=>rw [hB] at h3;simpa using h3
  | some q =>
   rw [hB] at h3
   obtain ⟨arr,g1,g2,g3,g4,g5,g6⟩:=h3
   rw [bC] at g3 g6
   refine ⟨arr,g1,g2,g3,g4,fun r hr=>?_,?_⟩
   ·obtain ⟨r0,_,rfl⟩:=cT.1 hr;rfl
   ·rw [<- List.map_flatten] at g6
    refine zb4.iff.2 ⟨by have:=g6.length;rw [bC] at this;exact this,fun j x u hx hu=>?_⟩
    exact (zb4.iff.1 g6).2 j (.d x) u (by rw [b9,hx];rfl) hu⟩
 refine h2.weaken ⟨fun t v hv=>hv,fun n l hn=>?_⟩
 simp only [F.setL]
 have hn:((999,L.row hty 1 (M.map fun r=>[D.sl es r])) :: lc).lookup n=some l:=hn
 by_cases e:n=999
 ·subst e
  rw [bZ,if_pos rfl]
  rw [bE] at hn
  exact hn
 ·rw [bE,show (n == 999)=false by simpa using e] at hn
  rw [zgm e,if_neg (by simp)]
  exact zff hn
theorem nmU_back {p q:Nat} (h:nm i=q):nmU (nmU nm i p) i q=nm:=by
 funext j
 unfold nmU
 by_cases e:j=i
 ·rw [if_pos e,e,h]
 ·rw [if_neg e,if_neg e]
theorem set_same:∀ {l:List α} {i:Nat} {x:α}, l[i]?=some x->l.set i x=l
 | [],_,_,h=>by cases h
 | _ :: _,0,x,h=>by simp at h;rw [List.set_cons_zero,h]
 | _ :: l,i+1,x,h=>by rw [List.set_cons_succ,set_same (by simpa using h)]
def nm1 (i:Nat):Nat->Nat:=nmU nm0 i 5
def nm2 (i m:Nat):Nat->Nat:=nmU (nm1 i) m 6
theorem nm1_i (i:Nat):nm1 i i=5:=if_pos rfl
theorem nm1_ne (h:j≠i):nm1 i j=j+1000:=if_neg h
theorem nm1_ok (i:Nat):NmOk (nm1 i):=nmU_ok nm0_ok (by decide)
theorem nm2_i (h:i≠m):nm2 i m i=5:=(if_neg h).trans (nm1_i i)
theorem nm2_m (i m:Nat):nm2 i m m=6:=if_pos rfl
theorem nm2_ok (i m:Nat):NmOk (nm2 i m):=nmU_ok (nm1_ok i) (by decide)
theorem mt_open1 (i:Nat) {r:List (List D)} (hr:M[i]?=some r) (h:St ⟨w0,H0,B0,[],N⟩ (F.oft sl lc (mtT hty ty es M)) a w) (hnew:newB [] sl lc 5=true) (hS:lowS9 sl=true) (hL:lowL lc=true) :
  St ⟨w0,H0,B0,[],N⟩ (F.oft sl ((999,.rowc hty 1 (hdN (nm1 i) M)) :: (5,.row ty es r) :: lc) (mtN hty ty es none (nm1 i) M)) a w :=
 mt_name nm0_ok i 5 hr rfl rfl (fun j=>by unfold nm0;omega) (mt_open h hL) hnew hS hL
theorem mt_open2 (him:i≠m) {r rm:List (List D)} (hr:M[i]?=some r) (hrm:M[m]?=some rm) (h:St ⟨w0,H0,B0,[],N⟩ (F.oft sl lc (mtT hty ty es M)) a w) (hnew:newB [] sl lc 5=true) (hnew2:newB [] sl ((5,.row ty es r) :: lc) 6=true) (hS:lowS9 sl=true) (hL:lowL lc=true) (hL2:lowL ((5,.row ty es r) :: lc)=true) :
  St ⟨w0,H0,B0,[],N⟩ (F.oft sl ((999,.rowc hty 1 (hdN (nm2 i m) M)) :: (6,.row ty es rm) :: (5,.row ty es r) :: lc) (mtN hty ty es none (nm2 i m) M)) a w :=
 mt_name (nm1_ok i) m 6 hrm (nm1_ne him.symm) rfl (fun j=>by unfold nm1 nmU nm0;split <;> omega) (mt_open1 i hr h hnew hS hL) hnew2 hS hL2
theorem zkn (i:Nat) {r:List (List D)} (hr:M[i]?=some r) (hl:r'.length=r.length) (h:St ⟨w0,H0,B0,[],N⟩ (F.oft sl ((999,.rowc hty 1 (hdN (nm1 i) M)) :: (5,.row ty es r') :: lc) (mtN hty ty es none (nm1 i) M)) a w) (hnew:newB [] sl lc 5=true) (hS:lowS9 sl=true) (hL:lowL lc=true) :
  St ⟨w0,H0,B0,[],N⟩ (F.oft sl lc (mtT hty ty es (M.set i r'))) a w:=by
 have h1:=mt_back (nm1_ok i) i 5 hr hl (nm1_i i) rfl (fun j hj=>by rw [nm1_ne hj];omega) h hnew hS hL
 rw [show nmU (nm1 i) i (i+1000)=nm0 from nmU_back rfl] at h1
 exact mt_close h1 hL
theorem mt_back2 (him:i≠m) {r rm:List (List D)} (hr:M[i]?=some r) (hrm:M[m]?=some rm) (hl:r'.length=r.length) (h:St ⟨w0,H0,B0,[],N⟩ (F.oft sl ((999,.rowc hty 1 (hdN (nm2 i m) M)) :: (6,.row ty es rm) :: (5,.row ty es r') :: lc) (mtN hty ty es none (nm2 i m) M)) a w)
  (hnew:newB [] sl lc 5=true) (hnew2:newB [] sl ((5,.row ty es r') :: lc) 6=true) (hS:lowS9 sl=true) (hL:lowL lc=true) (hL2:lowL ((5,.row ty es r') :: lc)=true) :
  St ⟨w0,H0,B0,[],N⟩ (F.oft sl lc (mtT hty ty es (M.set i r'))) a w:=by
 have h1:=mt_back (nm2_ok i m) m 6 hrm rfl (nm2_m i m) rfl (fun j hj=>by
  unfold nm2 nmU;rw [if_neg hj];unfold nm1 nmU nm0;split <;> omega) h hnew2 hS hL2
 rw [show nmU (nm2 i m) m (m+1000)=nm1 i from nmU_back (nm1_ne him.symm),set_same hrm] at h1
 exact zkn i hr hl h1 hnew hS hL
theorem mtQ_tl (M M':List (List (List D))):Tl (mtN hty ty es (some (hdN nm0 M)) nm0 M') lo9 :=
  ⟨fun n hn=>by
    have hn:n<999:=zgr hn
    unfold mtN;rw [if_neg (by omega),if_neg (by omega)],
   fun n l hl k hk=>by
    rcases zd1 hl with ⟨_,h3⟩ | ⟨_,r2,_,_,_,rfl⟩
    · have h3:=Option.some.inj h3
      rw [<- h3] at hk
      obtain ⟨j,_,e2⟩:=zh6 hk
      cases e:lo9 k with
      | true=>have:=zgr e;unfold nm0 at e2;omega
      | false=>rfl
    · cases hk⟩
theorem hdN_len:(hdN nm M).length=M.length:=by unfold hdN;simp
theorem rd {i:I} (h1:i.rs.map (fun p=>f.s p.1)=i.rs.map fun p=>some p.2) (h2:i.rl.map (fun p=>f.l p.1)=i.rl.map fun p=>some p.2):zi2 f i:=⟨fun p hp=>zbw h1 p hp,fun p hp=>zbw h2 p hp⟩
theorem fits1 {i:I} (h1:i.ws.all (fun p=>Nat.blt p.1 e.n)=true) (h2:i.k0=false):FitsE e i:=⟨fun p hp=>by have:=bM.1 h1 p hp;simpa [cQ] using this,fun h=>by rw [h2] at h;cases h⟩
theorem New.app1 {K:List Nat} {j:I} (h:New K f n) (hm:zi1 j.wtags n=false):New K (f.app j) n:=New.app (i:={ nw:=[n] }) h (by unfold ment zg6;simp only [List.all_cons,List.all_nil,hm];rfl) (by simp)
end
theorem rb1_2:Zero eB 4 [.d (.raw (.bool false))]:=⟨(.bool false:Value),[.bool false],by kernel_rfl,rfl,(fun _ _=>⟨DR.raw _ rfl,trivial⟩)⟩
theorem rb1_3:SlT eB 72 128 3:=SlT.mk' Tryz.underlying72 (by kernel_rfl)
theorem zfq:Sz eB 4 1 false:=Sz.mk' (by kernel_rfl) Tryz.underlying4 _ rfl
theorem zgv:Sz eB 59 1 false:=Sz.mk' (by kernel_rfl) Tryz.underlying59 _ rfl
def ze5 (M:List (List Bool)):List (List (List D)):=M.map fun r=>r.map za3
abbrev mB (M:List (List Bool)):Nat->Option L:=mtT 59 4 1 (ze5 M)
theorem zc5 {r:List Bool} (h:M[i]?=some r):(ze5 M)[i]?=some (r.map za3):=by unfold ze5;rw [b9,h];rfl
theorem zjs (M:List (List Bool)) (i:Nat) (r:List Bool):(ze5 M).set i (r.map za3)=ze5 (M.set i r):=by unfold ze5;rw [List.map_set]
theorem enc_app (M:List (List Bool)) (r:List Bool):ze5 M++[r.map za3]=ze5 (M++[r]):=by unfold ze5;rw [bW];rfl
theorem enc_len (M:List (List Bool)):(ze5 M).length=M.length:=bC _
def zev (f:Nat->Bool) (n k:Nat):List Bool:=(bI n).map fun i=>decide (i<k) && f i
theorem zhy {f:Nat->Bool} (h:i<n):(zev f n k)[i]?=some (decide (i<k) && f i):=by unfold zev;rw [b9,dS h];rfl
theorem zep (f:Nat->Bool) (n k:Nat):(zev f n k).length=n:=by unfold zev;rw [bC,dH]
theorem rowJ_zero (f:Nat->Bool) (n:Nat):List.replicate n false=zev f n 0:=cR fun i=>by
 by_cases h:i<n
 ·rw [zhy h,List.getElem?_replicate,if_pos h];rfl
 ·rw [cL (by rw [List.length_replicate];omega),cL (by rw [zep];omega)]
theorem rowJ_set {f:Nat->Bool} (h:k<n) (hb:b=f k):(zev f n k).set k b=zev f n (k+1):=cR fun i=>by
 by_cases hi:i<n
 ·by_cases e:k=i
  ·subst e
   rw [cY (by rw [zep];exact h),zhy h,decide_eq_true (Nat.lt_succ_self k),hb];rfl
  ·rw [cZ e,zhy hi,zhy hi]
   by_cases h2:i<k
   ·rw [decide_eq_true h2,decide_eq_true (show i<k+1 by omega)]
   ·rw [decide_eq_false h2,decide_eq_false (show ¬ i<k+1 by omega)]
 ·rw [cL (by rw [cD,zep];omega),cL (by rw [zep];omega)]
def ze1 (a:zay) (i:Nat):zaf:=(a.nodes[i]?).getD nd0
def inR (a:zay) (i k:Nat):Bool:=decide ((k:Int) ∈ (ze1 a i).next)
theorem inR_at {a:zay} {x:zaf} (h:a.nodes[i]?=some x) (k:Nat):decide ((k:Int) ∈ x.next)=inR a i k:=by unfold inR ze1;rw [h];rfl
def zap (a:zay) (j:Nat):List (List Bool):=(bI j).map fun i=>zev (inR a i) a.nodes.length a.nodes.length
theorem initM_snoc (a:zay) (j:Nat):zap a j++[zev (inR a j) a.nodes.length a.nodes.length]=zap a (j+1):=by unfold zap;rw [bK,bW];rfl
theorem initM_len (a:zay) (j:Nat):(zap a j).length=j:=by unfold zap;rw [bC,dH]
def mxG (M:List (List Bool)) (i k:Nat):Bool:=(((M[i]?).getD [])[k]?).getD false
theorem zec {r:List Bool} {x:Bool} (h:M[i]?=some r) (h2:r[k]?=some x):mxG M i k=x:=by unfold mxG;rw [h];show (r[k]?).getD false=x;rw [h2];rfl
def mxS (m i:Nat) (M:List (List Bool)) (k:Nat):List (List Bool):=M.set i (((M[i]?).getD []).set k (mxG M i k || (mxG M i m && mxG M m k)))
def mxK (m i:Nat) (M:List (List Bool)) (k:Nat):List (List Bool):=(bI k).foldl (mxS m i) M
def mxI (n m:Nat) (M:List (List Bool)) (i:Nat):List (List Bool):=(bI i).foldl (fun M i=>mxK m i M n) M
def mxM (n:Nat) (M:List (List Bool)) (m:Nat):List (List Bool):=(bI m).foldl (fun M m=>mxI n m M n) M
def zdk (a:zay):List (List Bool):=mxM a.nodes.length (zap a a.nodes.length) a.nodes.length
theorem zfh (m i:Nat) (M:List (List Bool)) (k:Nat):mxK m i M (k+1)=mxS m i (mxK m i M k) k:=by unfold mxK;rw [bK,dC];rfl
theorem mxI_snoc (n m:Nat) (M:List (List Bool)) (i:Nat):mxI n m M (i+1)=mxK m i (mxI n m M i) n:=by unfold mxI;rw [bK,dC];rfl
theorem mxM_snoc (n:Nat) (M:List (List Bool)) (m:Nat):mxM n M (m+1)=mxI n m (mxM n M m) n:=by unfold mxM;rw [bK,dC];rfl
structure Sq (n:Nat) (M:List (List Bool)):Prop where
  len:M.length=n
  row:∀ r ∈ M,r.length=n
theorem sq_init (a:zay):Sq a.nodes.length (zap a a.nodes.length):=⟨initM_len _ _,fun r hr=>by
 unfold zap at hr
 obtain ⟨i,_,rfl⟩:=cT.1 hr
 exact zep _ _ _⟩
theorem sq_set (h:Sq n M) {r:List Bool} (hr:M[i]?=some r):Sq n (M.set i (r.set k b)):=⟨by rw [cD];exact h.len,fun q hq=>by
 rcases List.mem_or_eq_of_mem_set hq with h1 | h1
 ·exact h.row q h1
 ·rw [h1,cD];exact h.row r (bR hr)⟩
theorem sq_S (h:Sq n M) (k:Nat):Sq n (mxS m i M k):=by
 unfold mxS
 cases e:M[i]? with
 | none=>rw [List.set_eq_of_length_le (List.getElem?_eq_none_iff.1 e)];exact h
 | some r=>exact sq_set h e
theorem sq_K (h:Sq n M):∀ k,Sq n (mxK m i M k)
 | 0=>h
 | k+1=>by rw [zfh];exact sq_S (sq_K h k) k
theorem sq_I (h:Sq n M):∀ i,Sq n (mxI n m M i)
 | 0=>h
 | i+1=>by rw [mxI_snoc];exact sq_K (sq_I h i) n
theorem sq_M (h:Sq n M):∀ m,Sq n (mxM n M m)
 | 0=>h
 | m+1=>by rw [mxM_snoc];exact sq_I (sq_M h m) n
theorem sq_path (a:zay):Sq a.nodes.length (zdk a):=sq_M (sq_init a) _
theorem mxS_at {r:List Bool} (h:M[i]?=some r) (hb:(mxG M i k || (mxG M i m && mxG M m k))=b):mxS m i M k=M.set i (r.set k b):=by unfold mxS;rw [h,hb];rfl
abbrev q4 (au:zay):L:=.box [.d (.sl 3 (au.nodes.map eG)),.d (.sl 1 (au.first.map za8)),.d (.sl 1 (au.good.map za3))]
abbrev q5 (au:zay):V:=.t (.c (.own 999 au.nodes.length))
theorem SPaths (au:zay) (hn:au.nodes.length<=1000000) (hx:∀ nd ∈ au.nodes,nd.next.length<=9223372036854775807):Fn eB 103 [] [.t (.agg [.d (.sl 3 (au.nodes.map eG)),.d (.sl 1 (au.first.map za8)),.d (.sl 1 (au.good.map za3))])] (.t (.c (.d (.sl 1 ((zdk au).map (slD 1 za3)))))) []:=by
 refine fB Tryz.func103 rfl 89 fun w H B a h=>Jq 0 [] [(1,vp 0 0),(2,.t (.c (.d (.raw zaa))))] [(0,q4 au)] h fun a w h=>Je 1 [(2,.len (za1 3 eG au.nodes))] [] [(3,vN au.nodes.length)] h fun a w h=>Jg 1 [(0,.g (Op.buildE (d:=14) (n:=1) kn_15))] [] [(4,.t (.c (.own 1 0)))] [] [(1,.row 59 1 ([].map (slD 1 za3)))] h fun a w h=>qW (Je 2 [] [] [(5,vI 0)] h fun a w h=>qZ ?_)
 replace h:=atS (sl':=[(1,vp 0 0),(2,.t (.c (.d (.raw zaa)))),(3,vN au.nodes.length),(4,.t (.c (.own 1 0))),(5,vI 0)]) (lc':=[(1,.row 59 1 ([].map (slD 1 za3))),(0,q4 au)]) h;replace h:=mt_begin (hty:=59) (ty:=4) (es:=1) 1 h (by kernel_rfl) (by kernel_rfl) (by kernel_rfl) [(1,vp 0 0),(2,.t (.c (.d (.raw zaa)))),(3,vN au.nodes.length),(4,.t (.c (.own 999 0))),(5,vI 0)] (by kernel_rfl) (by kernel_rfl);replace h:St _ (F.oft [(1,vp 0 0),(2,.t (.c (.d (.raw zaa)))),(3,vN au.nodes.length),(4,.t (.c (.own 999 0))),(5,vI 0)] [(0,q4 au)] (mB (zap au 0))) a w:=h
 refine loopST (ι:=(Nat)) (fun j=>j<=au.nodes.length)
   (fun j=>[(1,vp 0 0),(2,.t (.c (.d (.raw zaa)))),(3,vN au.nodes.length),(4,.t (.c (.own 999 j))),(5,vN j)])
   (fun j=>[(0,q4 au)])
   (fun j=>mB (zap au j))
   (fun j=>au.nodes.length - j) 0 ?_ (zbi _) h (by kernel_rfl) (by kernel_rfl) (by kernel_rfl) ?_
 ·exact bH _
 clear h;rintro j a w hI h
 skip
 refine qW (rqt zb0 (zbi _) 2 [] [] [(17,vb (decide ((j:Int)<(au.nodes.length:Int))))] [] [] h fun a w h=>condST (decide ((j:Int)<(au.nodes.length:Int))) h rfl (fun hc1=>?_) (fun hc4=>?_))
 ·have hc1':=dT hc1;refine qU (za0 (qW (qZ (rqt zb0 (zbi _) 2 [(1,.g (Op.makeO' (d:=21) (n:=2) (L:=au.nodes.length) (zs:=[.raw (.bool false)]) (rows:=(List.replicate au.nodes.length false).map za3) kn_13 rb1_2 rfl (eC 20 _) (eC 20 _) (by omega) (by rw [List.map_replicate];rfl)))] [17] [(6,.t (.c (.own 2 au.nodes.length)))] [] [(2,.row 4 1 ((List.replicate au.nodes.length false).map za3))] h fun a w h=>qW (rqt zb0 (zbi _) 3 [] [] [(7,vI 0)] [] [] h fun a w h=>qZ ?_)))));replace h:=cvT [] [] [] [(2,.row 4 1 ((zev (inR au j) au.nodes.length 0).map za3))] (mB (zap au j)) (by rw [rowJ_zero (inR au j)]; try kernel_rfl) h
  refine loopST (ι:=(Nat)) (fun k=>k<=au.nodes.length)
    (fun k=>[(1,vp 0 0),(2,.t (.c (.d (.raw zaa)))),(3,vN au.nodes.length),(4,.t (.c (.own 999 j))),(5,vN j),(6,.t (.c (.own 2 au.nodes.length))),(7,vN k)])
    (fun k=>[(0,q4 au),(2,.row 4 1 ((zev (inR au j) au.nodes.length k).map za3))])
    (fun k=>mB (zap au j))
    (fun k=>au.nodes.length - k) 0 ?_ (zbi _) h (by kernel_rfl) (by kernel_rfl) (by kernel_rfl) ?_
  ·exact bH _
  clear h;rintro k a w hI h
  skip
  have lrj:=zep (inR au j) au.nodes.length k;refine qW (rqt zb0 (zbi _) 3 [] [] [(24,vb (decide ((k:Int)<(au.nodes.length:Int))))] [] [] h fun a w h=>condST (decide ((k:Int)<(au.nodes.length:Int))) h rfl (fun hc2=>?_) (fun hc3=>?_))
  ·have hc2':=dT hc2;refine qU (za0 (qW (qZ ?_)));obtain ⟨x1,hx1⟩:=gl au.nodes j;obtain ⟨x3,hx3⟩:=gl (zev (inR au j) au.nodes.length k) k;refine rnt zb0 (zbi _) 3 [(5,.g (xD 32 30 rb1_3 (za4 hx1 (f:=eG)) (eC 31 _))),(9,.call (SIn17 x1.next (k:Int) (hx x1 (lM hx1)))),(10,.g (xO 37 27 2 au.nodes.length k zda (eC 28 _))),(11,.g (eE (t:=37) (n:=2) (i:=k) (fo:=0) (rty:=4) (es:=1) (r:=za3 x3) (ds:=[.raw (.bool (decide ((k:Int) ∈ x1.next)))]) (rs:=[(36,vb (decide ((k:Int) ∈ x1.next)))]) (rows:=(zev (inR au j) au.nodes.length k).map za3) (rows':=((zev (inR au j) au.nodes.length k).set k (decide ((k:Int) ∈ x1.next))).map za3) zfq (eC 36 _) rfl rfl rfl (za4 hx3 (f:=za3)) (by simp [za3]) (zc9 (xs:=(zev (inR au j) au.nodes.length k)) (F:=za3) k _ _ rfl)))] [24] [] [] [(2,.row 4 1 (((zev (inR au j) au.nodes.length k).set k (decide ((k:Int) ∈ x1.next))).map za3))] h fun a w h=>za5 (za0 (rnt zb0 (zbi _) 3 [(1,.add .i64 (m:=(k:Int)) (n:=1) i6)] [] [(7,vI ((k:Int)+1))] [] [] h fun a w h=>za0 ?_));replace h:=cvT [] [] [] [(2,.row 4 1 ((zev (inR au j) au.nodes.length (k+1)).map za3))] (mB (zap au j)) (by rw [rowJ_set (by have:=dT hc2;omega) (inR_at hx1 k)]; try kernel_rfl) h;refine zfo (x:=k) (y:=k+1) (zbi _) h ?_ ?_ (by kernel_rfl) (by kernel_rfl) (by kernel_rfl)
   ·have:=dT hc2;show k+1<=au.nodes.length;omega
   have:=dT hc2;show au.nodes.length - (k+1)<au.nodes.length - k;omega
  have hc3':=dF hc3;refine exA ?_;replace h:=cvT [] [] [] [(2,.row 4 1 ((zev (inR au j) au.nodes.length au.nodes.length).map za3))] (mB (zap au j)) (by rw [show k=au.nodes.length by have:=dF hc3;omega]; try kernel_rfl) h;replace h:=atST (zbi _) (sl':=[(1,vp 0 0),(2,.t (.c (.d (.raw zaa)))),(3,vN au.nodes.length),(4,.t (.c (.own 999 j))),(5,vN j),(6,.t (.c (.own 2 au.nodes.length))),(7,vN k),(24,vb (decide ((k:Int)<(au.nodes.length:Int))))]) (lc':=[(2,.row 4 1 ((zev (inR au j) au.nodes.length au.nodes.length).map za3)),(0,q4 au)]) h (by kernel_rfl) (by kernel_rfl) (by kernel_rfl);replace h:=mt_push 2 h (by kernel_rfl) (by kernel_rfl) (by kernel_rfl) (by kernel_rfl) [(1,vp 0 0),(2,.t (.c (.d (.raw zaa)))),(3,vN au.nodes.length),(4,.t (.c (.own 999 j))),(5,vN j),(6,.t (.c (.own ((ze5 (zap au j)).length+1000) au.nodes.length))),(7,vN k),(24,vb (decide ((k:Int)<(au.nodes.length:Int))))] (by kernel_rfl);have lhd:(hdN nm0 (ze5 (zap au j))).length=j:=by rw [hdN_len,enc_len,initM_len]
  have hn50:New [] (F.oft [(1,vp 0 0),(2,.t (.c (.d (.raw zaa)))),(3,vN au.nodes.length),(4,.t (.c (.own 999 j))),(5,vN j),(6,.t (.c (.own ((ze5 (zap au j)).length+1000) au.nodes.length))),(7,vN k),(24,vb (decide ((k:Int)<(au.nodes.length:Int))))] [(0,q4 au)] (mtN 59 4 1 (some (hdN nm0 (ze5 (zap au j)))) nm0 (ze5 (zap au j)++[((zev (inR au j) au.nodes.length au.nodes.length).map za3)]))) 50:=newT_spec (mtQ_tl _ _) (by kernel_rfl);have hn51:New [] (F.oft [(1,vp 0 0),(2,.t (.c (.d (.raw zaa)))),(3,vN au.nodes.length),(4,.t (.c (.own 999 j))),(5,vN j),(6,.t (.c (.own ((ze5 (zap au j)).length+1000) au.nodes.length))),(7,vN k),(24,vb (decide ((k:Int)<(au.nodes.length:Int))))] [(0,q4 au)] (mtN 59 4 1 (some (hdN nm0 (ze5 (zap au j)))) nm0 (ze5 (zap au j)++[((zev (inR au j) au.nodes.length au.nodes.length).map za3)]))) 51:=newT_spec (mtQ_tl _ _) (by kernel_rfl);refine regionC (g:=F.oft [(1,vp 0 0),(2,.t (.c (.d (.raw zaa)))),(3,vN au.nodes.length),(4,.t (.c (.own 51 (j+1)))),(5,vN j),(7,vN k),(24,vb (decide ((k:Int)<(au.nodes.length:Int))))] ((51,.rowc 59 1 (hdN nm0 (ze5 (zap au j)++[((zev (inR au j) au.nodes.length au.nodes.length).map za3)]))) :: [(0,q4 au)]) (mtN 59 4 1 none nm0 (ze5 (zap au j)++[((zev (inR au j) au.nodes.length au.nodes.length).map za3)]))) ?_ h ?_
  ·show Chn _ _ _ _ _ [0,1,2,3,4];refine .cons { rs:=[(4,.t (.c (.own 999 j)))],rl:=[],ws:=[(38,some (.t (.c (.own 999 j))))],wl:=[],nw:=[] } rfl (.run rfl (Op.move (eC 4 _))) (fits1 (by kernel_rfl) rfl) (rd (by kernel_rfl) (by kernel_rfl)) (fun n hn=>by cases hn) (.cons { rs:=[(6,.t (.c (.own ((ze5 (zap au j)).length+1000) au.nodes.length)))],rl:=[],ws:=[(39,some (.t (.c (.own ((ze5 (zap au j)).length+1000) au.nodes.length))))],wl:=[],nw:=[] } rfl (.run rfl (Op.move (eC 6 _))) (fits1 (by kernel_rfl) rfl) (rd (by kernel_rfl) (by kernel_rfl)) (fun n hn=>by cases hn) (.cons { rs:=[(39,.t (.c (.own ((ze5 (zap au j)).length+1000) au.nodes.length)))],rl:=[],ws:=[(40,some (.t (.c (.own 50 1))))],wl:=[(50,some (.rowc 59 1 [[.own ((ze5 (zap au j)).length+1000) au.nodes.length]]))],nw:=[50] } rfl (.run rfl (Op.buildOC (rows:=[[.own ((ze5 (zap au j)).length+1000) au.nodes.length]]) kn_15 (OPs.cons (i:=0) (eC 39 _) .nil) (by kernel_rfl) rfl (fun r hr=>by rw [bF.1 hr];rfl) (by decide) (by decide) (fun x hx=>by rw [bF.1 hx];simp only [C.tags,bF];omega))) (fits1 (by kernel_rfl) rfl) (rd (by kernel_rfl) (by kernel_rfl)) (fun n hn=>by rw [bF.1 hn];exact (hn50.app1 (by kernel_rfl)).app1 (by kernel_rfl)) (.cons { rs:=[(38,.t (.c (.own 999 j))),(40,.t (.c (.own 50 1)))],rl:=[(999,.rowc 59 1 (hdN nm0 (ze5 (zap au j)))),(50,.rowc 59 1 [[.own ((ze5 (zap au j)).length+1000) au.nodes.length]])],ws:=[(41,some (.t (.c (.own 51 (j+1)))))],wl:=[(51,some (.rowc 59 1 (hdN nm0 (ze5 (zap au j)++[((zev (inR au j) au.nodes.length au.nodes.length).map za3)])))),(999,none)],nw:=[51] } rfl (.run rfl (Op.appOOC (rows:=hdN nm0 (ze5 (zap au j))) (rows2:=[[.own ((ze5 (zap au j)).length+1000) au.nodes.length]]) kn_16 lhd.symm rfl rfl (by rw [hdN_app,bC,zep];rfl) (by show (j+1)*24<=_;omega))) (fits1 (by kernel_rfl) rfl) (rd (by kernel_rfl) (by kernel_rfl)) (fun n hn=>by rw [bF.1 hn];exact ((hn51.app1 (by kernel_rfl)).app1 (by kernel_rfl)).app1 (by kernel_rfl)) (.cons { rs:=[(41,.t (.c (.own 51 (j+1))))],rl:=[],ws:=[(4,some (.t (.c (.own 51 (j+1)))))],wl:=[],nw:=[] } rfl (.run rfl (Op.assign (eC 41 _))) (fits1 (by kernel_rfl) rfl) (rd (by kernel_rfl) (by kernel_rfl)) (fun n hn=>by cases hn) (.nil (le_ofT (by kernel_rfl) (by kernel_rfl) fun n l hn hl=>?_))))))
   rcases zd1 hn with ⟨_,h3⟩ | ⟨i,r,rfl,h3,h4,rfl⟩
   ·cases h3
   rw [zdo (by simp),zdo (by simp),zdo (by simp),zdo (by simp),zdo (by simp),zco (by rw [bE,show (i+1000 == 51)=false from beq_eq_false_iff_ne.2 (by omega)] at hl;exact hl),zim (nm:=nm0) rfl,h4];rfl
  clear h;intro a w h;replace h:=mt_pop 51 h (by kernel_rfl) (by kernel_rfl) (by kernel_rfl) (by kernel_rfl) [(1,vp 0 0),(2,.t (.c (.d (.raw zaa)))),(3,vN au.nodes.length),(4,.t (.c (.own 999 (j+1)))),(5,vN j),(7,vN k),(24,vb (decide ((k:Int)<(au.nodes.length:Int))))] (by kernel_rfl);rw [enc_app,initM_snoc] at h;refine za5 (za0 (rST zb0 (zbi _) 3 [(1,.j1 j)] [(1,vp 0 0),(2,.t (.c (.d (.raw zaa)))),(3,vN au.nodes.length),(4,.t (.c (.own 999 (j+1)))),(5,vI ((j:Int)+1))] [(0,q4 au)] (by kernel_rfl) h fun a w h=>za0 (zfo (x:=j) (y:=j+1) (zbi _) h ?_ ?_ (by kernel_rfl) (by kernel_rfl) (by kernel_rfl))))
  ·have:=dT hc1;show j+1<=au.nodes.length;omega
  have:=dT hc1;show au.nodes.length - (j+1)<au.nodes.length - j;omega
 have hc4':=dF hc4;refine exA (qW (rqt zb0 (zbi _) 3 [] [1,5,17] [(8,vI 0)] [0] [] h fun a w h=>qZ ?_));have hj9:j=au.nodes.length:=by have:=dF hc4;omega
 replace h:=cvT [] [(4,q5 au)] [] [] (mB (mxM au.nodes.length (zap au au.nodes.length) 0)) (by rw [hj9]; try kernel_rfl) h
 refine loopST (ι:=(Nat)) (fun m=>m<=au.nodes.length)
   (fun m=>[(2,.t (.c (.d (.raw zaa)))),(3,vN au.nodes.length),(4,q5 au),(8,vN m)])
   (fun m=>[])
   (fun m=>mB (mxM au.nodes.length (zap au au.nodes.length) m))
   (fun m=>au.nodes.length - m) 0 ?_ (zbi _) h (by kernel_rfl) (by kernel_rfl) (by kernel_rfl) ?_
 ·exact bH _
 clear h;rintro m a w hI h
 skip
 refine qW (rqt zb0 (zbi _) 3 [] [] [(44,vb (decide ((m:Int)<(au.nodes.length:Int))))] [] [] h fun a w h=>condST (decide ((m:Int)<(au.nodes.length:Int))) h rfl (fun hc5=>?_) (fun hc18=>?_))
 ·have hc5':=dT hc5;refine qU (za0 (qW (qZ (rqt zb0 (zbi _) 3 [] [44] [(9,vI 0)] [] [] h fun a w h=>qZ ?_))));replace h:=cvT [] [] [] [] (mB (mxI au.nodes.length m (mxM au.nodes.length (zap au au.nodes.length) m) 0)) (by kernel_rfl) h
  refine loopST (ι:=(Nat)) (fun i=>i<=au.nodes.length)
    (fun i=>[(2,.t (.c (.d (.raw zaa)))),(3,vN au.nodes.length),(4,q5 au),(8,vN m),(9,vN i)])
    (fun i=>[])
    (fun i=>mB (mxI au.nodes.length m (mxM au.nodes.length (zap au au.nodes.length) m) i))
    (fun i=>au.nodes.length - i) 0 ?_ (zbi _) h (by kernel_rfl) (by kernel_rfl) (by kernel_rfl) ?_
  ·exact bH _
  clear h;rintro i a w hI h
  skip
  refine qW (rqt zb0 (zbi _) 3 [] [] [(49,vb (decide ((i:Int)<(au.nodes.length:Int))))] [] [] h fun a w h=>condST (decide ((i:Int)<(au.nodes.length:Int))) h rfl (fun hc6=>?_) (fun hc17=>?_))
  ·have hc6':=dT hc6;refine qU (za0 (qW (qZ (rqt zb0 (zbi _) 3 [] [49] [(10,vI 0)] [] [] h fun a w h=>qZ ?_))));replace h:=cvT [] [] [] [] (mB (mxK m i (mxI au.nodes.length m (mxM au.nodes.length (zap au au.nodes.length) m) i) 0)) (by kernel_rfl) h
   refine loopST (ι:=(Nat)) (fun k=>k<=au.nodes.length)
     (fun k=>[(2,.t (.c (.d (.raw zaa)))),(3,vN au.nodes.length),(4,q5 au),(8,vN m),(9,vN i),(10,vN k)])
     (fun k=>[])
     (fun k=>mB (mxK m i (mxI au.nodes.length m (mxM au.nodes.length (zap au au.nodes.length) m) i) k))
     (fun k=>au.nodes.length - k) 0 ?_ (zbi _) h (by kernel_rfl) (by kernel_rfl) (by kernel_rfl) ?_
   ·exact bH _
   clear h;rintro k a w hI h
   skip
   refine qW (rqt zb0 (zbi _) 3 [] [] [(54,vb (decide ((k:Int)<(au.nodes.length:Int))))] [] [] h fun a w h=>condST (decide ((k:Int)<(au.nodes.length:Int))) h rfl (fun hc7=>?_) (fun hc16=>?_))
   ·have hc7':=dT hc7;refine qU (za0 (qW (qZ ?_)))
    by_cases him:i=m
    ·skip
     have hm9:m<au.nodes.length:=by have:=dT hc5;omega
     have hi9:i<au.nodes.length:=by have:=dT hc6;omega
     have hk9:k<au.nodes.length:=by have:=dT hc7;omega
     have hsq:Sq au.nodes.length (mxK m i (mxI au.nodes.length m (mxM au.nodes.length (zap au au.nodes.length) m) i) k):=sq_K (sq_I (sq_M (sq_init au) m) i) k;obtain ⟨ri,hri⟩:∃ r,(mxK m i (mxI au.nodes.length m (mxM au.nodes.length (zap au au.nodes.length) m) i) k)[i]?=some r:=⟨_,cC (by rw [hsq.len];omega)⟩;have lri:ri.length=au.nodes.length:=hsq.row ri (lM hri);have hrm:(mxK m i (mxI au.nodes.length m (mxM au.nodes.length (zap au au.nodes.length) m) i) k)[m]?=some ri:=him ▸ hri;replace h:=mt_open1 i (zc5 hri) h (by kernel_rfl) (by kernel_rfl) (by kernel_rfl);obtain ⟨x4,hx4⟩:=gl ri k
     rcases bJ x4 with hc8 | hc9
     ·refine rST zb0 (mtN_tl _ _) 3 [(2,.g (xO 59 57 999 au.nodes.length i zek (eC 58 _))),(3,.g (Op.loadC_c (d:=60) (t:=59) (n:=999) (i:=i) (fo:=0) (es:=1) (rty:=59) (rows:=(hdN (nm1 i) (ze5 (mxK m i (mxI au.nodes.length m (mxM au.nodes.length (zap au au.nodes.length) m) i) k)))) (r:=[.own 5 au.nodes.length]) (x:=.own 5 au.nodes.length) zgv rfl ((zdu (zc5 hri)).trans (by rw [nm1_i i,bC,lri])) rfl)),(7,.g (xO 64 62 999 au.nodes.length i zek (eC 63 _))),(8,.g (Op.loadC_c (d:=65) (t:=64) (n:=999) (i:=i) (fo:=0) (es:=1) (rty:=59) (rows:=(hdN (nm1 i) (ze5 (mxK m i (mxI au.nodes.length m (mxM au.nodes.length (zap au au.nodes.length) m) i) k)))) (r:=[.own 5 au.nodes.length]) (x:=.own 5 au.nodes.length) zgv rfl ((zdu (zc5 hri)).trans (by rw [nm1_i i,bC,lri])) rfl)),(10,.g (xO 67 65 5 au.nodes.length k zda (eC 66 _))),(11,.g (eD (d:=68) (t:=67) (n:=5) (i:=k) (fo:=0) (rty:=4) (es:=1) (x:=(.raw (.bool true))) zfq rfl (za4 (hx4.trans (congrArg some hc8)) (f:=za3)) rfl)),(30,.g (xO 87 60 5 au.nodes.length k zda (eC 61 _))),(31,.g (eE (t:=87) (n:=5) (i:=k) (fo:=0) (rty:=4) (es:=1) (r:=za3 true) (ds:=[.raw (.bool true)]) (rs:=[(86,vb true)]) (rows:=ri.map za3) (rows':=(ri.set k true).map za3) zfq (eC 86 _) rfl rfl rfl (za4 (hx4.trans (congrArg some hc8)) (f:=za3)) (by simp [za3]) (zc9 (xs:=ri) (F:=za3) k _ _ rfl)))] [(2,.t (.c (.d (.raw zaa)))),(3,vN au.nodes.length),(4,q5 au),(8,vN m),(9,vN i),(10,vN k)] [(999,.rowc 59 1 (hdN (nm1 i) (ze5 (mxK m i (mxI au.nodes.length m (mxM au.nodes.length (zap au au.nodes.length) m) i) k)))),(5,.row 4 1 ((ri.set k true).map za3))] (by kernel_rfl) h fun a w h=>za5 (za0 ?_);have hb9:(mxG (mxK m i (mxI au.nodes.length m (mxM au.nodes.length (zap au au.nodes.length) m) i) k) i k || (mxG (mxK m i (mxI au.nodes.length m (mxM au.nodes.length (zap au au.nodes.length) m) i) k) i m && mxG (mxK m i (mxI au.nodes.length m (mxM au.nodes.length (zap au au.nodes.length) m) i) k) m k))=true:=by rw [zec hri (hx4.trans (congrArg some hc8))];rfl
      replace h:=zkn i (zc5 hri) (by rw [bC,bC,cD]) h (by kernel_rfl) (by kernel_rfl) (by kernel_rfl);rw [zjs,<- mxS_at hri hb9,<- zfh] at h;refine rST zb0 (zbi _) 3 [(1,.add .i64 (m:=(k:Int)) (n:=1) i6)] [(2,.t (.c (.d (.raw zaa)))),(3,vN au.nodes.length),(4,q5 au),(8,vN m),(9,vN i),(10,vI ((k:Int)+1))] [] (by kernel_rfl) h fun a w h=>za0 (zfo (x:=k) (y:=k+1) (zbi _) h ?_ ?_ (by kernel_rfl) (by kernel_rfl) (by kernel_rfl))
      ·have:=dT hc7;show k+1<=au.nodes.length;omega
      have:=dT hc7;show au.nodes.length - (k+1)<au.nodes.length - k;omega
     obtain ⟨x5,hx5⟩:=gl ri m
     rcases bJ x5 with hc10 | hc11
     ·refine rST zb0 (mtN_tl _ _) 3 [(2,.g (xO 59 57 999 au.nodes.length i zek (eC 58 _))),(3,.g (Op.loadC_c (d:=60) (t:=59) (n:=999) (i:=i) (fo:=0) (es:=1) (rty:=59) (rows:=(hdN (nm1 i) (ze5 (mxK m i (mxI au.nodes.length m (mxM au.nodes.length (zap au au.nodes.length) m) i) k)))) (r:=[.own 5 au.nodes.length]) (x:=.own 5 au.nodes.length) zgv rfl ((zdu (zc5 hri)).trans (by rw [nm1_i i,bC,lri])) rfl)),(7,.g (xO 64 62 999 au.nodes.length i zek (eC 63 _))),(8,.g (Op.loadC_c (d:=65) (t:=64) (n:=999) (i:=i) (fo:=0) (es:=1) (rty:=59) (rows:=(hdN (nm1 i) (ze5 (mxK m i (mxI au.nodes.length m (mxM au.nodes.length (zap au au.nodes.length) m) i) k)))) (r:=[.own 5 au.nodes.length]) (x:=.own 5 au.nodes.length) zgv rfl ((zdu (zc5 hri)).trans (by rw [nm1_i i,bC,lri])) rfl)),(10,.g (xO 67 65 5 au.nodes.length k zda (eC 66 _))),(11,.g (eD (d:=68) (t:=67) (n:=5) (i:=k) (fo:=0) (rty:=4) (es:=1) (x:=(.raw (.bool false))) zfq rfl (za4 (hx4.trans (congrArg some hc9)) (f:=za3)) rfl)),(15,.g (xO 72 70 999 au.nodes.length i zek (eC 71 _))),(16,.g (Op.loadC_c (d:=73) (t:=72) (n:=999) (i:=i) (fo:=0) (es:=1) (rty:=59) (rows:=(hdN (nm1 i) (ze5 (mxK m i (mxI au.nodes.length m (mxM au.nodes.length (zap au au.nodes.length) m) i) k)))) (r:=[.own 5 au.nodes.length]) (x:=.own 5 au.nodes.length) zgv rfl ((zdu (zc5 hri)).trans (by rw [nm1_i i,bC,lri])) rfl)),(18,.g (xO 75 73 5 au.nodes.length m zda (eC 74 _))),(19,.g (eD (d:=76) (t:=75) (n:=5) (i:=m) (fo:=0) (rty:=4) (es:=1) (x:=(.raw (.bool true))) zfq rfl (za4 (hx5.trans (congrArg some hc10)) (f:=za3)) rfl)),(23,.g (xO 80 78 999 au.nodes.length m zek (eC 79 _))),(24,.g (Op.loadC_c (d:=81) (t:=80) (n:=999) (i:=m) (fo:=0) (es:=1) (rty:=59) (rows:=(hdN (nm1 i) (ze5 (mxK m i (mxI au.nodes.length m (mxM au.nodes.length (zap au au.nodes.length) m) i) k)))) (r:=[.own 5 au.nodes.length]) (x:=.own 5 au.nodes.length) zgv rfl ((zdu (zc5 hrm)).trans (by rw [show nm1 i m=5 from him ▸ nm1_i i,bC,lri])) rfl)),(26,.g (xO 83 81 5 au.nodes.length k zda (eC 82 _))),(27,.g (eD (d:=84) (t:=83) (n:=5) (i:=k) (fo:=0) (rty:=4) (es:=1) (x:=(.raw (.bool false))) zfq rfl (za4 (hx4.trans (congrArg some hc9)) (f:=za3)) rfl)),(30,.g (xO 87 60 5 au.nodes.length k zda (eC 61 _))),(31,.g (eE (t:=87) (n:=5) (i:=k) (fo:=0) (rty:=4) (es:=1) (r:=za3 false) (ds:=[.raw (.bool false)]) (rs:=[(86,vb false)]) (rows:=ri.map za3) (rows':=(ri.set k false).map za3) zfq (eC 86 _) rfl rfl rfl (za4 (hx4.trans (congrArg some hc9)) (f:=za3)) (by simp [za3]) (zc9 (xs:=ri) (F:=za3) k _ _ rfl)))] [(2,.t (.c (.d (.raw zaa)))),(3,vN au.nodes.length),(4,q5 au),(8,vN m),(9,vN i),(10,vN k)] [(999,.rowc 59 1 (hdN (nm1 i) (ze5 (mxK m i (mxI au.nodes.length m (mxM au.nodes.length (zap au au.nodes.length) m) i) k)))),(5,.row 4 1 ((ri.set k false).map za3))] (by kernel_rfl) h fun a w h=>za5 (za0 ?_);have hb9:(mxG (mxK m i (mxI au.nodes.length m (mxM au.nodes.length (zap au au.nodes.length) m) i) k) i k || (mxG (mxK m i (mxI au.nodes.length m (mxM au.nodes.length (zap au au.nodes.length) m) i) k) i m && mxG (mxK m i (mxI au.nodes.length m (mxM au.nodes.length (zap au au.nodes.length) m) i) k) m k))=false:=by rw [zec hri (hx4.trans (congrArg some hc9)),zec hri (hx5.trans (congrArg some hc10)),zec hrm (hx4.trans (congrArg some hc9))];rfl
      replace h:=zkn i (zc5 hri) (by rw [bC,bC,cD]) h (by kernel_rfl) (by kernel_rfl) (by kernel_rfl);rw [zjs,<- mxS_at hri hb9,<- zfh] at h;refine rST zb0 (zbi _) 3 [(1,.add .i64 (m:=(k:Int)) (n:=1) i6)] [(2,.t (.c (.d (.raw zaa)))),(3,vN au.nodes.length),(4,q5 au),(8,vN m),(9,vN i),(10,vI ((k:Int)+1))] [] (by kernel_rfl) h fun a w h=>za0 (zfo (x:=k) (y:=k+1) (zbi _) h ?_ ?_ (by kernel_rfl) (by kernel_rfl) (by kernel_rfl))
      ·have:=dT hc7;show k+1<=au.nodes.length;omega
      have:=dT hc7;show au.nodes.length - (k+1)<au.nodes.length - k;omega
     refine rST zb0 (mtN_tl _ _) 3 [(2,.g (xO 59 57 999 au.nodes.length i zek (eC 58 _))),(3,.g (Op.loadC_c (d:=60) (t:=59) (n:=999) (i:=i) (fo:=0) (es:=1) (rty:=59) (rows:=(hdN (nm1 i) (ze5 (mxK m i (mxI au.nodes.length m (mxM au.nodes.length (zap au au.nodes.length) m) i) k)))) (r:=[.own 5 au.nodes.length]) (x:=.own 5 au.nodes.length) zgv rfl ((zdu (zc5 hri)).trans (by rw [nm1_i i,bC,lri])) rfl)),(7,.g (xO 64 62 999 au.nodes.length i zek (eC 63 _))),(8,.g (Op.loadC_c (d:=65) (t:=64) (n:=999) (i:=i) (fo:=0) (es:=1) (rty:=59) (rows:=(hdN (nm1 i) (ze5 (mxK m i (mxI au.nodes.length m (mxM au.nodes.length (zap au au.nodes.length) m) i) k)))) (r:=[.own 5 au.nodes.length]) (x:=.own 5 au.nodes.length) zgv rfl ((zdu (zc5 hri)).trans (by rw [nm1_i i,bC,lri])) rfl)),(10,.g (xO 67 65 5 au.nodes.length k zda (eC 66 _))),(11,.g (eD (d:=68) (t:=67) (n:=5) (i:=k) (fo:=0) (rty:=4) (es:=1) (x:=(.raw (.bool false))) zfq rfl (za4 (hx4.trans (congrArg some hc9)) (f:=za3)) rfl)),(15,.g (xO 72 70 999 au.nodes.length i zek (eC 71 _))),(16,.g (Op.loadC_c (d:=73) (t:=72) (n:=999) (i:=i) (fo:=0) (es:=1) (rty:=59) (rows:=(hdN (nm1 i) (ze5 (mxK m i (mxI au.nodes.length m (mxM au.nodes.length (zap au au.nodes.length) m) i) k)))) (r:=[.own 5 au.nodes.length]) (x:=.own 5 au.nodes.length) zgv rfl ((zdu (zc5 hri)).trans (by rw [nm1_i i,bC,lri])) rfl)),(18,.g (xO 75 73 5 au.nodes.length m zda (eC 74 _))),(19,.g (eD (d:=76) (t:=75) (n:=5) (i:=m) (fo:=0) (rty:=4) (es:=1) (x:=(.raw (.bool false))) zfq rfl (za4 (hx5.trans (congrArg some hc11)) (f:=za3)) rfl)),(30,.g (xO 87 60 5 au.nodes.length k zda (eC 61 _))),(31,.g (eE (t:=87) (n:=5) (i:=k) (fo:=0) (rty:=4) (es:=1) (r:=za3 false) (ds:=[.raw (.bool false)]) (rs:=[(86,vb false)]) (rows:=ri.map za3) (rows':=(ri.set k false).map za3) zfq (eC 86 _) rfl rfl rfl (za4 (hx4.trans (congrArg some hc9)) (f:=za3)) (by simp [za3]) (zc9 (xs:=ri) (F:=za3) k _ _ rfl)))] [(2,.t (.c (.d (.raw zaa)))),(3,vN au.nodes.length),(4,q5 au),(8,vN m),(9,vN i),(10,vN k)] [(999,.rowc 59 1 (hdN (nm1 i) (ze5 (mxK m i (mxI au.nodes.length m (mxM au.nodes.length (zap au au.nodes.length) m) i) k)))),(5,.row 4 1 ((ri.set k false).map za3))] (by kernel_rfl) h fun a w h=>za5 (za0 ?_);have hb9:(mxG (mxK m i (mxI au.nodes.length m (mxM au.nodes.length (zap au au.nodes.length) m) i) k) i k || (mxG (mxK m i (mxI au.nodes.length m (mxM au.nodes.length (zap au au.nodes.length) m) i) k) i m && mxG (mxK m i (mxI au.nodes.length m (mxM au.nodes.length (zap au au.nodes.length) m) i) k) m k))=false:=by rw [zec hri (hx4.trans (congrArg some hc9)),zec hri (hx5.trans (congrArg some hc11))];rfl
     replace h:=zkn i (zc5 hri) (by rw [bC,bC,cD]) h (by kernel_rfl) (by kernel_rfl) (by kernel_rfl);rw [zjs,<- mxS_at hri hb9,<- zfh] at h;refine rST zb0 (zbi _) 3 [(1,.add .i64 (m:=(k:Int)) (n:=1) i6)] [(2,.t (.c (.d (.raw zaa)))),(3,vN au.nodes.length),(4,q5 au),(8,vN m),(9,vN i),(10,vI ((k:Int)+1))] [] (by kernel_rfl) h fun a w h=>za0 (zfo (x:=k) (y:=k+1) (zbi _) h ?_ ?_ (by kernel_rfl) (by kernel_rfl) (by kernel_rfl))
     ·have:=dT hc7;show k+1<=au.nodes.length;omega
     have:=dT hc7;show au.nodes.length - (k+1)<au.nodes.length - k;omega
    skip
    have hm9:m<au.nodes.length:=by have:=dT hc5;omega
    have hi9:i<au.nodes.length:=by have:=dT hc6;omega
    have hk9:k<au.nodes.length:=by have:=dT hc7;omega
    have hsq:Sq au.nodes.length (mxK m i (mxI au.nodes.length m (mxM au.nodes.length (zap au au.nodes.length) m) i) k):=sq_K (sq_I (sq_M (sq_init au) m) i) k;obtain ⟨ri,hri⟩:∃ r,(mxK m i (mxI au.nodes.length m (mxM au.nodes.length (zap au au.nodes.length) m) i) k)[i]?=some r:=⟨_,cC (by rw [hsq.len];omega)⟩;have lri:ri.length=au.nodes.length:=hsq.row ri (lM hri);obtain ⟨rm,hrm⟩:∃ r,(mxK m i (mxI au.nodes.length m (mxM au.nodes.length (zap au au.nodes.length) m) i) k)[m]?=some r:=⟨_,cC (by rw [hsq.len];omega)⟩;have lrm:rm.length=au.nodes.length:=hsq.row rm (lM hrm);replace h:=mt_open2 him (zc5 hri) (zc5 hrm) h (by kernel_rfl) (by kernel_rfl) (by kernel_rfl) (by kernel_rfl) (by kernel_rfl);obtain ⟨x6,hx6⟩:=gl ri k
    rcases bJ x6 with hc12 | hc13
    ·refine rST zb0 (mtN_tl _ _) 3 [(2,.g (xO 59 57 999 au.nodes.length i zek (eC 58 _))),(3,.g (Op.loadC_c (d:=60) (t:=59) (n:=999) (i:=i) (fo:=0) (es:=1) (rty:=59) (rows:=(hdN (nm2 i m) (ze5 (mxK m i (mxI au.nodes.length m (mxM au.nodes.length (zap au au.nodes.length) m) i) k)))) (r:=[.own 5 au.nodes.length]) (x:=.own 5 au.nodes.length) zgv rfl ((zdu (zc5 hri)).trans (by rw [nm2_i him,bC,lri])) rfl)),(7,.g (xO 64 62 999 au.nodes.length i zek (eC 63 _))),(8,.g (Op.loadC_c (d:=65) (t:=64) (n:=999) (i:=i) (fo:=0) (es:=1) (rty:=59) (rows:=(hdN (nm2 i m) (ze5 (mxK m i (mxI au.nodes.length m (mxM au.nodes.length (zap au au.nodes.length) m) i) k)))) (r:=[.own 5 au.nodes.length]) (x:=.own 5 au.nodes.length) zgv rfl ((zdu (zc5 hri)).trans (by rw [nm2_i him,bC,lri])) rfl)),(10,.g (xO 67 65 5 au.nodes.length k zda (eC 66 _))),(11,.g (eD (d:=68) (t:=67) (n:=5) (i:=k) (fo:=0) (rty:=4) (es:=1) (x:=(.raw (.bool true))) zfq rfl (za4 (hx6.trans (congrArg some hc12)) (f:=za3)) rfl)),(30,.g (xO 87 60 5 au.nodes.length k zda (eC 61 _))),(31,.g (eE (t:=87) (n:=5) (i:=k) (fo:=0) (rty:=4) (es:=1) (r:=za3 true) (ds:=[.raw (.bool true)]) (rs:=[(86,vb true)]) (rows:=ri.map za3) (rows':=(ri.set k true).map za3) zfq (eC 86 _) rfl rfl rfl (za4 (hx6.trans (congrArg some hc12)) (f:=za3)) (by simp [za3]) (zc9 (xs:=ri) (F:=za3) k _ _ rfl)))] [(2,.t (.c (.d (.raw zaa)))),(3,vN au.nodes.length),(4,q5 au),(8,vN m),(9,vN i),(10,vN k)] [(999,.rowc 59 1 (hdN (nm2 i m) (ze5 (mxK m i (mxI au.nodes.length m (mxM au.nodes.length (zap au au.nodes.length) m) i) k)))),(6,.row 4 1 (rm.map za3)),(5,.row 4 1 ((ri.set k true).map za3))] (by kernel_rfl) h fun a w h=>za5 (za0 ?_);have hb9:(mxG (mxK m i (mxI au.nodes.length m (mxM au.nodes.length (zap au au.nodes.length) m) i) k) i k || (mxG (mxK m i (mxI au.nodes.length m (mxM au.nodes.length (zap au au.nodes.length) m) i) k) i m && mxG (mxK m i (mxI au.nodes.length m (mxM au.nodes.length (zap au au.nodes.length) m) i) k) m k))=true:=by rw [zec hri (hx6.trans (congrArg some hc12))];rfl
     replace h:=mt_back2 him (zc5 hri) (zc5 hrm) (by rw [bC,bC,cD]) h (by kernel_rfl) (by kernel_rfl) (by kernel_rfl) (by kernel_rfl) (by kernel_rfl);rw [zjs,<- mxS_at hri hb9,<- zfh] at h;refine rST zb0 (zbi _) 3 [(1,.add .i64 (m:=(k:Int)) (n:=1) i6)] [(2,.t (.c (.d (.raw zaa)))),(3,vN au.nodes.length),(4,q5 au),(8,vN m),(9,vN i),(10,vI ((k:Int)+1))] [] (by kernel_rfl) h fun a w h=>za0 (zfo (x:=k) (y:=k+1) (zbi _) h ?_ ?_ (by kernel_rfl) (by kernel_rfl) (by kernel_rfl))
     ·have:=dT hc7;show k+1<=au.nodes.length;omega
     have:=dT hc7;show au.nodes.length - (k+1)<au.nodes.length - k;omega
    obtain ⟨x7,hx7⟩:=gl ri m
    rcases bJ x7 with hc14 | hc15
    ·obtain ⟨x8,hx8⟩:=gl rm k;refine rST zb0 (mtN_tl _ _) 3 [(2,.g (xO 59 57 999 au.nodes.length i zek (eC 58 _))),(3,.g (Op.loadC_c (d:=60) (t:=59) (n:=999) (i:=i) (fo:=0) (es:=1) (rty:=59) (rows:=(hdN (nm2 i m) (ze5 (mxK m i (mxI au.nodes.length m (mxM au.nodes.length (zap au au.nodes.length) m) i) k)))) (r:=[.own 5 au.nodes.length]) (x:=.own 5 au.nodes.length) zgv rfl ((zdu (zc5 hri)).trans (by rw [nm2_i him,bC,lri])) rfl)),(7,.g (xO 64 62 999 au.nodes.length i zek (eC 63 _))),(8,.g (Op.loadC_c (d:=65) (t:=64) (n:=999) (i:=i) (fo:=0) (es:=1) (rty:=59) (rows:=(hdN (nm2 i m) (ze5 (mxK m i (mxI au.nodes.length m (mxM au.nodes.length (zap au au.nodes.length) m) i) k)))) (r:=[.own 5 au.nodes.length]) (x:=.own 5 au.nodes.length) zgv rfl ((zdu (zc5 hri)).trans (by rw [nm2_i him,bC,lri])) rfl)),(10,.g (xO 67 65 5 au.nodes.length k zda (eC 66 _))),(11,.g (eD (d:=68) (t:=67) (n:=5) (i:=k) (fo:=0) (rty:=4) (es:=1) (x:=(.raw (.bool false))) zfq rfl (za4 (hx6.trans (congrArg some hc13)) (f:=za3)) rfl)),(15,.g (xO 72 70 999 au.nodes.length i zek (eC 71 _))),(16,.g (Op.loadC_c (d:=73) (t:=72) (n:=999) (i:=i) (fo:=0) (es:=1) (rty:=59) (rows:=(hdN (nm2 i m) (ze5 (mxK m i (mxI au.nodes.length m (mxM au.nodes.length (zap au au.nodes.length) m) i) k)))) (r:=[.own 5 au.nodes.length]) (x:=.own 5 au.nodes.length) zgv rfl ((zdu (zc5 hri)).trans (by rw [nm2_i him,bC,lri])) rfl)),(18,.g (xO 75 73 5 au.nodes.length m zda (eC 74 _))),(19,.g (eD (d:=76) (t:=75) (n:=5) (i:=m) (fo:=0) (rty:=4) (es:=1) (x:=(.raw (.bool true))) zfq rfl (za4 (hx7.trans (congrArg some hc14)) (f:=za3)) rfl)),(23,.g (xO 80 78 999 au.nodes.length m zek (eC 79 _))),(24,.g (Op.loadC_c (d:=81) (t:=80) (n:=999) (i:=m) (fo:=0) (es:=1) (rty:=59) (rows:=(hdN (nm2 i m) (ze5 (mxK m i (mxI au.nodes.length m (mxM au.nodes.length (zap au au.nodes.length) m) i) k)))) (r:=[.own 6 au.nodes.length]) (x:=.own 6 au.nodes.length) zgv rfl ((zdu (zc5 hrm)).trans (by rw [nm2_m i m,bC,lrm])) rfl)),(26,.g (xO 83 81 6 au.nodes.length k zda (eC 82 _))),(27,.g (eD (d:=84) (t:=83) (n:=6) (i:=k) (fo:=0) (rty:=4) (es:=1) (x:=(.raw (.bool x8))) zfq rfl (za4 hx8 (f:=za3)) rfl)),(30,.g (xO 87 60 5 au.nodes.length k zda (eC 61 _))),(31,.g (eE (t:=87) (n:=5) (i:=k) (fo:=0) (rty:=4) (es:=1) (r:=za3 false) (ds:=[.raw (.bool x8)]) (rs:=[(86,vb x8)]) (rows:=ri.map za3) (rows':=(ri.set k x8).map za3) zfq (eC 86 _) rfl rfl rfl (za4 (hx6.trans (congrArg some hc13)) (f:=za3)) (by simp [za3]) (zc9 (xs:=ri) (F:=za3) k _ _ rfl)))] [(2,.t (.c (.d (.raw zaa)))),(3,vN au.nodes.length),(4,q5 au),(8,vN m),(9,vN i),(10,vN k)] [(999,.rowc 59 1 (hdN (nm2 i m) (ze5 (mxK m i (mxI au.nodes.length m (mxM au.nodes.length (zap au au.nodes.length) m) i) k)))),(6,.row 4 1 (rm.map za3)),(5,.row 4 1 ((ri.set k x8).map za3))] (by kernel_rfl) h fun a w h=>za5 (za0 ?_);have hb9:(mxG (mxK m i (mxI au.nodes.length m (mxM au.nodes.length (zap au au.nodes.length) m) i) k) i k || (mxG (mxK m i (mxI au.nodes.length m (mxM au.nodes.length (zap au au.nodes.length) m) i) k) i m && mxG (mxK m i (mxI au.nodes.length m (mxM au.nodes.length (zap au au.nodes.length) m) i) k) m k))=x8:=by rw [zec hri (hx6.trans (congrArg some hc13)),zec hri (hx7.trans (congrArg some hc14)),zec hrm hx8];rfl
     replace h:=mt_back2 him (zc5 hri) (zc5 hrm) (by rw [bC,bC,cD]) h (by kernel_rfl) (by kernel_rfl) (by kernel_rfl) (by kernel_rfl) (by kernel_rfl);rw [zjs,<- mxS_at hri hb9,<- zfh] at h;refine rST zb0 (zbi _) 3 [(1,.add .i64 (m:=(k:Int)) (n:=1) i6)] [(2,.t (.c (.d (.raw zaa)))),(3,vN au.nodes.length),(4,q5 au),(8,vN m),(9,vN i),(10,vI ((k:Int)+1))] [] (by kernel_rfl) h fun a w h=>za0 (zfo (x:=k) (y:=k+1) (zbi _) h ?_ ?_ (by kernel_rfl) (by kernel_rfl) (by kernel_rfl))
     ·have:=dT hc7;show k+1<=au.nodes.length;omega
     have:=dT hc7;show au.nodes.length - (k+1)<au.nodes.length - k;omega
    refine rST zb0 (mtN_tl _ _) 3 [(2,.g (xO 59 57 999 au.nodes.length i zek (eC 58 _))),(3,.g (Op.loadC_c (d:=60) (t:=59) (n:=999) (i:=i) (fo:=0) (es:=1) (rty:=59) (rows:=(hdN (nm2 i m) (ze5 (mxK m i (mxI au.nodes.length m (mxM au.nodes.length (zap au au.nodes.length) m) i) k)))) (r:=[.own 5 au.nodes.length]) (x:=.own 5 au.nodes.length) zgv rfl ((zdu (zc5 hri)).trans (by rw [nm2_i him,bC,lri])) rfl)),(7,.g (xO 64 62 999 au.nodes.length i zek (eC 63 _))),(8,.g (Op.loadC_c (d:=65) (t:=64) (n:=999) (i:=i) (fo:=0) (es:=1) (rty:=59) (rows:=(hdN (nm2 i m) (ze5 (mxK m i (mxI au.nodes.length m (mxM au.nodes.length (zap au au.nodes.length) m) i) k)))) (r:=[.own 5 au.nodes.length]) (x:=.own 5 au.nodes.length) zgv rfl ((zdu (zc5 hri)).trans (by rw [nm2_i him,bC,lri])) rfl)),(10,.g (xO 67 65 5 au.nodes.length k zda (eC 66 _))),(11,.g (eD (d:=68) (t:=67) (n:=5) (i:=k) (fo:=0) (rty:=4) (es:=1) (x:=(.raw (.bool false))) zfq rfl (za4 (hx6.trans (congrArg some hc13)) (f:=za3)) rfl)),(15,.g (xO 72 70 999 au.nodes.length i zek (eC 71 _))),(16,.g (Op.loadC_c (d:=73) (t:=72) (n:=999) (i:=i) (fo:=0) (es:=1) (rty:=59) (rows:=(hdN (nm2 i m) (ze5 (mxK m i (mxI au.nodes.length m (mxM au.nodes.length (zap au au.nodes.length) m) i) k)))) (r:=[.own 5 au.nodes.length]) (x:=.own 5 au.nodes.length) zgv rfl ((zdu (zc5 hri)).trans (by rw [nm2_i him,bC,lri])) rfl)),(18,.g (xO 75 73 5 au.nodes.length m zda (eC 74 _))),(19,.g (eD (d:=76) (t:=75) (n:=5) (i:=m) (fo:=0) (rty:=4) (es:=1) (x:=(.raw (.bool false))) zfq rfl (za4 (hx7.trans (congrArg some hc15)) (f:=za3)) rfl)),(30,.g (xO 87 60 5 au.nodes.length k zda (eC 61 _))),(31,.g (eE (t:=87) (n:=5) (i:=k) (fo:=0) (rty:=4) (es:=1) (r:=za3 false) (ds:=[.raw (.bool false)]) (rs:=[(86,vb false)]) (rows:=ri.map za3) (rows':=(ri.set k false).map za3) zfq (eC 86 _) rfl rfl rfl (za4 (hx6.trans (congrArg some hc13)) (f:=za3)) (by simp [za3]) (zc9 (xs:=ri) (F:=za3) k _ _ rfl)))] [(2,.t (.c (.d (.raw zaa)))),(3,vN au.nodes.length),(4,q5 au),(8,vN m),(9,vN i),(10,vN k)] [(999,.rowc 59 1 (hdN (nm2 i m) (ze5 (mxK m i (mxI au.nodes.length m (mxM au.nodes.length (zap au au.nodes.length) m) i) k)))),(6,.row 4 1 (rm.map za3)),(5,.row 4 1 ((ri.set k false).map za3))] (by kernel_rfl) h fun a w h=>za5 (za0 ?_);have hb9:(mxG (mxK m i (mxI au.nodes.length m (mxM au.nodes.length (zap au au.nodes.length) m) i) k) i k || (mxG (mxK m i (mxI au.nodes.length m (mxM au.nodes.length (zap au au.nodes.length) m) i) k) i m && mxG (mxK m i (mxI au.nodes.length m (mxM au.nodes.length (zap au au.nodes.length) m) i) k) m k))=false:=by rw [zec hri (hx6.trans (congrArg some hc13)),zec hri (hx7.trans (congrArg some hc15))];rfl
    replace h:=mt_back2 him (zc5 hri) (zc5 hrm) (by rw [bC,bC,cD]) h (by kernel_rfl) (by kernel_rfl) (by kernel_rfl) (by kernel_rfl) (by kernel_rfl);rw [zjs,<- mxS_at hri hb9,<- zfh] at h;refine rST zb0 (zbi _) 3 [(1,.add .i64 (m:=(k:Int)) (n:=1) i6)] [(2,.t (.c (.d (.raw zaa)))),(3,vN au.nodes.length),(4,q5 au),(8,vN m),(9,vN i),(10,vI ((k:Int)+1))] [] (by kernel_rfl) h fun a w h=>za0 (zfo (x:=k) (y:=k+1) (zbi _) h ?_ ?_ (by kernel_rfl) (by kernel_rfl) (by kernel_rfl))
    ·have:=dT hc7;show k+1<=au.nodes.length;omega
    have:=dT hc7;show au.nodes.length - (k+1)<au.nodes.length - k;omega
   have hc16':=dF hc16;refine wp_exit (zbq (zbq (zao (za5 (za0 (rnt zb0 (zbi _) 3 [(1,.j1 i)] [10,54] [(9,vI ((i:Int)+1))] [] [] h fun a w h=>za0 ?_))))));replace h:=cvT [] [] [] [] (mB (mxI au.nodes.length m (mxM au.nodes.length (zap au au.nodes.length) m) (i+1))) (by rw [show k=au.nodes.length by have:=dF hc16;omega,<- mxI_snoc]; try kernel_rfl) h;refine zfo (x:=i) (y:=i+1) (zbi _) h ?_ ?_ (by kernel_rfl) (by kernel_rfl) (by kernel_rfl)
   ·have:=dT hc6;show i+1<=au.nodes.length;omega
   have:=dT hc6;show au.nodes.length - (i+1)<au.nodes.length - i;omega
  have hc17':=dF hc17;refine wp_exit (zbq (zbq (zao (za5 (za0 (rnt zb0 (zbi _) 3 [(1,.add .i64 (m:=(m:Int)) (n:=1) i6)] [9,49] [(8,vI ((m:Int)+1))] [] [] h fun a w h=>za0 ?_))))));replace h:=cvT [] [] [] [] (mB (mxM au.nodes.length (zap au au.nodes.length) (m+1))) (by rw [show i=au.nodes.length by have:=dF hc17;omega,<- mxM_snoc]; try kernel_rfl) h;refine zfo (x:=m) (y:=m+1) (zbi _) h ?_ ?_ (by kernel_rfl) (by kernel_rfl) (by kernel_rfl)
  ·have:=dT hc5;show m+1<=au.nodes.length;omega
  have:=dT hc5;show au.nodes.length - (m+1)<au.nodes.length - m;omega
 have hc18':=dF hc18;refine exA ?_;replace h:=mt_pub h (by kernel_rfl) (by kernel_rfl);replace h:=h.conv (f':=F.of [(2,.t (.c (.d (.raw zaa)))),(3,vN au.nodes.length),(4,q5 au),(8,vN m),(44,vb (decide ((m:Int)<(au.nodes.length:Int))))] [(999,.row 59 1 ((zdk au).map (slD 1 za3)))]) (by rw [show m=au.nodes.length by have:=dF hc18;omega];unfold ze5;rw [List.map_map];try rfl);have lpt:(zdk au).length=au.nodes.length:=(sq_path au).len;refine Jg 3 [] [3,4,8,44] [(2,q5 au)] [] [] h fun a w h=>qV ?_;replace h:=zhz 999 1 59 ((zdk au).map (slD 1 za3)) h [au.nodes.length] ⟨by first | exact (bC _).symm | (simp;done) | (simp;omega),trivial⟩;refine rT (.c (.d (.sl 1 ((zdk au).map (slD 1 za3))))) h rfl ?_;rfl
theorem rc1_10:ElZ eB 72 128 3:=ElZ.mk' Tryz.underlying72 _ _ rfl rfl
theorem rc1_11:ElT eB 72 128 3 72:=ElT.mk' Tryz.underlying72 _ _ rfl rfl
theorem rc1_13:Sz eB 74 3 true:=Sz.mk' (by kernel_rfl) Tryz.underlying74 _ rfl
def zet (a:zay) (i k:Nat):Bool:=decide ((i:Int) ∈ a.first) || (bI k).any fun k=>decide ((k:Int) ∈ a.first) && mxG (zdk a) k i
def toB (a:zay) (i k:Nat):Bool:=(bI k).any fun k=>gdN a k && mxG (zdk a) k k && (decide ((k:Int)=(i:Int)) || mxG (zdk a) i k)
def zcd (a:zay) (i:Nat):Bool:=zet a i a.nodes.length && toB a i a.nodes.length
def zdm (a:zay):List Bool:=zev (zcd a) a.nodes.length a.nodes.length
def zdy (a:zay) (j:Nat):List zaf:=((bI j).filter (zcd a)).map fun i=>⟨(ze1 a i).must,(ze1 a i).never,ze9 (ze1 a i).next (zdm a)⟩
def zei (a:zay) (j:Nat):List Bool:=((bI j).filter (zcd a)).map (gdN a)
def zfm (a:zay):zay:=⟨zdy a a.nodes.length,ze9 a.first (zdm a),zei a a.nodes.length⟩
theorem zjo (a:zay) (i k:Nat):zet a i (k+1)=(zet a i k || (decide ((k:Int) ∈ a.first) && mxG (zdk a) k i)):=by
 unfold zet;rw [bK,dD,<- Bool.or_assoc];simp only [List.any_cons,List.any_nil,dU]
theorem zia (a:zay) (i k:Nat):toB a i (k+1)=(toB a i k || (gdN a k && mxG (zdk a) k k && (decide ((k:Int)=(i:Int)) || mxG (zdk a) i k))):=by
 unfold toB;rw [bK,dD];simp only [List.any_cons,List.any_nil,dU]
theorem zis (a:zay):(zdm a).length=a.nodes.length:=zep _ _ _
theorem keepL_at {a:zay} {x:Bool} (h:(zdm a)[i]?=some x):zcd a i=x:=by
 have hi:i<a.nodes.length:=by rw [<- zis a];exact (bV.1 h).1
 unfold zdm at h
 rw [zhy hi,decide_eq_true hi,cG] at h
 exact Option.some.inj h
theorem zik {a:zay} {x:zaf} (h:a.nodes[i]?=some x):ze1 a i=x:=by unfold ze1;rw [h];rfl
theorem trimK_yes {a:zay} {x:zaf} (h:a.nodes[j]?=some x) (hk:zcd a j=true):zdy a j++[⟨x.must,x.never,ze9 x.next (zdm a)⟩]=zdy a (j+1):=by
 unfold zdy;rw [bK,cH,dV hk,bW,<- zik h];rfl
theorem trimK_no {a:zay} (hk:zcd a j=false):zdy a j=zdy a (j+1):=by
 unfold zdy;rw [bK,cH,dW (by rw [hk];exact Bool.noConfusion),dX,cJ]
theorem trimG_yes {a:zay} (hk:zcd a j=true):zei a j++[gdN a j]=zei a (j+1):=by
 unfold zei;rw [bK,cH,dV hk,bW];rfl
theorem trimG_no {a:zay} (hk:zcd a j=false):zei a j=zei a (j+1):=by
 unfold zei;rw [bK,cH,dW (by rw [hk];exact Bool.noConfusion),dX,cJ]
theorem trimK_len (a:zay) (j:Nat):(zdy a j).length<=j:=by unfold zdy;rw [bC];exact dI (dL _ _) (by simp)
theorem trimG_len (a:zay) (j:Nat):(zei a j).length<=j:=by unfold zei;rw [bC];exact dI (dL _ _) (by simp)
theorem STrim (au:zay) (hn:au.nodes.length<=1000000) (hx:∀ nd ∈ au.nodes,nd.next.length<=9223372036854775807) (hf:au.first.length<=9223372036854775807) (hg:au.good.length<=9223372036854775807):Fn eB 56 [] [.t (.agg [.d (.sl 3 (au.nodes.map eG)),.d (.sl 1 (au.first.map za8)),.d (.sl 1 (au.good.map za3))])] (.t (.agg [.d (.sl 3 ((zfm au).nodes.map eG)),.d (.sl 1 ((zfm au).first.map za8)),.d (.sl 1 ((zfm au).good.map za3))])) []:=by
 have lpt:(zdk au).length=au.nodes.length:=(sq_path au).len;refine fB Tryz.func56 rfl 128 fun w H B a h=>Jq 0 [] [(1,vp 0 0),(2,vp 1 0)] [(0,.box [.d (.sl 3 (au.nodes.map eG)),.d (.sl 1 (au.first.map za8)),.d (.sl 1 (au.good.map za3))]),(1,.box [.d (.raw zaa),.d (.raw zaa),.d (.raw zaa)])] h fun a w h=>Je 2 [(1,.call (SPaths au hn hx))] [] [(3,.t (.c (.d (.sl 1 ((zdk au).map (slD 1 za3))))))] h fun a w h=>Je 2 [(2,.len (za1 3 eG au.nodes))] [] [(4,vN au.nodes.length)] h fun a w h=>Jg 2 [(1,.g (Op.makeO' (d:=19) (n:=2) (L:=au.nodes.length) (zs:=[.raw (.bool false)]) (rows:=(List.replicate au.nodes.length false).map za3) kn_13 rb1_2 rfl (eC 18 _) (eC 18 _) (by omega) (by rw [List.map_replicate];rfl)))] [] [(5,.t (.c (.own 2 au.nodes.length)))] [] [(2,.row 4 1 ((List.replicate au.nodes.length false).map za3))] h fun a w h=>qW (Je 3 [] [] [(6,vI 0)] h fun a w h=>qZ ?_)
 replace h:=cvM [] [] [] [(2,.row 4 1 ((zev (zcd au) au.nodes.length 0).map za3))] (by rw [rowJ_zero (zcd au)]; try kernel_rfl) h
 refine zcc (ι:=(Nat)) (fun i=>i<=au.nodes.length)
   [] (fun i=>[(6,vN i)])
   [] (fun i=>[(2,.row 4 1 ((zev (zcd au) au.nodes.length i).map za3))])
   (fun i=>au.nodes.length - i) 0 ?_ h ?_
 ·exact bH _
 clear h;rintro i a w hI h;have lkp:=zep (zcd au) au.nodes.length i;refine qW (Je 3 [] [] [(22,vb (decide ((i:Int)<(au.nodes.length:Int))))] h fun a w h=>zag ((i:Int)<(au.nodes.length:Int)) h (fun hc1 hc1'=>?_) (fun hc18 hc18'=>?_))
 ·refine qU (za0 (qW (qZ (Je 3 [(3,.call (SIn17 au.first (i:Int) hf))] [22] [(7,vb (decide ((i:Int) ∈ au.first))),(8,vb false)] h fun a w h=>qW (Je 3 [] [] [(9,vI 0)] h fun a w h=>qZ ?_)))))
  refine zcc (ι:=(Nat) × (Bool) × (Bool)) (fun (k,f,t)=>k<=au.nodes.length/\f=zet au i k/\t=toB au i k)
    [] (fun (k,f,t)=>[(7,vb f),(8,vb t),(9,vN k)])
    [] (fun (k,f,t)=>[])
    (fun (k,f,t)=>au.nodes.length - k) (0,decide ((i:Int) ∈ au.first),false) ?_ h ?_
  ·exact ⟨bH _,(dU _).symm,rfl⟩
  clear h;rintro ⟨k,f,t⟩ a w hI h;dsimp only at h;obtain ⟨hI1,hf9,ht9⟩:=hI;refine qW (Je 3 [] [] [(31,vb (decide ((k:Int)<(au.nodes.length:Int))))] h fun a w h=>zag ((k:Int)<(au.nodes.length:Int)) h (fun hc2 hc2'=>?_) (fun hc15 hc15'=>?_))
  ·refine qU (za0 (qW (qZ (midH h [(1,vp 0 0),(2,vp 1 0),(3,.t (.c (.d (.sl 1 ((zdk au).map (slD 1 za3)))))),(4,vN au.nodes.length),(5,.t (.c (.own 2 au.nodes.length))),(6,vN i),(7,vb (zet au i (k+1))),(8,vb t),(9,vN k)] [(0,.box [.d (.sl 3 (au.nodes.map eG)),.d (.sl 1 (au.first.map za8)),.d (.sl 1 (au.good.map za3))]),(1,.box [.d (.raw zaa),.d (.raw zaa),.d (.raw zaa)]),(2,.row 4 1 ((zev (zcd au) au.nodes.length i).map za3))] ?_ (fun a w h=>?_)))))
   ·rcases bJ f with hc3 | hc4
    ·rw [hc3] at h;refine Jn 3 [] [(1,vp 0 0),(2,vp 1 0),(3,.t (.c (.d (.sl 1 ((zdk au).map (slD 1 za3)))))),(4,vN au.nodes.length),(5,.t (.c (.own 2 au.nodes.length))),(6,vN i),(7,vb true),(8,vb t),(9,vN k)] [(0,.box [.d (.sl 3 (au.nodes.map eG)),.d (.sl 1 (au.first.map za8)),.d (.sl 1 (au.good.map za3))]),(1,.box [.d (.raw zaa),.d (.raw zaa),.d (.raw zaa)]),(2,.row 4 1 ((zev (zcd au) au.nodes.length i).map za3))] h fun a w h=>za0 ?_;replace h:=cvM [] [(7,vb (zet au i (k+1)))] [] [] (by rw [show zet au i (k+1)=true from by rw [zjo,<- hf9,hc3];try rfl]; try kernel_rfl) h;exact atS h
    rw [hc4] at h
    rcases bJ (decide ((k:Int) ∈ au.first)) with hc5 | hc6
    ·have hc5':=dT hc5;obtain ⟨x5,hx5⟩:=gl (zdk au) k;have gx5:x5.length=au.nodes.length:=(sq_path au).row x5 (lM hx5);obtain ⟨x6,hx6⟩:=gl x5 i;refine Jn 3 [(5,.call (Fn.cast (SIn17 au.first (k:Int) hf) (congrArg vb hc5))),(9,.g (xD 43 41 zek (za4 hx5 (f:=(slD 1 za3))) (eC 42 _))),(12,.g (xD 46 44 zda (za4 hx6 (f:=za3)) (eC 45 _)))] [(1,vp 0 0),(2,vp 1 0),(3,.t (.c (.d (.sl 1 ((zdk au).map (slD 1 za3)))))),(4,vN au.nodes.length),(5,.t (.c (.own 2 au.nodes.length))),(6,vN i),(7,vb x6),(8,vb t),(9,vN k)] [(0,.box [.d (.sl 3 (au.nodes.map eG)),.d (.sl 1 (au.first.map za8)),.d (.sl 1 (au.good.map za3))]),(1,.box [.d (.raw zaa),.d (.raw zaa),.d (.raw zaa)]),(2,.row 4 1 ((zev (zcd au) au.nodes.length i).map za3))] h fun a w h=>za0 ?_;replace h:=cvM [] [(7,vb (zet au i (k+1)))] [] [] (by rw [show zet au i (k+1)=x6 from by rw [zjo,<- hf9,hc4,hc5,zec hx5 hx6];try rfl]; try kernel_rfl) h;exact atS h
    have hc6':=dF hc6;refine Jn 3 [(5,.call (Fn.cast (SIn17 au.first (k:Int) hf) (congrArg vb hc6)))] [(1,vp 0 0),(2,vp 1 0),(3,.t (.c (.d (.sl 1 ((zdk au).map (slD 1 za3)))))),(4,vN au.nodes.length),(5,.t (.c (.own 2 au.nodes.length))),(6,vN i),(7,vb false),(8,vb t),(9,vN k)] [(0,.box [.d (.sl 3 (au.nodes.map eG)),.d (.sl 1 (au.first.map za8)),.d (.sl 1 (au.good.map za3))]),(1,.box [.d (.raw zaa),.d (.raw zaa),.d (.raw zaa)]),(2,.row 4 1 ((zev (zcd au) au.nodes.length i).map za3))] h fun a w h=>za0 ?_;replace h:=cvM [] [(7,vb (zet au i (k+1)))] [] [] (by rw [show zet au i (k+1)=false from by rw [zjo,<- hf9,hc4,hc6];try rfl]; try kernel_rfl) h;exact atS h
   rcases bJ t with hc7 | hc8
   ·rw [hc7] at h;refine Jn 3 [] [(1,vp 0 0),(2,vp 1 0),(3,.t (.c (.d (.sl 1 ((zdk au).map (slD 1 za3)))))),(4,vN au.nodes.length),(5,.t (.c (.own 2 au.nodes.length))),(6,vN i),(7,vb (zet au i (k+1))),(8,vb true),(9,vN k)] [(0,.box [.d (.sl 3 (au.nodes.map eG)),.d (.sl 1 (au.first.map za8)),.d (.sl 1 (au.good.map za3))]),(1,.box [.d (.raw zaa),.d (.raw zaa),.d (.raw zaa)]),(2,.row 4 1 ((zev (zcd au) au.nodes.length i).map za3))] h fun a w h=>za5 (za0 (Jf 3 [(1,.add .i64 (m:=(k:Int)) (n:=1) i6)] [] [(9,vI ((k:Int)+1))] h fun a w h=>za0 (za9 (x:=(k,f,t)) (y:=(k+1,(zet au i (k+1)),true)) h ?_ ?_)))
    ·have:=dT hc2;exact ⟨by omega,rfl,Eq.symm (show toB au i (k+1)=true from by rw [zia,<- ht9,hc7];try rfl)⟩
    have:=dT hc2;show au.nodes.length - (k+1)<au.nodes.length - k;omega
   rw [hc8] at h
   rcases bJ (gdN au k) with hc9 | hc14
   ·obtain ⟨x10,hx10⟩:=gl (zdk au) k;have gx10:x10.length=au.nodes.length:=(sq_path au).row x10 (lM hx10);obtain ⟨x11,hx11⟩:=gl x10 k
    rcases bJ x11 with hc10 | hc13
    ·rcases bJ ((k:Int) == (i:Int)) with hc11 | hc12
     ·refine Jn 3 [(4,.call (Fn.cast (SGood17 au k hg) (congrArg vb hc9))),(8,.g (xD 58 56 zek (za4 hx10 (f:=(slD 1 za3))) (eC 57 _))),(11,.g (xD 61 59 zda (za4 (hx11.trans (congrArg some hc10)) (f:=za3)) (eC 60 _))),(17,.cmp (op:=.eql) (m:=(k:Int)) (n:=(i:Int)) (b:=true) .i64 hc11)] [(1,vp 0 0),(2,vp 1 0),(3,.t (.c (.d (.sl 1 ((zdk au).map (slD 1 za3)))))),(4,vN au.nodes.length),(5,.t (.c (.own 2 au.nodes.length))),(6,vN i),(7,vb (zet au i (k+1))),(8,vb true),(9,vN k)] [(0,.box [.d (.sl 3 (au.nodes.map eG)),.d (.sl 1 (au.first.map za8)),.d (.sl 1 (au.good.map za3))]),(1,.box [.d (.raw zaa),.d (.raw zaa),.d (.raw zaa)]),(2,.row 4 1 ((zev (zcd au) au.nodes.length i).map za3))] h fun a w h=>za5 (za0 (Jf 3 [(1,.add .i64 (m:=(k:Int)) (n:=1) i6)] [] [(9,vI ((k:Int)+1))] h fun a w h=>za0 (za9 (x:=(k,f,t)) (y:=(k+1,(zet au i (k+1)),true)) h ?_ ?_)))
      ·have:=dT hc2;exact ⟨by omega,rfl,Eq.symm (show toB au i (k+1)=true from by rw [zia,<- ht9,hc8,hc9,zec hx10 (hx11.trans (congrArg some hc10)),show decide ((k:Int)=(i:Int))=true from hc11];try rfl)⟩
      have:=dT hc2;show au.nodes.length - (k+1)<au.nodes.length - k;omega
     obtain ⟨x15,hx15⟩:=gl (zdk au) i;have gx15:x15.length=au.nodes.length:=(sq_path au).row x15 (lM hx15);obtain ⟨x16,hx16⟩:=gl x15 k;refine Jn 3 [(4,.call (Fn.cast (SGood17 au k hg) (congrArg vb hc9))),(8,.g (xD 58 56 zek (za4 hx10 (f:=(slD 1 za3))) (eC 57 _))),(11,.g (xD 61 59 zda (za4 (hx11.trans (congrArg some hc10)) (f:=za3)) (eC 60 _))),(17,.cmp (op:=.eql) (m:=(k:Int)) (n:=(i:Int)) (b:=false) .i64 hc12),(21,.g (xD 71 69 zek (za4 hx15 (f:=(slD 1 za3))) (eC 70 _))),(24,.g (xD 74 72 zda (za4 hx16 (f:=za3)) (eC 73 _)))] [(1,vp 0 0),(2,vp 1 0),(3,.t (.c (.d (.sl 1 ((zdk au).map (slD 1 za3)))))),(4,vN au.nodes.length),(5,.t (.c (.own 2 au.nodes.length))),(6,vN i),(7,vb (zet au i (k+1))),(8,vb x16),(9,vN k)] [(0,.box [.d (.sl 3 (au.nodes.map eG)),.d (.sl 1 (au.first.map za8)),.d (.sl 1 (au.good.map za3))]),(1,.box [.d (.raw zaa),.d (.raw zaa),.d (.raw zaa)]),(2,.row 4 1 ((zev (zcd au) au.nodes.length i).map za3))] h fun a w h=>za5 (za0 (Jf 3 [(1,.add .i64 (m:=(k:Int)) (n:=1) i6)] [] [(9,vI ((k:Int)+1))] h fun a w h=>za0 (za9 (x:=(k,f,t)) (y:=(k+1,(zet au i (k+1)),x16)) h ?_ ?_)))
     ·have:=dT hc2;exact ⟨by omega,rfl,Eq.symm (show toB au i (k+1)=x16 from by rw [zia,<- ht9,hc8,hc9,zec hx10 (hx11.trans (congrArg some hc10)),show decide ((k:Int)=(i:Int))=false from hc12,zec hx15 hx16];try rfl)⟩
     have:=dT hc2;show au.nodes.length - (k+1)<au.nodes.length - k;omega
    refine Jn 3 [(4,.call (Fn.cast (SGood17 au k hg) (congrArg vb hc9))),(8,.g (xD 58 56 zek (za4 hx10 (f:=(slD 1 za3))) (eC 57 _))),(11,.g (xD 61 59 zda (za4 (hx11.trans (congrArg some hc13)) (f:=za3)) (eC 60 _)))] [(1,vp 0 0),(2,vp 1 0),(3,.t (.c (.d (.sl 1 ((zdk au).map (slD 1 za3)))))),(4,vN au.nodes.length),(5,.t (.c (.own 2 au.nodes.length))),(6,vN i),(7,vb (zet au i (k+1))),(8,vb false),(9,vN k)] [(0,.box [.d (.sl 3 (au.nodes.map eG)),.d (.sl 1 (au.first.map za8)),.d (.sl 1 (au.good.map za3))]),(1,.box [.d (.raw zaa),.d (.raw zaa),.d (.raw zaa)]),(2,.row 4 1 ((zev (zcd au) au.nodes.length i).map za3))] h fun a w h=>za5 (za0 (Jf 3 [(1,.add .i64 (m:=(k:Int)) (n:=1) i6)] [] [(9,vI ((k:Int)+1))] h fun a w h=>za0 (za9 (x:=(k,f,t)) (y:=(k+1,(zet au i (k+1)),false)) h ?_ ?_)))
    ·have:=dT hc2;exact ⟨by omega,rfl,Eq.symm (show toB au i (k+1)=false from by rw [zia,<- ht9,hc8,hc9,zec hx10 (hx11.trans (congrArg some hc13))];try rfl)⟩
    have:=dT hc2;show au.nodes.length - (k+1)<au.nodes.length - k;omega
   refine Jn 3 [(4,.call (Fn.cast (SGood17 au k hg) (congrArg vb hc14)))] [(1,vp 0 0),(2,vp 1 0),(3,.t (.c (.d (.sl 1 ((zdk au).map (slD 1 za3)))))),(4,vN au.nodes.length),(5,.t (.c (.own 2 au.nodes.length))),(6,vN i),(7,vb (zet au i (k+1))),(8,vb false),(9,vN k)] [(0,.box [.d (.sl 3 (au.nodes.map eG)),.d (.sl 1 (au.first.map za8)),.d (.sl 1 (au.good.map za3))]),(1,.box [.d (.raw zaa),.d (.raw zaa),.d (.raw zaa)]),(2,.row 4 1 ((zev (zcd au) au.nodes.length i).map za3))] h fun a w h=>za5 (za0 (Jf 3 [(1,.add .i64 (m:=(k:Int)) (n:=1) i6)] [] [(9,vI ((k:Int)+1))] h fun a w h=>za0 (za9 (x:=(k,f,t)) (y:=(k+1,(zet au i (k+1)),false)) h ?_ ?_)))
   ·have:=dT hc2;exact ⟨by omega,rfl,Eq.symm (show toB au i (k+1)=false from by rw [zia,<- ht9,hc8,hc14];try rfl)⟩
   have:=dT hc2;show au.nodes.length - (k+1)<au.nodes.length - k;omega
  refine exA ?_
  rcases bJ f with hc16 | hc17
  ·rw [hc16] at h;obtain ⟨x19,hx19⟩:=gl (zev (zcd au) au.nodes.length i) i;refine Jn 3 [(6,.g (xO 85 79 2 au.nodes.length i zda (eC 80 _))),(7,.g (eE (t:=85) (n:=2) (i:=i) (fo:=0) (rty:=4) (es:=1) (r:=za3 x19) (ds:=[.raw (.bool t)]) (rs:=[(84,vb t)]) (rows:=(zev (zcd au) au.nodes.length i).map za3) (rows':=((zev (zcd au) au.nodes.length i).set i t).map za3) zfq (eC 84 _) rfl rfl rfl (za4 hx19 (f:=za3)) (by simp [za3]) (zc9 (xs:=(zev (zcd au) au.nodes.length i)) (F:=za3) i _ _ rfl)))] [(1,vp 0 0),(2,vp 1 0),(3,.t (.c (.d (.sl 1 ((zdk au).map (slD 1 za3)))))),(4,vN au.nodes.length),(5,.t (.c (.own 2 au.nodes.length))),(6,vN i)] [(0,.box [.d (.sl 3 (au.nodes.map eG)),.d (.sl 1 (au.first.map za8)),.d (.sl 1 (au.good.map za3))]),(1,.box [.d (.raw zaa),.d (.raw zaa),.d (.raw zaa)]),(2,.row 4 1 (((zev (zcd au) au.nodes.length i).set i t).map za3))] h fun a w h=>za5 (za0 (Jf 3 [(1,.j1 i)] [] [(6,vI ((i:Int)+1))] h fun a w h=>za0 ?_));have hkk:k=au.nodes.length:=by have:=dF hc15;omega
   have hv9:t=zcd au i:=by unfold zcd;rw [<- hkk,<- hf9,<- ht9,hc16];try rfl
   replace h:=cvM [] [] [] [(2,.row 4 1 ((zev (zcd au) au.nodes.length (i+1)).map za3))] (by rw [rowJ_set (by have:=dT hc1;omega) hv9]; try kernel_rfl) h;refine za9 (x:=i) (y:=i+1) h ?_ ?_
   ·have:=dT hc1;show i+1<=au.nodes.length;omega
   have:=dT hc1;show au.nodes.length - (i+1)<au.nodes.length - i;omega
  rw [hc17] at h;obtain ⟨x20,hx20⟩:=gl (zev (zcd au) au.nodes.length i) i;refine Jn 3 [(6,.g (xO 85 79 2 au.nodes.length i zda (eC 80 _))),(7,.g (eE (t:=85) (n:=2) (i:=i) (fo:=0) (rty:=4) (es:=1) (r:=za3 x20) (ds:=[.raw (.bool false)]) (rs:=[(84,vb false)]) (rows:=(zev (zcd au) au.nodes.length i).map za3) (rows':=((zev (zcd au) au.nodes.length i).set i false).map za3) zfq (eC 84 _) rfl rfl rfl (za4 hx20 (f:=za3)) (by simp [za3]) (zc9 (xs:=(zev (zcd au) au.nodes.length i)) (F:=za3) i _ _ rfl)))] [(1,vp 0 0),(2,vp 1 0),(3,.t (.c (.d (.sl 1 ((zdk au).map (slD 1 za3)))))),(4,vN au.nodes.length),(5,.t (.c (.own 2 au.nodes.length))),(6,vN i)] [(0,.box [.d (.sl 3 (au.nodes.map eG)),.d (.sl 1 (au.first.map za8)),.d (.sl 1 (au.good.map za3))]),(1,.box [.d (.raw zaa),.d (.raw zaa),.d (.raw zaa)]),(2,.row 4 1 (((zev (zcd au) au.nodes.length i).set i false).map za3))] h fun a w h=>za5 (za0 (Jf 3 [(1,.j1 i)] [] [(6,vI ((i:Int)+1))] h fun a w h=>za0 ?_));have hkk:k=au.nodes.length:=by have:=dF hc15;omega
  have hv9:false=zcd au i:=by unfold zcd;rw [<- hkk,<- hf9,<- ht9,hc17];try rfl
  replace h:=cvM [] [] [] [(2,.row 4 1 ((zev (zcd au) au.nodes.length (i+1)).map za3))] (by rw [rowJ_set (by have:=dT hc1;omega) hv9]; try kernel_rfl) h;refine za9 (x:=i) (y:=i+1) h ?_ ?_
  ·have:=dT hc1;show i+1<=au.nodes.length;omega
  have:=dT hc1;show au.nodes.length - (i+1)<au.nodes.length - i;omega
 refine exA ?_;replace h:=cvM [] [] [] [(2,.row 4 1 ((zdm au).map za3))] (by rw [show i=au.nodes.length by have:=dF hc18;omega]; try kernel_rfl) h;have lkl:=zis au;replace h:=zhz 2 1 4 ((zdm au).map za3) h [au.nodes.length] ⟨by first | exact (bC _).symm | (simp;done) | (simp;omega),trivial⟩;refine Jg 3 [(3,.call (SAnew17 au.first (zdm au) hf (by rw [zis];exact hn)))] [3,6,22] [(10,vp 3 0)] [] [(3,.box [.d (.raw zaa),.d (.sl 1 ((ze9 au.first (zdm au)).map za8)),.d (.raw zaa)])] h fun a w h=>qW (Je 4 [] [] [(11,vI 0)] h fun a w h=>qZ ?_);replace h:=zh4 3 0 4 3 128 [.d (.raw zaa),.d (.sl 1 ((ze9 au.first (zdm au)).map za8)),.d (.raw zaa)] h;replace h:=zh4 3 2 5 1 4 [.own 4 0,.d (.sl 1 ((ze9 au.first (zdm au)).map za8)),.d (.raw zaa)] h;replace h:=cvM [] [] [] [(3,.box [.own 4 (zdy au 0).length,.d (.sl 1 ((ze9 au.first (zdm au)).map za8)),.own 5 (zei au 0).length]),(4,.row 128 3 ((zdy au 0).map eG)),(5,.row 4 1 ((zei au 0).map za3))] (by kernel_rfl) h
 refine zcc (ι:=(Nat)) (fun j=>j<=au.nodes.length)
   [] (fun j=>[(11,vN j)])
   [] (fun j=>[(3,.box [.own 4 (zdy au j).length,.d (.sl 1 ((ze9 au.first (zdm au)).map za8)),.own 5 (zei au j).length]),(4,.row 128 3 ((zdy au j).map eG)),(5,.row 4 1 ((zei au j).map za3))])
   (fun j=>au.nodes.length - j) 0 ?_ h ?_
 ·exact bH _
 clear h;rintro j a w hI h;have ltk:=trimK_len au j;have ltg:=trimG_len au j;refine qW (Je 6 [] [] [(93,vb (decide ((j:Int)<(au.nodes.length:Int))))] h fun a w h=>zag ((j:Int)<(au.nodes.length:Int)) h (fun hc19 hc19'=>?_) (fun hc22 hc22'=>?_))
 ·refine qU (za0 (qW (qZ ?_)));obtain ⟨x22,hx22⟩:=gl (zdm au) j;refine Je 6 [(2,.g (xD 98 96 zda (za4 hx22 (f:=za3)) (eC 97 _)))] [93] [(99,vb x22)] h fun a w h=>cS x22 h (fun hc20=>?_) (fun hc21=>?_)
  ·obtain ⟨x23,hx23⟩:=gl au.nodes j;refine Jg 6 [(3,.g (xD 103 101 rb1_3 (za4 hx23 (f:=eG)) (eC 102 _)))] [99] [(12,vp 6 0)] [] [(6,.box [.d (.sl 1 (x23.must.map za8)),.d (.sl 1 (x23.never.map za8)),.d (.sl 1 (x23.next.map za8))])] h fun a w h=>Jg 7 [(9,.call (SAnew17 x23.next (zdm au) (hx x23 (lM hx23)) (by rw [zis];exact hn))),(11,.g (bD 116 ([(zaf.mk x23.must x23.never (ze9 x23.next (zdm au)))].map eG) [(115,.t (.agg [.d (.sl 1 (x23.must.map za8)),.d (.sl 1 (x23.never.map za8)),.d (.sl 1 ((ze9 x23.next (zdm au)).map za8))]))] rc1_10 (.cons (i:=0) (eC 115 _) (.nil)) (by kernel_rfl) (by simp [eG]))),(12,.g (Op.appOD (d:=117) (t:=106) (u:=116) (n:=4) (n':=7) (len:=(zdy au j).length) (len':=((zdy au j)++[(zaf.mk x23.must x23.never (ze9 x23.next (zdm au)))]).length) (rows:=(zdy au j).map eG) (rows2:=[(zaf.mk x23.must x23.never (ze9 x23.next (zdm au)))].map eG) (rows':=((zdy au j)++[(zaf.mk x23.must x23.never (ze9 x23.next (zdm au)))]).map eG) rc1_11 (by first | exact (bC _).symm | simp) (by first | (rw [bL,bC];done) | (simp;done) | (simp;omega)) (by simp) (by simp [eG]) (by first | omega | (simp at *;omega))))] [12] [] [4,6] [(3,.box ([.own 7 ((zdy au j)++[(zaf.mk x23.must x23.never (ze9 x23.next (zdm au)))]).length,.d (.sl 1 ((ze9 au.first (zdm au)).map za8)),.own 5 (zei au j).length])),(7,.row 128 3 (((zdy au j)++[(zaf.mk x23.must x23.never (ze9 x23.next (zdm au)))]).map eG))] h fun a w h=>Jh 8 [(4,.call (SGood17 au j hg)),(5,.g (bD 124 ([gdN au j].map za3) [(123,vb (gdN au j))] zjk (.cons (i:=0) (eC 123 _) (.nil)) (by kernel_rfl) (by simp [za3]))),(6,.g (Op.appOD (d:=125) (t:=120) (u:=124) (n:=5) (n':=8) (len:=(zei au j).length) (len':=((zei au j)++[gdN au j]).length) (rows:=(zei au j).map za3) (rows2:=[gdN au j].map za3) (rows':=((zei au j)++[gdN au j]).map za3) kn_13 (by first | exact (bC _).symm | simp) (by first | (rw [bL,bC];done) | (simp;done) | (simp;omega)) (by simp) (by simp [za3]) (by first | omega | (simp at *;omega))))] [] [] [5] [(3,.box ([.own 7 ((zdy au j)++[(zaf.mk x23.must x23.never (ze9 x23.next (zdm au)))]).length,.d (.sl 1 ((ze9 au.first (zdm au)).map za8)),.own 8 ((zei au j)++[gdN au j]).length])),(8,.row 4 1 (((zei au j)++[gdN au j]).map za3))] h fun a w h=>za5 (za0 (Jf 9 [(1,.j1 j)] [] [(11,vI ((j:Int)+1))] h fun a w h=>za0 ?_));have hkb:zcd au j=true:=keepL_at (hx22.trans (congrArg some hc20));replace h:=cvM [] [] [] [(3,.box [.own 7 (zdy au (j+1)).length,.d (.sl 1 ((ze9 au.first (zdm au)).map za8)),.own 8 (zei au (j+1)).length]),(7,.row 128 3 ((zdy au (j+1)).map eG)),(8,.row 4 1 ((zei au (j+1)).map za3))] (by rw [<- trimK_yes hx23 hkb,<- trimG_yes hkb]; try kernel_rfl) h;replace h:=zd8 7 4 h;replace h:=zd8 8 5 h;refine za9 (x:=j) (y:=j+1) h ?_ ?_
   ·have:=dT hc19;show j+1<=au.nodes.length;omega
   have:=dT hc19;show au.nodes.length - (j+1)<au.nodes.length - j;omega
  refine qU (za5 (za0 (Jf 9 [(1,.j1 j)] [99] [(11,vI ((j:Int)+1))] h fun a w h=>za0 ?_)));have hkb:zcd au j=false:=keepL_at (hx22.trans (congrArg some hc21));replace h:=cvM [] [] [] [(3,.box [.own 4 (zdy au (j+1)).length,.d (.sl 1 ((ze9 au.first (zdm au)).map za8)),.own 5 (zei au (j+1)).length]),(4,.row 128 3 ((zdy au (j+1)).map eG)),(5,.row 4 1 ((zei au (j+1)).map za3))] (by rw [<- trimK_no hkb,<- trimG_no hkb]; try kernel_rfl) h;refine za9 (x:=j) (y:=j+1) h ?_ ?_
  ·have:=dT hc19;show j+1<=au.nodes.length;omega
  have:=dT hc19;show au.nodes.length - (j+1)<au.nodes.length - j;omega
 refine exA (Jg 9 [] [1,4,5,10,11,93] [] [0,3] [(1,.box [.own 4 (zdy au j).length,.d (.sl 1 ((ze9 au.first (zdm au)).map za8)),.own 5 (zei au j).length])] h fun a w h=>qV ?_);replace h:=cvM [] [] [] [(1,.box [.own 4 (zfm au).nodes.length,.d (.sl 1 ((zfm au).first.map za8)),.own 5 (zfm au).good.length]),(4,.row 128 3 ((zfm au).nodes.map eG)),(5,.row 4 1 ((zfm au).good.map za3))] (by rw [show j=au.nodes.length by have:=dF hc22;omega]; try kernel_rfl) h;replace h:=zhz 4 3 128 ((zfm au).nodes.map eG) h [(zfm au).nodes.length] ⟨by first | exact (bC _).symm | (simp;done) | (simp;omega),trivial⟩;replace h:=zhz 5 1 4 ((zfm au).good.map za3) h [(zfm au).good.length] ⟨by first | exact (bC _).symm | (simp;done) | (simp;omega),trivial⟩;refine rA 1 [.d (.sl 3 ((zfm au).nodes.map eG)),.d (.sl 1 ((zfm au).first.map za8)),.d (.sl 1 ((zfm au).good.map za3))] h rc1_13 rfl ?_;rfl
structure AutS (au:zay):Prop where
  nodes:au.nodes.length<=4
  first:au.first.length<=6
  good:au.good.length<=9223372036854775807
  node:∀ nd ∈ au.nodes,nd.must.length<=6/\nd.never.length<=6/\nd.next.length<=6
def natD (n:Nat):List D:=[.raw (.int .i64 (n:Int))]
def nxK (s:zab) (x:StD) (k:Nat):List Nat:=(bI k).filter fun k=>zem s x (stI s k)
theorem nxK_yes {s:zab} {x:StD} (h:zem s x (stI s k)=true):nxK s x k++[k]=nxK s x (k+1):=by
 unfold nxK;rw [bK,cH];simp [h]
theorem nxK_no {s:zab} {x:StD} (h:zem s x (stI s k)=false):nxK s x k=nxK s x (k+1):=by
 unfold nxK;rw [bK,cH];simp [h]
theorem nxK_len (s:zab) (x:StD) (k:Nat):(nxK s x k).length<=k:=dI (dL _ _) (by simp)
theorem nxK_lt {s:zab} {x:StD} (h:(nxK s x n)[i]?=some k):k<n:=cE.1 (dY.1 (bR h)).1
def okS (au:zay) (l:List Bool) (z:Int):Bool:=okN au z && zha (zc4 au z) l
def zdq (au:zay) (nx:List Int) (l:List Bool) (k j:Nat):List Int:=((nx.take j).filter (okS au l)).map fun z=>(k:Int)*(au.nodes.length:Int)+z
def zgp (s:zab) (ps:List zal) (au:zay) (nx:List Int) (ks:List Nat):List Int:=ks.flatMap fun k=>zdq au nx (zai ps (stI s k)) k nx.length
theorem innT_yes {l:List Bool} (h:nx[j]?=some x) (hk:okS au l x=true):zdq au nx l k j++[(k:Int)*(au.nodes.length:Int)+x]=zdq au nx l k (j+1):=by
 unfold zdq;rw [cM,h,cH];simp only [d9];rw [dV hk,bW];rfl
theorem zjm {l:List Bool} (h:nx[j]?=some x) (hk:okS au l x=false):zdq au nx l k j=zdq au nx l k (j+1):=by
 unfold zdq;rw [cM,h,cH];simp only [d9];rw [dW (by rw [hk];exact Bool.noConfusion),dX,cJ]
theorem zkv (au:zay) (nx:List Int) (l:List Bool) (k j:Nat):(zdq au nx l k j).length<=nx.length:=by
 unfold zdq;rw [bC];exact dI (dL _ _) (by rw [List.length_take];exact Nat.min_le_right _ _)
theorem outT_len (s:zab) (ps:List zal) (au:zay) (nx:List Int):∀ ks:List Nat,(zgp s ps au nx ks).length<=ks.length*nx.length
 | []=>by show 0<=_;omega
 | k :: ks=>by
  have:=outT_len s ps au nx ks
  have h:=zkv au nx (zai ps (stI s k)) k nx.length
  show (zdq au nx (zai ps (stI s k)) k nx.length++zgp s ps au nx ks).length<=_
  rw [bL,b7,dM,dN];omega
theorem outT_snoc {s:zab} {ks:List Nat} (h:ks[j]?=some k):zgp s ps au nx (ks.take j)++zdq au nx (zai ps (stI s k)) k nx.length=zgp s ps au nx (ks.take (j+1)):=by
 unfold zgp;rw [cM,h,c7];simp
theorem okS_no {l:List Bool} (h:okN au x=false):okS au l x=false:=by unfold okS;rw [h];rfl
theorem okS_at {l:List Bool} {nd:zaf} {v:Bool} (h:au.nodes[k]?=some nd) (ha:zha nd l=v):okS au l (k:Int)=v:=by
 have hk:=(bV.1 h).1
 unfold okS;rw [okN_yes (by omega) (by omega),nodA_at h,ha];rfl
def nodX (s:zab) (ps:List zal) (au:zay) (i j:Nat):List Int:=if zha (ze1 au j) (zai ps (stI s i))=true then zgp s ps au (ze1 au j).next (nxK s (stI s i) (cN s)) else []
def prodN (s:zab) (ps:List zal) (au:zay) (i j:Nat):zaf:=⟨[],[],nodX s ps au i j⟩
def zcs (s:zab) (ps:List zal) (au:zay) (i j:Nat):List zaf:=(bI j).map (prodN s ps au i)
def zbb (s:zab) (ps:List zal) (au:zay) (i:Nat):List zaf:=(bI i).flatMap fun i=>zcs s ps au i au.nodes.length
def zc3 (au:zay) (i:Nat):List Bool:=(bI i).flatMap fun _=>(bI au.nodes.length).map (gdN au)
def zbz (s:zab) (ps:List zal) (au:zay) (i:Nat):List Int:=(bI i).flatMap fun i=>if first s (stI s i)=true then zdq au au.first (zai ps (stI s i)) i au.first.length else []
def zds (s:zab) (ps:List zal) (au:zay):zay:=⟨zbb s ps au (cN s),zbz s ps au (cN s),zc3 au (cN s)⟩
def takT (s:zab) (ps:List zal) (au:zay):Bool:=decide (((zfm (zds s ps au)).nodes.length:Int)>0)
theorem prodL_snoc {s:zab}:zcs s ps au i j++[prodN s ps au i j]=zcs s ps au i (j+1):=by unfold zcs;rw [bK,bW];rfl
theorem zge {s:zab}:zbb s ps au i++zcs s ps au i au.nodes.length=zbb s ps au (i+1):=by unfold zbb;rw [bK,c7];simp
theorem zhk:zc3 au i++(bI au.nodes.length).map (gdN au)=zc3 au (i+1):=by unfold zc3;rw [bK,c7];simp
def gdK (au:zay) (j:Nat):List Bool:=(bI j).map (gdN au)
theorem gdK_snoc:gdK au j++[gdN au j]=gdK au (j+1):=by unfold gdK;rw [bK,bW];rfl
theorem prodF_yes {s:zab} (h:first s (stI s i)=true):zbz s ps au i++zdq au au.first (zai ps (stI s i)) i au.first.length=zbz s ps au (i+1):=by
 unfold zbz;rw [bK,c7];simp only [List.flatMap_cons,List.flatMap_nil,cJ,if_pos h]
theorem prodF_no {s:zab} (h:first s (stI s i)=false):zbz s ps au i=zbz s ps au (i+1):=by
 unfold zbz;rw [bK,c7];simp [h]
theorem prodL_len (s:zab) (ps:List zal) (au:zay) (i j:Nat):(zcs s ps au i j).length=j:=by unfold zcs;rw [bC,dH]
theorem ze0 (s:zab) (ps:List zal) (au:zay):∀ i,(zbb s ps au i).length=i*au.nodes.length
 | 0=>by show 0=_;omega
 | i+1=>by rw [<- zge,bL,ze0 s ps au i,prodL_len,dM,dN]
theorem gdK_len (au:zay) (j:Nat):(gdK au j).length=j:=by unfold gdK;rw [bC,dH]
theorem zfz (au:zay):∀ i,(zc3 au i).length=i*au.nodes.length
 | 0=>by show 0=_;omega
 | i+1=>by rw [<- zhk,bL,zfz au i,show ((bI au.nodes.length).map (gdN au)).length=au.nodes.length from gdK_len au _,dM,dN]
theorem prodF_len (s:zab) (ps:List zal) (au:zay):∀ i,(zbz s ps au i).length<=i*au.first.length
 | 0=>by show 0<=_;omega
 | i+1=>by
  have h:=prodF_len s ps au i
  rw [dM,dN]
  cases e:first s (stI s i) with
  | true=>rw [<- prodF_yes e,bL];have:=zkv au au.first (zai ps (stI s i)) i au.first.length;omega
  | false=>rw [<- prodF_no e];omega
theorem zgg (h:i<=16) (hm:m<=6):i*m<=96:=Nat.mul_le_mul h hm
theorem mulI (h:i<=16) (hm:m<=6):0<=(i:Int)*(m:Int)/\(i:Int)*(m:Int)<=96:=by
 have:=zgg h hm
 rw [<- Int.natCast_mul];omega
theorem nodX_len {s:zab} (ha:AutS au) (hc:cN s<=16) (i j:Nat):(nodX s ps au i j).length<=96:=by
 unfold nodX
 split
 ·have h1:=outT_len s ps au (ze1 au j).next (nxK s (stI s i) (cN s))
  have h2:=nxK_len s (stI s i) (cN s)
  have h3:(ze1 au j).next.length<=6:=by
   unfold ze1
   cases e:au.nodes[j]? with
   | none=>show 0<=6;omega
   | some nd=>exact (ha.node nd (bR e)).2.2
  have:=zgg (show (nxK s (stI s i) (cN s)).length<=16 by omega) h3
  omega
 ·show 0<=96;omega
theorem prod_mem {s:zab} {nd:zaf} (h:nd ∈ zbb s ps au n):∃ i j,nd=prodN s ps au i j:=by
 unfold zbb zcs at h
 obtain ⟨i,_,h2⟩:=bU.1 h
 obtain ⟨j,_,rfl⟩:=cT.1 h2
 exact ⟨i,j,rfl⟩
theorem STaken (s:zab) (ps:List zal) (au:zay) (hs:zaw 3 s) (hp:zbp s) (hc16:cN s<=16) (hps:∀ p ∈ ps,zfl 3 p) (hpl:ps.length<=4) (hau:AutS au):Fn eB 21 [] [vG [.d (.sl 1 (s.vars.map zdz)),.d (.sl 5 (s.bounds.map zaj.d)),cI s.init.kind,cPs s.init.r.t.parts,cB s.init.r.t.k.neg,.d (nsl s.init.r.t.k.abs),cB s.init.r.eq,cFs s.init.kids,.d (.sl 3 (s.procs.map zb2.d)),.d (.sl 10 (s.acts.map zb1.d))],vS 9 (ps.map zal.d),vG [.d (.sl 3 (au.nodes.map eG)),cIs au.first,.d (.sl 1 (au.good.map za3))]] (vb (takT s ps au)) []:=by
 have lal:=all_len s;have hn4:=hau.nodes;have hf6:=hau.first
 have hg9:=hau.good;refine fB Tryz.func21 rfl 219 fun w H B a h=>Jq 5 [] [(1,vS 9 (ps.map zal.d)),(3,vp 5 0),(5,vp 6 0),(6,vb false)] [(5,.box [.d (.sl 1 (s.vars.map zdz)),.d (.sl 5 (s.bounds.map zaj.d)),cI s.init.kind,cPs s.init.r.t.parts,cB s.init.r.t.k.neg,.d (nsl s.init.r.t.k.abs),cB s.init.r.eq,cFs s.init.kids,.d (.sl 3 (s.procs.map zb2.d)),.d (.sl 10 (s.acts.map zb1.d))]),(6,.box [.d (.sl 3 (au.nodes.map eG)),cIs au.first,.d (.sl 1 (au.good.map za3))])] h fun a w h=>Je 7 [(1,.call (ORAll s hs (by decide) hp))] [] [(7,vS 2 ((zkd s).map eF))] h fun a w h=>Je 7 [(2,.len (za1 3 eG au.nodes))] [] [(8,vN au.nodes.length)] h fun a w h=>Jg 7 [] [] [(9,vp 7 0)] [] [(7,.box [nCl,nCl,nCl])] h fun a w h=>qW (Je 8 [] [] [(10,vI 0)] h fun a w h=>qZ ?_)
 replace h:=zh4 7 0 8 3 128 [nCl,nCl,nCl] h;replace h:=zh4 7 1 9 1 3 [.own 8 0,nCl,nCl] h;replace h:=zh4 7 2 10 1 4 [.own 8 0,.own 9 0,nCl] h;replace h:=cvM [] [] [] [(7,.box [.own 8 (zbb s ps au 0).length,.own 9 (zbz s ps au 0).length,.own 10 (zc3 au 0).length]),(8,.row 128 3 ((zbb s ps au 0).map eG)),(9,.row 3 1 ((zbz s ps au 0).map za8)),(10,.row 4 1 ((zc3 au 0).map za3))] (by kernel_rfl) h
 refine zcc (ι:=(Nat)) (fun i=>i<=cN s)
   [] (fun i=>[(10,vN i)])
   [] (fun i=>[(7,.box [.own 8 (zbb s ps au i).length,.own 9 (zbz s ps au i).length,.own 10 (zc3 au i).length]),(8,.row 128 3 ((zbb s ps au i).map eG)),(9,.row 3 1 ((zbz s ps au i).map za8)),(10,.row 4 1 ((zc3 au i).map za3))])
   (fun i=>cN s - i) 0 ?_ h ?_
 ·exact bH _
 clear h;rintro i a w hI h;have lpn:=ze0 s ps au i;have lpg:=zfz au i;have lpf:=prodF_len s ps au i;have m1:=zgg (show i<=16 by omega) (show au.nodes.length<=6 by omega);have m2:=zgg (show i<=16 by omega) (show au.first.length<=6 by omega);refine qW (Je 11 [(2,.len (za1 2 eF (zkd s)))] [] [(29,vb (decide ((i:Int)<((zkd s).length:Int))))] h fun a w h=>cS (decide ((i:Int)<((zkd s).length:Int))) h (fun hc1=>?_) (fun hc32=>?_))
 ·have hc1':=dT hc1;refine qU (za0 (qW (qZ ?_)));obtain ⟨x2,hx2⟩:=gl (zkd s) i;have gx2:=all_ok hs hp hx2;refine Je 11 [(3,.g (xD 35 33 kn_0 (za4 hx2 (f:=eF)) (eC 34 _))),(5,.call (SRLetter ps x2 (L:=3) (M:=6) (by decide) hps (by omega) gx2))] [29] [(11,vS 1 ((zai ps x2).map za3))] h fun a w h=>Jg 11 [(0,.g (Op.buildE (d:=38) (n:=11) tb_0))] [] [(12,vO 11 0)] [] [(11,.row 3 1 ([].map za8))] h fun a w h=>qW (Je 12 [] [] [(13,vI 0)] h fun a w h=>qZ ?_);replace h:=cvM [] [(12,vO 11 (nxK s x2 0).length)] [] [(11,.row 3 1 ((nxK s x2 0).map natD))] (by kernel_rfl) h
  refine zcc (ι:=(Nat)) (fun k=>k<=cN s)
    [] (fun k=>[(12,vO 11 (nxK s x2 k).length),(13,vN k)])
    [] (fun k=>[(11,.row 3 1 ((nxK s x2 k).map natD))])
    (fun k=>cN s - k) 0 ?_ h ?_
  ·exact bH _
  clear h;rintro k a w hI h;have lnx:=nxK_len s x2 k;refine qW (Je 12 [(2,.len (za1 2 eF (zkd s)))] [] [(42,vb (decide ((k:Int)<((zkd s).length:Int))))] h fun a w h=>zag ((k:Int)<((zkd s).length:Int)) h (fun hc2 hc2'=>?_) (fun hc5 hc5'=>?_))
  ·refine qU (za0 (qW (qZ ?_)));obtain ⟨x4,hx4⟩:=gl (zkd s) k;have gx4:=all_ok hs hp hx4;refine Je 12 [(3,.g (xD 48 46 kn_0 (za4 hx2 (f:=eF)) (eC 47 _))),(7,.g (xD 52 50 kn_0 (za4 hx4 (f:=eF)) (eC 51 _))),(9,.call (SRLeads19 s x2 x4 (L:=3) (M:=6) (by decide) hs gx2 gx4))] [42] [(54,vb (zem s x2 x4))] h fun a w h=>cS (zem s x2 x4) h (fun hc3=>?_) (fun hc4=>?_)
   ·refine Jh 12 [(2,.g (bD 57 ([k].map natD) [(56,vN k)] tb_0 (.cons (i:=0) (eC 56 _) (.nil)) (by kernel_rfl) (by simp [natD]))),(3,.g (Op.appOD (d:=58) (t:=55) (u:=57) (n:=11) (n':=12) (len:=(nxK s x2 k).length) (len':=((nxK s x2 k)++[k]).length) (rows:=(nxK s x2 k).map natD) (rows2:=[k].map natD) (rows':=((nxK s x2 k)++[k]).map natD) tb_2 (by first | exact (bC _).symm | simp) (by first | (rw [bL,bC];done) | (simp;done) | (simp;omega)) (by simp) (by simp [natD]) (by first | omega | (simp only [bC,b7,cF];omega))))] [54] [(12,vO 12 ((nxK s x2 k)++[k]).length)] [11] [(12,.row 3 1 (((nxK s x2 k)++[k]).map natD))] h fun a w h=>za5 (za0 (Jf 13 [(1,.add .i64 (m:=(k:Int)) (n:=1) i6)] [] [(13,vI ((k:Int)+1))] h fun a w h=>za0 ?_));have hld:zem s x2 (stI s k)=true:=(congrArg (zem s x2) (zhb hx4).2.symm).trans hc3;replace h:=cvM [] [(12,vO 12 (nxK s x2 (k+1)).length)] [] [(12,.row 3 1 ((nxK s x2 (k+1)).map natD))] (by rw [<- nxK_yes hld]; try kernel_rfl) h;replace h:=zd8 12 11 h;refine za9 (x:=k) (y:=k+1) h ?_ ?_
    ·have:=dT hc2;show k+1<=cN s;omega
    have:=dT hc2;show cN s - (k+1)<cN s - k;omega
   refine qU (za5 (za0 (Jf 13 [(1,.add .i64 (m:=(k:Int)) (n:=1) i6)] [54] [(13,vI ((k:Int)+1))] h fun a w h=>za0 ?_)));have hld:zem s x2 (stI s k)=false:=(congrArg (zem s x2) (zhb hx4).2.symm).trans hc4;replace h:=cvM [] [(12,vO 11 (nxK s x2 (k+1)).length)] [] [(11,.row 3 1 ((nxK s x2 (k+1)).map natD))] (by rw [<- nxK_no hld]; try kernel_rfl) h;refine za9 (x:=k) (y:=k+1) h ?_ ?_
   ·have:=dT hc2;show k+1<=cN s;omega
   have:=dT hc2;show cN s - (k+1)<cN s - k;omega
  refine exA (qW ?_);replace h:=cvM [] [(12,vO 11 (nxK s x2 (cN s)).length)] [] [(11,.row 3 1 ((nxK s x2 (cN s)).map natD))] (by rw [show k=cN s by have:=dF hc5;omega]; try kernel_rfl) h;replace h:=zhz 11 1 3 ((nxK s x2 (cN s)).map natD) h [(nxK s x2 (cN s)).length] ⟨by first | exact (bC _).symm | (simp;done) | (simp;omega),trivial⟩;have lnn:=nxK_len s x2 (cN s);refine Je 13 [] [13,42] [(14,vI 0)] h fun a w h=>qZ ?_;replace h:=cvM [] [] [] [(7,.box ([.own 8 ((zbb s ps au i)++(zcs s ps au i 0)).length,.own 9 (zbz s ps au i).length,.own 10 ((zc3 au i)++(gdK au 0)).length])),(8,.row 128 3 (((zbb s ps au i)++(zcs s ps au i 0)).map eG)),(10,.row 4 1 (((zc3 au i)++(gdK au 0)).map za3))] (by rw [show zcs s ps au i 0=[] from rfl,show gdK au 0=[] from rfl,cJ,cJ]; try kernel_rfl) h
  refine zcc (ι:=(Nat)) (fun j=>j<=au.nodes.length)
    [] (fun j=>[(14,vN j)])
    [] (fun j=>[(7,.box ([.own 8 ((zbb s ps au i)++(zcs s ps au i j)).length,.own 9 (zbz s ps au i).length,.own 10 ((zc3 au i)++(gdK au j)).length])),(8,.row 128 3 (((zbb s ps au i)++(zcs s ps au i j)).map eG)),(10,.row 4 1 (((zc3 au i)++(gdK au j)).map za3))])
    (fun j=>au.nodes.length - j) 0 ?_ h ?_
  ·exact bH _
  clear h;rintro j a w hI h;have lpl:=prodL_len s ps au i j;have lgk:=gdK_len au j;have la1:((zbb s ps au i)++(zcs s ps au i j)).length=i*au.nodes.length+j:=by rw [bL,lpn,lpl]
  have la2:((zc3 au i)++(gdK au j)).length=i*au.nodes.length+j:=by rw [bL,lpg,lgk]
  refine qW (Je 13 [] [] [(61,vb (decide ((j:Int)<(au.nodes.length:Int))))] h fun a w h=>zag ((j:Int)<(au.nodes.length:Int)) h (fun hc6 hc6'=>?_) (fun hc21 hc21'=>?_))
  ·refine qU (za0 (qW (qZ (Jg 13 [] [61] [(15,vp 13 0)] [] [(13,.box [nCl,nCl,nCl])] h fun a w h=>midH h [(1,vS 9 (ps.map zal.d)),(3,vp 5 0),(5,vp 6 0),(6,vb false),(7,vS 2 ((zkd s).map eF)),(8,vN au.nodes.length),(9,vp 7 0),(10,vN i),(11,vS 1 ((zai ps x2).map za3)),(12,vS 1 ((nxK s x2 (cN s)).map natD)),(14,vN j),(15,vp 13 0)] [(5,.box [.d (.sl 1 (s.vars.map zdz)),.d (.sl 5 (s.bounds.map zaj.d)),cI s.init.kind,cPs s.init.r.t.parts,cB s.init.r.t.k.neg,.d (nsl s.init.r.t.k.abs),cB s.init.r.eq,cFs s.init.kids,.d (.sl 3 (s.procs.map zb2.d)),.d (.sl 10 (s.acts.map zb1.d))]),(6,.box [.d (.sl 3 (au.nodes.map eG)),cIs au.first,.d (.sl 1 (au.good.map za3))]),(7,.box ([.own 8 ((zbb s ps au i)++(zcs s ps au i j)).length,.own 9 (zbz s ps au i).length,.own 10 ((zc3 au i)++(gdK au j)).length])),(8,.row 128 3 (((zbb s ps au i)++(zcs s ps au i j)).map eG)),(9,.row 3 1 ((zbz s ps au i).map za8)),(10,.row 4 1 (((zc3 au i)++(gdK au j)).map za3)),(13,.box [cIs [],cIs [],cIs (nodX s ps au i j)])] ?_ (fun a w h=>?_)))))
   ·obtain ⟨x6,hx6⟩:=gl au.nodes j;have gx6:=hau.node x6 (lM hx6);refine Je 14 [(3,.g (xD 68 66 rb1_3 (za4 hx6 (f:=eG)) (eC 67 _))),(6,.call (SAllows19 x6 (zai ps x2) (by have:(zai ps x2).length=ps.length:=bC _;omega) (by have:=gx6.1;omega) (by have:=gx6.2.1;omega)))] [] [(71,vb (zha x6 (zai ps x2)))] h fun a w h=>cS (zha x6 (zai ps x2)) h (fun hc7=>?_) (fun hc18=>?_)
    ·refine Je 14 [] [71] [(16,vI 0)] h fun a w h=>qZ ?_;replace h:=zh4 13 2 14 1 3 [nCl,nCl,nCl] h;replace h:=cvM [] [] [] [(13,.box [nCl,nCl,.own 14 (zgp s ps au x6.next ((nxK s x2 (cN s)).take 0)).length]),(14,.row 3 1 ((zgp s ps au x6.next ((nxK s x2 (cN s)).take 0)).map za8))] (by rw [cO]; try kernel_rfl) h
     refine zcc (ι:=(Nat)) (fun q=>q<=(nxK s x2 (cN s)).length)
       [] (fun q=>[(16,vN q)])
       [] (fun q=>[(13,.box [nCl,nCl,.own 14 (zgp s ps au x6.next ((nxK s x2 (cN s)).take q)).length]),(14,.row 3 1 ((zgp s ps au x6.next ((nxK s x2 (cN s)).take q)).map za8))])
       (fun q=>(nxK s x2 (cN s)).length - q) 0 ?_ h ?_
     ·exact bH _
     clear h;rintro q a w hI h;have lot:=outT_len s ps au x6.next ((nxK s x2 (cN s)).take q);have ltk:((nxK s x2 (cN s)).take q).length<=16:=by rw [List.length_take];omega
     have lm6:=zgg ltk gx6.2.2;refine qW (Je 15 [(2,.len (za1 1 natD (nxK s x2 (cN s))))] [] [(75,vb (decide ((q:Int)<((nxK s x2 (cN s)).length:Int))))] h fun a w h=>zag ((q:Int)<((nxK s x2 (cN s)).length:Int)) h (fun hc8 hc8'=>?_) (fun hc17 hc17'=>?_))
     ·refine qU (za0 (qW (qZ (Je 15 [] [75] [(17,vI 0)] h fun a w h=>qZ ?_))));obtain ⟨x8,hx8⟩:=gl (nxK s x2 (cN s)) q;have gx8:=nxK_lt hx8;replace h:=cvM [] [] [] [(13,.box ([nCl,nCl,.own 14 ((zgp s ps au x6.next ((nxK s x2 (cN s)).take q))++zdq au x6.next (zai ps (stI s x8)) x8 0).length])),(14,.row 3 1 (((zgp s ps au x6.next ((nxK s x2 (cN s)).take q))++zdq au x6.next (zai ps (stI s x8)) x8 0).map za8))] (by rw [show zdq au x6.next (zai ps (stI s x8)) x8 0=[] from rfl,cJ]; try kernel_rfl) h
      refine zcc (ι:=(Nat)) (fun l=>l<=x6.next.length)
        [] (fun l=>[(17,vN l)])
        [] (fun l=>[(13,.box ([nCl,nCl,.own 14 ((zgp s ps au x6.next ((nxK s x2 (cN s)).take q))++zdq au x6.next (zai ps (stI s x8)) x8 l).length])),(14,.row 3 1 (((zgp s ps au x6.next ((nxK s x2 (cN s)).take q))++zdq au x6.next (zai ps (stI s x8)) x8 l).map za8))])
        (fun l=>x6.next.length - l) 0 ?_ h ?_
      ·exact bH _
      clear h;rintro l a w hI h;have lin:=zkv au x6.next (zai ps (stI s x8)) x8 l;have lap:((zgp s ps au x6.next ((nxK s x2 (cN s)).take q))++zdq au x6.next (zai ps (stI s x8)) x8 l).length=(zgp s ps au x6.next ((nxK s x2 (cN s)).take q)).length+(zdq au x6.next (zai ps (stI s x8)) x8 l).length:=bL;have mu:=mulI (show x8<=16 by omega) (show au.nodes.length<=6 by omega);refine qW (Je 15 [(4,.g (xD 82 80 rb1_3 (za4 hx6 (f:=eG)) (eC 81 _))),(7,.len (za1 1 za8 x6.next))] [] [(86,vb (decide ((l:Int)<(x6.next.length:Int))))] h fun a w h=>zag ((l:Int)<(x6.next.length:Int)) h (fun hc9 hc9'=>?_) (fun hc16 hc16'=>?_))
      ·refine qU (za0 (qW (qZ ?_)));obtain ⟨x9,hx9⟩:=gl x6.next l;refine Je 15 [(3,.g (xD 92 90 rb1_3 (za4 hx6 (f:=eG)) (eC 91 _))),(7,.g (xD 96 94 zdj (za4 hx9 (f:=za8)) (eC 95 _)))] [86] [(18,vI x9)] h fun a w h=>?_
       rcases bJ (decide (x9>=0)) with hc10 | hc15
       ·have hc10':=dT hc10;obtain ⟨k4,hkk4⟩:∃ k_:Nat,x9=(k_:Int):=⟨_,(Int.toNat_of_nonneg (by have:=dT hc10;omega)).symm⟩;replace h:=cvM [] [(18,vN k4)] [] [] (by rw [hkk4]; try kernel_rfl) h
        rcases bJ (decide ((k4:Int)<(au.nodes.length:Int))) with hc11 | hc14
        ·have hc11':=dT hc11;obtain ⟨x10,hx10⟩:=gl au.nodes k4;have gx10:=hau.node x10 (lM hx10);obtain ⟨x11,hx11⟩:=gl (zkd s) x8;have gx11:=all_ok hs hp hx11;refine Jg 15 [(1,.cmp (op:=.geq) (m:=(k4:Int)) (n:=0) (b:=true) .i64 (show (decide ((k4:Int)>=0))=true from by rw [<- hkk4];exact hc10)),(5,.cmp (op:=.lss) (m:=(k4:Int)) (n:=(au.nodes.length:Int)) (b:=true) .i64 hc11),(11,.g (xD 109 107 rb1_3 (za4 hx10 (f:=eG)) (eC 108 _))),(17,.g (xD 115 113 zdj (za4 hx8 (f:=natD)) (eC 114 _))),(19,.g (xD 117 112 kn_0 (za4 hx11 (f:=eF)) (eC 116 _))),(21,.call (SRLetter ps x11 (L:=3) (M:=6) (by decide) hps (by omega) gx11)),(22,.call (SAllows19 x10 (zai ps x11) (by have:(zai ps x11).length=ps.length:=bC _;omega) (by have:=gx10.1;omega) (by have:=gx10.2.1;omega)))] [] [(121,vb (zha x10 (zai ps x11)))] [] [] h fun a w h=>cS (zha x10 (zai ps x11)) h (fun hc12=>?_) (fun hc13=>?_)
         ·refine Jh 15 [(4,.g (xD 126 124 zdj (za4 hx8 (f:=natD)) (eC 125 _))),(7,.mul .i64 (m:=((x8:Nat):Int)) (n:=(au.nodes.length:Int)) i6),(9,.add .i64 (m:=(((x8:Nat):Int)*(au.nodes.length:Int))) (n:=(k4:Int)) i6),(10,.g (bD 132 ([(((x8:Nat):Int)*(au.nodes.length:Int))+(k4:Int)].map za8) [(131,vI ((((x8:Nat):Int)*(au.nodes.length:Int))+(k4:Int)))] tb_0 (.cons (i:=0) (eC 131 _) (.nil)) (by kernel_rfl) (by simp [za8]))),(11,.g (Op.appOD (d:=133) (t:=123) (u:=132) (n:=14) (n':=15) (len:=((zgp s ps au x6.next ((nxK s x2 (cN s)).take q))++zdq au x6.next (zai ps (stI s x8)) x8 l).length) (len':=(((zgp s ps au x6.next ((nxK s x2 (cN s)).take q))++zdq au x6.next (zai ps (stI s x8)) x8 l)++[(((x8:Nat):Int)*(au.nodes.length:Int))+(k4:Int)]).length) (rows:=((zgp s ps au x6.next ((nxK s x2 (cN s)).take q))++zdq au x6.next (zai ps (stI s x8)) x8 l).map za8) (rows2:=[(((x8:Nat):Int)*(au.nodes.length:Int))+(k4:Int)].map za8) (rows':=(((zgp s ps au x6.next ((nxK s x2 (cN s)).take q))++zdq au x6.next (zai ps (stI s x8)) x8 l)++[(((x8:Nat):Int)*(au.nodes.length:Int))+(k4:Int)]).map za8) tb_2 (by first | exact (bC _).symm | simp) (by first | (rw [bL,bC];done) | (simp;done) | (simp;omega)) (by simp) (by simp [za8]) (by first | omega | (simp only [bC,b7,cF];omega))))] [18,121] [] [14] [(13,.box ([nCl,nCl,.own 15 (((zgp s ps au x6.next ((nxK s x2 (cN s)).take q))++zdq au x6.next (zai ps (stI s x8)) x8 l)++[(((x8:Nat):Int)*(au.nodes.length:Int))+(k4:Int)]).length])),(15,.row 3 1 ((((zgp s ps au x6.next ((nxK s x2 (cN s)).take q))++zdq au x6.next (zai ps (stI s x8)) x8 l)++[(((x8:Nat):Int)*(au.nodes.length:Int))+(k4:Int)]).map za8))] h fun a w h=>za5 (za0 (Jf 16 [(1,.add .i64 (m:=(l:Int)) (n:=1) i6)] [] [(17,vI ((l:Int)+1))] h fun a w h=>za0 ?_));have hok9:okS au (zai ps (stI s x8)) (k4:Int)=true:=okS_at hx10 (by rw [<- (zhb hx11).2];exact hc12);replace h:=cvM [] [] [] [(13,.box ([nCl,nCl,.own 15 ((zgp s ps au x6.next ((nxK s x2 (cN s)).take q))++zdq au x6.next (zai ps (stI s x8)) x8 (l+1)).length])),(15,.row 3 1 (((zgp s ps au x6.next ((nxK s x2 (cN s)).take q))++zdq au x6.next (zai ps (stI s x8)) x8 (l+1)).map za8))] (by rw [<- innT_yes (hx9.trans (congrArg some hkk4)) hok9,<- cK]; try kernel_rfl) h;replace h:=zd8 15 14 h;refine za9 (x:=l) (y:=l+1) h ?_ ?_
          ·have:=dT hc9;show l+1<=x6.next.length;omega
          have:=dT hc9;show x6.next.length - (l+1)<x6.next.length - l;omega
         refine qU (za5 (za0 (Jf 16 [(1,.add .i64 (m:=(l:Int)) (n:=1) i6)] [18,121] [(17,vI ((l:Int)+1))] h fun a w h=>za0 ?_)));have hok9:okS au (zai ps (stI s x8)) (k4:Int)=false:=okS_at hx10 (by rw [<- (zhb hx11).2];exact hc13);replace h:=cvM [] [] [] [(13,.box ([nCl,nCl,.own 14 ((zgp s ps au x6.next ((nxK s x2 (cN s)).take q))++zdq au x6.next (zai ps (stI s x8)) x8 (l+1)).length])),(14,.row 3 1 (((zgp s ps au x6.next ((nxK s x2 (cN s)).take q))++zdq au x6.next (zai ps (stI s x8)) x8 (l+1)).map za8))] (by rw [<- zjm (hx9.trans (congrArg some hkk4)) hok9]; try kernel_rfl) h;refine za9 (x:=l) (y:=l+1) h ?_ ?_
         ·have:=dT hc9;show l+1<=x6.next.length;omega
         have:=dT hc9;show x6.next.length - (l+1)<x6.next.length - l;omega
        have hc14':=dF hc14;refine Jg 16 [(1,.cmp (op:=.geq) (m:=(k4:Int)) (n:=0) (b:=true) .i64 (show (decide ((k4:Int)>=0))=true from by rw [<- hkk4];exact hc10)),(5,.cmp (op:=.lss) (m:=(k4:Int)) (n:=(au.nodes.length:Int)) (b:=false) .i64 hc14)] [] [(121,vb false)] [] [] h fun a w h=>zbs h (qU (za5 (za0 (Jf 16 [(1,.add .i64 (m:=(l:Int)) (n:=1) i6)] [18,121] [(17,vI ((l:Int)+1))] h fun a w h=>za0 ?_))));have hok9:okS au (zai ps (stI s x8)) (k4:Int)=false:=okS_no (okN_no (.inr (by have:=dF hc14;omega)));replace h:=cvM [] [] [] [(13,.box ([nCl,nCl,.own 14 ((zgp s ps au x6.next ((nxK s x2 (cN s)).take q))++zdq au x6.next (zai ps (stI s x8)) x8 (l+1)).length])),(14,.row 3 1 (((zgp s ps au x6.next ((nxK s x2 (cN s)).take q))++zdq au x6.next (zai ps (stI s x8)) x8 (l+1)).map za8))] (by rw [<- zjm (hx9.trans (congrArg some hkk4)) hok9]; try kernel_rfl) h;refine za9 (x:=l) (y:=l+1) h ?_ ?_
        ·have:=dT hc9;show l+1<=x6.next.length;omega
        have:=dT hc9;show x6.next.length - (l+1)<x6.next.length - l;omega
       have hc15':=dF hc15;refine Je 16 [(1,.cmp (op:=.geq) (m:=x9) (n:=0) (b:=false) .i64 hc15)] [] [(121,vb false)] h fun a w h=>zbs h (qU (za5 (za0 (Jf 16 [(1,.add .i64 (m:=(l:Int)) (n:=1) i6)] [18,121] [(17,vI ((l:Int)+1))] h fun a w h=>za0 ?_))));have hok9:okS au (zai ps (stI s x8)) x9=false:=okS_no (okN_no (.inl (by have:=dF hc15;omega)));replace h:=cvM [] [] [] [(13,.box ([nCl,nCl,.own 14 ((zgp s ps au x6.next ((nxK s x2 (cN s)).take q))++zdq au x6.next (zai ps (stI s x8)) x8 (l+1)).length])),(14,.row 3 1 (((zgp s ps au x6.next ((nxK s x2 (cN s)).take q))++zdq au x6.next (zai ps (stI s x8)) x8 (l+1)).map za8))] (by rw [<- zjm hx9 hok9]; try kernel_rfl) h;refine za9 (x:=l) (y:=l+1) h ?_ ?_
       ·have:=dT hc9;show l+1<=x6.next.length;omega
       have:=dT hc9;show x6.next.length - (l+1)<x6.next.length - l;omega
      refine wp_exit (zbq (zbq (zao (za5 (za0 (Jf 16 [(1,.add .i64 (m:=(q:Int)) (n:=1) i6)] [17,86] [(16,vI ((q:Int)+1))] h fun a w h=>za0 ?_))))));replace h:=cvM [] [] [] [(13,.box [nCl,nCl,.own 14 (zgp s ps au x6.next ((nxK s x2 (cN s)).take (q+1))).length]),(14,.row 3 1 ((zgp s ps au x6.next ((nxK s x2 (cN s)).take (q+1))).map za8))] (by rw [show l=x6.next.length by have:=dF hc16;omega,outT_snoc hx8]; try kernel_rfl) h;refine za9 (x:=q) (y:=q+1) h ?_ ?_
      ·have:=dT hc8;show q+1<=(nxK s x2 (cN s)).length;omega
      have:=dT hc8;show (nxK s x2 (cN s)).length - (q+1)<(nxK s x2 (cN s)).length - q;omega
     refine exA ?_;replace h:=zb7 13 0 1 [nCl,nCl,.own 14 (zgp s ps au x6.next ((nxK s x2 (cN s)).take q)).length] h;replace h:=zb7 13 1 1 [cIs [],nCl,.own 14 (zgp s ps au x6.next ((nxK s x2 (cN s)).take q)).length] h;have hal:zha (ze1 au j) (zai ps (stI s i))=true:=by rw [zik hx6,<- (zhb hx2).2];exact hc7
     replace h:=zhz 14 1 3 ((zgp s ps au x6.next ((nxK s x2 (cN s)).take q)).map za8) h [(zgp s ps au x6.next ((nxK s x2 (cN s)).take q)).length] ⟨by first | exact (bC _).symm | (simp;done) | (simp;omega),trivial⟩;have hqq:q=(nxK s x2 (cN s)).length:=by have:=dF hc17;omega
     have hnd:nodX s ps au i j=(zgp s ps au x6.next ((nxK s x2 (cN s)).take q)):=by unfold nodX;rw [if_pos hal,zik hx6,hqq,List.take_length,<- (zhb hx2).2]
     replace h:=cvM [] [] [] [(13,.box [cIs [],cIs [],cIs (nodX s ps au i j)])] (by rw [hnd]; try kernel_rfl) h;exact atS h
    refine qU (za0 ?_);replace h:=zb7 13 0 1 [nCl,nCl,nCl] h;replace h:=zb7 13 1 1 [cIs [],nCl,nCl] h;have hal:zha (ze1 au j) (zai ps (stI s i))=false:=by rw [zik hx6,<- (zhb hx2).2];exact hc18
    replace h:=zb7 13 2 1 [cIs [],cIs [],nCl] h;have hnd:nodX s ps au i j=[]:=if_neg (by rw [hal];exact Bool.noConfusion);replace h:=cvM [] [] [] [(13,.box [cIs [],cIs [],cIs (nodX s ps au i j)])] (by rw [hnd]; try kernel_rfl) h;exact atS h
   refine Jg 16 [(3,.g (bD 138 ([(zaf.mk [] [] (nodX s ps au i j))].map eG) [(137,vG [cIs [],cIs [],cIs (nodX s ps au i j)])] rc1_10 (.cons (i:=0) (eC 137 _) (.nil)) (by kernel_rfl) (by simp [eG]))),(4,.g (Op.appOD (d:=139) (t:=136) (u:=138) (n:=8) (n':=16) (len:=((zbb s ps au i)++(zcs s ps au i j)).length) (len':=(((zbb s ps au i)++(zcs s ps au i j))++[(zaf.mk [] [] (nodX s ps au i j))]).length) (rows:=((zbb s ps au i)++(zcs s ps au i j)).map eG) (rows2:=[(zaf.mk [] [] (nodX s ps au i j))].map eG) (rows':=(((zbb s ps au i)++(zcs s ps au i j))++[(zaf.mk [] [] (nodX s ps au i j))]).map eG) rc1_11 (by first | exact (bC _).symm | simp) (by first | (rw [bL,bC];done) | (simp;done) | (simp;omega)) (by simp) (by simp [eG]) (by first | omega | (simp only [bC,b7,cF];omega))))] [15] [] [8,13] [(7,.box ([.own 16 (((zbb s ps au i)++(zcs s ps au i j))++[(zaf.mk [] [] (nodX s ps au i j))]).length,.own 9 (zbz s ps au i).length,.own 10 ((zc3 au i)++(gdK au j)).length])),(16,.row 128 3 ((((zbb s ps au i)++(zcs s ps au i j))++[(zaf.mk [] [] (nodX s ps au i j))]).map eG))] h fun a w h=>?_
   rcases bJ (decide ((j:Int)<(au.good.length:Int))) with hc19 | hc20
   ·have hc19':=dT hc19;obtain ⟨x14,hx14⟩:=gl au.good j;refine Jh 17 [(5,.len (za1 1 za3 au.good)),(6,.cmp (op:=.lss) (m:=(j:Int)) (n:=(au.good.length:Int)) (b:=true) .i64 hc19),(11,.g (xD 152 150 zda (za4 hx14 (f:=za3)) (eC 151 _))),(14,.g (bD 155 ([x14].map za3) [(154,vb x14)] zjk (.cons (i:=0) (eC 154 _) (.nil)) (by kernel_rfl) (by simp [za3]))),(15,.g (Op.appOD (d:=156) (t:=142) (u:=155) (n:=10) (n':=17) (len:=((zc3 au i)++(gdK au j)).length) (len':=(((zc3 au i)++(gdK au j))++[x14]).length) (rows:=((zc3 au i)++(gdK au j)).map za3) (rows2:=[x14].map za3) (rows':=(((zc3 au i)++(gdK au j))++[x14]).map za3) kn_13 (by first | exact (bC _).symm | simp) (by first | (rw [bL,bC];done) | (simp;done) | (simp;omega)) (by simp) (by simp [za3]) (by first | omega | (simp only [bC,b7,cF];omega))))] [] [] [10] [(7,.box ([.own 16 (((zbb s ps au i)++(zcs s ps au i j))++[(zaf.mk [] [] (nodX s ps au i j))]).length,.own 9 (zbz s ps au i).length,.own 17 (((zc3 au i)++(gdK au j))++[x14]).length])),(17,.row 4 1 ((((zc3 au i)++(gdK au j))++[x14]).map za3))] h fun a w h=>za5 (za0 (Jf 18 [(1,.j1 j)] [] [(14,vI ((j:Int)+1))] h fun a w h=>za0 ?_));have hgd:gdN au j=x14:=by unfold gdN;rw [hx14];rfl
    replace h:=cvM [] [] [] [(7,.box ([.own 16 ((zbb s ps au i)++(zcs s ps au i (j+1))).length,.own 9 (zbz s ps au i).length,.own 17 ((zc3 au i)++(gdK au (j+1))).length])),(16,.row 128 3 (((zbb s ps au i)++(zcs s ps au i (j+1))).map eG)),(17,.row 4 1 (((zc3 au i)++(gdK au (j+1))).map za3))] (by rw [<- prodL_snoc,<- gdK_snoc,<- cK,<- cK,hgd,show prodN s ps au i j=zaf.mk [] [] (nodX s ps au i j) from rfl]; try kernel_rfl) h;replace h:=zd8 16 8 h;replace h:=zd8 17 10 h;refine za9 (x:=j) (y:=j+1) h ?_ ?_
    ·have:=dT hc6;show j+1<=au.nodes.length;omega
    have:=dT hc6;show au.nodes.length - (j+1)<au.nodes.length - j;omega
   have hc20':=dF hc20;refine Jh 18 [(5,.len (za1 1 za3 au.good)),(6,.cmp (op:=.lss) (m:=(j:Int)) (n:=(au.good.length:Int)) (b:=false) .i64 hc20),(14,.g (bD 155 ([false].map za3) [(154,vb false)] zjk (.cons (i:=0) (eC 154 _) (.nil)) (by kernel_rfl) (by simp [za3]))),(15,.g (Op.appOD (d:=156) (t:=142) (u:=155) (n:=10) (n':=18) (len:=((zc3 au i)++(gdK au j)).length) (len':=(((zc3 au i)++(gdK au j))++[false]).length) (rows:=((zc3 au i)++(gdK au j)).map za3) (rows2:=[false].map za3) (rows':=(((zc3 au i)++(gdK au j))++[false]).map za3) kn_13 (by first | exact (bC _).symm | simp) (by first | (rw [bL,bC];done) | (simp;done) | (simp;omega)) (by simp) (by simp [za3]) (by first | omega | (simp only [bC,b7,cF];omega))))] [] [] [10] [(7,.box ([.own 16 (((zbb s ps au i)++(zcs s ps au i j))++[(zaf.mk [] [] (nodX s ps au i j))]).length,.own 9 (zbz s ps au i).length,.own 18 (((zc3 au i)++(gdK au j))++[false]).length])),(18,.row 4 1 ((((zc3 au i)++(gdK au j))++[false]).map za3))] h fun a w h=>za5 (za0 (Jf 19 [(1,.j1 j)] [] [(14,vI ((j:Int)+1))] h fun a w h=>za0 ?_));have hgd:gdN au j=false:=by unfold gdN;rw [cL (by have:=dF hc20;omega)];rfl
   replace h:=cvM [] [] [] [(7,.box ([.own 16 ((zbb s ps au i)++(zcs s ps au i (j+1))).length,.own 9 (zbz s ps au i).length,.own 18 ((zc3 au i)++(gdK au (j+1))).length])),(16,.row 128 3 (((zbb s ps au i)++(zcs s ps au i (j+1))).map eG)),(18,.row 4 1 (((zc3 au i)++(gdK au (j+1))).map za3))] (by rw [<- prodL_snoc,<- gdK_snoc,<- cK,<- cK,hgd,show prodN s ps au i j=zaf.mk [] [] (nodX s ps au i j) from rfl]; try kernel_rfl) h;replace h:=zd8 16 8 h;replace h:=zd8 18 10 h;refine za9 (x:=j) (y:=j+1) h ?_ ?_
   ·have:=dT hc6;show j+1<=au.nodes.length;omega
   have:=dT hc6;show au.nodes.length - (j+1)<au.nodes.length - j;omega
  refine exA (qW (Je 19 [(3,.g (xD 161 159 kn_0 (za4 hx2 (f:=eF)) (eC 160 _))),(5,.call (SRFirst s x2 (L:=3) (M:=6) (by decide) hs gx2))] [12,14,61] [(164,vb (!(first s x2)))] h fun a w h=>cS (!(first s x2)) h (fun hc22=>?_) (fun hc23=>?_)))
  ·refine wp_exit (zbq (zao (za0 (Jf 19 [(1,.j1 i)] [11,164] [(10,vI ((i:Int)+1))] h fun a w h=>za0 ?_))));have hfi:first s (stI s i)=false:=(congrArg (first s) (zhb hx2).2.symm).trans (show (first s x2)=false from by simpa using hc22)
   have hjj:j=au.nodes.length:=by have:=dF hc21;omega
   replace h:=cvM [] [] [] [(7,.box [.own 8 (zbb s ps au (i+1)).length,.own 9 (zbz s ps au (i+1)).length,.own 10 (zc3 au (i+1)).length]),(8,.row 128 3 ((zbb s ps au (i+1)).map eG)),(9,.row 3 1 ((zbz s ps au (i+1)).map za8)),(10,.row 4 1 ((zc3 au (i+1)).map za3))] (by rw [hjj,zge,show gdK au au.nodes.length=(bI au.nodes.length).map (gdN au) from rfl,zhk,<- prodF_no hfi]; try kernel_rfl) h;refine za9 (x:=i) (y:=i+1) h ?_ ?_
   ·have:=dT hc1;show i+1<=cN s;omega
   have:=dT hc1;show cN s - (i+1)<cN s - i;omega
  refine qU (za0 (Je 19 [] [164] [(19,vI 0)] h fun a w h=>qZ ?_));replace h:=cvM [] [] [] [(7,.box ([.own 8 ((zbb s ps au i)++(zcs s ps au i j)).length,.own 9 ((zbz s ps au i)++zdq au au.first (zai ps x2) i 0).length,.own 10 ((zc3 au i)++(gdK au j)).length])),(9,.row 3 1 (((zbz s ps au i)++zdq au au.first (zai ps x2) i 0).map za8))] (by rw [show zdq au au.first (zai ps x2) i 0=[] from rfl,cJ]; try kernel_rfl) h
  refine zcc (ι:=(Nat)) (fun l=>l<=au.first.length)
    [] (fun l=>[(19,vN l)])
    [] (fun l=>[(7,.box ([.own 8 ((zbb s ps au i)++(zcs s ps au i j)).length,.own 9 ((zbz s ps au i)++zdq au au.first (zai ps x2) i l).length,.own 10 ((zc3 au i)++(gdK au j)).length])),(9,.row 3 1 (((zbz s ps au i)++zdq au au.first (zai ps x2) i l).map za8))])
    (fun l=>au.first.length - l) 0 ?_ h ?_
  ·exact bH _
  clear h;rintro l a w hI h;have lin:=zkv au au.first (zai ps x2) i l
  have lap:((zbz s ps au i)++zdq au au.first (zai ps x2) i l).length=(zbz s ps au i).length+(zdq au au.first (zai ps x2) i l).length:=bL;have mu:=mulI (show i<=16 by omega) (show au.nodes.length<=6 by omega);refine qW (Je 19 [(3,.len (za1 1 za8 au.first))] [] [(169,vb (decide ((l:Int)<(au.first.length:Int))))] h fun a w h=>zag ((l:Int)<(au.first.length:Int)) h (fun hc24 hc24'=>?_) (fun hc31 hc31'=>?_))
  ·refine qU (za0 (qW (qZ ?_)));obtain ⟨x16,hx16⟩:=gl au.first l
   rcases bJ (decide (x16>=0)) with hc25 | hc30
   ·have hc25':=dT hc25;obtain ⟨k5,hkk5⟩:∃ k_:Nat,x16=(k_:Int):=⟨_,(Int.toNat_of_nonneg (by have:=dT hc25;omega)).symm⟩
    rcases bJ (decide ((k5:Int)<(au.nodes.length:Int))) with hc26 | hc29
    ·have hc26':=dT hc26;obtain ⟨x17,hx17⟩:=gl au.nodes k5;have gx17:=hau.node x17 (lM hx17);refine Je 19 [(3,.g (xD 175 173 zdj (za4 (hx16.trans (congrArg some hkk5)) (f:=za8)) (eC 174 _))),(5,.cmp (op:=.geq) (m:=(k5:Int)) (n:=0) (b:=true) .i64 (show (decide ((k5:Int)>=0))=true from by rw [<- hkk5];exact hc25)),(10,.g (xD 182 180 zdj (za4 (hx16.trans (congrArg some hkk5)) (f:=za8)) (eC 181 _))),(13,.cmp (op:=.lss) (m:=(k5:Int)) (n:=(au.nodes.length:Int)) (b:=true) .i64 hc26),(21,.g (xD 193 191 zdj (za4 (hx16.trans (congrArg some hkk5)) (f:=za8)) (eC 192 _))),(23,.g (xD 195 189 rb1_3 (za4 hx17 (f:=eG)) (eC 194 _))),(26,.call (SAllows19 x17 (zai ps x2) (by have:(zai ps x2).length=ps.length:=bC _;omega) (by have:=gx17.1;omega) (by have:=gx17.2.1;omega)))] [169] [(199,vb (zha x17 (zai ps x2)))] h fun a w h=>cS (zha x17 (zai ps x2)) h (fun hc27=>?_) (fun hc28=>?_)
     ·refine Jh 19 [(4,.mul .i64 (m:=(i:Int)) (n:=(au.nodes.length:Int)) i6),(8,.g (xD 208 206 zdj (za4 (hx16.trans (congrArg some hkk5)) (f:=za8)) (eC 207 _))),(10,.add .i64 (m:=((i:Int)*(au.nodes.length:Int))) (n:=(k5:Int)) i6),(11,.g (bD 211 ([((i:Int)*(au.nodes.length:Int))+(k5:Int)].map za8) [(210,vI (((i:Int)*(au.nodes.length:Int))+(k5:Int)))] tb_0 (.cons (i:=0) (eC 210 _) (.nil)) (by kernel_rfl) (by simp [za8]))),(12,.g (Op.appOD (d:=212) (t:=201) (u:=211) (n:=9) (n':=19) (len:=((zbz s ps au i)++zdq au au.first (zai ps x2) i l).length) (len':=(((zbz s ps au i)++zdq au au.first (zai ps x2) i l)++[((i:Int)*(au.nodes.length:Int))+(k5:Int)]).length) (rows:=((zbz s ps au i)++zdq au au.first (zai ps x2) i l).map za8) (rows2:=[((i:Int)*(au.nodes.length:Int))+(k5:Int)].map za8) (rows':=(((zbz s ps au i)++zdq au au.first (zai ps x2) i l)++[((i:Int)*(au.nodes.length:Int))+(k5:Int)]).map za8) tb_2 (by first | exact (bC _).symm | simp) (by first | (rw [bL,bC];done) | (simp;done) | (simp;omega)) (by simp) (by simp [za8]) (by first | omega | (simp only [bC,b7,cF];omega))))] [199] [] [9] [(7,.box ([.own 8 ((zbb s ps au i)++(zcs s ps au i j)).length,.own 19 (((zbz s ps au i)++zdq au au.first (zai ps x2) i l)++[((i:Int)*(au.nodes.length:Int))+(k5:Int)]).length,.own 10 ((zc3 au i)++(gdK au j)).length])),(19,.row 3 1 ((((zbz s ps au i)++zdq au au.first (zai ps x2) i l)++[((i:Int)*(au.nodes.length:Int))+(k5:Int)]).map za8))] h fun a w h=>za5 (za0 (Jf 20 [(1,.add .i64 (m:=(l:Int)) (n:=1) i6)] [] [(19,vI ((l:Int)+1))] h fun a w h=>za0 ?_));have hok9:okS au (zai ps x2) (k5:Int)=true:=okS_at hx17 hc27;replace h:=cvM [] [] [] [(7,.box ([.own 8 ((zbb s ps au i)++(zcs s ps au i j)).length,.own 19 ((zbz s ps au i)++zdq au au.first (zai ps x2) i (l+1)).length,.own 10 ((zc3 au i)++(gdK au j)).length])),(19,.row 3 1 (((zbz s ps au i)++zdq au au.first (zai ps x2) i (l+1)).map za8))] (by rw [<- innT_yes (hx16.trans (congrArg some hkk5)) hok9,<- cK]; try kernel_rfl) h;replace h:=zd8 19 9 h;refine za9 (x:=l) (y:=l+1) h ?_ ?_
      ·have:=dT hc24;show l+1<=au.first.length
       omega
      have:=dT hc24;show au.first.length - (l+1)<au.first.length - l
      omega
     refine qU (za5 (za0 (Jf 20 [(1,.add .i64 (m:=(l:Int)) (n:=1) i6)] [199] [(19,vI ((l:Int)+1))] h fun a w h=>za0 ?_)));have hok9:okS au (zai ps x2) (k5:Int)=false:=okS_at hx17 hc28;replace h:=cvM [] [] [] [(7,.box ([.own 8 ((zbb s ps au i)++(zcs s ps au i j)).length,.own 9 ((zbz s ps au i)++zdq au au.first (zai ps x2) i (l+1)).length,.own 10 ((zc3 au i)++(gdK au j)).length])),(9,.row 3 1 (((zbz s ps au i)++zdq au au.first (zai ps x2) i (l+1)).map za8))] (by rw [<- zjm (hx16.trans (congrArg some hkk5)) hok9]; try kernel_rfl) h;refine za9 (x:=l) (y:=l+1) h ?_ ?_
     ·have:=dT hc24;show l+1<=au.first.length
      omega
     have:=dT hc24;show au.first.length - (l+1)<au.first.length - l
     omega
    have hc29':=dF hc29;refine Je 20 [(3,.g (xD 175 173 zdj (za4 (hx16.trans (congrArg some hkk5)) (f:=za8)) (eC 174 _))),(5,.cmp (op:=.geq) (m:=(k5:Int)) (n:=0) (b:=true) .i64 (show (decide ((k5:Int)>=0))=true from by rw [<- hkk5];exact hc25)),(10,.g (xD 182 180 zdj (za4 (hx16.trans (congrArg some hkk5)) (f:=za8)) (eC 181 _))),(13,.cmp (op:=.lss) (m:=(k5:Int)) (n:=(au.nodes.length:Int)) (b:=false) .i64 hc29)] [169] [(199,vb false)] h fun a w h=>zbs h (qU (za5 (za0 (Jf 20 [(1,.add .i64 (m:=(l:Int)) (n:=1) i6)] [199] [(19,vI ((l:Int)+1))] h fun a w h=>za0 ?_))));have hok9:okS au (zai ps x2) (k5:Int)=false:=okS_no (okN_no (.inr (by have:=dF hc29;omega)));replace h:=cvM [] [] [] [(7,.box ([.own 8 ((zbb s ps au i)++(zcs s ps au i j)).length,.own 9 ((zbz s ps au i)++zdq au au.first (zai ps x2) i (l+1)).length,.own 10 ((zc3 au i)++(gdK au j)).length])),(9,.row 3 1 (((zbz s ps au i)++zdq au au.first (zai ps x2) i (l+1)).map za8))] (by rw [<- zjm (hx16.trans (congrArg some hkk5)) hok9]; try kernel_rfl) h;refine za9 (x:=l) (y:=l+1) h ?_ ?_
    ·have:=dT hc24;show l+1<=au.first.length
     omega
    have:=dT hc24;show au.first.length - (l+1)<au.first.length - l
    omega
   have hc30':=dF hc30;refine Je 20 [(3,.g (xD 175 173 zdj (za4 hx16 (f:=za8)) (eC 174 _))),(5,.cmp (op:=.geq) (m:=x16) (n:=0) (b:=false) .i64 hc30)] [169] [(199,vb false)] h fun a w h=>zbs h (qU (za5 (za0 (Jf 20 [(1,.add .i64 (m:=(l:Int)) (n:=1) i6)] [199] [(19,vI ((l:Int)+1))] h fun a w h=>za0 ?_))));have hok9:okS au (zai ps x2) x16=false:=okS_no (okN_no (.inl (by have:=dF hc30;omega)));replace h:=cvM [] [] [] [(7,.box ([.own 8 ((zbb s ps au i)++(zcs s ps au i j)).length,.own 9 ((zbz s ps au i)++zdq au au.first (zai ps x2) i (l+1)).length,.own 10 ((zc3 au i)++(gdK au j)).length])),(9,.row 3 1 (((zbz s ps au i)++zdq au au.first (zai ps x2) i (l+1)).map za8))] (by rw [<- zjm hx16 hok9]; try kernel_rfl) h;refine za9 (x:=l) (y:=l+1) h ?_ ?_
   ·have:=dT hc24;show l+1<=au.first.length
    omega
   have:=dT hc24;show au.first.length - (l+1)<au.first.length - l
   omega
  refine wp_exit (zbq (zbq (zao (za5 (za0 (Jf 20 [(1,.j1 i)] [11,19,169] [(10,vI ((i:Int)+1))] h fun a w h=>za0 ?_))))));have hfi:first s (stI s i)=true:=(congrArg (first s) (zhb hx2).2.symm).trans (show (first s x2)=true from by simpa using hc23)
  have hjj:j=au.nodes.length:=by have:=dF hc21;omega
  have hll:l=au.first.length:=by have:=dF hc31;omega
  replace h:=cvM [] [] [] [(7,.box [.own 8 (zbb s ps au (i+1)).length,.own 9 (zbz s ps au (i+1)).length,.own 10 (zc3 au (i+1)).length]),(8,.row 128 3 ((zbb s ps au (i+1)).map eG)),(9,.row 3 1 ((zbz s ps au (i+1)).map za8)),(10,.row 4 1 ((zc3 au (i+1)).map za3))] (by rw [hjj,zge,show gdK au au.nodes.length=(bI au.nodes.length).map (gdN au) from rfl,zhk,hll,(zhb hx2).2,prodF_yes hfi]; try kernel_rfl) h;refine za9 (x:=i) (y:=i+1) h ?_ ?_
  ·have:=dT hc1;show i+1<=cN s;omega
  have:=dT hc1;show cN s - (i+1)<cN s - i;omega
 have hc32':=dF hc32;refine exA ?_;replace h:=cvM [] [] [] [(7,.box [.own 8 (zds s ps au).nodes.length,.own 9 (zds s ps au).first.length,.own 10 (zds s ps au).good.length]),(8,.row 128 3 ((zds s ps au).nodes.map eG)),(9,.row 3 1 ((zds s ps au).first.map za8)),(10,.row 4 1 ((zds s ps au).good.map za3))] (by rw [show i=cN s by have:=dF hc32;omega]; try kernel_rfl) h;replace h:=zhz 8 3 128 ((zds s ps au).nodes.map eG) h [(zds s ps au).nodes.length] ⟨by first | exact (bC _).symm | (simp;done) | (simp;omega),trivial⟩;replace h:=zhz 9 1 3 ((zds s ps au).first.map za8) h [(zds s ps au).first.length] ⟨by first | exact (bC _).symm | (simp;done) | (simp;omega),trivial⟩;replace h:=zhz 10 1 4 ((zds s ps au).good.map za3) h [(zds s ps au).good.length] ⟨by first | exact (bC _).symm | (simp;done) | (simp;omega),trivial⟩;have h1p:(zds s ps au).nodes.length=cN s*au.nodes.length:=ze0 s ps au (cN s);have h2p:(zds s ps au).first.length<=cN s*au.first.length:=prodF_len s ps au (cN s)
 have h3p:(zds s ps au).good.length=cN s*au.nodes.length:=zfz au (cN s);have h4p:=zgg hc16 (show au.nodes.length<=6 by omega);have h5p:=zgg hc16 (show au.first.length<=6 by omega);refine Jq 20 [(1,.call (STrim (zds s ps au) (by omega) (fun nd hnd=>by obtain ⟨i,j,rfl⟩:=prod_mem hnd;have:=nodX_len (s:=s) (ps:=ps) hau hc16 i j;show (nodX s ps au i j).length<=_;omega) (by omega) (by omega))),(3,.len (za1 3 eG ((zfm (zds s ps au)).nodes)))] [(6,vb (decide (((zfm (zds s ps au)).nodes.length:Int)>0)))] [] h fun a w h=>qV (rT (.c (cB (decide (((zfm (zds s ps au)).nodes.length:Int)>0)))) h rfl ?_);rfl
inductive Pl {α:Type} (E:α->α->Prop):α->α->Prop
  | one {x y:α}:E x y->Pl E x y
  | more {x y z:α}:Pl E x y->E y z->Pl E x z
theorem Pl.trans {E:α->α->Prop} {x y z:α} (h:Pl E x y) (k:Pl E y z):Pl E x z:=by
 induction k with
 | one e=>exact .more h e
 | more _ e ih=>exact .more ih e
theorem Pl.closed {E:α->α->Prop} {S:α->Prop} (hS:∀ x,S x->∀ y,E x y->S y) {x y:α} (h:Pl E x y) (h1:∀ q,E x q->S q):S y:=by
 induction h with
 | one e=>exact h1 _ e
 | more _ e ih=>exact hS _ ih _ e
theorem zdl {α:Type} [DecidableEq α]:∀ {l u:List α}, l.Nodup->(∀ x ∈ l,x ∈ u)->l.length<=u.length
 | [],_,_,_=>bH _
 | x :: l,u,hn,h=>by
  have h1:x ∈ u:=h x (by simp)
  have h2:=List.nodup_cons.1 hn
  have h3:=zdl (l:=l) (u:=u.erase x) h2.2 fun y hy=>(List.mem_erase_of_ne (fun e=>h2.1 (by rw [<- e];exact hy))).2 (h y (by simp [hy]))
  rw [List.length_erase_of_mem h1] at h3
  have h4:=List.length_pos_of_mem h1
  simp only [b7]
  omega
section
variable (s:zab) (ps:List zal) (a:zay)
def EdP (p q:PrD):Prop:=∃ m ∈ zbr s ps a p,m.to_=q
abbrev PlP:PrD->PrD->Prop:=Pl (EdP s ps a)
structure Uni (u:List PrD) (C:Int):Prop where
  mv:∀ p ∈ u,∀ q,EdP s ps a p q->q ∈ u
  c:∀ p ∈ u,cost s ps a p<=C
  c0:0<=C
end
section
variable {s:zab} {ps:List zal} {a:zay} {u:List PrD} {C:Int}
theorem bg_yes {x:SS} {p:PrD} (h:cost s ps a p<=x.fuel) (way:List WkD):bgB s ps a x p=true/\bgW s ps a x way p=way++[⟨p,zbr s ps a p,0⟩]/\(bgS s ps a x p).fs=x.fs/\(bgS s ps a x p).sc=x.sc/\(bgS s ps a x p).out=x.out/\(bgS s ps a x p).fuel=x.fuel - cost s ps a p:=by
 have hb:bgB s ps a x p=true:=decide_eq_true h
 have e1:bgS s ps a x p={ mvS s a x p with fuel:=x.fuel - cost s ps a p }:=by unfold bgS;rw [tk_yes (x:=mvS s a x p) hb];rfl
 refine ⟨hb,if_pos hb,?_,?_,?_,?_⟩ <;> rw [e1] <;> rfl
theorem step_last {way:List WkD} (h0:0<way.length):∃ ds l,way=ds++[l]/\zb8 way=l/\way.dropLast=ds/\zas way=ds++[{ l with done:=l.done+1 }] :=
 ⟨way.dropLast,zb8 way,zi5 h0,rfl,rfl,zi4 h0⟩
theorem step_more {way:List WkD} (hm:zbu way=true) (hd:(zb8 way).done<=(zb8 way).moves.length):(zb8 way).moves[(zb8 way).done]?=some (zae way):=by
 have hne:(zb8 way).done≠(zb8 way).moves.length:=of_decide_eq_true hm
 unfold zae
 rw [cC (by omega)];rfl
structure BI (s:zab) (ps:List zal) (a:zay) (u:List PrD) (C R:Int) (goal:PrD) (sc0 fs0:List PrD) (z:LS):Prop where
  ok:z.ok=true
  out:z.x.out=false
  fs:z.x.fs=fs0
  way:∀ w ∈ z.way,w.moves=zbr s ps a w.at_/\w.done<=w.moves.length/\w.at_ ∈ u/\(w.at_=goal\/PlP s ps a goal w.at_)
  cl:∀ r,(r ∈ z.x.sc\/r=goal)->(∃ w ∈ z.way,w.at_=r/\∀ i m,i<w.done->w.moves[i]?=some m->m.to_ ∈ z.x.sc)\/∀ q,EdP s ps a r q->q ∈ z.x.sc
  sg:goal ∈ z.x.sc->goal ∈ sc0
  new:∀ r ∈ z.x.sc,r ∈ sc0\/PlP s ps a goal r
  sub:∀ r ∈ sc0,r ∈ z.x.sc
  nd:z.x.sc.Nodup
  un:∀ r ∈ z.x.sc,r ∈ u
  fuel:R+C*((u.length:Int) - z.x.sc.length)<=z.x.fuel
structure BJ (s:zab) (ps:List zal) (a:zay) (u:List PrD) (C R:Int) (goal:PrD) (sc0 fs0:List PrD) (x:SS):Prop where
  out:x.out=false
  fs:x.fs=fs0
  cl:∀ r,(r ∈ x.sc\/r=goal)->∀ q,EdP s ps a r q->q ∈ x.sc
  sg:goal ∈ x.sc->goal ∈ sc0
  new:∀ r ∈ x.sc,r ∈ sc0\/PlP s ps a goal r
  sub:∀ r ∈ sc0,r ∈ x.sc
  nd:x.sc.Nodup
  un:∀ r ∈ x.sc,r ∈ u
  fuel:R+C*((u.length:Int) - x.sc.length)<=x.fuel
def BR (s:zab) (ps:List zal) (a:zay) (u:List PrD) (C R:Int) (goal:PrD) (sc0 fs0:List PrD) (r:Option (List WkD) × SS):Prop :=
  (r.1=none->BJ s ps a u C R goal sc0 fs0 r.2)/\(r.1≠none->PlP s ps a goal goal)
def bStep (s:zab) (ps:List zal) (a:zay) (u:List PrD) (C R:Int) (goal:PrD) (sc0 fs0:List PrD):LS ⊕ (Option (List WkD) × SS)->Prop
  | .inl y=>BI s ps a u C R goal sc0 fs0 y
  | .inr r=>BR s ps a u C R goal sc0 fs0 r
theorem goB_BI {R:Int} {goal:PrD} {sc0 fs0:List PrD} (hu:Uni s ps a u C) (hR:0<=R) (h:BI s ps a u C R goal sc0 fs0 z):bStep s ps a u C R goal sc0 fs0 (goB s ps a goal z):=by
 unfold goB
 split
 ·rename_i hc
  obtain ⟨ds,l,e1,e2,e3,e4⟩:=step_last hc.2
  have hl:=h.way l (by rw [e1];simp)
  split
  ·rename_i hm
   have hn:=step_more hm (by rw [e2];exact hl.2.1)
   rw [e2] at hn
   generalize hmv:zae z.way=m at hn
   have hmem:m ∈ zbr s ps a l.at_:=by rw [<- hl.1];exact bR hn
   have hed:EdP s ps a l.at_ m.to_:=⟨m,hmem,rfl⟩
   have hpl:PlP s ps a goal m.to_:=by
    rcases hl.2.2.2 with e | e
    ·rw [<- e];exact .one hed
    ·exact .more e hed
   have hlt:=zac hn
   have hway:∀ w ∈ zas z.way,w.moves=zbr s ps a w.at_/\w.done<=w.moves.length/\w.at_ ∈ u/\(w.at_=goal\/PlP s ps a goal w.at_):=fun w hw=>by
    rw [e4] at hw
    rcases bG.1 hw with hw | hw
    ·exact h.way w (by rw [e1];exact bP _ hw)
    ·rw [bF.1 hw];exact ⟨hl.1,by show l.done+1<=l.moves.length;omega,hl.2.2⟩
   have hcl:∀ sc:List PrD,(∀ q ∈ z.x.sc,q ∈ sc)->m.to_ ∈ sc->∀ r,(r ∈ z.x.sc\/r=goal)->(∃ w ∈ zas z.way,w.at_=r/\∀ i m,i<w.done->w.moves[i]?=some m->m.to_ ∈ sc)\/∀ q,EdP s ps a r q->q ∈ sc:=fun sc hs hmt r hr=>by
    rcases h.cl r hr with ⟨w,hw,h1,h2⟩ | h1
    ·rw [e1] at hw
     rcases bG.1 hw with hw | hw
     ·exact .inl ⟨w,by rw [e4];exact bP _ hw,h1,fun i m' hi hm'=>hs _ (h2 i m' hi hm')⟩
     ·rw [bF.1 hw] at h1 h2
      refine .inl ⟨{ l with done:=l.done+1 }, by rw [e4];simp,h1,fun i m' hi hm'=>?_⟩
      by_cases hi2:i<l.done
      ·exact hs _ (h2 i m' hi2 hm')
      ·have hi:i<l.done+1:=hi
       have:i=l.done:=by omega
       subst this
       have hm':l.moves[l.done]?=some m':=hm'
       rw [hn] at hm'
       cases hm';exact hmt
    ·exact .inr fun q hq=>hs q (h1 q hq)
   split
   ·rename_i hg
    exact (show BR s ps a u C R goal sc0 fs0 (some (zas z.way),z.x) from ⟨fun e=>(by cases e),fun _=>(by rw [hg] at hpl;exact hpl)⟩)
   ·rename_i hg
    split
    ·rename_i hs
     exact (show BI s ps a u C R goal sc0 fs0 ⟨zas z.way,z.ok,z.x⟩ from ⟨h.ok,h.out,h.fs,hway,hcl _ (fun _ hq=>hq) hs,h.sg,h.new,h.sub,h.nd,h.un,h.fuel⟩)
    ·rename_i hs
     have hmu:m.to_ ∈ u:=hu.mv _ hl.2.2.1 _ hed
     have hnd:(z.x.sc++[m.to_]).Nodup:=c8.2 ⟨h.nd,by simp,fun x hx y hy e=>hs (by rw [<- bF.1 hy,<- e];exact hx)⟩
     have hun:∀ r ∈ z.x.sc++[m.to_],r ∈ u:=fun r hr=>by
      rcases bG.1 hr with hr | hr
      ·exact h.un r hr
      ·rw [bF.1 hr];exact hmu
     have hle:=zdl hnd hun
     have hln:(z.x.sc++[m.to_]).length=z.x.sc.length+1:=by simp
     have hfu:=h.fuel
     have hco:=hu.c _ hmu
     have hc0:=hu.c0
     have e9:C*((u.length:Int) - z.x.sc.length)=C*((u.length:Int) - ((z.x.sc++[m.to_]).length:Nat))+C:=by
      rw [hln,show ((u.length:Int) - z.x.sc.length)=((u.length:Int) - ((z.x.sc.length+1:Nat):Int))+1 by omega,cU,dO]
     have h8:0<=C*((u.length:Int) - ((z.x.sc++[m.to_]).length:Nat)):=dA hc0 (by omega)
     obtain ⟨b1,b2,b3,b4,b5,b6⟩:=bg_yes (s:=s) (ps:=ps) (a:=a) (x:={ z.x with sc:=z.x.sc++[m.to_] }) (p:=m.to_) (show cost s ps a m.to_<=z.x.fuel by omega) (zas z.way)
     refine (show BI s ps a u C R goal sc0 fs0 ⟨bgW s ps a { z.x with sc:=z.x.sc++[m.to_] } (zas z.way) m.to_,bgB s ps a { z.x with sc:=z.x.sc++[m.to_] } m.to_,bgS s ps a { z.x with sc:=z.x.sc++[m.to_] } m.to_⟩ from ⟨b1,b5.trans h.out,b3.trans h.fs,?_,?_,?_,?_,?_,?_,?_,?_⟩)
     ·intro w hw
      have hw:w ∈ bgW s ps a { z.x with sc:=z.x.sc++[m.to_] } (zas z.way) m.to_:=hw
      rw [b2] at hw
      rcases bG.1 hw with hw | hw
      ·exact hway w hw
      ·rw [bF.1 hw];exact ⟨rfl,bH _,hmu,.inr hpl⟩
     ·intro r hr
      show (∃ w ∈ bgW s ps a { z.x with sc:=z.x.sc++[m.to_] } (zas z.way) m.to_,w.at_=r/\∀ i m', i<w.done->w.moves[i]?=some m'->m'.to_ ∈ (bgS s ps a { z.x with sc:=z.x.sc++[m.to_] } m.to_).sc)\/∀ q,EdP s ps a r q->q ∈ (bgS s ps a { z.x with sc:=z.x.sc++[m.to_] } m.to_).sc
      have hr:r ∈ (bgS s ps a { z.x with sc:=z.x.sc++[m.to_] } m.to_).sc\/r=goal:=hr
      rw [b4] at hr ⊢
      rw [b2]
      have hr:r ∈ z.x.sc++[m.to_]\/r=goal:=hr
      show (∃ w ∈ zas z.way++[⟨m.to_,zbr s ps a m.to_,0⟩],w.at_=r/\∀ i m', i<w.done->w.moves[i]?=some m'->m'.to_ ∈ z.x.sc++[m.to_])\/∀ q,EdP s ps a r q->q ∈ z.x.sc++[m.to_]
      by_cases hrm:r=m.to_
      ·exact .inl ⟨⟨m.to_,zbr s ps a m.to_,0⟩,by simp,hrm.symm,fun i m' hi=>absurd hi (dP _)⟩
      ·have hr2:r ∈ z.x.sc\/r=goal:=hr.imp_left fun h'=>by
        rcases bG.1 h' with h' | h'
        ·exact h'
        ·exact absurd (bF.1 h') hrm
       rcases hcl (z.x.sc++[m.to_]) (fun q hq=>bP _ hq) (by simp) r hr2 with ⟨w,hw,h3,h4⟩ | h3
       ·exact .inl ⟨w,bP _ hw,h3,h4⟩
       ·exact .inr h3
     ·intro hx
      have hx:goal ∈ (bgS s ps a { z.x with sc:=z.x.sc++[m.to_] } m.to_).sc:=hx
      rw [b4] at hx
      rcases bG.1 hx with hx | hx
      ·exact h.sg hx
      ·exact absurd (bF.1 hx).symm hg
     ·intro r hx
      have hx:r ∈ (bgS s ps a { z.x with sc:=z.x.sc++[m.to_] } m.to_).sc:=hx
      rw [b4] at hx
      rcases bG.1 hx with hx | hx
      ·exact h.new r hx
      ·rw [bF.1 hx];exact .inr hpl
     ·intro r hx
      show r ∈ (bgS s ps a { z.x with sc:=z.x.sc++[m.to_] } m.to_).sc
      rw [b4];exact bP _ (h.sub r hx)
     ·show ((bgS s ps a { z.x with sc:=z.x.sc++[m.to_] } m.to_).sc).Nodup
      rw [b4];exact hnd
     ·show ∀ r ∈ (bgS s ps a { z.x with sc:=z.x.sc++[m.to_] } m.to_).sc,r ∈ u
      rw [b4];exact hun
     ·show R+C*((u.length:Int) - ((bgS s ps a { z.x with sc:=z.x.sc++[m.to_] } m.to_).sc.length:Nat))<=(bgS s ps a { z.x with sc:=z.x.sc++[m.to_] } m.to_).fuel
      rw [b6,b4]
      show R+C*((u.length:Int) - ((z.x.sc++[m.to_]).length:Nat))<=z.x.fuel - cost s ps a m.to_
      omega
  ·rename_i hm
   have hd:l.done=l.moves.length:=by
    have:¬ decide ((zb8 z.way).done≠(zb8 z.way).moves.length)=true:=hm
    rw [e2] at this
    simpa using this
   refine (show BI s ps a u C R goal sc0 fs0 ⟨z.way.dropLast,z.ok,z.x⟩ from ⟨h.ok,h.out,h.fs,fun w hw=>h.way w (List.dropLast_subset _ hw),fun r hr=>?_,h.sg,h.new,h.sub,h.nd,h.un,h.fuel⟩)
   rcases h.cl r hr with ⟨w,hw,h1,h2⟩ | h1
   ·rw [e1] at hw
    rcases bG.1 hw with hw | hw
    ·exact .inl ⟨w,by show w ∈ z.way.dropLast;rw [e3];exact hw,h1,h2⟩
    ·rw [bF.1 hw] at h1 h2
     refine .inr fun q hq=>?_
     obtain ⟨m,hm1,rfl⟩:=hq
     rw [<- h1,<- hl.1] at hm1
     obtain ⟨i,hi,hi2⟩:=dZ hm1
     exact h2 i m (by omega) (by rw [cC hi,hi2])
   ·exact .inr h1
 ·rename_i hc
  have hw:z.way=[]:=by
   cases e:z.way with
   | nil=>rfl
   | cons w ws=>exact absurd ⟨h.ok,by rw [e];simp⟩ hc
  refine (show BR s ps a u C R goal sc0 fs0 (none,z.x) from ⟨fun _=>⟨h.out,h.fs,fun r hr=>?_,h.sg,h.new,h.sub,h.nd,h.un,h.fuel⟩,fun e=>absurd rfl e⟩)
  rcases h.cl r hr with ⟨w,hw2,_⟩ | h1
  ·rw [hw] at hw2;cases hw2
  ·exact h1
theorem back_BI {R:Int} {goal:PrD} (hu:Uni s ps a u C) {x:SS} (hR:0<=R) (hf:0<=x.fuel) (ho:x.out=false) (hg:goal ∈ u) (hcl:∀ r ∈ x.sc,∀ q,EdP s ps a r q->q ∈ x.sc) (hnd:x.sc.Nodup) (hun:∀ r ∈ x.sc,r ∈ u)
  (hfu:R+C+C*((u.length:Int) - x.sc.length)<=x.fuel):BR s ps a u C R goal x.sc x.fs (zav s ps a x goal):=by
 have hle:=zdl hnd hun
 have h8:0<=C*((u.length:Int) - x.sc.length):=dA hu.c0 (by omega)
 have hco:=hu.c _ hg
 obtain ⟨b1,b2,b3,b4,b5,b6⟩:=bg_yes (s:=s) (ps:=ps) (a:=a) (x:=x) (p:=goal) (show cost s ps a goal<=x.fuel by omega) []
 have h0:BI s ps a u C R goal x.sc x.fs (stB s ps a x goal):=by
  refine ⟨b1,b5.trans ho,b3,?_,?_,?_,?_,?_,?_,?_,?_⟩
  ·intro w hw
   have hw:w ∈ bgW s ps a x [] goal:=hw
   rw [b2] at hw
   rw [bF.1 hw];exact ⟨rfl,bH _,hg,.inl rfl⟩
  ·intro r hr
   show (∃ w ∈ bgW s ps a x [] goal,w.at_=r/\∀ i m', i<w.done->w.moves[i]?=some m'->m'.to_ ∈ (bgS s ps a x goal).sc)\/∀ q,EdP s ps a r q->q ∈ (bgS s ps a x goal).sc
   have hr:r ∈ (bgS s ps a x goal).sc\/r=goal:=hr
   rw [b4] at hr ⊢
   rw [b2]
   rcases hr with hr | hr
   ·exact .inr (hcl r hr)
   ·exact .inl ⟨⟨goal,zbr s ps a goal,0⟩,by simp,hr.symm,fun i m' hi=>absurd hi (dP _)⟩
  ·intro hx;have hx:goal ∈ (bgS s ps a x goal).sc:=hx;rw [b4] at hx;exact hx
  ·intro r hx;have hx:r ∈ (bgS s ps a x goal).sc:=hx;rw [b4] at hx;exact .inl hx
  ·intro r hx;show r ∈ (bgS s ps a x goal).sc;rw [b4];exact hx
  ·show (bgS s ps a x goal).sc.Nodup;rw [b4];exact hnd
  ·show ∀ r ∈ (bgS s ps a x goal).sc,r ∈ u;rw [b4];exact hun
  ·show R+C*((u.length:Int) - ((bgS s ps a x goal).sc.length:Nat))<=(bgS s ps a x goal).fuel
   rw [b6,b4];omega
 exact zgk (BI s ps a u C R goal x.sc x.fs) (BR s ps a u C R goal x.sc x.fs) (fun z hz=>by
  have h:=goB_BI hu hR hz
  revert h;cases goB s ps a goal z <;> exact id) _ _ h0 _ (ziy hf ho goal)
structure FI (s:zab) (ps:List zal) (a:zay) (u:List PrD) (C:Int) (st:PrD) (F:List PrD) (z:LS):Prop where
  ok:z.ok=true
  out:z.x.out=false
  way:∀ w ∈ z.way,w.moves=zbr s ps a w.at_/\w.done<=w.moves.length/\w.at_ ∈ u/\(w.at_=st\/PlP s ps a st w.at_)/\∀ i m,i<w.done->w.moves[i]?=some m->m.to_ ∈ z.x.fs
  pw:(z.way.map (·.at_)).Pairwise (PlP s ps a)
  mem:∀ r,r ∈ z.x.fs ↔ r ∈ F\/r ∈ z.way.map (·.at_)
  nd:(F++z.way.map (·.at_)).Nodup
  fnd:z.x.fs.Nodup
  un:∀ r ∈ z.x.fs,r ∈ u
  cl:∀ r ∈ F,∀ q,EdP s ps a r q->q ∈ z.x.fs
  sF:∀ r ∈ z.x.sc,r ∈ F
  scl:∀ r ∈ z.x.sc,∀ q,EdP s ps a r q->q ∈ z.x.sc
  snd:z.x.sc.Nodup
  no:∀ r ∈ F,zh7 a r=true->¬PlP s ps a r r
  fuel:C*(((u.length:Int) - z.x.fs.length)+((u.length:Int) - z.x.sc.length)+((u.length:Int) - F.length))<=z.x.fuel
  f0:0<=z.x.fuel
structure RI (s:zab) (ps:List zal) (a:zay) (u:List PrD) (C:Int) (x:SS):Prop where
  out:x.out=false
  fnd:x.fs.Nodup
  un:∀ r ∈ x.fs,r ∈ u
  cl:∀ r ∈ x.fs,∀ q,EdP s ps a r q->q ∈ x.fs
  sF:∀ r ∈ x.sc,r ∈ x.fs
  scl:∀ r ∈ x.sc,∀ q,EdP s ps a r q->q ∈ x.sc
  snd:x.sc.Nodup
  no:∀ r ∈ x.fs,zh7 a r=true->¬PlP s ps a r r
  fuel:C*(((u.length:Int) - x.fs.length)+((u.length:Int) - x.sc.length)+((u.length:Int) - x.fs.length))<=x.fuel
  f0:0<=x.fuel
def Lasso (s:zab) (ps:List zal) (a:zay) (p:PrD):Prop:=∃ g,(g=p\/PlP s ps a p g)/\zh7 a g=true/\PlP s ps a g g
def FR (s:zab) (ps:List zal) (a:zay) (u:List PrD) (C:Int) (st:PrD) (fs0:List PrD) (r:Option (List WkD × List WkD) × SS):Prop :=
  (r.1=none->RI s ps a u C r.2/\∀ q ∈ fs0,q ∈ r.2.fs)/\(r.1≠none->Lasso s ps a st)
def fStep (s:zab) (ps:List zal) (a:zay) (u:List PrD) (C:Int) (st:PrD) (fs0:List PrD):LS ⊕ (Option (List WkD × List WkD) × SS)->Prop
  | .inl y=>(∃ F,FI s ps a u C st F y)/\∀ q ∈ fs0,q ∈ y.x.fs
  | .inr r=>FR s ps a u C st fs0 r
theorem FI.bounds {st:PrD} {F:List PrD} (h:FI s ps a u C st F z):z.x.fs.length<=u.length/\z.x.sc.length<=u.length/\F.length+z.way.length<=u.length:=by
 have hF:∀ r ∈ F,r ∈ u:=fun r hr=>h.un r ((h.mem r).2 (.inl hr))
 refine ⟨zdl h.fnd h.un,zdl h.snd fun r hr=>hF r (h.sF r hr),?_⟩
 have:=zdl (u:=u) h.nd fun r hr=>h.un r ((h.mem r).2 (bG.1 hr))
 simpa using this
theorem FI.pop {st:PrD} {F:List PrD} (h:FI s ps a u C st F z) {ds:List WkD} {l:WkD} (e1:z.way=ds++[l]) (hd:l.done=l.moves.length) {y:SS} (hout:y.out=false) (hfs:y.fs=z.x.fs)
  (hsF:∀ r ∈ y.sc,r ∈ F++[l.at_]) (hscl:∀ r ∈ y.sc,∀ q,EdP s ps a r q->q ∈ y.sc) (hsnd:y.sc.Nodup) (hno:zh7 a l.at_=true->¬PlP s ps a l.at_ l.at_)
  (hfuel:C*(((u.length:Int) - y.fs.length)+((u.length:Int) - y.sc.length)+((u.length:Int) - (F++[l.at_]).length))<=y.fuel) (hf0:0<=y.fuel):FI s ps a u C st (F++[l.at_]) ⟨ds,z.ok,y⟩:=by
 have hl:=h.way l (by rw [e1];simp)
 have hm:z.way.map (·.at_)=ds.map (·.at_)++[l.at_]:=by rw [e1,bW];rfl
 refine ⟨h.ok,hout,?_,?_,?_,?_,?_,?_,?_,hsF,hscl,hsnd,?_,hfuel,hf0⟩
 ·intro w hw
  show _/\_/\_/\_/\∀ i m,i<w.done->w.moves[i]?=some m->m.to_ ∈ y.fs
  rw [hfs];exact h.way w (by rw [e1];exact bP _ hw)
 ·have:=h.pw;rw [hm] at this;exact (d3.1 this).1
 ·intro r
  show r ∈ y.fs ↔ r ∈ F++[l.at_]\/r ∈ ds.map (·.at_)
  rw [hfs,h.mem r,hm,bG,bG,or_assoc,or_comm (a:=r ∈ ds.map (·.at_))]
 ·show (F++[l.at_]++ds.map (·.at_)).Nodup
  have h2:=h.nd;rw [hm] at h2
  refine (List.Perm.nodup_iff ?_).1 h2
  rw [cK]
  exact List.Perm.append_left _ List.perm_append_comm
 ·show y.fs.Nodup;rw [hfs];exact h.fnd
 ·show ∀ r ∈ y.fs,r ∈ u;rw [hfs];exact h.un
 ·intro r hr q hq
  show q ∈ y.fs
  rw [hfs]
  rcases bG.1 hr with hr | hr
  ·exact h.cl r hr q hq
  ·rw [bF.1 hr] at hq
   obtain ⟨m,hm1,rfl⟩:=hq
   rw [<- hl.1] at hm1
   obtain ⟨i,hi,hi2⟩:=dZ hm1
   exact hl.2.2.2.2 i m (by omega) (by rw [cC hi,hi2])
 ·intro r hr
  rcases bG.1 hr with hr | hr
  ·exact h.no r hr
  ·rw [bF.1 hr];exact hno
theorem goF_FI {st:PrD} {fs0:List PrD} (hu:Uni s ps a u C) {F:List PrD} (h:FI s ps a u C st F z) (h9:∀ q ∈ fs0,q ∈ z.x.fs):fStep s ps a u C st fs0 (goF s ps a z):=by
 have hbd:=h.bounds
 have hc0:=hu.c0
 unfold goF
 split
 ·rename_i hc
  obtain ⟨ds,l,e1,e2,e3,e4⟩:=step_last hc.2
  have hl:=h.way l (by rw [e1];simp)
  have hmp:z.way.map (·.at_)=ds.map (·.at_)++[l.at_]:=by rw [e1,bW];rfl
  have hmn:(zas z.way).map (·.at_)=z.way.map (·.at_):=by rw [e4,hmp,bW];rfl
  have hlen:z.way.length=ds.length+1:=by rw [e1];simp
  have hpre:∀ w ∈ ds,PlP s ps a w.at_ l.at_:=fun w hw=>by
   have h2:=h.pw;rw [hmp] at h2
   exact (d3.1 h2).2.2 _ (cT.2 ⟨w,hw,rfl⟩) _ (by simp)
  split
  ·rename_i hm
   have hn:=step_more hm (by rw [e2];exact hl.2.1)
   rw [e2] at hn
   generalize hmv:zae z.way=m at hn
   have hmem:m ∈ zbr s ps a l.at_:=by rw [<- hl.1];exact bR hn
   have hed:EdP s ps a l.at_ m.to_:=⟨m,hmem,rfl⟩
   have hlt:=zac hn
   have hway:∀ fs:List PrD,(∀ q ∈ z.x.fs,q ∈ fs)->m.to_ ∈ fs->∀ w ∈ zas z.way,w.moves=zbr s ps a w.at_/\w.done<=w.moves.length/\w.at_ ∈ u/\(w.at_=st\/PlP s ps a st w.at_)/\∀ i m,i<w.done->w.moves[i]?=some m->m.to_ ∈ fs:=fun fs hs hmt w hw=>by
    rw [e4] at hw
    rcases bG.1 hw with hw | hw
    ·obtain ⟨g1,g2,g3,g4,g5⟩:=h.way w (by rw [e1];exact bP _ hw)
     exact ⟨g1,g2,g3,g4,fun i m' hi hm'=>hs _ (g5 i m' hi hm')⟩
    ·rw [bF.1 hw]
     refine ⟨hl.1,by show l.done+1<=l.moves.length;omega,hl.2.2.1,hl.2.2.2.1,fun i m' hi hm'=>?_⟩
     by_cases hi2:i<l.done
     ·exact hs _ (hl.2.2.2.2 i m' hi2 hm')
     ·have hi:i<l.done+1:=hi
      have:i=l.done:=by omega
      subst this
      have hm':l.moves[l.done]?=some m':=hm'
      rw [hn] at hm'
      cases hm';exact hmt
   split
   ·rename_i hs
    refine (show (∃ F,FI s ps a u C st F ⟨zas z.way,z.ok,z.x⟩)/\∀ q ∈ fs0,q ∈ z.x.fs from ⟨⟨F,h.ok,h.out,hway _ (fun _ hq=>hq) hs,?_,?_,?_,h.fnd,h.un,h.cl,h.sF,h.scl,h.snd,h.no,h.fuel,h.f0⟩,h9⟩)
    ·show ((zas z.way).map (·.at_)).Pairwise _;rw [hmn];exact h.pw
    ·intro r;show _ ↔ r ∈ F\/r ∈ (zas z.way).map (·.at_);rw [hmn];exact h.mem r
    ·show (F++(zas z.way).map (·.at_)).Nodup;rw [hmn];exact h.nd
   ·rename_i hs
    have hmu:m.to_ ∈ u:=hu.mv _ hl.2.2.1 _ hed
    have hnd:(z.x.fs++[m.to_]).Nodup:=c8.2 ⟨h.fnd,by simp,fun x hx y hy e=>hs (by rw [<- bF.1 hy,<- e];exact hx)⟩
    have hun:∀ r ∈ z.x.fs++[m.to_],r ∈ u:=fun r hr=>by
     rcases bG.1 hr with hr | hr
     ·exact h.un r hr
     ·rw [bF.1 hr];exact hmu
    have hle:=zdl hnd hun
    have hln:(z.x.fs++[m.to_]).length=z.x.fs.length+1:=by simp
    have hfu:=h.fuel
    have hco:=hu.c _ hmu
    have e9:C*(((u.length:Int) - z.x.fs.length)+((u.length:Int) - z.x.sc.length)+((u.length:Int) - F.length))=C*(((u.length:Int) - ((z.x.fs++[m.to_]).length:Nat))+((u.length:Int) - z.x.sc.length)+((u.length:Int) - F.length))+C:=by
     rw [hln,show (((u.length:Int) - z.x.fs.length)+((u.length:Int) - z.x.sc.length)+((u.length:Int) - F.length))=(((u.length:Int) - ((z.x.fs.length+1:Nat):Int))+((u.length:Int) - z.x.sc.length)+((u.length:Int) - F.length))+1 by omega,cU,dO]
    have h8:0<=C*(((u.length:Int) - ((z.x.fs++[m.to_]).length:Nat))+((u.length:Int) - z.x.sc.length)+((u.length:Int) - F.length)):=dA hc0 (by omega)
    obtain ⟨b1,b2,b3,b4,b5,b6⟩:=bg_yes (s:=s) (ps:=ps) (a:=a) (x:={ z.x with fs:=z.x.fs++[m.to_] }) (p:=m.to_) (show cost s ps a m.to_<=z.x.fuel by omega) (zas z.way)
    generalize hbs:bgS s ps a { z.x with fs:=z.x.fs++[m.to_] } m.to_=y at b3 b4 b5 b6
    have b3:y.fs=z.x.fs++[m.to_]:=b3
    have b4:y.sc=z.x.sc:=b4
    have b6:y.fuel=z.x.fuel - cost s ps a m.to_:=b6
    have hmm:(zas z.way++[(⟨m.to_,zbr s ps a m.to_,0⟩:WkD)]).map (·.at_)=z.way.map (·.at_)++[m.to_]:=by rw [bW,hmn];rfl
    have hpm:PlP s ps a st m.to_:=by
     rcases hl.2.2.2.1 with e | e
     ·rw [<- e];exact .one hed
     ·exact .more e hed
    have hnF:m.to_ ∉ F/\m.to_ ∉ z.way.map (·.at_):=⟨fun hx=>hs ((h.mem _).2 (.inl hx)),fun hx=>hs ((h.mem _).2 (.inr hx))⟩
    rw [b1,b2]
    refine (show (∃ F,FI s ps a u C st F ⟨zas z.way++[⟨m.to_,zbr s ps a m.to_,0⟩],true,y⟩)/\∀ q ∈ fs0,q ∈ y.fs from ⟨⟨F,rfl,b5.trans h.out,?_,?_,?_,?_,?_,?_,?_,?_,?_,?_,h.no,?_,?_⟩,fun q hq=>by rw [b3];exact bP _ (h9 q hq)⟩)
    ·intro w hw
     show _/\_/\_/\_/\∀ i m', i<w.done->w.moves[i]?=some m'->m'.to_ ∈ y.fs
     rw [b3]
     rcases bG.1 hw with hw | hw
     ·exact hway _ (fun q hq=>bP _ hq) (by simp) w hw
     ·rw [bF.1 hw];exact ⟨rfl,bH _,hmu,.inr hpm,fun i m' hi=>absurd hi (dP _)⟩
    ·show (List.map _ _).Pairwise _
     rw [hmm]
     refine d3.2 ⟨h.pw,eA _ _,fun r hr q hq=>?_⟩
     rw [bF.1 hq]
     rw [hmp] at hr
     rcases bG.1 hr with hr | hr
     ·obtain ⟨w,hw,rfl⟩:=cT.1 hr
      exact .more (hpre w hw) hed
     ·rw [bF.1 hr];exact .one hed
    ·intro r
     show r ∈ y.fs ↔ r ∈ F\/r ∈ List.map _ _
     rw [hmm,b3,bG,bG,h.mem r,or_assoc]
    ·show (F++List.map _ _).Nodup
     rw [hmm,<- cK]
     refine c8.2 ⟨h.nd,by simp,fun x hx y hy e=>?_⟩
     rw [bF.1 hy] at e
     rw [e] at hx
     rcases bG.1 hx with hx | hx
     ·exact hnF.1 hx
     ·exact hnF.2 hx
    ·show y.fs.Nodup;rw [b3];exact hnd
    ·show ∀ r ∈ y.fs,r ∈ u;rw [b3];exact hun
    ·intro r hr q hq;show q ∈ y.fs;rw [b3];exact bP _ (h.cl r hr q hq)
    ·show ∀ r ∈ y.sc,r ∈ F;rw [b4];exact h.sF
    ·show ∀ r ∈ y.sc,∀ q,EdP s ps a r q->q ∈ y.sc;rw [b4];exact h.scl
    ·show y.sc.Nodup;rw [b4];exact h.snd
    ·show C*(((u.length:Int) - y.fs.length)+((u.length:Int) - y.sc.length)+((u.length:Int) - F.length))<=y.fuel
     rw [b3,b4,b6];omega
    ·show 0<=y.fuel
     rw [b6];omega
  ·rename_i hm
   have hd:l.done=l.moves.length:=by
    have:¬ decide ((zb8 z.way).done≠(zb8 z.way).moves.length)=true:=hm
    rw [e2] at this
    simpa using this
   have hfu:=h.fuel
   have e9:C*(((u.length:Int) - z.x.fs.length)+((u.length:Int) - z.x.sc.length)+((u.length:Int) - F.length))=C*(((u.length:Int) - z.x.fs.length)+((u.length:Int) - z.x.sc.length)+((u.length:Int) - ((F++[l.at_]).length:Nat)))+C:=by
    rw [show (F++[l.at_]).length=F.length+1 by simp,show (((u.length:Int) - z.x.fs.length)+((u.length:Int) - z.x.sc.length)+((u.length:Int) - F.length))=(((u.length:Int) - z.x.fs.length)+((u.length:Int) - z.x.sc.length)+((u.length:Int) - ((F.length+1:Nat):Int)))+1 by omega,cU,dO]
   have hlF:l.at_ ∉ F:=fun hx=>by
    have h2:=h.nd;rw [hmp] at h2
    exact (c8.1 h2).2.2 _ hx _ (by simp) rfl
   split
   ·rename_i hg
    rw [e2]
    have hR:0<=C*(((u.length:Int) - z.x.fs.length)+((u.length:Int) - ((F++[l.at_]).length:Nat))):=dA hc0 (by rw [show (F++[l.at_]).length=F.length+1 by simp];omega)
    have e8:C*(((u.length:Int) - z.x.fs.length)+((u.length:Int) - z.x.sc.length)+((u.length:Int) - ((F++[l.at_]).length:Nat)))=C*(((u.length:Int) - z.x.fs.length)+((u.length:Int) - ((F++[l.at_]).length:Nat)))+C*((u.length:Int) - z.x.sc.length):=by
     rw [<- cU];congr 1;omega
    have hb:=back_BI (s:=s) (ps:=ps) (a:=a) (R:=C*(((u.length:Int) - z.x.fs.length)+((u.length:Int) - ((F++[l.at_]).length:Nat)))) (goal:=l.at_) hu hR h.f0 h.out hl.2.2.1 h.scl h.snd (fun r hr=>h.un r ((h.mem r).2 (.inl (h.sF r hr)))) (by omega)
    have hbf:=back_fuel (s:=s) (ps:=ps) (a:=a) h.f0 l.at_
    rcases e:zav s ps a z.x l.at_ with ⟨q,y⟩
    rw [e] at hb hbf
    cases q with
    | some r =>
     exact (show FR s ps a u C st fs0 (some (z.way,r),y) from ⟨fun e=>(by cases e),fun _=>⟨l.at_,hl.2.2.2.1,by rw [<- e2];exact hg,hb.2 (by simp)⟩⟩)
    | none =>
     obtain ⟨g1,g2,g3,g4,g5,g6,g7,g8,g9⟩:=hb.1 rfl
     have hnl:l.at_ ∉ y.sc:=fun hx=>hlF (h.sF _ (g4 hx))
     have hno:¬PlP s ps a l.at_ l.at_:=fun hx=>hnl (hx.closed (S:=fun r=>r ∈ y.sc) (fun r hr q hq=>g3 r (.inl hr) q hq) fun q hq=>g3 _ (.inr rfl) q hq)
     have hin:∀ r,PlP s ps a l.at_ r->r ∈ F++[l.at_]:=fun r hr=>by
      have hone:∀ q,q ∈ z.x.fs->PlP s ps a l.at_ q->q ∈ F++[l.at_]:=fun q hq hp=>by
       rcases (h.mem q).1 hq with hq | hq
       ·exact bP _ hq
       ·rw [hmp] at hq
        rcases bG.1 hq with hq | hq
        ·obtain ⟨w,hw,rfl⟩:=cT.1 hq
         exact absurd (hp.trans (hpre w hw)) hno
        ·exact List.mem_append_right _ hq
      have hle:∀ q,EdP s ps a l.at_ q->q ∈ z.x.fs:=fun q hq=>by
       obtain ⟨m,hm1,rfl⟩:=hq
       rw [<- hl.1] at hm1
       obtain ⟨i,hi,hi2⟩:=dZ hm1
       exact hl.2.2.2.2 i m (by omega) (by rw [cC hi,hi2])
      induction hr with
      | one e=>exact hone _ (hle _ e) (.one e)
      | more hp e ih =>
       refine hone _ ?_ (.more hp e)
       rcases bG.1 ih with ih | ih
       ·exact h.cl _ ih _ e
       ·rw [bF.1 ih] at e;exact hle _ e
     have hfu2:C*(((u.length:Int) - y.fs.length)+((u.length:Int) - y.sc.length)+((u.length:Int) - ((F++[l.at_]).length:Nat)))<=y.fuel:=by
      rw [g2]
      have:C*(((u.length:Int) - z.x.fs.length)+((u.length:Int) - y.sc.length)+((u.length:Int) - ((F++[l.at_]).length:Nat)))=C*(((u.length:Int) - z.x.fs.length)+((u.length:Int) - ((F++[l.at_]).length:Nat)))+C*((u.length:Int) - y.sc.length):=by
       rw [<- cU];congr 1;omega
      have g9:C*(((u.length:Int) - z.x.fs.length)+((u.length:Int) - ((F++[l.at_]).length:Nat)))+C*((u.length:Int) - y.sc.length)<=y.fuel:=g9
      omega
     have hp:=h.pop e1 hd (y:=y) g1 g2 (fun r hr=>by
      rcases g5 r hr with hr | hr
      ·exact bP _ (h.sF r hr)
      ·exact hin r hr) (fun r hr q hq=>g3 r (.inl hr) q hq) g7 (fun _=>hno) hfu2 hbf.1
     rw [e3]
     exact (show (∃ F,FI s ps a u C st F ⟨ds,z.ok,y⟩)/\∀ q ∈ fs0,q ∈ y.fs from ⟨⟨_,hp⟩,fun q hq=>by rw [g2];exact h9 q hq⟩)
   ·rename_i hg
    rw [e3]
    have hp:=h.pop e1 hd (y:=z.x) h.out rfl (fun r hr=>bP _ (h.sF r hr)) h.scl h.snd (fun e=>absurd (by rw [e2];exact e) hg) (by omega) h.f0
    exact (show (∃ F,FI s ps a u C st F ⟨ds,z.ok,z.x⟩)/\∀ q ∈ fs0,q ∈ z.x.fs from ⟨⟨_,hp⟩,h9⟩)
 ·rename_i hc
  have hw:z.way=[]:=by
   cases e:z.way with
   | nil=>rfl
   | cons w ws=>exact absurd ⟨h.ok,by rw [e];simp⟩ hc
  have hmem:∀ r,r ∈ z.x.fs ↔ r ∈ F:=fun r=>by rw [h.mem r,hw];simp
  have hnd:F.Nodup:=by have:=h.nd;rw [hw] at this;simpa using this
  have h1:=zdl hnd fun r hr=>(hmem r).2 hr
  have h2:=zdl h.fnd fun r hr=>(hmem r).1 hr
  refine (show FR s ps a u C st fs0 (none,z.x) from ⟨fun _=>⟨⟨h.out,h.fnd,h.un,fun r hr=>h.cl r ((hmem r).1 hr),fun r hr=>(hmem r).2 (h.sF r hr),h.scl,h.snd,fun r hr=>h.no r ((hmem r).1 hr),?_,h.f0⟩,h9⟩,fun e=>absurd rfl e⟩)
  have:=h.fuel
  show C*(((u.length:Int) - z.x.fs.length)+((u.length:Int) - z.x.sc.length)+((u.length:Int) - z.x.fs.length))<=z.x.fuel
  rw [show (z.x.fs.length)=F.length by omega] at this ⊢
  exact this
theorem from_FI (hu:Uni s ps a u C) {x:SS} (h:RI s ps a u C x) {p:PrD} (hp:p ∈ u) (hn:p ∉ x.fs):FR s ps a u C p (x.fs++[p]) (zb5 s ps a x p):=by
 have hnd:(x.fs++[p]).Nodup:=c8.2 ⟨h.fnd,by simp,fun r hr q hq e=>hn (by rw [<- bF.1 hq,<- e];exact hr)⟩
 have hun:∀ r ∈ x.fs++[p],r ∈ u:=fun r hr=>by
  rcases bG.1 hr with hr | hr
  ·exact h.un r hr
  ·rw [bF.1 hr];exact hp
 have hle:=zdl hnd hun
 have hls:=zdl h.snd fun r hr=>h.un r (h.sF r hr)
 have hln:(x.fs++[p]).length=x.fs.length+1:=by simp
 have hfu:=h.fuel
 have hco:=hu.c _ hp
 have hc0:=hu.c0
 have e9:C*(((u.length:Int) - x.fs.length)+((u.length:Int) - x.sc.length)+((u.length:Int) - x.fs.length))=C*(((u.length:Int) - ((x.fs++[p]).length:Nat))+((u.length:Int) - x.sc.length)+((u.length:Int) - x.fs.length))+C:=by
  rw [hln,show (((u.length:Int) - x.fs.length)+((u.length:Int) - x.sc.length)+((u.length:Int) - x.fs.length))=(((u.length:Int) - ((x.fs.length+1:Nat):Int))+((u.length:Int) - x.sc.length)+((u.length:Int) - x.fs.length))+1 by omega,cU,dO]
 have h8:0<=C*(((u.length:Int) - ((x.fs++[p]).length:Nat))+((u.length:Int) - x.sc.length)+((u.length:Int) - x.fs.length)):=dA hc0 (by omega)
 obtain ⟨b1,b2,b3,b4,b5,b6⟩:=bg_yes (s:=s) (ps:=ps) (a:=a) (x:={ x with fs:=x.fs++[p] }) (p:=p) (show cost s ps a p<=x.fuel by omega) []
 have h0:fStep s ps a u C p (x.fs++[p]) (.inl (stF s ps a x p)):=by
  generalize hbs:bgS s ps a { x with fs:=x.fs++[p] } p=y at b3 b4 b5 b6
  have b3:y.fs=x.fs++[p]:=b3
  have b4:y.sc=x.sc:=b4
  have b6:y.fuel=x.fuel - cost s ps a p:=b6
  have hz:stF s ps a x p=⟨[⟨p,zbr s ps a p,0⟩],true,y⟩:=by
   show LS.mk (bgW s ps a { x with fs:=x.fs++[p] } [] p) (bgB s ps a { x with fs:=x.fs++[p] } p) (bgS s ps a { x with fs:=x.fs++[p] } p)=_
   rw [b1,b2,hbs];rfl
  rw [hz]
  refine (show (∃ F,FI s ps a u C p F ⟨[⟨p,zbr s ps a p,0⟩],true,y⟩)/\∀ q ∈ x.fs++[p],q ∈ y.fs from ⟨⟨x.fs,rfl,b5.trans h.out,?_,eA _ _,?_,hnd,?_,?_,?_,?_,?_,?_,h.no,?_,?_⟩,fun q hq=>by rw [b3];exact hq⟩)
  ·intro w hw
   have hw:w ∈ [(⟨p,zbr s ps a p,0⟩:WkD)]:=hw
   rw [bF.1 hw];exact ⟨rfl,bH _,hp,.inl rfl,fun i m' hi=>absurd hi (dP _)⟩
  ·intro r
   show r ∈ y.fs ↔ r ∈ x.fs\/r ∈ [p]
   rw [b3,bG]
  ·show y.fs.Nodup;rw [b3];exact hnd
  ·show ∀ r ∈ y.fs,r ∈ u;rw [b3];exact hun
  ·intro r hr q hq;show q ∈ y.fs;rw [b3];exact bP _ (h.cl r hr q hq)
  ·show ∀ r ∈ y.sc,r ∈ x.fs;rw [b4];exact h.sF
  ·show ∀ r ∈ y.sc,∀ q,EdP s ps a r q->q ∈ y.sc;rw [b4];exact h.scl
  ·show y.sc.Nodup;rw [b4];exact h.snd
  ·show C*(((u.length:Int) - y.fs.length)+((u.length:Int) - y.sc.length)+((u.length:Int) - x.fs.length))<=y.fuel
   rw [b3,b4,b6];omega
  ·show 0<=y.fuel
   rw [b6];omega
 exact zgk (fun z=>fStep s ps a u C p (x.fs++[p]) (.inl z)) (FR s ps a u C p (x.fs++[p])) (fun z hz=>by
  obtain ⟨⟨F,hF⟩,h9⟩:=hz
  have h:=goF_FI hu hF h9
  revert h;cases goF s ps a z <;> exact id) _ _ h0 _ (frm_run h.f0 p)
theorem goK_FI (hu:Uni s ps a u C) (n:Int):∀ (ks:List Int) (x:SS),RI s ps a u C x->(∀ k ∈ ks,(⟨n,k⟩:PrD) ∈ u) ->
  match goK s ps a n x ks with
  | .inl r=>r.state=1/\∃ k ∈ ks,Lasso s ps a ⟨n,k⟩
  | .inr y=>RI s ps a u C y/\(∀ q ∈ x.fs,q ∈ y.fs)/\∀ k ∈ ks,(⟨n,k⟩:PrD) ∈ y.fs
 | [],x,h,_=>by unfold goK;exact ⟨h,fun _ hq=>hq,fun k hk=>by cases hk⟩
 | k :: ks,x,h,hk=>by
  unfold goK
  by_cases hm:(⟨n,k⟩:PrD) ∈ x.fs
  ·rw [if_pos hm]
   have h1:=goK_FI hu n ks x h fun k' hk'=>hk k' (cV _ hk')
   revert h1
   cases goK s ps a n x ks with
   | inl r=>rintro ⟨h1,k', h2,h3⟩;exact ⟨h1,k', cV _ h2,h3⟩
   | inr y =>
    rintro ⟨h1,h2,h3⟩
    refine ⟨h1,h2,fun k' hk'=>?_⟩
    rcases d4.1 hk' with e | e
    ·rw [e];exact h2 _ hm
    ·exact h3 k' e
  ·rw [if_neg hm]
   have h1:=from_FI hu h (hk k (by simp)) hm
   rcases e:zb5 s ps a x ⟨n,k⟩ with ⟨q,y⟩
   rw [e] at h1
   cases q with
   | some sc=>exact ⟨rfl,k,by simp,h1.2 (by simp)⟩
   | none =>
    obtain ⟨hy,hsub⟩:=h1.1 rfl
    have ho:y.out=false:=hy.out
    simp only [ho,Bool.false_eq_true,if_false]
    have h2:=goK_FI hu n ks y hy fun k' hk'=>hk k' (cV _ hk')
    revert h2
    cases goK s ps a n y ks with
    | inl r=>rintro ⟨h1,k', h2,h3⟩;exact ⟨h1,k', cV _ h2,h3⟩
    | inr y' =>
     rintro ⟨h3,h4,h5⟩
     refine ⟨h3,fun q hq=>h4 q (hsub q (bP _ hq)),fun k' hk'=>?_⟩
     rcases d4.1 hk' with e | e
     ·rw [e];exact h4 _ (hsub _ (by simp))
     ·exact h5 k' e
def topF (s:zab) (ps:List zal) (a:zay) (f:StD) (p:PrD):Prop:=∃ k ∈ zbl a (zbc s ps (nmT s f).1) a.first,p=⟨(nmT s f).1,k⟩
theorem goX_FI (hu:Uni s ps a u C):∀ (fs:List StD) (x:SS),RI s ps a u C x->(∀ f ∈ fs,∀ p,topF s ps a f p->p ∈ u) ->
  match goX s ps a x fs with
  | .inl r=>r.state=1/\∃ f ∈ fs,∃ p,topF s ps a f p/\Lasso s ps a p
  | .inr y=>RI s ps a u C y/\(∀ q ∈ x.fs,q ∈ y.fs)/\∀ f ∈ fs,∀ p,topF s ps a f p->p ∈ y.fs
 | [],x,h,_=>by unfold goX;exact ⟨h,fun _ hq=>hq,fun f hf=>by cases hf⟩
 | f :: fs,x,h,hk=>by
  unfold goX
  have h0:RI s ps a u C { x with ls:=lsF a x.ls (nmT s f).1 a.first }:=⟨h.out,h.fnd,h.un,h.cl,h.sF,h.scl,h.snd,h.no,h.fuel,h.f0⟩
  have h1:=goK_FI hu (nmT s f).1 (zbl a (zbc s ps (nmT s f).1) a.first) _ h0 fun k hk'=>hk f (by simp) _ ⟨k,hk', rfl⟩
  revert h1
  cases goK s ps a (nmT s f).1 { x with ls:=lsF a x.ls (nmT s f).1 a.first } (zbl a (zbc s ps (nmT s f).1) a.first) with
  | inl r=>rintro ⟨h1,k,h2,h3⟩;exact ⟨h1,f,by simp,_,⟨k,h2,rfl⟩,h3⟩
  | inr y =>
   rintro ⟨hy,hsub,htop⟩
   have h2:=goX_FI hu fs y hy fun f' hf'=>hk f' (cV _ hf')
   show match goX s ps a y fs with | .inl r=>_ | .inr y=>_
   revert h2
   cases goX s ps a y fs with
   | inl r=>rintro ⟨h1,f', h2,h3⟩;exact ⟨h1,f', cV _ h2,h3⟩
   | inr y' =>
    rintro ⟨h3,h4,h5⟩
    refine ⟨h3,fun q hq=>h4 q (hsub q hq),fun f' hf' p hp=>?_⟩
    rcases d4.1 hf' with e | e
    ·rw [e] at hp
     obtain ⟨k,hk1,rfl⟩:=hp
     exact h4 _ (htop k hk1)
    ·exact h5 f' e p hp
theorem sea_knows (hu:Uni s ps a u C) {fuel:Int} (hc:(zb3 s).2=true) (htop:∀ f ∈ zg4 s,∀ p,topF s ps a f p->p ∈ u) (hf:C*(3*(u.length:Int))<=zes fuel) (hf0:0<=zes fuel) :
  ((zey s ps a fuel).state=1/\∃ f ∈ zg4 s,∃ p,topF s ps a f p/\Lasso s ps a p)\/((zey s ps a fuel).state=2/\¬∃ f ∈ zg4 s,∃ p,topF s ps a f p/\Lasso s ps a p):=by
 have h0:RI s ps a u C ⟨zes fuel,false,[],[],[],[]⟩:=⟨rfl,List.nodup_nil,fun r hr=>(by cases hr),fun r hr=>(by cases hr),fun r hr=>(by cases hr),fun r hr=>(by cases hr),List.nodup_nil,fun r hr=>(by cases hr),by
  show C*(((u.length:Int) - ((0:Nat):Int))+((u.length:Int) - ((0:Nat):Int))+((u.length:Int) - ((0:Nat):Int)))<=zes fuel
  rw [show (((u.length:Int) - ((0:Nat):Int))+((u.length:Int) - ((0:Nat):Int))+((u.length:Int) - ((0:Nat):Int)))=3*(u.length:Int) by omega];exact hf,hf0⟩
 have h1:=goX_FI hu (zg4 s) _ h0 htop
 unfold zey
 rw [if_pos hc]
 revert h1
 cases goX s ps a ⟨zes fuel,false,[],[],[],[]⟩ (zg4 s) with
 | inl r=>rintro ⟨h1,h2⟩;exact .inl ⟨h1,h2⟩
 | inr y =>
  rintro ⟨hy,_,h2⟩
  refine .inr ⟨rfl,?_⟩
  rintro ⟨f,hf1,p,hp,g,hg1,hg2,hg3⟩
  have hp1:=h2 f hf1 p hp
  have hg4:g ∈ y.fs:=by
   rcases hg1 with e | e
   ·rw [e];exact hp1
   ·exact e.closed (S:=fun r=>r ∈ y.fs) (fun r hr q hq=>hy.cl r hr q hq) fun q hq=>hy.cl _ hp1 q hq
  exact hy.no g hg4 hg2 hg3
end
section
variable {E:Nat->Nat->Prop}
inductive Pq (E:Nat->Nat->Prop) (m:Nat):Nat->Nat->Prop
  | one {i k:Nat}:E i k->Pq E m i k
  | more {i x k:Nat}:Pq E m i x->x<m->E x k->Pq E m i k
theorem Pq.split (h:Pq E (m+1) i k):Pq E m i k\/(Pq E m i m/\Pq E m m k):=by
 induction h with
 | one e=>exact .inl (.one e)
 | @more x k _ hx e ih =>
  by_cases hxm:x<m
  ·rcases ih with ih | ih
   ·exact .inl (.more ih hxm e)
   ·exact .inr ⟨ih.1,.more ih.2 hxm e⟩
  ·have:x=m:=by omega
   subst this
   rcases ih with ih | ih
   ·exact .inr ⟨ih,.one e⟩
   ·exact .inr ⟨ih.1,.one e⟩
theorem Pl.pq (hE:∀ i k,E i k->i<n/\k<n) (h:Pl E i k):Pq E n i k:=by
 induction h with
 | one e=>exact .one e
 | more _ e ih=>exact .more ih (hE _ _ e).1 e
end
def Mo (M M':List (List Bool)):Prop:=∀ i k,mxG M i k=true->mxG M' i k=true
theorem Mo.refl (M:List (List Bool)):Mo M M:=fun _ _ h=>h
theorem Mo.trans {A B C:List (List Bool)} (h:Mo A B) (k:Mo B C):Mo A C:=fun i j x=>k i j (h i j x)
theorem mxG_lt (hs:Sq n M) (h:mxG M i k=true):i<n/\k<n:=by
 unfold mxG at h
 cases e:M[i]? with
 | none=>rw [e] at h;cases h
 | some r =>
  rw [e] at h
  have h:(r[k]?).getD false=true:=h
  have hi:=(bV.1 e).1
  have hl:=hs.row r (bR e)
  cases e2:r[k]? with
  | none=>rw [e2] at h;cases h
  | some b=>have:=(bV.1 e2).1;exact ⟨by rw [<- hs.len];exact hi,by omega⟩
theorem mxG_S (hs:Sq n M) (hi:i<n) (hk:k<n) (i' k':Nat):mxG (mxS m i M k) i' k'=if i'=i/\k'=k then (mxG M i k || (mxG M i m && mxG M m k)) else mxG M i' k':=by
 obtain ⟨r,hr⟩:∃ r,M[i]?=some r:=⟨_,cC (by rw [hs.len];exact hi)⟩
 have hl:=hs.row r (bR hr)
 rw [mxS_at hr rfl]
 generalize (mxG M i k || (mxG M i m && mxG M m k))=b
 unfold mxG
 by_cases h1:i'=i
 ·subst h1
  rw [cY (bV.1 hr).1,hr]
  simp only [d5]
  by_cases h2:k'=k
  ·subst h2
   rw [cY (by omega),if_pos (by simp)];rfl
  ·rw [cZ (fun e=>h2 e.symm),if_neg (fun h=>h2 h.2)]
 ·rw [cZ (fun e=>h1 e.symm),if_neg (fun h=>h1 h.1)]
section
variable {n:Nat} {E:Nat->Nat->Prop}
def Snd (E:Nat->Nat->Prop) (M:List (List Bool)):Prop:=∀ i k,mxG M i k=true->Pl E i k
theorem snd_S (hs:Sq n M) (hi:i<n) (hk:k<n) (h:Snd E M):Snd E (mxS m i M k):=fun i' k' hx=>by
 rw [mxG_S hs hi hk] at hx
 split at hx
 ·rename_i e
  rw [e.1,e.2]
  rw [dQ,bT] at hx
  rcases hx with hx | hx
  ·exact h _ _ hx
  ·exact (h _ _ hx.1).trans (h _ _ hx.2)
 ·exact h _ _ hx
theorem mo_S (hs:Sq n M) (hi:i<n) (hk:k<n):Mo M (mxS m i M k):=fun i' k' hx=>by
 rw [mxG_S hs hi hk]
 split
 ·rename_i e;rw [e.1,e.2] at hx;rw [hx];rfl
 ·exact hx
theorem in_K (hs:Sq n M) (hi:i<n):∀ k,k<=n->Mo M (mxK m i M k)/\(Snd E M->Snd E (mxK m i M k))/\∀ x,x<k->mxG M i m=true->mxG M m x=true->mxG (mxK m i M k) i x=true
 | 0,_=>⟨Mo.refl _,id,fun x hx=>by omega⟩
 | k+1,hk=>by
  obtain ⟨h1,h2,h3⟩:=in_K hs hi k (by omega)
  have hq:Sq n (mxK m i M k):=sq_K hs k
  rw [zfh]
  have h4:=mo_S (m:=m) hq hi (show k<n by omega)
  refine ⟨h1.trans h4,fun h=>snd_S hq hi (by omega) (h2 h),fun x hx a b=>?_⟩
  by_cases e:x=k
  ·subst e
   rw [mxG_S hq hi (by omega),if_pos ⟨rfl,rfl⟩,h1 _ _ a,h1 _ _ b,Bool.and_self,Bool.or_true]
  ·exact h4 _ _ (h3 x (by omega) a b)
theorem in_I {M:List (List Bool)} (hs:Sq n M) {m:Nat}:∀ i,i<=n->Mo M (mxI n m M i)/\(Snd E M->Snd E (mxI n m M i))/\∀ y x,y<i->x<n->mxG M y m=true->mxG M m x=true->mxG (mxI n m M i) y x=true
 | 0,_=>⟨Mo.refl _,id,fun y x hy=>by omega⟩
 | i+1,hi=>by
  obtain ⟨h1,h2,h3⟩:=in_I hs (m:=m) i (by omega)
  have hq:Sq n (mxI n m M i):=sq_I hs i
  rw [mxI_snoc]
  obtain ⟨g1,g2,g3⟩:=in_K (E:=E) hq (m:=m) (show i<n by omega) n (bS _)
  refine ⟨h1.trans g1,fun h=>g2 (h2 h),fun y x hy hx a b=>?_⟩
  by_cases e:y=i
  ·subst e;exact g3 x hx (h1 _ _ a) (h1 _ _ b)
  ·exact g1 _ _ (h3 y x (by omega) hx a b)
theorem in_M (hs:Sq n M) (hE:∀ i k,E i k->i<n/\k<n) (h0:∀ i k,E i k->mxG M i k=true) (hS:Snd E M):∀ m,m<=n->Snd E (mxM n M m)/\∀ i k,Pq E m i k->mxG (mxM n M m) i k=true
 | 0,_=>⟨hS,fun i k h=>by
  cases h with
  | one e=>exact h0 _ _ e
  | more _ hx _=>omega⟩
 | m+1,hm=>by
  obtain ⟨h1,h2⟩:=in_M hs hE h0 hS m (by omega)
  have hq:Sq n (mxM n M m):=sq_M hs m
  rw [mxM_snoc]
  obtain ⟨g1,g2,g3⟩:=in_I (E:=E) hq (m:=m) n (bS _)
  refine ⟨g2 h1,fun i k h=>?_⟩
  rcases h.split with h | ⟨a,b⟩
  ·exact g1 _ _ (h2 _ _ h)
  ·have ha:=h2 _ _ a
   have hb:=h2 _ _ b
   exact g3 i k (mxG_lt hq ha).1 (mxG_lt hq hb).2 ha hb
end
def EdN (a:zay) (i k:Nat):Prop:=i<a.nodes.length/\k<a.nodes.length/\(k:Int) ∈ (ze1 a i).next
theorem mxG_init {a:zay}:mxG (zap a a.nodes.length) i k=true ↔ EdN a i k:=by
 constructor
 ·intro h
  obtain ⟨h1,h2⟩:=mxG_lt (sq_init a) h
  refine ⟨h1,h2,?_⟩
  unfold mxG zap at h
  rw [b9,dS h1] at h
  simp only [b8,d5] at h
  rw [zhy h2,decide_eq_true h2,cG] at h
  exact of_decide_eq_true h
 ·rintro ⟨h1,h2,h3⟩
  unfold mxG zap
  rw [b9,dS h1]
  simp only [b8,d5]
  rw [zhy h2,decide_eq_true h2,cG]
  exact decide_eq_true h3
theorem zii {a:zay}:mxG (zdk a) i k=true ↔ Pl (EdN a) i k:=by
 obtain ⟨h1,h2⟩:=in_M (E:=EdN a) (sq_init a) (fun i k h=>⟨h.1,h.2.1⟩) (fun i k h=>mxG_init.2 h) (fun i k h => .one (mxG_init.1 h)) a.nodes.length (bS _)
 exact ⟨h1 i k,fun h=>h2 i k (h.pq fun i k h=>⟨h.1,h.2.1⟩)⟩
def LasN (a:zay):Prop:=∃ f,f<a.nodes.length/\(f:Int) ∈ a.first/\∃ g,g<a.nodes.length/\(g=f\/Pl (EdN a) f g)/\gdN a g=true/\Pl (EdN a) g g
theorem trim_iff {a:zay}:0<(zfm a).nodes.length ↔ LasN a:=by
 have hl:0<(zfm a).nodes.length ↔ ∃ i,i<a.nodes.length/\zcd a i=true:=by
  show 0<(zdy a a.nodes.length).length ↔ _
  unfold zdy
  rw [bC,List.length_pos_iff_exists_mem]
  constructor
  ·rintro ⟨i,hi⟩
   obtain ⟨h1,h2⟩:=dY.1 hi
   exact ⟨i,cE.1 h1,h2⟩
  ·rintro ⟨i,h1,h2⟩
   exact ⟨i,dY.2 ⟨cE.2 h1,h2⟩⟩
 rw [hl]
 constructor
 ·rintro ⟨i,hi,hk⟩
  unfold zcd zet toB at hk
  rw [bT,dQ,cW,cW,decide_eq_true_eq] at hk
  obtain ⟨hf,g,hg,hk⟩:=hk
  rw [bT,bT,dQ,decide_eq_true_eq,zii,zii] at hk
  obtain ⟨⟨k1,k2⟩,k3⟩:=hk
  have k3:g=i\/Pl (EdN a) i g:=k3.imp_left fun e=>by omega
  rcases hf with hf | ⟨f,hf,hk⟩
  ·exact ⟨i,hi,hf,g,cE.1 hg,k3,k1,k2⟩
  ·rw [bT,decide_eq_true_eq,zii] at hk
   refine ⟨f,cE.1 hf,hk.1,g,cE.1 hg,.inr ?_,k1,k2⟩
   rcases k3 with e | e
   ·rw [e];exact hk.2
   ·exact hk.2.trans e
 ·rintro ⟨f,hf,h1,g,hg,h2,h3,h4⟩
  refine ⟨f,hf,?_⟩
  unfold zcd zet toB
  rw [decide_eq_true h1,Bool.true_or,cG,cW]
  refine ⟨g,cE.2 hg,?_⟩
  rw [h3,zii.2 h4,Bool.and_self,cG,dQ,decide_eq_true_eq,zii]
  exact h2.imp_left fun e=>by omega
end S
end Go.Proofs.YtdnhcneallkljaaGreat
