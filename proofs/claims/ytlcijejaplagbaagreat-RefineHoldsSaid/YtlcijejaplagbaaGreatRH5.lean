/-
  Part 5 of the proof of the statement RefineHolds. It holds for every input.
-/
import Derived.Test.YtlcijejaplagbaaGreatRH4
import Derived.Test.YtlcijejaplagbaaGreatRH2
import Derived.SizedLaws
import Derived.Shelf.Sort.Plain
import Derived.Ground.Names2Prog
import Derived.Shelf.Slices.CompactI
import Derived.Shelf.Slices.In.SortNone
import Derived.Test.YtlcijejaplagbaaGreatProg
import Derived.Test.YtlcijejaplagbaaGreatRH3
import Derived.Lib.RowBridge
import Derived.Test.YtlcijejaplagbaaGreatRH1
set_option maxRecDepth 100000
set_option maxHeartbeats 20000000
open Go.RowKit
open List renaming range->bC,length_map->bK,map_cons->bL,mem_singleton->bP,mem_cons_self->bS,take_of_length_le->bW,drop_of_length_le->bX,mem_map->b5,getElem?_eq_none->b6,length_append->b7,getElem?_eq_getElem->b8,mem_cons_of_mem->b9,mem_append->cC,sum_cons->cD,mem_of_getElem?->cH,append_nil->cJ,drop_eq_getElem_cons->cK,foldl_cons->cL,getElem?_map->cM,take_add_one->cN,map_nil->cO,flatten_cons->cP,flatten_nil->cQ,length_eq_zero_iff->cR,length_cons->cT,length_take->cU,getElem?_eq_some_iff->cV,mem_of_mem_take->cW,take_append_drop->cX,map_append->cY,mem_of_find?_eq_some->c6,foldl_append->c7,range_succ->c8,append_assoc->dA,length_set->dB,getElem?_set_self->dC,all_eq_true->dD,zipWith_cons_cons->dE,all_cons->dG,find?_cons->dH,getElem?_append_left->dI,getElem?_append_right->dJ,getElem?_set_ne->dL
open Bool renaming true_and->bE,eq_false_or_eq_true->bG,and_eq_true->bN,and_false->bV
open Nat renaming zero_le->bF,le_refl->bI,le_trans->bJ,le_succ->cF
open Option renaming getD_some->bU,map_some->cZ
open Int renaming toNat_of_nonneg->cG
open Go.Proofs.Tryz renaming prog->dM
open Go.Proofs.YtlcijejaplagbaaGreat.S.Fn renaming cast->dN
open Go.Proofs.YtlcijejaplagbaaGreat.S.OV renaming tmp->dO
open Go.Proofs.YtlcijejaplagbaaGreat.S.StD renaming d->dP
open Go.Proofs.YtlcijejaplagbaaGreat.S.za0 renaming d->dQ,d_eq->dR,d_len->dS,fold_eq->dU,holds->dV,ind->dW,nodes->dX,okB_mono->dY,wid_eq->dZ
open Go.Proofs.YtlcijejaplagbaaGreat.S.za9 renaming d->d4
open Go.Proofs.YtlcijejaplagbaaGreat.S.zai renaming d->d5
open Go.Proofs.YtlcijejaplagbaaGreat.S.zak renaming d->d6
namespace Go.Proofs.YtlcijejaplagbaaGreat
namespace S
variable {M v j n:Nat} {s:zan} {i:Int} {a:zas} {m:zai} {x:StD} {ps:List za9} {α β:Type} {f:za0} {ks:List za0} {picks:List ZI} {b:zak} {t:zaf}
theorem SRwithin (s:zan) (v:Nat) (n:ZI) {L:Nat} (hL:L+M<=10000) (hs:zbh L s) (hn:ZOk M n):Fn dM 40 [] [vG (zcn s),vN v,vz n] (vb (zbq (zbm s v) n)) []:=by
 have ln:=hn.2;have lbs:=hs.bnds;refine fB Tryz.func40 rfl 41 fun w H B a h=>Jq 0 [] [(1,vN v),(3,vp 0 0),(5,vp 1 0),(6,vb false)] [(0,.box (zcn s)),(1,.box (zi n))] h fun a w h=>qW ?_
 rcases bG (decide ((v:Int)>=(s.bounds.length:Int))) with hc1 | hc2
 ·have hc1':=dT hc1;refine Je 2 [(3,.len (za3 5 d6 s.bounds)),(4,.cmp (op:=.geq) (m:=(v:Int)) (n:=(s.bounds.length:Int)) (b:=true) .i64 hc1)] [] [(20,vb true)] h fun a w h=>cS true h (fun _=>?_) nofun
  refine Je 2 [] [20] [(6,vb true)] h fun a w h=>qV (za5 (rT (.c (cB true)) h rfl ?_));have hz:zbq (zbm s v) n=(true):=by rw [show zbm s v=bnd0 by unfold zbm;rw [b6 (by have:=dT hc1;omega)];rfl];rfl
  rw [hz];try rfl
 have hc2':=dF hc2;obtain ⟨x1,hx1⟩:=gl s.bounds v;have gx1:=hs.bnd x1 (lM hx1);have l1x1:=gx1.1.2;have l2x1:=gx1.2.2;refine Je 2 [(3,.len (za3 5 d6 s.bounds)),(4,.cmp (op:=.geq) (m:=(v:Int)) (n:=(s.bounds.length:Int)) (b:=false) .i64 hc2),(9,.g (xD 16 14 kf_0 (za7 hx1 (f:=d6)) (dO 15 _)))] [] [(20,vb (!x1.is_))] h fun a w h=>cS (!x1.is_) h (fun hc3=>?_) (fun hc4=>?_)
 ·refine Je 2 [] [20] [(6,vb true)] h fun a w h=>qV (za5 (rT (.c (cB true)) h rfl ?_));have hz:zbq (zbm s v) n=(true):=by rw [show zbm s v=x1 by unfold zbm;rw [hx1];rfl];unfold zbq;rw [<- cmpZ_geI];simp only [hc3];try rfl
  rw [hz];try rfl
 refine qU (za1 ?_)
 rcases bG (decide (zbo n.val x1.lo.val>=0)) with hc5 | hc6
 ·have hc5':=dT hc5;refine Jq 2 [(4,.g (xD 25 23 kf_0 (za7 hx1 (f:=d6)) (dO 24 _))),(7,.call (SRCmp n x1.lo hn.1 gx1.1.1 (by omega) (by omega))),(8,.cmp (op:=.geq) (m:=(zbo n.val x1.lo.val)) (n:=0) (b:=true) .i64 hc5),(14,.g (xD 35 33 kf_0 (za7 hx1 (f:=d6)) (dO 34 _))),(17,.call (SRCmp n x1.hi hn.1 gx1.2.1 (by omega) (by omega)))] [(6,vb (decide (zbo n.val x1.hi.val<=0)))] [] h fun a w h=>qV (rT (.c (cB (decide (zbo n.val x1.hi.val<=0)))) h rfl ?_);have hz:zbq (zbm s v) n=(decide (zbo n.val x1.hi.val<=0)):=by rw [show zbm s v=x1 by unfold zbm;rw [hx1];rfl];unfold zbq;rw [<- cmpZ_geI];simp only [hc4,hc5];try rfl
  rw [hz];try rfl
 have hc6':=dF hc6;refine Jq 2 [(4,.g (xD 25 23 kf_0 (za7 hx1 (f:=d6)) (dO 24 _))),(7,.call (SRCmp n x1.lo hn.1 gx1.1.1 (by omega) (by omega))),(8,.cmp (op:=.geq) (m:=(zbo n.val x1.lo.val)) (n:=0) (b:=false) .i64 hc6)] [(6,vb false)] [] h fun a w h=>qV (rT (.c (cB false)) h rfl ?_);have hz:zbq (zbm s v) n=(false):=by rw [show zbm s v=x1 by unfold zbm;rw [hx1];rfl];unfold zbq;rw [<- cmpZ_geI];simp only [hc4,hc6];try rfl
 rw [hz];try rfl
theorem SRFits (s:zan) (x:StD) {L:Nat} (hL:L+M<=10000) (hs:zbh L s) (hx:zhp M x):Fn dM 18 [] [vG (zcn s),vG [cIs x.locs,cZs x.vals]] (vb (zd2 s x)) []:=by
 have lx1:=hx.locs;have lx2:=hx.vals;have ls1:=hs.vars;have ls2:=hs.procs;refine fB Tryz.func18 rfl 67 fun w H B a h=>Jq 0 [] [(2,vp 0 0),(3,vp 1 0),(4,vb false)] [(0,.box (zcn s)),(1,.box [cIs x.locs,cZs x.vals])] h fun a w h=>qW ?_
 rcases bG ((x.locs.length:Int) != (s.procs.length:Int)) with hc1 | hc2
 ·refine Je 2 [(2,.len (za3 1 zal x.locs)),(5,.len (za3 3 zbj.d s.procs)),(6,.cmp (op:=.neq) (m:=(x.locs.length:Int)) (n:=(s.procs.length:Int)) (b:=true) .i64 hc1)] [] [(22,vb true)] h fun a w h=>cS true h (fun _=>?_) nofun
  refine Je 2 [] [22] [] h fun a w h=>qV (za5 (rT (.c (cB false)) h rfl ?_));have hz:zd2 s x=false:=by unfold zd2;rw [yX (by have:=hc1;simp at this;omega)];rfl
  rw [hz];try rfl
 refine Je 2 [(2,.len (za3 1 zal x.locs)),(5,.len (za3 3 zbj.d s.procs)),(6,.cmp (op:=.neq) (m:=(x.locs.length:Int)) (n:=(s.procs.length:Int)) (b:=false) .i64 hc2),(10,.len (za3 2 ziD x.vals)),(13,.len (za3 1 zer s.vars))] [] [(22,vb ((x.vals.length:Int) != (s.vars.length:Int)))] h fun a w h=>cS ((x.vals.length:Int) != (s.vars.length:Int)) h (fun hc3=>?_) (fun hc4=>?_)
 ·refine Je 2 [] [22] [] h fun a w h=>qV (za5 (rT (.c (cB false)) h rfl ?_));have hz:zd2 s x=false:=by unfold zd2;rw [yX (by have:=hc3;simp at this;omega)];rfl
  rw [hz];try rfl
 refine qU (za1 (qW (Je 2 [] [22] [(5,vI 0)] h fun a w h=>qZ ?_)))
 refine zbw (ι:=(Nat)) (fun j=>j<=x.locs.length/\zg8 j (zlh s x)=true)
   [4] (fun j=>[(5,vN j)])
   [] (fun j=>[])
   (fun j=>x.locs.length - j) 0 ?_ h ?_
 ·exact ⟨bF _,rfl⟩
 clear h;rintro j a w hI h;obtain ⟨hI1,hI2⟩:=hI;refine qW (Je 2 [(3,.len (za3 1 zal x.locs))] [] [(27,vb (decide ((j:Int)<(x.locs.length:Int))))] h fun a w h=>zad ((j:Int)<(x.locs.length:Int)) h (fun hc5 hc5'=>?_) (fun hc10 hc10'=>?_))
 ·refine qU (za1 (qW (qZ ?_)));obtain ⟨x1,hx1⟩:=gl x.locs j
  rcases bG (decide (x1<0)) with hc6 | hc7
  ·have hc6':=dT hc6;refine Je 2 [(3,.g (xD 33 31 zh0 (za7 hx1 (f:=zal)) (dO 32 _))),(5,.cmp (op:=.lss) (m:=x1) (n:=0) (b:=true) .i64 hc6)] [27] [(50,vb true)] h fun a w h=>cS true h (fun _=>?_) nofun
   refine Je 2 [] [50] [(4,vb false)] h fun a w h=>qV (za8 (za5 (za5 (za8 (za5 (rT (.c (cB false)) h rfl ?_))))));have hz:zd2 s x=false:=by unfold zd2;rw [yQ (by have h1:=hc2;have h2:=hc4;simp at h1 h2;omega),bE];rw [zc2 (zab hx1) (show zlh s x j=false by unfold zlh zfl;rw [hx1];exact yX (by have:=dT hc6;intro h;have:=h.1;simp at this;omega))];rfl
   rw [hz];try rfl
  have hc7':=dF hc7;obtain ⟨x2,hx2⟩:=gl s.procs j;refine Je 2 [(3,.g (xD 33 31 zh0 (za7 hx1 (f:=zal)) (dO 32 _))),(5,.cmp (op:=.lss) (m:=x1) (n:=0) (b:=false) .i64 hc7),(10,.g (xD 40 38 zh0 (za7 hx1 (f:=zal)) (dO 39 _))),(15,.g (xD 45 43 kf_5 (za7 hx2 (f:=zbj.d)) (dO 44 _))),(18,.len (za3 1 zer x2.locs))] [27] [(50,vb (decide (x1>=(x2.locs.length:Int))))] h fun a w h=>zad (x1>=(x2.locs.length:Int)) h (fun hc8 hc8'=>?_) (fun hc9 hc9'=>?_)
  ·refine Je 2 [] [50] [(4,vb false)] h fun a w h=>qV (za8 (za5 (za5 (za8 (za5 (rT (.c (cB false)) h rfl ?_))))));have hz:zd2 s x=false:=by unfold zd2;rw [yQ (by have h1:=hc2;have h2:=hc4;simp at h1 h2;omega),bE];rw [zc2 (zab hx1) (show zlh s x j=false by unfold zlh zfl;rw [hx1,hx2];exact yX (by have:=dT hc8;intro h;have:=h.2;simp at this;omega))];rfl
   rw [hz];try rfl
  refine qU (za6 (za1 (Jf 2 [(1,.j1 j)] [50] [(5,vI ((j:Int)+1))] h fun a w h=>za1 (zaa (x:=j) (y:=j+1) h ?_ ?_))))
  ·have:=zab hx1;exact ⟨by omega,zbn hI2 (by unfold zlh zfl;rw [hx1,hx2];exact yQ ⟨by have:=dF hc7;simpa using this,by have:=dF hc9;simpa using this⟩)⟩
  show x.locs.length - (j+1)<x.locs.length - j;have:=zab hx1;omega
 refine exA (qW (Je 2 [] [5,27] [(6,vI 0)] h fun a w h=>qZ ?_))
 refine zbw (ι:=(Nat)) (fun i=>i<=x.vals.length/\zg8 i (valOk s x)=true)
   [] (fun i=>[(6,vN i)])
   [] (fun i=>[])
   (fun i=>x.vals.length - i) 0 ?_ h ?_
 ·exact ⟨bF _,rfl⟩
 clear h;rintro i a w hI h;obtain ⟨hJ1,hJ2⟩:=hI;refine qW (Je 2 [(3,.len (za3 2 ziD x.vals))] [] [(55,vb (decide ((i:Int)<(x.vals.length:Int))))] h fun a w h=>zad ((i:Int)<(x.vals.length:Int)) h (fun hc11 hc11'=>?_) (fun hc14 hc14'=>?_))
 ·refine qU (za1 (qW (qZ ?_)));obtain ⟨x3,hx3⟩:=gl x.vals i;have gx3:=hx.val x3 (lM hx3);refine Je 2 [(5,.g (xD 63 61 tt_6 (za7 hx3 (f:=ziD)) (dO 62 _))),(7,.call (SRwithin s i x3 hL hs gx3))] [55] [(66,vb (!(zbq (zbm s i) x3)))] h fun a w h=>cS (!(zbq (zbm s i) x3)) h (fun hc12=>?_) (fun hc13=>?_)
  ·refine Je 2 [] [66] [(4,vb false)] h fun a w h=>qV (za8 (za5 (za5 (za8 (za5 (rT (.c (cB false)) h rfl ?_))))));have hz:zd2 s x=false:=by unfold zd2;rw [yQ (by have h1:=hc2;have h2:=hc4;simp at h1 h2;omega),bE];rw [zc2 (zab hx3) (show valOk s x i=false by unfold valOk;rw [hx3];exact (show (zbq (zbm s i) x3)=false from by simpa using hc12)),bV]
   rw [hz];try rfl
  refine qU (za6 (za1 (Jf 2 [(1,.j1 i)] [66] [(6,vI ((i:Int)+1))] h fun a w h=>za1 (zaa (x:=i) (y:=i+1) h ?_ ?_))))
  ·have:=zab hx3;exact ⟨by omega,zbn hJ2 (by unfold valOk;rw [hx3];exact (show (zbq (zbm s i) x3)=true from by simpa using hc13))⟩
  show x.vals.length - (i+1)<x.vals.length - i;have:=zab hx3;omega
 refine exA (Jq 2 [] [(4,vb true)] [] h fun a w h=>qV (rT (.c (cB true)) h rfl ?_));have hz:zd2 s x=true:=by unfold zd2;rw [yQ (by have h1:=hc2;have h2:=hc4;simp at h1 h2;omega),bE];rw [show x.locs.length=j by have:=dF hc10;omega,hI2,show x.vals.length=i by have:=dF hc14;omega,hJ2];rfl
 rw [hz];try rfl
theorem SRFirst (s:zan) (x:StD) {L:Nat} (hL:L+M<=10000) (hs:zbh L s) (hx:zhp M x):Fn dM 36 [] [vG (zcn s),vG [cIs x.locs,cZs x.vals]] (vb (first s x)) []:=by
 have lx1:=hx.locs;have lx2:=hx.vals;have ls1:=hs.vars;have ls2:=hs.procs;refine fB Tryz.func36 rfl 29 fun w H B a h=>Jq 0 [] [(2,vp 0 0),(3,vp 1 0),(4,vb false)] [(0,.box (zcn s)),(1,.box [cIs x.locs,cZs x.vals])] h fun a w h=>qW (Je 2 [] [] [(5,vI 0)] h fun a w h=>qZ ?_)
 refine zbw (ι:=(Nat)) (fun j=>j<=x.locs.length/\(x.locs.take j).any (fun l:Int=>l != 0)=false)
   [4] (fun j=>[(5,vN j)])
   [] (fun j=>[])
   (fun j=>x.locs.length - j) 0 ?_ h ?_
 ·exact ⟨bF _,rfl⟩
 clear h;rintro j a w hI h;obtain ⟨hI1,hI2⟩:=hI;refine qW (Je 2 [(3,.len (za3 1 zal x.locs))] [] [(10,vb (decide ((j:Int)<(x.locs.length:Int))))] h fun a w h=>zad ((j:Int)<(x.locs.length:Int)) h (fun hc1 hc1'=>?_) (fun hc4 hc4'=>?_))
 ·refine qU (za1 (qW (qZ ?_)));obtain ⟨x1,hx1⟩:=gl x.locs j;refine Je 2 [(3,.g (xD 16 14 zh0 (za7 hx1 (f:=zal)) (dO 15 _)))] [10] [(18,vb (x1 != 0))] h fun a w h=>cS (x1 != 0) h (fun hc2=>?_) (fun hc3=>?_)
  ·refine Je 2 [] [18] [(4,vb false)] h fun a w h=>qV (za8 (za5 (za5 (za8 (za5 (rT (.c (cB false)) h rfl ?_))))));have hz:first s x=(false):=by unfold first;rw [zmf (q:=(fun l:Int=>l != 0)) hx1 hc2,Bool.not_true,bV];rfl
   rw [hz];try rfl
  refine qU (za6 (za1 (Jf 2 [(1,.j1 j)] [18] [(5,vI ((j:Int)+1))] h fun a w h=>za1 (zaa (x:=j) (y:=j+1) h ?_ ?_))))
  ·exact ⟨by have:=zab hx1;omega,any_step hx1 hI2 hc3⟩
  show x.locs.length - (j+1)<x.locs.length - j;have:=zab hx1;omega
 refine exA ?_
 rcases bG (zd2 s x) with hc5 | hc6
 ·refine Jq 2 [(2,.call (dN (SRFits s x hL hs hx) (yJ vb hc5))),(8,.call (SRHolds x.vals (L:=L) (M:=M) (by omega) hx.vok s.init hs.init.1 hs.init.2))] [(4,vb (dV x.vals s.init))] [] h fun a w h=>qV (rT (.c (cB (dV x.vals s.init))) h rfl ?_);have hz:first s x=(dV x.vals s.init):=by unfold first;rw [hc5,any_end (q:=(fun l:Int=>l != 0)) (dF hc4) hI2];rfl
  rw [hz];try rfl
 refine Jq 2 [(2,.call (dN (SRFits s x hL hs hx) (yJ vb hc6)))] [(4,vb false)] [] h fun a w h=>qV (rT (.c (cB false)) h rfl ?_);have hz:first s x=(false):=by unfold first;rw [hc6,any_end (q:=(fun l:Int=>l != 0)) (dF hc4) hI2];rfl
 rw [hz];try rfl
theorem SRSame18 (x y:StD) (hM:M<=40000) (hx:zhp M x) (hy:zhp M y):Fn dM 72 [] [vG [cIs x.locs,cZs x.vals],vG [cIs y.locs,cZs y.vals]] (vb (zgq x y)) []:=by
 have lx1:=hx.locs;have lx2:=hx.vals;refine fB Tryz.func72 rfl 60 fun w H B a h=>Jq 0 [] [(2,vp 0 0),(3,vp 1 0),(4,vb false)] [(0,.box [cIs x.locs,cZs x.vals]),(1,.box [cIs y.locs,cZs y.vals])] h fun a w h=>qW ?_
 rcases bG ((x.locs.length:Int) != (y.locs.length:Int)) with hc1 | hc2
 ·refine Je 2 [(2,.len (za3 1 zal x.locs)),(5,.len (za3 1 zal y.locs)),(6,.cmp (op:=.neq) (m:=(x.locs.length:Int)) (n:=(y.locs.length:Int)) (b:=true) .i64 hc1)] [] [(22,vb true)] h fun a w h=>cS true h (fun _=>?_) nofun
  refine Je 2 [] [22] [] h fun a w h=>qV (za5 (rT (.c (cB false)) h rfl ?_));have hz:zgq x y=false:=by unfold zgq;rw [yX (p:=x.locs=y.locs) (fun h=>by have:=hc1;rw [h] at this;simp at this)];rfl
  rw [hz];try rfl
 refine Je 2 [(2,.len (za3 1 zal x.locs)),(5,.len (za3 1 zal y.locs)),(6,.cmp (op:=.neq) (m:=(x.locs.length:Int)) (n:=(y.locs.length:Int)) (b:=false) .i64 hc2),(10,.len (za3 2 ziD x.vals)),(13,.len (za3 2 ziD y.vals))] [] [(22,vb ((x.vals.length:Int) != (y.vals.length:Int)))] h fun a w h=>cS ((x.vals.length:Int) != (y.vals.length:Int)) h (fun hc3=>?_) (fun hc4=>?_)
 ·refine Je 2 [] [22] [] h fun a w h=>qV (za5 (rT (.c (cB false)) h rfl ?_));have hz:zgq x y=false:=by unfold zgq;rw [yX (p:=x.vals.map ZI.val=y.vals.map ZI.val) (map_len_ne (by have:=hc3;simp at this;omega)),bV]
  rw [hz];try rfl
 refine qU (za1 (qW (Je 2 [] [22] [(5,vI 0)] h fun a w h=>qZ ?_)))
 refine zbw (ι:=(Nat)) (fun j=>j<=x.locs.length/\(x.locs.take j).map (fun l:Int=>l)=(y.locs.take j).map (fun l:Int=>l))
   [4] (fun j=>[(5,vN j)])
   [] (fun j=>[])
   (fun j=>x.locs.length - j) 0 ?_ h ?_
 ·exact ⟨bF _,rfl⟩
 clear h;rintro j a w hI h;obtain ⟨hj1,hj2⟩:=hI;refine qW (Je 2 [(3,.len (za3 1 zal x.locs))] [] [(27,vb (decide ((j:Int)<(x.locs.length:Int))))] h fun a w h=>zad ((j:Int)<(x.locs.length:Int)) h (fun hc5 hc5'=>?_) (fun hc8 hc8'=>?_))
 ·refine qU (za1 (qW (qZ ?_)));obtain ⟨x1,hx1⟩:=gl x.locs j;obtain ⟨x2,hx2⟩:=gl y.locs j;refine Je 2 [(3,.g (xD 33 31 zh0 (za7 hx1 (f:=zal)) (dO 32 _))),(8,.g (xD 38 36 zh0 (za7 hx2 (f:=zal)) (dO 37 _)))] [27] [(40,vb (x1 != x2))] h fun a w h=>cS (x1 != x2) h (fun hc6=>?_) (fun hc7=>?_)
  ·refine Je 2 [] [40] [(4,vb false)] h fun a w h=>qV (za8 (za5 (za5 (za8 (za5 (rT (.c (cB false)) h rfl ?_))))));have hz:zgq x y=false:=by unfold zgq;rw [yX (p:=x.locs=y.locs) (fun h=>map_ne (f:=(fun l:Int=>l)) hx1 hx2 (by have:=hc6;simpa using this) (by rw [h]))];rfl
   rw [hz];try rfl
  refine qU (za6 (za1 (Jf 2 [(1,.j1 j)] [40] [(5,vI ((j:Int)+1))] h fun a w h=>za1 (zaa (x:=j) (y:=j+1) h ?_ ?_))))
  ·have:=zab hx1;exact ⟨by omega,map_take hx1 hx2 hj2 (by have:=hc7;simpa using this)⟩
  show x.locs.length - (j+1)<x.locs.length - j;have:=zab hx1;omega
 refine exA (qW (Je 2 [] [5,27] [(6,vI 0)] h fun a w h=>qZ ?_))
 refine zbw (ι:=(Nat)) (fun i=>i<=x.vals.length/\(x.vals.take i).map ZI.val=(y.vals.take i).map ZI.val)
   [] (fun i=>[(6,vN i)])
   [] (fun i=>[])
   (fun i=>x.vals.length - i) 0 ?_ h ?_
 ·exact ⟨bF _,rfl⟩
 clear h;rintro i a w hI h;obtain ⟨hi1,hi2⟩:=hI;refine qW (Je 2 [(3,.len (za3 2 ziD x.vals))] [] [(45,vb (decide ((i:Int)<(x.vals.length:Int))))] h fun a w h=>zad ((i:Int)<(x.vals.length:Int)) h (fun hc9 hc9'=>?_) (fun hc12 hc12'=>?_))
 ·refine qU (za1 (qW (qZ ?_)));obtain ⟨x3,hx3⟩:=gl x.vals i;have gx3:=hx.val x3 (lM hx3);have lx3:=gx3.2;obtain ⟨x4,hx4⟩:=gl y.vals i;have gx4:=hy.val x4 (lM hx4);have lx4:=gx4.2;refine Je 2 [(3,.g (xD 51 49 tt_6 (za7 hx3 (f:=ziD)) (dO 50 _))),(8,.g (xD 56 54 tt_6 (za7 hx4 (f:=ziD)) (dO 55 _))),(10,.call (SRCmp x3 x4 gx3.1 gx4.1 (by omega) (by omega)))] [45] [(59,vb (zbo x3.val x4.val != 0))] h fun a w h=>cS (zbo x3.val x4.val != 0) h (fun hc10=>?_) (fun hc11=>?_)
  ·refine Je 2 [] [59] [(4,vb false)] h fun a w h=>qV (za8 (za5 (za5 (za8 (za5 (rT (.c (cB false)) h rfl ?_))))));have hz:zgq x y=false:=by unfold zgq;rw [yQ (p:=x.locs=y.locs) (by have:=map_end (by have:=hc2;simp at this;omega) (dF hc8) hj2;simpa using this)];rw [yX (p:=x.vals.map ZI.val=y.vals.map ZI.val) (map_ne hx3 hx4 (by have:=hc10;rw [zkt] at this;simpa using this))];rfl
   rw [hz];try rfl
  refine qU (za6 (za1 (Jf 2 [(1,.j1 i)] [59] [(6,vI ((i:Int)+1))] h fun a w h=>za1 (zaa (x:=i) (y:=i+1) h ?_ ?_))))
  ·have:=zab hx3;exact ⟨by omega,map_take hx3 hx4 hi2 (by have:=hc11;rw [zkt] at this;simpa using this)⟩
  show x.vals.length - (i+1)<x.vals.length - i;have:=zab hx3;omega
 refine exA (Jq 2 [] [(4,vb true)] [] h fun a w h=>qV (rT (.c (cB true)) h rfl ?_));have hz:zgq x y=true:=by unfold zgq;rw [yQ (p:=x.locs=y.locs) (by have:=map_end (by have:=hc2;simp at this;omega) (dF hc8) hj2;simpa using this)];rw [yQ (p:=x.vals.map ZI.val=y.vals.map ZI.val) (map_end (by have:=hc4;simp at this;omega) (dF hc12) hi2)];rfl
 rw [hz];try rfl
theorem ki_0:Sz dM 73 10 true:=Sz.mk' (by kernel_rfl) Tryz.underlying73 _ rfl
theorem ki_1:SlT dM 37 73 10:=SlT.mk' Tryz.underlying37 (by kernel_rfl)
theorem ki_2:SlT dM 71 75 5:=SlT.mk' Tryz.underlying71 (by kernel_rfl)
theorem ki_5:Sz dM 75 5 true:=Sz.mk' (by kernel_rfl) Tryz.underlying75 _ rfl
def zeh (s:zan) (i:Int):Option zas:=if 0<=i then s.acts[i.toNat]? else none
def form0:za0:=⟨0,⟨⟨[],ze3⟩,false⟩,[]⟩
def act0:zas:=⟨0,0,0,form0,[]⟩
def mv0:zai:=⟨0,false,⟨[],ze3⟩⟩
def ziu (a:zas) (v:Nat):Option zai:=a.moves.find? fun m=>m.v == (v:Int)
def zbl (a:zas) (v:Nat):Bool:=match ziu a v with | some m=>m.any | none=>false
def zid (x:StD) (a:zas) (v:Nat):ZI:=match ziu a v with | none=>ZI.of ((x.vals[v]?).getD ze3).val | some m=>if m.any=true then ze3 else ZI.of (zd6 m.t x.vals)
def zfi (s:zan) (m:zai):Bool:=decide (m.v>=0) && decide (m.v<(s.vars.length:Int))
def zap (s:zan) (x:StD) (c:zas):Bool:=(zd2 s x && (decide (0<=c.proc/\c.proc<(s.procs.length:Int)) && ((x.locs[c.proc.toNat]?).getD 0 == c.from_) && decide (0<=c.to_/\c.to_<(zfl s c.proc.toNat:Int)))) && (!(c.moves.any fun m=>!zfi s m) && c.guard.holds x.vals)
theorem zky (h:zeh s i=some a):∃ k:Nat,i=(k:Int)/\s.acts[k]?=some a:=by
 unfold zeh at h
 split at h
 ·exact ⟨i.toNat,(cG (by assumption)).symm,h⟩
 ·cases h
theorem actAt_none (h:zeh s i=none):i<0\/(s.acts.length:Int)<=i:=by
 unfold zeh at h
 split at h
 ·have:=List.getElem?_eq_none_iff.1 h;omega
 ·omega
theorem mv_mem (h:ziu a v=some m):m ∈ a.moves:=c6 h
theorem new_ok {L:Nat} (ha:zgy L a) (hx:zhp M x) (v:Nat):ZOk (L+M+2) (zid x a v):=by
 unfold zid
 split
 ·refine ⟨ZI.lb_of _,bJ (ZI.len_of ?_) (bJ (bI M) (by omega))⟩
  cases hv:x.vals[v]? with
  | none=>exact zf4 M
  | some z=>have g:=hx.val z (cH hv);exact Nat.lt_of_lt_of_le (ZI.abs_lt g.1) (zdt g.2)
 ·rename_i m hm
  split
  ·exact ZOk.zero
  ·exact ⟨ZI.lb_of _,bJ (val_len (ha.mv m (mv_mem hm)) (by decide) hx.vok (fun p hp=>hp) (bI _)) (by omega)⟩
theorem zdi (h:zd2 s x=true):x.locs.length=s.procs.length/\x.vals.length=s.vars.length:=by
 unfold zd2 at h;rw [bN] at h;exact of_decide_eq_true h.1
theorem le5_3:ElZ dM 67 4 1:=ElZ.mk' Tryz.underlying67 _ _ rfl rfl
theorem le5_4:ElT dM 67 4 1 1:=ElT.mk' Tryz.underlying67 _ _ rfl rfl
theorem le5_9:SlT dM 67 4 1:=SlT.mk' Tryz.underlying67 (by kernel_rfl)
structure zbz where
  locs:List Int
  bits:List Bool
def zbz.d (x:zbz):List D:=[.sl 1 (x.locs.map zal),.sl 1 (x.bits.map zb4)]
def ofA (ps:List za9) (x:StD):zbz:=⟨x.locs,ps.map (zax x.vals)⟩
def litF (r:za9) (b:Bool):za0:=if b=true then zfp r else ziv (zfp r)
def zih (ps:List za9):Prop:=ps.length<=1000/\∀ r ∈ ps,TokR 10 r
theorem lit_okB {r:za9} (hr:TOk 20 10 r.t) (b:Bool):(litF r b).okB 400000000 100:=by
 have h:(zfp r).okB 20 11:=zi2 (hr.plain (by decide))
 unfold litF
 split
 ·exact dY (by decide) (by decide) _ h
 ·exact zi1 (by decide) (by simp) fun g hg=>by rw [bP.1 hg];exact dY (by decide) (by decide) _ (okB_cl (by decide) _ h)
def zeb (ps:List za9) (bs:List Bool):List za0:=List.zipWith litF ps bs
def zb1 (ps:List za9) (bs:List Bool):za0:=zcj (zeb ps bs)
theorem cube_at {bs:List Bool} {r:za9} {b:Bool} (h:ps[j]?=some r) (k:bs[j]?=some b):(zeb ps bs).take j++[litF r b]=(zeb ps bs).take (j+1):=by
 have:(zeb ps bs)[j]?=some (litF r b):=by unfold zeb;rw [List.getElem?_zipWith,h,k]
 rw [cN,this];rfl
theorem zi7 (ps:List za9) (bs:List Bool):(zeb ps bs).length=min ps.length bs.length:=by unfold zeb;exact List.length_zipWith ..
theorem cube_okB (hps:zih ps) (bs:List Bool):∀ g ∈ zeb ps bs,g.okB 400000000 100:=fun g hg=>by
 obtain ⟨j,hj,rfl⟩:=List.getElem_of_mem hg
 have hl:=zi7 ps bs
 have e:(zeb ps bs)[j]'hj=litF (ps[j]'(by omega)) (bs[j]'(by omega)):=List.getElem_zipWith ..
 rw [e]
 exact lit_okB (hps.2 _ (List.getElem_mem _)) _
theorem Lliteral (r:za9) (b:Bool) (hr:TOk 20 10 r.t):Fn dM 68 [] [(vR r),vb b] (vF (litF r b)) []:=by
 refine fB Tryz.func68 rfl 11 fun w H B a h=>Jq 0 [] [(1,vb b),(2,vp 0 0),(4,vp 1 0)] [(0,.box (zR_ r)),(1,.box zF0)] h fun a w h=>qW (Je 2 [] [1] [(5,vb b)] h fun a w h=>cS b h (fun hc1=>?_) (fun hc2=>?_))
 ·refine Jg 2 [(1,.call (LOf r (hr.mono (by decide) (by decide))))] [5] [] [] [(1,.box (zF (zfp r)))] h fun a w h=>qV (za5 (rA 1 (zF (zfp r)) h zdh rfl ?_));unfold litF;rw [hc1];try rfl
 refine qU (za1 (Jq 2 [(1,.call (LOf r (hr.mono (by decide) (by decide)))),(2,.call (LDeny (zfp r) (dY (by decide) (by decide) _ (zi2 (n:=20) (L:=11) (hr.plain (by decide))))))] [(4,vp 1 0)] [(1,.box (zF (ziv (zfp r))))] h fun a w h=>qV (rA 1 (zF (ziv (zfp r))) h zdh rfl ?_)));unfold litF;rw [hc2];try rfl
theorem LCube (ps:List za9) (bs:List Bool) (hps:zih ps) (hb:bs.length<=9223372036854775807):Fn dM 33 [] [(vRs ps),vS 1 (bs.map zb4)] (vF (zb1 ps bs)) []:=by
 have lps:=hps.1;have lcb:=zi7 ps bs;refine fB Tryz.func33 rfl 30 fun w H B a h=>Jq 5 [] [(0,(vRs ps)),(1,vS 1 (bs.map zb4)),(4,vp 5 0)] [(5,.box zF0)] h fun a w h=>Je 6 [] [] [(5,vW zam)] h fun a w h=>qW (Je 6 [(1,.len (za3 4 d4 ps)),(3,.len (za3 1 zb4 bs)),(4,.g (Op.min2 (d:=11) (tys:=#[3,3]) (k:=.i64) (m:=(ps.length:Int)) (n:=(bs.length:Int)) (r:=((min ps.length bs.length:Nat):Int)) (dO 8 _) (dO 10 _) (by omega)))] [] [(11,vI ((min ps.length bs.length:Nat):Int)),(12,vI 0)] h fun a w h=>qZ ?_)
 replace h:=zfr 5 0 6 6 35 (vW zam) h
 refine zbw (ι:=(Nat)) (fun j=>j<=min ps.length bs.length)
   [] (fun j=>[(5,vO 6 ((zeb ps bs).take j).length),(12,vN j)])
   [] (fun j=>[(6,.row 35 6 (((zeb ps bs).take j).map dQ))])
   (fun j=>min ps.length bs.length - j) 0 ?_ h ?_
 ·exact bF _
 clear h;rintro j a w hI h;have lcj:((zeb ps bs).take j).length<=j:=by rw [cU];omega
 refine Je 7 [] [] [(13,vb (decide ((j:Int)<((min ps.length bs.length:Nat):Int))))] h fun a w h=>qW (zad ((j:Int)<((min ps.length bs.length:Nat):Int)) h (fun hc1 hc1'=>?_) (fun hc2 hc2'=>?_))
 ·refine qU (za1 (qW (qZ (Je 7 [] [13] [(6,vN j)] h fun a w h=>?_))));obtain ⟨x1,hx1⟩:=gl ps j;obtain ⟨x2,hx2⟩:=gl bs j;refine Jh 7 [(3,.g (xD 18 16 kc_3 (za7 hx1 (f:=d4)) (dO 17 _))),(7,.g (xD 22 20 le5_9 (za7 hx2 (f:=zb4)) (dO 21 _))),(9,.call (Lliteral x1 x2 (hps.2 x1 (lM hx1)))),(10,.g (bD 25 ([(litF x1 x2)].map dQ) [(24,(vF (litF x1 x2)))] kb_1 (.cons (i:=0) (dO 24 _) (.nil)) (by simp only [bL,cO,cP,cQ,cJ,dR]; try kernel_rfl) (by simp [dS]))),(11,.g (aD 26 15 25 6 7 ((zeb ps bs).take j) [(litF x1 x2)] dQ la_7 (by simp [dS])))] [6] [(5,vO 7 (((zeb ps bs).take j)++[(litF x1 x2)]).length)] [6] [(7,.row 35 6 ((((zeb ps bs).take j)++[(litF x1 x2)]).map dQ))] h fun a w h=>za6 (za1 (Jf 8 [(0,.j1 j)] [] [(12,vI ((j:Int)+1))] h fun a w h=>za1 ?_));rw [show ((((zeb ps bs).take j)++[(litF x1 x2)]):List za0)=((zeb ps bs).take (j+1)) from (cube_at hx1 hx2)] at h;replace h:=zd7 7 6 h;refine zaa (x:=j) (y:=j+1) h ?_ ?_
  ·have:=zab hx1;have:=zab hx2;show j+1<=min ps.length bs.length;omega
  show min ps.length bs.length - (j+1)<min ps.length bs.length - j;have:=zab hx1;have:=zab hx2;omega
 refine exA ?_;rw [show (((zeb ps bs).take j):List za0)=(zeb ps bs) from (by rw [bW (by rw [zi7];omega)])] at h;replace h:=zj2 6 6 35 ((zeb ps bs).map dQ) h [(zeb ps bs).length] ⟨by first | exact (bK _).symm | (simp;done) | (simp;omega),trivial⟩;refine Jq 8 [(1,.call (LAll (zeb ps bs) (fun g hg=>dY (by decide) (by decide) _ (cube_okB hps bs g hg)) (by omega)))] [(4,vp 5 0)] [(5,.box (zF (zb1 ps bs)))] h fun a w h=>qV (rA 5 (zF (zb1 ps bs)) h zdh rfl ?_);rfl
theorem lf6_2:zbt dM 166:=zbt.mk' (by kernel_rfl)
def cmpL {α:Type} (c:α->α->Int):List α->List α->Int
  | [],[]=>0
  | [],_ :: _=>-1
  | _ :: _,[]=>1
  | p :: ps,q :: qs=>if c p q≠0 then c p q else cmpL c ps qs
theorem zgv {c:α->α->Int} {xs ys:List α} {p q:α} (h:xs[j]?=some p) (k:ys[j]?=some q):cmpL c (xs.drop j) (ys.drop j)=if c p q≠0 then c p q else cmpL c (xs.drop (j+1)) (ys.drop (j+1)):=by
 obtain ⟨hj,rfl⟩:=cV.1 h
 obtain ⟨hk,rfl⟩:=cV.1 k
 rw [cK hj,cK hk];rfl
theorem cmpL_end {c:α->α->Int} {xs ys:List α} (h:j<=xs.length) (k:j<=ys.length):(j=ys.length->j<xs.length->cmpL c (xs.drop j) (ys.drop j)=1)/\(j=xs.length->j<ys.length->cmpL c (xs.drop j) (ys.drop j)=-1)/\(j=xs.length->j=ys.length->cmpL c (xs.drop j) (ys.drop j)=0):=by
 refine ⟨fun e1 e2=>?_,fun e1 e2=>?_,fun e1 e2=>?_⟩
 ·rw [cK e2,bX (l:=ys) (by omega)];rfl
 ·rw [cK e2,bX (l:=xs) (by omega)];rfl
 ·rw [bX (l:=ys) (by omega),bX (l:=xs) (by omega)];rfl
def bitZ (b:Bool):Int:=if b=true then 1 else 0
def cmpBl (p q:Bool):Int:=zbo (bitZ p) (bitZ q)
def zfo (a b:zbz):Int:=orZ [cmpL zbo a.locs b.locs,cmpL cmpBl a.bits b.bits]
theorem Lindex1b (p r:za9) (hp:TOk 200000000 3000 p.t) (hr:TOk 200000000 3000 r.t):Fn dM 166 [(10,.box (zR_ r))] [(vR p),vp 10 0] (vb (zdm p r == 0)) [(10,.box (zR_ r))]:=by
 refine fB Tryz.func166 rfl 7 fun w H B a h=>Jq 12 [] [(1,vp 10 0),(2,vp 12 0),(3,vb false)] [(10,.box (zR_ r)),(12,.box (zR_ p))] h fun a w h=>Jg 13 [(2,.call (LSame p r hp hr (by decide) (by decide)))] [1,2] [(3,vb (zdm p r == 0))] [12] [] h fun a w h=>qV (rT (.c (cB (zdm p r == 0))) h rfl ?_)
 rfl
theorem LIdxO (xs:List za9) (r:za9) (hf:∀ x ∈ xs,TOk 200000000 3000 x.t) (hr:TOk 200000000 3000 r.t) (hl:xs.length<=1000000000000):Fn dM 165 [(9,.row 32 4 (xs.map d4)),(10,.box (zR_ r))] [vO 9 xs.length,.t (.c (.fn (.func 166) [] [.ptr 10 0]))] (vI (zdq (fun p=>zdm p r == 0) xs 0)) [(9,.row 32 4 (xs.map d4)),(10,.box (zR_ r))]:=by
 refine fB Tryz.func165 rfl 19 fun w H B a h=>Jq 12 [] [(0,vO 9 xs.length),(1,.t (.c (.fn (.func 166) [] [.ptr 10 0]))),(4,vI 0)] [(9,.row 32 4 (xs.map d4)),(10,.box (zR_ r))] h fun a w h=>qW (Je 12 [] [] [(7,vN xs.length),(8,vI 0)] h fun a w h=>qZ ?_)
 refine zbw (ι:=(Nat)) (fun j=>j<=xs.length/\zdq (fun p=>zdm p r == 0) xs 0=zdq (fun p=>zdm p r == 0) (xs.drop j) j)
   [4] (fun j=>[(8,vN j)])
   [] (fun j=>[])
   (fun j=>xs.length - j) 0 ?_ h ?_
 ·exact ⟨bF _,rfl⟩
 clear h;rintro j a w hI h;obtain ⟨hI1,hI2⟩:=hI;refine Je 12 [] [] [(9,vb (decide ((j:Int)<(xs.length:Int))))] h fun a w h=>qW (zad ((j:Int)<(xs.length:Int)) h (fun hc1 hc1'=>?_) (fun hc4 hc4'=>?_))
 ·refine qU (za1 (qW (qZ (Je 12 [] [9] [(5,vN j)] h fun a w h=>?_))));obtain ⟨x1,hx1⟩:=gl xs j;refine Je 12 [(3,.g (xO 14 12 9 xs.length j kc_3 (dO 13 _))),(4,.g (Op.loadR_agg (d:=15) (t:=14) (n:=9) (i:=j) (fo:=0) (rty:=32) (es:=4) (xs:=[.sl 3 (x1.t.parts.map za4.d),.raw (.bool x1.t.k.neg),nsl x1.t.k.abs,.raw (.bool x1.eq)]) la_1 rfl (za7 hx1 (f:=d4)) rfl rfl)),(5,.g (Op.callV (d:=16) (t:=11) (cap:=[.ptr 10 0]) (args:=[(vR x1)]) (rs:=[(15,(vR x1))]) (tys:=#[32]) (Lindex1b x1 r (hf x1 (lM hx1)) hr) lf6_2 (OVs.cons (dO 15 _) (OVs.nil))))] [] [(16,vb (zdm x1 r == 0))] h fun a w h=>cS (zdm x1 r == 0) h (fun hc2=>?_) (fun hc3=>?_)
  ·refine Je 12 [] [5,16] [(4,vN j)] h fun a w h=>qV (za8 (za5 (za5 (za8 (za5 (rT (.c (cI (j:Int))) h rfl ?_))))));have hz:zdq (fun p=>zdm p r == 0) xs 0=(j:Int):=by rw [hI2,zg4 hx1,if_pos hc2]
   rw [hz];try rfl
  refine qU (za6 (za1 (Jf 12 [(0,.j1 j)] [5,16] [(8,vI ((j:Int)+1))] h fun a w h=>za1 (zaa (x:=j) (y:=j+1) h ?_ ?_))))
  ·exact ⟨by have:=zab hx1;omega,by rw [hI2,zg4 hx1,if_neg (by rw [hc3];exact Bool.noConfusion)]⟩
  show xs.length - (j+1)<xs.length - j;have:=zab hx1;omega
 refine exA (Jp 12 [] [(4,vI (-1))] h fun a w h=>qV (rT (.c (cI (-1))) h rfl ?_));have hz:zdq (fun p=>zdm p r == 0) xs 0=-1:=by rw [hI2,bX (by omega)];rfl
 rw [hz];try rfl
theorem LindexO (xs:List za9) (r:za9) (hf:∀ x ∈ xs,TOk 200000000 3000 x.t) (hr:TOk 200000000 3000 r.t) (hl:xs.length<=1000000000000):Fn dM 117 [(9,.row 32 4 (xs.map d4))] [vO 9 xs.length,(vR r)] (vI (zdq (fun p=>zdm p r == 0) xs 0)) [(9,.row 32 4 (xs.map d4))]:=by
 refine fB Tryz.func117 rfl 8 fun w H B a h=>Jq 10 [] [(0,vO 9 xs.length),(3,vp 10 0),(4,vI 0)] [(9,.row 32 4 (xs.map d4)),(10,.box (zR_ r))] h fun a w h=>Jg 11 [(1,.g (Op.makeFs (d:=6) (fn:=.func 166) [(3,10,0)])),(2,.call (LIdxO xs r hf hr hl))] [0,3] [(4,vI (zdq (fun p=>zdm p r == 0) xs 0))] [10] [] h fun a w h=>qV (rT (.c (cI (zdq (fun p=>zdm p r == 0) xs 0))) h rfl ?_)
 rfl
def za0.okA (n L:Nat) (f:za0):Prop:=f.fold fun k r _ ps=>(k=2->TOk n L r.t)/\∀ p ∈ ps,p
theorem za0.okA_eq (n L:Nat) (f:za0):f.okA n L ↔ (f.kind=2->TOk n L f.r.t)/\∀ g ∈ f.kids,g.okA n L:=by
 have:=dU (fun k r _ (ps:List Prop)=>(k=2->TOk n L r.t)/\∀ p ∈ ps,p) f
 unfold za0.okA
 rw [this]
 refine and_congr_right fun _=>⟨fun h g hg=>h _ (b5.2 ⟨g,hg,rfl⟩),fun h p hp=>?_⟩
 obtain ⟨g,hg,rfl⟩:=b5.1 hp
 exact h g hg
theorem za0.okA_mono {L n' L':Nat} (hn:n<=n') (hL:L<=L') (f:za0):f.okA n L->f.okA n' L' :=
 dW (P:=fun f=>f.okA n L->f.okA n' L') (fun k r ks ih hf=>by
  rw [za0.okA_eq] at hf ⊢
  exact ⟨fun e=>(hf.1 e).mono hn hL,fun g hg=>ih g hg (hf.2 g hg)⟩) f
theorem okA_tru (n L:Nat) (b:Bool):(zcs b).okA n L:=by
 rw [za0.okA_eq];cases b <;> exact ⟨fun e=>absurd e (by decide),fun g hg=>by cases hg⟩
theorem okA_atom {L:Nat} {r:za9} (h:TOk n L r.t):(za0.mk 2 r []).okA n L:=by
 rw [za0.okA_eq];exact ⟨fun _=>h,fun g hg=>by cases hg⟩
theorem zgh {L:Nat} {k:Int} (hk:k=4\/k=5):∀ (fs out:List za0),(∀ g ∈ out,g.okA n L)->(∀ g ∈ fs,g.okA n L)->(zbd k fs out).okA n L
 | [],out,h,_=>by
  unfold zbd
  match out with
  | []=>exact okA_tru _ _ _
  | [g]=>exact h g (bS ..)
  | g :: q :: l=>rw [za0.okA_eq];exact ⟨fun e=>absurd e (by show k≠2;omega),h⟩
 | f :: fs,out,h,h2=>by
  rw [zbd]
  have hf:=h2 f (bS ..)
  have hfs:∀ g ∈ fs,g.okA n L:=fun g hg=>h2 g (b9 _ hg)
  split
  ·exact hf
  ·split
   ·exact zgh hk fs out h hfs
   ·split
    ·exact zgh hk fs _ (fun g hg=>(cC.1 hg).elim (h g) fun hg=>((za0.okA_eq _ _ _).1 hf).2 g hg) hfs
    ·exact zgh hk fs _ (fun g hg=>(cC.1 hg).elim (h g) fun hg=>by rw [bP.1 hg];exact hf) hfs
theorem tight_okA {L:Nat} {r:za9} (h:TOk n L r.t) (hn:n<=1000000000):(zb0 r).okA n (L+4):=by
 unfold zb0
 split
 ·exact okA_atom (tight_tok h hn)
 ·exact okA_tru _ _ _
def atR (ps:List za9) (r:za9):Int:=zdq (fun p=>zdm p r == 0) ps 0
def gathK (k:Int) (r:za9) (gs:List (List za9->List za9)) (ps:List za9):List za9:=if k=2/\atR ps r<0 then ps++[cpR r] else gs.foldl (fun a g=>g a) ps
def za0.gath (f:za0):List za9->List za9:=f.fold fun k r _ gs ps=>gathK k r gs ps
theorem za0.gath_eq (f:za0) (ps:List za9):f.gath ps=if f.kind=2/\atR ps f.r<0 then ps++[cpR f.r] else f.kids.foldl (fun a g=>g.gath a) ps:=by
 have:=congrFun (dU (fun k r _ (gs:List (List za9->List za9)) ps=>gathK k r gs ps) f) ps
 refine this.trans ?_
 unfold gathK
 rw [List.foldl_map];rfl
theorem gath_len (f:za0):∀ ps,(f.gath ps).length<=ps.length+f.nodes :=
 dW (P:=fun f=>∀ ps,(f.gath ps).length<=ps.length+f.nodes) (fun k r ks ih ps=>by
  rw [za0.gath_eq,za0.nodes_eq]
  split
  ·rw [b7];show ps.length+1<=ps.length+(1+_);omega
  ·have:∀ (xs:List za0),(∀ g ∈ xs,g ∈ ks)->∀ qs:List za9,(xs.foldl (fun a g=>g.gath a) qs).length<=qs.length+(xs.map dX).sum:=fun xs=>by
    induction xs with
    | nil=>intro _ qs;exact bI _
    | cons x xs ihx =>
     intro hx qs
     rw [cL,bL,cD]
     have h1:=ihx (fun g hg=>hx g (b9 _ hg)) (x.gath qs)
     have h2:=ih x (hx x (bS ..)) qs
     omega
   have:=this ks (fun g hg=>hg) ps
   show (ks.foldl _ ps).length<=ps.length+(1+(ks.map dX).sum)
   omega) f
theorem zm6 (xs:List za0) (qs:List za9):(xs.foldl (fun a g=>g.gath a) qs).length<=qs.length+(xs.map dX).sum:=by
 induction xs generalizing qs with
 | nil=>exact bI _
 | cons x xs ih =>
  rw [cL,bL,cD]
  have h1:=ih (x.gath qs)
  have h2:=gath_len x qs
  omega
theorem gath_all {P:za9->Prop} (hP:∀ r,TOk 200000000 2900 r.t->P (cpR r)) (f:za0):f.okA 200000000 2900->∀ ps,(∀ r ∈ ps,P r)->∀ r ∈ f.gath ps,P r :=
 dW (P:=fun f=>f.okA 200000000 2900->∀ ps,(∀ r ∈ ps,P r)->∀ r ∈ f.gath ps,P r) (fun k r ks ih hf ps hps=>by
  obtain ⟨h1,h2⟩:=(za0.okA_eq _ _ _).1 hf
  rw [za0.gath_eq]
  split
  ·rename_i e
   intro q hq
   rcases cC.1 hq with hq | hq
   ·exact hps q hq
   ·rw [bP.1 hq];exact hP r (h1 e.1)
  ·have:∀ (xs:List za0),(∀ g ∈ xs,g ∈ ks)->∀ qs:List za9,(∀ r ∈ qs,P r)->∀ r ∈ xs.foldl (fun a g=>g.gath a) qs,P r:=fun xs=>by
    induction xs with
    | nil=>intro _ qs h;exact h
    | cons x xs ihx =>
     intro hx qs h
     rw [cL]
     exact ihx (fun g hg=>hx g (b9 _ hg)) _ (ih x (hx x (bS ..)) (h2 x (hx x (bS ..))) qs h)
   exact this ks (fun g hg=>hg) ps hps) f
theorem gath_tok (hf:f.okA 200000000 2900) (hps:∀ r ∈ ps,TOk 200000000 3000 r.t):∀ r ∈ f.gath ps,TOk 200000000 3000 r.t:=gath_all (P:=fun r=>TOk 200000000 3000 r.t) (fun r hr=>(hr.plain (by decide)).mono (by decide) (by decide)) f hf ps hps
theorem zm7 {g:za0} (h:ks[j]?=some g):(ks.take (j+1)).foldl (fun a g=>g.gath a) ps=g.gath ((ks.take j).foldl (fun a g=>g.gath a) ps):=by
 rw [cN,h,c7];rfl
theorem gath_new (h:f.kind=2) (hi:atR ps f.r<0):f.gath ps=ps++[cpR f.r]:=by rw [za0.gath_eq,if_pos ⟨h,hi⟩]
theorem zm4 (h:¬ (f.kind=2/\atR ps f.r<0)):f.gath ps=f.kids.foldl (fun a g=>g.gath a) ps:=by rw [za0.gath_eq,if_neg h]
theorem lh8_3:ElT dM 40 32 4 64:=ElT.mk' Tryz.underlying40 _ _ rfl rfl
theorem rel_okA (h:f.okA 200000000 2900) (e:(f.kind == 2)=true):TOk 200000000 3000 f.r.t:=(((za0.okA_eq _ _ _).1 h).1 (by simpa using e)).mono (by decide) (by decide)
theorem zki {g:za0} (h:f.okA 200000000 2900) (hg:g ∈ f.kids):g.okA 200000000 2900:=((za0.okA_eq _ _ _).1 h).2 g hg
theorem fold_ok (h:∀ g ∈ ks,g.okA 200000000 2900) (hps:∀ r ∈ ps,TOk 200000000 3000 r.t):∀ r ∈ ks.foldl (fun a g=>g.gath a) ps,TOk 200000000 3000 r.t:=by
 induction ks generalizing ps with
 | nil=>exact hps
 | cons x xs ih=>rw [cL];exact ih (fun g hg=>h g (b9 _ hg)) (gath_tok (h x (bS ..)) hps)
theorem zj7 (ks:List za0) (j:Nat) {x:za0} (h:ks[j]?=some x):((ks.take j).map dX).sum+x.nodes<=(ks.map dX).sum:=by
 have e:ks=ks.take j++ks.drop j:=(cX j ks).symm
 have h1:=zf0 h
 have h2:(ks.map dX).sum=((ks.take j).map dX).sum+((ks.drop j).map dX).sum:=by rw [<- zgm,cX]
 omega
theorem take_le (ks:List za0) (j:Nat):((ks.take j).map dX).sum<=(ks.map dX).sum:=by
 have h2:(ks.map dX).sum=((ks.take j).map dX).sum+((ks.drop j).map dX).sum:=by rw [<- zgm,cX]
 omega
theorem Lgather9 (ps:List za9) (f:za0) (ih:∀ g ∈ f.kids,∀ ps:List za9,(∀ r ∈ ps,TOk 200000000 3000 r.t)->ps.length+g.nodes<=1000000000000->Fn dM 80 [(13,.row 32 4 (ps.map d4))] [vO 13 ps.length,(vF g)] (vO 14 (za0.gath g ps).length) [(14,.row 32 4 ((za0.gath g ps).map d4))]) (hf:f.okA 200000000 2900) (hps:∀ r ∈ ps,TOk 200000000 3000 r.t) (hl:ps.length+f.nodes<=1000000000000):Fn dM 80 [(9,.row 32 4 (ps.map d4))] [vO 9 ps.length,(vF f)] (vO 14 (za0.gath f ps).length) [(14,.row 32 4 ((za0.gath f ps).map d4))]:=by
 have hnf:=za0.nodes_eq f;have lkn:=zhd f.kids;refine fB Tryz.func80 rfl 40 fun w H B a h=>Jq 20 [] [(0,vO 9 ps.length),(3,vp 20 0),(4,vW zam)] [(9,.row 32 4 (ps.map d4)),(20,.box (zF f))] h fun a w h=>qW ?_
 rcases bG (f.kind == 2) with hc1 | hc6
 ·refine Je 21 [(2,.cmp (op:=.eql) (m:=f.kind) (n:=2) (b:=true) .i64 hc1),(7,.call (LindexO ps f.r hps (rel_okA hf hc1) (by omega)))] [] [(16,vb (decide ((atR ps f.r)<0)))] h fun a w h=>zad ((atR ps f.r)<0) h (fun hc2 hc2'=>?_) (fun hc3 hc3'=>?_)
  ·refine Jg 21 [(4,.call (zen f.r.t (rel_okA hf hc1) (by decide) (by decide))),(9,.g (bD 26 ([(za9.mk (za2 f.r.t) f.r.eq)].map d4) [(25,vG ((zT (za2 f.r.t))++[cB f.r.eq]))] kc_5 (.cons (i:=0) (dO 25 _) (.nil)) (by kernel_rfl) (by simp [d4]))),(10,.g (aD 27 17 26 9 21 ps [(za9.mk (za2 f.r.t) f.r.eq)] d4 lh8_3 (by simp [d4])))] [16] [(4,vO 21 (ps++[(za9.mk (za2 f.r.t) f.r.eq)]).length)] [9] [(21,.row 32 4 ((ps++[(za9.mk (za2 f.r.t) f.r.eq)]).map d4))] h fun a w h=>qV (za5 ?_);replace h:=cvM [] [(4,vO 21 (za0.gath f ps).length)] [] [(21,.row 32 4 ((za0.gath f ps).map d4))] (by rw [<- show ((ps++[(za9.mk (za2 f.r.t) f.r.eq)]):List za9)=(za0.gath f ps) from (gath_new (by have:=hc1;simpa using this) (dT hc2)).symm]; try kernel_rfl) h;replace h:=zd7 21 14 h;refine rT (.c (.own 14 (za0.gath f ps).length)) h rfl ?_;rfl
  refine qU (za1 (qW (Jg 22 [(2,.len (za3 6 dQ f.kids))] [3,16] [(29,(vFs f.kids)),(30,vN f.kids.length),(31,vI 0)] [20] [] h fun a w h=>qZ ?_)));replace h:=zd7 9 13 h
  refine zbw (ι:=(Nat)) (fun j=>j<=f.kids.length)
    [] (fun j=>[(0,vO 13 ((f.kids.take j).foldl (fun a g=>g.gath a) ps).length),(31,vN j)])
    [] (fun j=>[(13,.row 32 4 (((f.kids.take j).foldl (fun a g=>g.gath a) ps).map d4))])
    (fun j=>f.kids.length - j) 0 ?_ h ?_
  ·exact bF _
  clear h;rintro j a w hI h;have lfj:=zm6 (f.kids.take j) ps;have ltj:=take_le f.kids j;refine Je 22 [] [] [(32,vb (decide ((j:Int)<(f.kids.length:Int))))] h fun a w h=>qW (zad ((j:Int)<(f.kids.length:Int)) h (fun hc4 hc4'=>?_) (fun hc5 hc5'=>?_))
  ·refine qU (za1 (qW (qZ ?_)));obtain ⟨x3,hx3⟩:=gl f.kids j;refine Jg 22 [(0,.g (xD 33 29 zie ((za7 hx3 (f:=dQ)).trans (yJ some (dR x3))) (dO 31 _)))] [32] [(6,vp 22 0)] [] [(22,.box (zF x3))] h fun a w h=>Jh 23 [(2,.call (ih x3 (lM hx3) ((f.kids.take j).foldl (fun a g=>g.gath a) ps) (fold_ok (fun q hq=>zki hf (cW hq)) hps) (by have:=zj7 f.kids j hx3;omega)))] [6] [(0,vO 14 (za0.gath x3 ((f.kids.take j).foldl (fun a g=>g.gath a) ps)).length)] [13,22] [(14,.row 32 4 ((za0.gath x3 ((f.kids.take j).foldl (fun a g=>g.gath a) ps)).map d4))] h fun a w h=>za6 (za1 (Jf 23 [(0,.j1 j)] [] [(31,vI ((j:Int)+1))] h fun a w h=>za1 ?_));replace h:=zd7 14 13 h;replace h:=cvM [] [(0,vO 13 ((f.kids.take (j+1)).foldl (fun a g=>g.gath a) ps).length)] [] [(13,.row 32 4 (((f.kids.take (j+1)).foldl (fun a g=>g.gath a) ps).map d4))] (by rw [<- show ((za0.gath x3 ((f.kids.take j).foldl (fun a g=>g.gath a) ps)):List za9)=((f.kids.take (j+1)).foldl (fun a g=>g.gath a) ps) from (zm7 hx3).symm]; try kernel_rfl) h;refine zaa (x:=j) (y:=j+1) h ?_ ?_
   ·have:=zab hx3;show j+1<=f.kids.length;omega
   show f.kids.length - (j+1)<f.kids.length - j;have:=zab hx3;omega
  refine exA (Jp 23 [] [(4,vO 13 ((f.kids.take j).foldl (fun a g=>g.gath a) ps).length)] h fun a w h=>qV ?_);replace h:=cv (fun z_:List za9=>F.of [(4,vO 13 z_.length)] [(13,.row 32 4 (z_.map d4))]) (show (((f.kids.take j).foldl (fun a g=>g.gath a) ps):List za9)=(za0.gath f ps) from (by rw [bW (by omega)];exact (zm4 (fun e=>dF hc3 e.2)).symm)) (h.conv (by kernel_rfl));replace h:=zd7 13 14 h;refine rT (.c (.own 14 (za0.gath f ps).length)) h rfl ?_;rfl
 refine Je 23 [(2,.cmp (op:=.eql) (m:=f.kind) (n:=2) (b:=false) .i64 hc6)] [] [(16,vb false)] h fun a w h=>zau h (qU (za1 (qW (Jg 23 [(2,.len (za3 6 dQ f.kids))] [3,16] [(29,(vFs f.kids)),(30,vN f.kids.length),(31,vI 0)] [20] [] h fun a w h=>qZ ?_))));replace h:=zd7 9 13 h
 refine zbw (ι:=(Nat)) (fun j=>j<=f.kids.length)
   [] (fun j=>[(0,vO 13 ((f.kids.take j).foldl (fun a g=>g.gath a) ps).length),(31,vN j)])
   [] (fun j=>[(13,.row 32 4 (((f.kids.take j).foldl (fun a g=>g.gath a) ps).map d4))])
   (fun j=>f.kids.length - j) 0 ?_ h ?_
 ·exact bF _
 clear h;rintro j a w hI h;have lfj:=zm6 (f.kids.take j) ps;have ltj:=take_le f.kids j;refine Je 23 [] [] [(32,vb (decide ((j:Int)<(f.kids.length:Int))))] h fun a w h=>qW (zad ((j:Int)<(f.kids.length:Int)) h (fun hc7 hc7'=>?_) (fun hc8 hc8'=>?_))
 ·refine qU (za1 (qW (qZ ?_)));obtain ⟨x5,hx5⟩:=gl f.kids j;refine Jg 23 [(0,.g (xD 33 29 zie ((za7 hx5 (f:=dQ)).trans (yJ some (dR x5))) (dO 31 _)))] [32] [(6,vp 23 0)] [] [(23,.box (zF x5))] h fun a w h=>Jh 24 [(2,.call (ih x5 (lM hx5) ((f.kids.take j).foldl (fun a g=>g.gath a) ps) (fold_ok (fun q hq=>zki hf (cW hq)) hps) (by have:=zj7 f.kids j hx5;omega)))] [6] [(0,vO 14 (za0.gath x5 ((f.kids.take j).foldl (fun a g=>g.gath a) ps)).length)] [13,23] [(14,.row 32 4 ((za0.gath x5 ((f.kids.take j).foldl (fun a g=>g.gath a) ps)).map d4))] h fun a w h=>za6 (za1 (Jf 24 [(0,.j1 j)] [] [(31,vI ((j:Int)+1))] h fun a w h=>za1 ?_));replace h:=zd7 14 13 h;replace h:=cvM [] [(0,vO 13 ((f.kids.take (j+1)).foldl (fun a g=>g.gath a) ps).length)] [] [(13,.row 32 4 (((f.kids.take (j+1)).foldl (fun a g=>g.gath a) ps).map d4))] (by rw [<- show ((za0.gath x5 ((f.kids.take j).foldl (fun a g=>g.gath a) ps)):List za9)=((f.kids.take (j+1)).foldl (fun a g=>g.gath a) ps) from (zm7 hx5).symm]; try kernel_rfl) h;refine zaa (x:=j) (y:=j+1) h ?_ ?_
  ·have:=zab hx5;show j+1<=f.kids.length;omega
  show f.kids.length - (j+1)<f.kids.length - j;have:=zab hx5;omega
 refine exA (Jp 24 [] [(4,vO 13 ((f.kids.take j).foldl (fun a g=>g.gath a) ps).length)] h fun a w h=>qV ?_);replace h:=cv (fun z_:List za9=>F.of [(4,vO 13 z_.length)] [(13,.row 32 4 (z_.map d4))]) (show (((f.kids.take j).foldl (fun a g=>g.gath a) ps):List za9)=(za0.gath f ps) from (by rw [bW (by omega)];exact (zm4 (fun e=>by have:=hc6;simp at this;omega)).symm)) (h.conv (by kernel_rfl));replace h:=zd7 13 14 h;refine rT (.c (.own 14 (za0.gath f ps).length)) h rfl ?_;rfl
theorem Lgather13 (ps:List za9) (f:za0) (ih:∀ g ∈ f.kids,∀ ps:List za9,(∀ r ∈ ps,TOk 200000000 3000 r.t)->ps.length+g.nodes<=1000000000000->Fn dM 80 [(9,.row 32 4 (ps.map d4))] [vO 9 ps.length,(vF g)] (vO 14 (za0.gath g ps).length) [(14,.row 32 4 ((za0.gath g ps).map d4))]) (hf:f.okA 200000000 2900) (hps:∀ r ∈ ps,TOk 200000000 3000 r.t) (hl:ps.length+f.nodes<=1000000000000):Fn dM 80 [(13,.row 32 4 (ps.map d4))] [vO 13 ps.length,(vF f)] (vO 14 (za0.gath f ps).length) [(14,.row 32 4 ((za0.gath f ps).map d4))]:=by
 have hnf:=za0.nodes_eq f;have lkn:=zhd f.kids;refine fB Tryz.func80 rfl 40 fun w H B a h=>?_
 replace h:=zd7 13 9 h;refine Jg 20 [] [1] [(3,vp 20 0),(4,vW zam)] [] [(20,.box (zF f))] h fun a w h=>qW ?_
 rcases bG (f.kind == 2) with hc1 | hc6
 ·refine Je 21 [(2,.cmp (op:=.eql) (m:=f.kind) (n:=2) (b:=true) .i64 hc1),(7,.call (LindexO ps f.r hps (rel_okA hf hc1) (by omega)))] [] [(16,vb (decide ((atR ps f.r)<0)))] h fun a w h=>zad ((atR ps f.r)<0) h (fun hc2 hc2'=>?_) (fun hc3 hc3'=>?_)
  ·refine Jg 21 [(4,.call (zen f.r.t (rel_okA hf hc1) (by decide) (by decide))),(9,.g (bD 26 ([(za9.mk (za2 f.r.t) f.r.eq)].map d4) [(25,vG ((zT (za2 f.r.t))++[cB f.r.eq]))] kc_5 (.cons (i:=0) (dO 25 _) (.nil)) (by kernel_rfl) (by simp [d4]))),(10,.g (aD 27 17 26 9 21 ps [(za9.mk (za2 f.r.t) f.r.eq)] d4 lh8_3 (by simp [d4])))] [16] [(4,vO 21 (ps++[(za9.mk (za2 f.r.t) f.r.eq)]).length)] [9] [(21,.row 32 4 ((ps++[(za9.mk (za2 f.r.t) f.r.eq)]).map d4))] h fun a w h=>qV (za5 ?_);replace h:=cvM [] [(4,vO 21 (za0.gath f ps).length)] [] [(21,.row 32 4 ((za0.gath f ps).map d4))] (by rw [<- show ((ps++[(za9.mk (za2 f.r.t) f.r.eq)]):List za9)=(za0.gath f ps) from (gath_new (by have:=hc1;simpa using this) (dT hc2)).symm]; try kernel_rfl) h;replace h:=zd7 21 14 h;refine rT (.c (.own 14 (za0.gath f ps).length)) h rfl ?_;rfl
  refine qU (za1 (qW (Jg 22 [(2,.len (za3 6 dQ f.kids))] [3,16] [(29,(vFs f.kids)),(30,vN f.kids.length),(31,vI 0)] [20] [] h fun a w h=>qZ ?_)))
  refine zbw (ι:=(Nat)) (fun j=>j<=f.kids.length)
    [] (fun j=>[(0,vO 9 ((f.kids.take j).foldl (fun a g=>g.gath a) ps).length),(31,vN j)])
    [] (fun j=>[(9,.row 32 4 (((f.kids.take j).foldl (fun a g=>g.gath a) ps).map d4))])
    (fun j=>f.kids.length - j) 0 ?_ h ?_
  ·exact bF _
  clear h;rintro j a w hI h;have lfj:=zm6 (f.kids.take j) ps;have ltj:=take_le f.kids j;refine Je 22 [] [] [(32,vb (decide ((j:Int)<(f.kids.length:Int))))] h fun a w h=>qW (zad ((j:Int)<(f.kids.length:Int)) h (fun hc4 hc4'=>?_) (fun hc5 hc5'=>?_))
  ·refine qU (za1 (qW (qZ ?_)));obtain ⟨x3,hx3⟩:=gl f.kids j;refine Jg 22 [(0,.g (xD 33 29 zie ((za7 hx3 (f:=dQ)).trans (yJ some (dR x3))) (dO 31 _)))] [32] [(6,vp 22 0)] [] [(22,.box (zF x3))] h fun a w h=>Jh 23 [(2,.call (ih x3 (lM hx3) ((f.kids.take j).foldl (fun a g=>g.gath a) ps) (fold_ok (fun q hq=>zki hf (cW hq)) hps) (by have:=zj7 f.kids j hx3;omega)))] [6] [(0,vO 14 (za0.gath x3 ((f.kids.take j).foldl (fun a g=>g.gath a) ps)).length)] [9,22] [(14,.row 32 4 ((za0.gath x3 ((f.kids.take j).foldl (fun a g=>g.gath a) ps)).map d4))] h fun a w h=>za6 (za1 (Jf 23 [(0,.j1 j)] [] [(31,vI ((j:Int)+1))] h fun a w h=>za1 ?_));replace h:=zd7 14 9 h;replace h:=cvM [] [(0,vO 9 ((f.kids.take (j+1)).foldl (fun a g=>g.gath a) ps).length)] [] [(9,.row 32 4 (((f.kids.take (j+1)).foldl (fun a g=>g.gath a) ps).map d4))] (by rw [<- show ((za0.gath x3 ((f.kids.take j).foldl (fun a g=>g.gath a) ps)):List za9)=((f.kids.take (j+1)).foldl (fun a g=>g.gath a) ps) from (zm7 hx3).symm]; try kernel_rfl) h;refine zaa (x:=j) (y:=j+1) h ?_ ?_
   ·have:=zab hx3;show j+1<=f.kids.length;omega
   show f.kids.length - (j+1)<f.kids.length - j;have:=zab hx3;omega
  refine exA (Jp 23 [] [(4,vO 9 ((f.kids.take j).foldl (fun a g=>g.gath a) ps).length)] h fun a w h=>qV ?_);replace h:=cv (fun z_:List za9=>F.of [(4,vO 9 z_.length)] [(9,.row 32 4 (z_.map d4))]) (show (((f.kids.take j).foldl (fun a g=>g.gath a) ps):List za9)=(za0.gath f ps) from (by rw [bW (by omega)];exact (zm4 (fun e=>dF hc3 e.2)).symm)) (h.conv (by kernel_rfl));replace h:=zd7 9 14 h;refine rT (.c (.own 14 (za0.gath f ps).length)) h rfl ?_;rfl
 refine Je 23 [(2,.cmp (op:=.eql) (m:=f.kind) (n:=2) (b:=false) .i64 hc6)] [] [(16,vb false)] h fun a w h=>zau h (qU (za1 (qW (Jg 23 [(2,.len (za3 6 dQ f.kids))] [3,16] [(29,(vFs f.kids)),(30,vN f.kids.length),(31,vI 0)] [20] [] h fun a w h=>qZ ?_))))
 refine zbw (ι:=(Nat)) (fun j=>j<=f.kids.length)
   [] (fun j=>[(0,vO 9 ((f.kids.take j).foldl (fun a g=>g.gath a) ps).length),(31,vN j)])
   [] (fun j=>[(9,.row 32 4 (((f.kids.take j).foldl (fun a g=>g.gath a) ps).map d4))])
   (fun j=>f.kids.length - j) 0 ?_ h ?_
 ·exact bF _
 clear h;rintro j a w hI h;have lfj:=zm6 (f.kids.take j) ps;have ltj:=take_le f.kids j;refine Je 23 [] [] [(32,vb (decide ((j:Int)<(f.kids.length:Int))))] h fun a w h=>qW (zad ((j:Int)<(f.kids.length:Int)) h (fun hc7 hc7'=>?_) (fun hc8 hc8'=>?_))
 ·refine qU (za1 (qW (qZ ?_)));obtain ⟨x5,hx5⟩:=gl f.kids j;refine Jg 23 [(0,.g (xD 33 29 zie ((za7 hx5 (f:=dQ)).trans (yJ some (dR x5))) (dO 31 _)))] [32] [(6,vp 23 0)] [] [(23,.box (zF x5))] h fun a w h=>Jh 24 [(2,.call (ih x5 (lM hx5) ((f.kids.take j).foldl (fun a g=>g.gath a) ps) (fold_ok (fun q hq=>zki hf (cW hq)) hps) (by have:=zj7 f.kids j hx5;omega)))] [6] [(0,vO 14 (za0.gath x5 ((f.kids.take j).foldl (fun a g=>g.gath a) ps)).length)] [9,23] [(14,.row 32 4 ((za0.gath x5 ((f.kids.take j).foldl (fun a g=>g.gath a) ps)).map d4))] h fun a w h=>za6 (za1 (Jf 24 [(0,.j1 j)] [] [(31,vI ((j:Int)+1))] h fun a w h=>za1 ?_));replace h:=zd7 14 9 h;replace h:=cvM [] [(0,vO 9 ((f.kids.take (j+1)).foldl (fun a g=>g.gath a) ps).length)] [] [(9,.row 32 4 (((f.kids.take (j+1)).foldl (fun a g=>g.gath a) ps).map d4))] (by rw [<- show ((za0.gath x5 ((f.kids.take j).foldl (fun a g=>g.gath a) ps)):List za9)=((f.kids.take (j+1)).foldl (fun a g=>g.gath a) ps) from (zm7 hx5).symm]; try kernel_rfl) h;refine zaa (x:=j) (y:=j+1) h ?_ ?_
  ·have:=zab hx5;show j+1<=f.kids.length;omega
  show f.kids.length - (j+1)<f.kids.length - j;have:=zab hx5;omega
 refine exA (Jp 24 [] [(4,vO 9 ((f.kids.take j).foldl (fun a g=>g.gath a) ps).length)] h fun a w h=>qV ?_);replace h:=cv (fun z_:List za9=>F.of [(4,vO 9 z_.length)] [(9,.row 32 4 (z_.map d4))]) (show (((f.kids.take j).foldl (fun a g=>g.gath a) ps):List za9)=(za0.gath f ps) from (by rw [bW (by omega)];exact (zm4 (fun e=>by have:=hc6;simp at this;omega)).symm)) (h.conv (by kernel_rfl));replace h:=zd7 9 14 h;refine rT (.c (.own 14 (za0.gath f ps).length)) h rfl ?_;rfl
theorem Lgather (f:za0):f.okA 200000000 2900->(∀ ps:List za9,(∀ r ∈ ps,TOk 200000000 3000 r.t)->ps.length+f.nodes<=1000000000000->Fn dM 80 [(9,.row 32 4 (ps.map d4))] [vO 9 ps.length,(vF f)] (vO 14 (za0.gath f ps).length) [(14,.row 32 4 ((za0.gath f ps).map d4))])/\(∀ ps:List za9,(∀ r ∈ ps,TOk 200000000 3000 r.t)->ps.length+f.nodes<=1000000000000->Fn dM 80 [(13,.row 32 4 (ps.map d4))] [vO 13 ps.length,(vF f)] (vO 14 (za0.gath f ps).length) [(14,.row 32 4 ((za0.gath f ps).map d4))]) :=
 dW (P:=fun f=>f.okA 200000000 2900->(∀ ps:List za9,(∀ r ∈ ps,TOk 200000000 3000 r.t)->ps.length+f.nodes<=1000000000000->Fn dM 80 [(9,.row 32 4 (ps.map d4))] [vO 9 ps.length,(vF f)] (vO 14 (za0.gath f ps).length) [(14,.row 32 4 ((za0.gath f ps).map d4))])/\(∀ ps:List za9,(∀ r ∈ ps,TOk 200000000 3000 r.t)->ps.length+f.nodes<=1000000000000->Fn dM 80 [(13,.row 32 4 (ps.map d4))] [vO 13 ps.length,(vF f)] (vO 14 (za0.gath f ps).length) [(14,.row 32 4 ((za0.gath f ps).map d4))])) (fun k r ks ih hf=>⟨fun ps hps hl=>Lgather9 ps ⟨k,r,ks⟩ (fun g hg=>(ih g hg (zki hf hg)).2) hf hps hl,fun ps hps hl=>Lgather13 ps ⟨k,r,ks⟩ (fun g hg=>(ih g hg (zki hf hg)).1) hf hps hl⟩) f
def gathT (ps:List za9) (f:za0):List za9:=f.gath (ps.map cpR)
theorem cps_tok (h:∀ r ∈ ps,TOk 200000000 2900 r.t):∀ r ∈ ps.map cpR,TOk 200000000 3000 r.t:=fun r hr=>by
 obtain ⟨q,hq,rfl⟩:=b5.1 hr
 exact ((h q hq).plain (by decide)).mono (by decide) (by decide)
theorem LGather (ps:List za9) (f:za0) (hps:∀ r ∈ ps,TOk 200000000 2900 r.t) (hf:f.okA 200000000 2900) (hl:ps.length+f.nodes<=1000000000000):Fn dM 48 [] [(vRs ps),(vF f)] (vRs (gathT ps f)) []:=by
 refine fB Tryz.func48 rfl 27 fun w H B a h=>Jq 20 [] [(0,(vRs ps)),(3,vp 20 0),(4,vW zam)] [(20,.box (zF f))] h fun a w h=>Je 21 [] [] [(5,vW zam)] h fun a w h=>qW (Je 21 [(1,.len (za3 4 d4 ps))] [0] [(8,(vRs ps)),(9,vN ps.length),(10,vI 0)] h fun a w h=>qZ ?_)
 replace h:=zfr 5 0 21 4 32 (vW zam) h
 refine zbw (ι:=(Nat)) (fun j=>j<=ps.length)
   [] (fun j=>[(5,vO 21 ((ps.take j).map cpR).length),(10,vN j)])
   [] (fun j=>[(21,.row 32 4 (((ps.take j).map cpR).map d4))])
   (fun j=>ps.length - j) 0 ?_ h ?_
 ·exact bF _
 clear h;rintro j a w hI h;have lmj:((ps.take j).map cpR).length<=j:=by rw [bK,cU];omega
 refine Je 22 [] [] [(11,vb (decide ((j:Int)<(ps.length:Int))))] h fun a w h=>qW (zad ((j:Int)<(ps.length:Int)) h (fun hc1 hc1'=>?_) (fun hc2 hc2'=>?_))
 ·refine qU (za1 (qW (qZ ?_)));obtain ⟨x1,hx1⟩:=gl ps j;refine Jg 22 [(0,.g (xD 12 8 kc_3 (za7 hx1 (f:=d4)) (dO 10 _)))] [11] [(7,vp 22 0)] [] [(22,.box (zR_ x1))] h fun a w h=>Jh 23 [(3,.call (zen x1.t (hps x1 (lM hx1)) (by decide) (by decide))),(7,.g (bD 21 ([(za9.mk (za2 x1.t) x1.eq)].map d4) [(20,vG ((zT (za2 x1.t))++[cB x1.eq]))] kc_5 (.cons (i:=0) (dO 20 _) (.nil)) (by kernel_rfl) (by simp [d4]))),(8,.g (aD 22 14 21 21 23 ((ps.take j).map cpR) [(za9.mk (za2 x1.t) x1.eq)] d4 lh8_3 (by simp [d4])))] [7] [(5,vO 23 (((ps.take j).map cpR)++[(za9.mk (za2 x1.t) x1.eq)]).length)] [21,22] [(23,.row 32 4 ((((ps.take j).map cpR)++[(za9.mk (za2 x1.t) x1.eq)]).map d4))] h fun a w h=>za6 (za1 (Jf 24 [(0,.j1 j)] [] [(10,vI ((j:Int)+1))] h fun a w h=>za1 ?_));rw [show ((((ps.take j).map cpR)++[(za9.mk (za2 x1.t) x1.eq)]):List za9)=((ps.take (j+1)).map cpR) from (zej hx1)] at h;replace h:=zd7 23 21 h;refine zaa (x:=j) (y:=j+1) h ?_ ?_
  ·have:=zab hx1;show j+1<=ps.length;omega
  show ps.length - (j+1)<ps.length - j;have:=zab hx1;omega
 refine exA ?_;rw [show (((ps.take j).map cpR):List za9)=(ps.map cpR) from (by rw [bW (by omega)])] at h;replace h:=zd7 21 9 h;refine Jq 24 [(2,.call ((Lgather f hf).1 (ps.map cpR) (cps_tok hps) (by rw [bK];exact hl)))] [(4,vO 14 (gathT ps f).length)] [(14,.row 32 4 ((gathT ps f).map d4))] h fun a w h=>qV ?_;replace h:=zj2 14 4 32 ((gathT ps f).map d4) h [(gathT ps f).length] ⟨by first | exact (bK _).symm | (simp;done) | (simp;omega),trivial⟩;refine rT (.c (cRs (gathT ps f))) h rfl ?_;rfl
def zaq (n:Int):za9:=⟨⟨[⟨0,ZI.of 1⟩],ZI.of (0 - n)⟩,false⟩
def atE (r:za9):za0:=⟨2,r,[]⟩
theorem kk_4:ElT dM 52 28 2 32:=ElT.mk' Tryz.underlying52 _ _ rfl rfl
theorem kk_5:Sz dM 54 2 true:=Sz.mk' (by kernel_rfl) Tryz.underlying54 _ rfl
def clZ (z:ZI):ZI:=ZI.of z.val
def cloneS (x:StD):StD:=⟨x.locs,x.vals.map clZ⟩
def st0:StD:=⟨[],[]⟩
def canAt (s:zan) (x:StD) (c:zas) (v:Nat):Bool:=if zbl c v=true then !((zbm s v).is_ && decide (zbo (zbm s v).lo.val (zbm s v).hi.val>0)) else zbq (zbm s v) (zid x c v)
def canC (s:zan) (x:StD) (c:zas):Bool:=zap s x c && zg8 s.vars.length (canAt s x c)
def can (s:zan) (x:StD) (i:Int):Bool:=match zeh s i with | none=>false | some c=>canC s x c
def ziq (s:zan) (x:StD):Bool:=zg8 s.acts.length (fun i=>!can s x (i:Int)) && zd2 s x
def zaw (c:zas):Nat->Nat
  | 0=>0
  | v+1=>zaw c v+if zbl c v=true then 1 else 0
def zfm (x:StD) (c:zas) (picks:List ZI) (v:Nat):ZI:=if zbl c v=true then (match picks[zaw c v]? with | some p=>ZI.of p.val | none=>ze3) else zid x c v
def zf5 (s:zan) (x:StD) (c:zas) (picks:List ZI):StD:=⟨x.locs.set c.proc.toNat c.to_,(bC s.vars.length).map (zfm x c picks)⟩
def goC (s:zan) (x:StD) (c:zas) (picks:List ZI):StD × Bool:=if zap s x c=true/\zd2 s (zf5 s x c picks)=true then (zf5 s x c picks,true) else (st0,false)
def goS (s:zan) (x:StD) (i:Int) (picks:List ZI):StD × Bool:=if i=-1/\ziq s x=true then (cloneS x,true) else match zeh s i with | none=>(st0,false) | some c=>goC s x c picks
theorem zdr {c:zas} (h:zap s x c=true):zd2 s x=true:=by unfold zap at h;simp only [bN] at h;exact h.1.1
theorem zfw {c:zas} (h:zap s x c=true):0<=c.proc/\c.proc<(s.procs.length:Int):=by unfold zap at h;simp only [bN,decide_eq_true_eq] at h;exact h.1.2.1.1
theorem range_set {f:Nat->α} {cl:List α} {y:α} (hj:j<cl.length) (hy:y=f j):((bC j).map f++cl.drop j).set j y=(bC (j+1)).map f++cl.drop (j+1):=by
 subst hy
 have hl:((bC j).map f).length=j:=by simp
 rw [List.set_append_right _ _ (by omega),hl,Nat.sub_self,cK hj,List.set_cons_zero,c8,cY,dA];rfl
theorem range_end {f:Nat->α} {cl:List α} (hn:cl.length=n):(bC n).map f++cl.drop n=(bC n).map f:=by rw [bX (by omega),cJ]
theorem range_len {f:Nat->α} {cl:List α} (hj:j<=cl.length):((bC j).map f++cl.drop j).length=cl.length:=by rw [b7,bK,List.length_range,List.length_drop];omega
theorem map_snoc {f:α->β} {xs:List α} {x:α} (h:xs[j]?=some x):(xs.take j).map f++[f x]=(xs.take (j+1)).map f:=by rw [cN,h,cY];rfl
theorem zlt {c:zas} (h:zbl c v=false):zfm x c picks v=zid x c v:=by unfold zfm;rw [if_neg (by rw [h];exact Bool.noConfusion)]
theorem cnt_free {c:zas} (h:zbl c v=true):zaw c (v+1)=zaw c v+1:=by rw [zaw,if_pos h]
theorem cnt_kept {c:zas} (h:zbl c v=false):zaw c (v+1)=zaw c v:=by rw [zaw,if_neg (by rw [h];exact Bool.noConfusion),Nat.add_zero]
theorem outS_ok {L:Nat} {c:zas} (hs:zbh L s) (hx:zhp M x) (hc:zgy L c) (hp:∀ z ∈ picks,ZOk M z):zhp (L+M+2) (zf5 s x c picks):=by
 refine ⟨by simp only [zf5,dB];exact hx.locs,by simp only [zf5,bK,List.length_range];exact bJ hs.vars (by decide),fun z hz=>?_⟩
 simp only [zf5,b5] at hz
 obtain ⟨v,_,rfl⟩:=hz
 unfold zfm
 split
 ·split
  ·rename_i p hp2
   have g:=hp p (cH hp2)
   exact ⟨ZI.lb_of _,bJ (zdd g.1) (by have:=g.2;omega)⟩
  ·exact ZOk.zero
 ·exact new_ok hc hx v
def zeo (y:StD) (c:zas):Nat->List ZI
  | 0=>[]
  | v+1=>if zbl c v=true then zeo y c v++[(y.vals[v]?).getD ze3] else zeo y c v
def leadsC (s:zan) (x:StD) (c:zas) (y:StD):Bool:=(zap s x c && zd2 s y) && ((goC s x c (zeo y c s.vars.length)).2 && zgq y (goC s x c (zeo y c s.vars.length)).1)
def ze4 (s:zan) (x:StD) (i:Int) (y:StD):Bool:=if i=-1 then ziq s x && zgq x y else match zeh s i with | none=>false | some c=>leadsC s x c y
theorem st0_ok:zhp M st0:=⟨bF _,bF _,fun z hz=>(by cases hz)⟩
theorem kn_0:SlT dM 45 54 2:=SlT.mk' Tryz.underlying45 (by kernel_rfl)
structure RunOk (M:Nat) (r:zib):Prop where
  len:r.stem.length+r.cycle.length<=20
  stem:∀ x ∈ r.stem,zhp M x
  cycle:∀ x ∈ r.cycle,zhp M x
theorem RunOk.all {r:zib} (h:RunOk M r):∀ x ∈ r.stem++r.cycle,zhp M x:=fun x hx=>(cC.1 hx).elim (h.stem x) (h.cycle x)
def nxt (r:zib) (i:Nat):StD:=if i+1<(r.stem++r.cycle).length then ((r.stem++r.cycle)[i+1]?).getD st0 else (r.cycle[0]?).getD st0
def zj9 (s:zan) (r:zib) (i:Nat):Bool:=ze4 s (((r.stem++r.cycle)[i]?).getD st0) ((r.acts[i]?).getD 0) (nxt r i)
def right (s:zan) (r:zib):Bool:=decide (r.cycle.length≠0/\r.acts.length=(r.stem++r.cycle).length) && (first s (((r.stem++r.cycle)[0]?).getD st0) && zg8 (r.stem++r.cycle).length (zj9 s r))
theorem SRmove (c:zas) (v:Nat) (hl:c.moves.length<=20):Fn dM 46 [] [vG (acC c),vN v] (vI (zdq (fun m=>m.v == (v:Int)) c.moves 0)) []:=by
 refine fB Tryz.func46 rfl 22 fun w H B a h=>Jq 0 [] [(1,vN v),(2,vp 0 0),(4,vI 0)] [(0,.box (acC c))] h fun a w h=>qW (Je 1 [] [] [(5,vI 0)] h fun a w h=>qZ ?_)
 refine zbw (ι:=(Nat)) (fun j=>j<=c.moves.length/\zdq (fun m=>m.v == (v:Int)) c.moves 0=zdq (fun m=>m.v == (v:Int)) (c.moves.drop j) j)
   [4] (fun j=>[(5,vN j)])
   [] (fun j=>[])
   (fun j=>c.moves.length - j) 0 ?_ h ?_
 ·exact ⟨bF _,rfl⟩
 clear h;rintro j a w hI h;obtain ⟨hI1,hI2⟩:=hI;refine qW (Je 1 [(3,.len (za3 5 d5 c.moves))] [] [(10,vb (decide ((j:Int)<(c.moves.length:Int))))] h fun a w h=>zad ((j:Int)<(c.moves.length:Int)) h (fun hc1 hc1'=>?_) (fun hc4 hc4'=>?_))
 ·refine qU (za1 (qW (qZ ?_)));obtain ⟨x1,hx1⟩:=gl c.moves j;refine Je 1 [(3,.g (xD 16 14 ki_2 (za7 hx1 (f:=d5)) (dO 15 _)))] [10] [(20,vb (x1.v == (v:Int)))] h fun a w h=>cS (x1.v == (v:Int)) h (fun hc2=>?_) (fun hc3=>?_)
  ·refine Je 1 [] [20] [(4,vN j)] h fun a w h=>qV (za8 (za5 (za5 (za8 (za5 (rT (.c (cI (j:Int))) h rfl ?_))))));have hz:zdq (fun m=>m.v == (v:Int)) c.moves 0=(j:Int):=by rw [hI2,zg4 hx1,if_pos hc2]
   rw [hz];try rfl
  refine qU (za6 (za1 (Jf 1 [(1,.j1 j)] [20] [(5,vI ((j:Int)+1))] h fun a w h=>za1 (zaa (x:=j) (y:=j+1) h ?_ ?_))))
  ·exact ⟨by have:=zab hx1;omega,by rw [hI2,zg4 hx1,if_neg (by rw [hc3];exact Bool.noConfusion)]⟩
  show c.moves.length - (j+1)<c.moves.length - j;have:=zab hx1;omega
 refine exA (Jq 1 [] [(4,vI (-1))] [] h fun a w h=>qV (rT (.c (cI (-1))) h rfl ?_));have hz:zdq (fun m=>m.v == (v:Int)) c.moves 0=-1:=by rw [hI2,bX (by omega)];rfl
 rw [hz];try rfl
theorem there_no (h1:decide (m.v<0)=false) (h2:decide (m.v>=(s.vars.length:Int))=false):(!zfi s m)=false:=by
 have:=of_decide_eq_false h1;have:=of_decide_eq_false h2
 unfold zfi;rw [yQ (by omega),yQ (by omega)];rfl
theorem there_lo (h1:decide (m.v<0)=true):(!zfi s m)=true:=by
 have:=of_decide_eq_true h1;unfold zfi;rw [yX (by omega)];rfl
theorem there_hi (h2:decide (m.v>=(s.vars.length:Int))=true):(!zfi s m)=true:=by
 have:=of_decide_eq_true h2;unfold zfi;rw [yX (p:=m.v<(s.vars.length:Int)) (by omega),bV];rfl
theorem SRbeginsN (s:zan) (x:StD) (i:Int) {L:Nat} (hL:L+M<=4000) (hs:zbh L s) (hx:zhp M x) (hi:zeh s i=none):Fn dM 45 [] [vG (zcn s),vG [cIs x.locs,cZs x.vals],vI i] (vb false) []:=by
 refine fB Tryz.func45 rfl 100 fun w H B a h=>Jq 0 [] [(2,vI i),(3,vp 0 0),(4,vp 1 0),(6,vb false)] [(0,.box (zcn s)),(1,.box [cIs x.locs,cZs x.vals])] h fun a w h=>qW ?_
 rcases bG (decide (i<0)) with hc1 | hc2
 ·have hc1':=dT hc1;refine Je 2 [(1,.cmp (op:=.lss) (m:=i) (n:=0) (b:=true) .i64 hc1)] [] [(23,vb true)] h fun a w h=>cS true h (fun _=>?_) nofun
  refine Je 2 [] [23] [] h fun a w h=>qV (za5 (rT (.c (cB false)) h rfl ?_));rfl
 have hc2':=dF hc2;refine Je 2 [(1,.cmp (op:=.lss) (m:=i) (n:=0) (b:=false) .i64 hc2),(6,.len (za3 10 zas.d s.acts)),(7,.cmp (op:=.geq) (m:=i) (n:=(s.acts.length:Int)) (b:=true) .i64 (yQ (by have:=actAt_none hi;have:=dF hc2;omega)))] [] [(23,vb true)] h fun a w h=>cS true h (fun _=>?_) nofun
 refine Je 2 [] [23] [] h fun a w h=>qV (za5 (rT (.c (cB false)) h rfl ?_));rfl
theorem zjz (s:zan) (x:StD) (ki:Nat) (c:zas) {L:Nat} (hL:L+M<=4000) (hs:zbh L s) (hx:zhp M x) (hka:s.acts[ki]?=some c):Fn dM 45 [] [vG (zcn s),vG [cIs x.locs,cZs x.vals],vN ki] (vb (zap s x c)) []:=by
 have lx1:=hx.locs;have lx2:=hx.vals;have ls1:=hs.vars;have ls2:=hs.procs;have lki:=zab hka;have hc:zgy L c:=hs.act c (lM hka);have lmv:=hc.len;refine fB Tryz.func45 rfl 100 fun w H B a h=>Jq 0 [] [(2,vN ki),(3,vp 0 0),(4,vp 1 0),(6,vb false)] [(0,.box (zcn s)),(1,.box [cIs x.locs,cZs x.vals])] h fun a w h=>qW (Je 2 [(1,.cmp (op:=.lss) (m:=(ki:Int)) (n:=0) (b:=false) .i64 (show (decide ((ki:Int)<0))=false from yX (by omega))),(6,.len (za3 10 zas.d s.acts)),(7,.cmp (op:=.geq) (m:=(ki:Int)) (n:=(s.acts.length:Int)) (b:=false) .i64 (show (decide ((ki:Int)>=(s.acts.length:Int)))=false from yX (by omega))),(12,.call (SRFits s x (L:=L) (M:=M) (by omega) hs hx))] [] [(23,vb (!(zd2 s x)))] h fun a w h=>cS (!(zd2 s x)) h (fun hc1=>?_) (fun hc2=>?_))
 ·refine Je 2 [] [23] [] h fun a w h=>qV (za5 (rT (.c (cB false)) h rfl ?_));have hz:zap s x c=false:=by unfold zap;rw [(show (zd2 s x)=false from by simpa using hc1)];rfl
  rw [hz];try rfl
 refine qU (za1 (Jg 2 [(3,.g (xD 27 25 ki_1 (za7 hka (f:=zas.d)) (dO 26 _)))] [2,23] [(7,vp 2 0)] [] [(2,.box ([cI c.proc,cI c.from_,cI c.to_,cI c.guard.kind,cPs c.guard.r.t.parts]++zi c.guard.r.t.k++[cB c.guard.r.eq,cFs c.guard.kids,.d (.sl 5 (c.moves.map d5))]))] h fun a w h=>qW ?_))
 rcases bG (decide (c.proc<0)) with hc3 | hc4
 ·have hc3':=dT hc3;refine Je 3 [(2,.cmp (op:=.lss) (m:=c.proc) (n:=0) (b:=true) .i64 hc3)] [] [(68,vb true)] h fun a w h=>cS true h (fun _=>?_) nofun
  refine Je 3 [] [68] [] h fun a w h=>qV (za5 (rT (.c (cB false)) h rfl ?_));have hz:zap s x c=(false):=by unfold zap;rw [(show (zd2 s x)=true from by simpa using hc2),bE];rw [yX (p:=0<=c.proc/\c.proc<(s.procs.length:Int)) (by have:=dT hc3;omega)];rfl
  rw [hz];try rfl
 have hc4':=dF hc4
 rcases bG (decide (c.proc>=(s.procs.length:Int))) with hc5 | hc6
 ·have hc5':=dT hc5;refine Je 3 [(2,.cmp (op:=.lss) (m:=c.proc) (n:=0) (b:=false) .i64 hc4),(8,.len (za3 3 zbj.d s.procs)),(9,.cmp (op:=.geq) (m:=c.proc) (n:=(s.procs.length:Int)) (b:=true) .i64 hc5)] [] [(68,vb true)] h fun a w h=>cS true h (fun _=>?_) nofun
  refine Je 3 [] [68] [] h fun a w h=>qV (za5 (rT (.c (cB false)) h rfl ?_));have hz:zap s x c=(false):=by unfold zap;rw [(show (zd2 s x)=true from by simpa using hc2),bE];rw [yX (p:=0<=c.proc/\c.proc<(s.procs.length:Int)) (by have:=dT hc5;omega)];rfl
  rw [hz];try rfl
 have hc6':=dF hc6;have hfl:=zdi (show (zd2 s x)=true from by simpa using hc2);obtain ⟨k,hkk⟩:∃ k_:Nat,c.proc=(k_:Int):=⟨_,(cG (by have:=dF hc4;omega)).symm⟩;replace h:=cvM [] [] [] [(2,.box ([cI (k:Int),cI c.from_,cI c.to_,cI c.guard.kind,cPs c.guard.r.t.parts]++zi c.guard.r.t.k++[cB c.guard.r.eq,cFs c.guard.kids,.d (.sl 5 (c.moves.map d5))]))] (by rw [hkk]; try kernel_rfl) h;obtain ⟨x2,hx2⟩:=gl x.locs k
 rcases bG (x2 != c.from_) with hc7 | hc8
 ·refine Jg 3 [(2,.cmp (op:=.lss) (m:=(k:Int)) (n:=0) (b:=false) .i64 (show (decide ((k:Int)<0))=false from by rw [<- hkk];exact hc4)),(8,.len (za3 3 zbj.d s.procs)),(9,.cmp (op:=.geq) (m:=(k:Int)) (n:=(s.procs.length:Int)) (b:=false) .i64 (show (decide ((k:Int)>=(s.procs.length:Int)))=false from by rw [<- hkk];exact hc6)),(16,.g (xD 45 42 zh0 (za7 hx2 (f:=zal)) (dO 44 _))),(20,.cmp (op:=.neq) (m:=x2) (n:=c.from_) (b:=true) .i64 hc7)] [] [(68,vb true)] [] [] h fun a w h=>cS true h (fun _=>?_) nofun
  refine Je 3 [] [68] [] h fun a w h=>qV (za5 (rT (.c (cB false)) h rfl ?_));have hz:zap s x c=(false):=by unfold zap;rw [(show (zd2 s x)=true from by simpa using hc2),bE];rw [yQ (p:=0<=c.proc/\c.proc<(s.procs.length:Int)) (by have:=dF hc4;have:=dF hc6;omega),show c.proc.toNat=k by omega,hx2,bU,bE];rw [show (x2 == c.from_)=false by have:=hc7;simpa using this];rfl
  rw [hz];try rfl
 rcases bG (decide (c.to_<0)) with hc9 | hc10
 ·have hc9':=dT hc9;refine Jg 3 [(2,.cmp (op:=.lss) (m:=(k:Int)) (n:=0) (b:=false) .i64 (show (decide ((k:Int)<0))=false from by rw [<- hkk];exact hc4)),(8,.len (za3 3 zbj.d s.procs)),(9,.cmp (op:=.geq) (m:=(k:Int)) (n:=(s.procs.length:Int)) (b:=false) .i64 (show (decide ((k:Int)>=(s.procs.length:Int)))=false from by rw [<- hkk];exact hc6)),(16,.g (xD 45 42 zh0 (za7 hx2 (f:=zal)) (dO 44 _))),(20,.cmp (op:=.neq) (m:=x2) (n:=c.from_) (b:=false) .i64 hc8),(25,.cmp (op:=.lss) (m:=c.to_) (n:=0) (b:=true) .i64 hc9)] [] [(68,vb true)] [] [] h fun a w h=>cS true h (fun _=>?_) nofun
  refine Je 3 [] [68] [] h fun a w h=>qV (za5 (rT (.c (cB false)) h rfl ?_));have hz:zap s x c=(false):=by unfold zap;rw [(show (zd2 s x)=true from by simpa using hc2),bE];rw [yQ (p:=0<=c.proc/\c.proc<(s.procs.length:Int)) (by have:=dF hc4;have:=dF hc6;omega),show c.proc.toNat=k by omega,hx2,bU,bE];rw [show (x2 == c.from_)=true by have:=hc8;simpa using this,bE];rw [yX (by have:=dT hc9;omega)];rfl
  rw [hz];try rfl
 have hc10':=dF hc10;obtain ⟨x3,hx3⟩:=gl s.procs k;refine Jg 3 [(2,.cmp (op:=.lss) (m:=(k:Int)) (n:=0) (b:=false) .i64 (show (decide ((k:Int)<0))=false from by rw [<- hkk];exact hc4)),(8,.len (za3 3 zbj.d s.procs)),(9,.cmp (op:=.geq) (m:=(k:Int)) (n:=(s.procs.length:Int)) (b:=false) .i64 (show (decide ((k:Int)>=(s.procs.length:Int)))=false from by rw [<- hkk];exact hc6)),(16,.g (xD 45 42 zh0 (za7 hx2 (f:=zal)) (dO 44 _))),(20,.cmp (op:=.neq) (m:=x2) (n:=c.from_) (b:=false) .i64 hc8),(25,.cmp (op:=.lss) (m:=c.to_) (n:=0) (b:=false) .i64 hc10),(34,.g (xD 63 60 kf_5 (za7 hx3 (f:=zbj.d)) (dO 62 _))),(37,.len (za3 1 zer x3.locs))] [] [(68,vb (decide (c.to_>=(x3.locs.length:Int))))] [] [] h fun a w h=>zad (c.to_>=(x3.locs.length:Int)) h (fun hc11 hc11'=>?_) (fun hc12 hc12'=>?_)
 ·refine Je 3 [] [68] [] h fun a w h=>qV (za5 (rT (.c (cB false)) h rfl ?_));have hz:zap s x c=(false):=by unfold zap;rw [(show (zd2 s x)=true from by simpa using hc2),bE];rw [yQ (p:=0<=c.proc/\c.proc<(s.procs.length:Int)) (by have:=dF hc4;have:=dF hc6;omega),show c.proc.toNat=k by omega,hx2,bU,bE];rw [show (x2 == c.from_)=true by have:=hc8;simpa using this,bE];rw [show zfl s k=x3.locs.length by unfold zfl;rw [hx3];rfl];rw [yX (by have:=dT hc11;omega)];rfl
  rw [hz];try rfl
 refine qU (za1 (qW (Je 3 [] [68] [(8,vI 0)] h fun a w h=>qZ ?_)))
 refine zbw (ι:=(Nat)) (fun j=>j<=c.moves.length/\(c.moves.take j).any (fun m=>!zfi s m)=false)
   [6] (fun j=>[(8,vN j)])
   [] (fun j=>[])
   (fun j=>c.moves.length - j) 0 ?_ h ?_
 ·exact ⟨bF _,rfl⟩
 clear h;rintro j a w hI h;obtain ⟨hI1,hI2⟩:=hI;refine qW (Je 3 [(3,.len (za3 5 d5 c.moves))] [] [(73,vb (decide ((j:Int)<(c.moves.length:Int))))] h fun a w h=>zad ((j:Int)<(c.moves.length:Int)) h (fun hc13 hc13'=>?_) (fun hc18 hc18'=>?_))
 ·refine qU (za1 (qW (qZ ?_)));obtain ⟨x4,hx4⟩:=gl c.moves j
  rcases bG (decide (x4.v<0)) with hc14 | hc15
  ·have hc14':=dT hc14;refine Je 3 [(3,.g (xD 79 77 ki_2 (za7 hx4 (f:=d5)) (dO 78 _))),(6,.cmp (op:=.lss) (m:=x4.v) (n:=0) (b:=true) .i64 hc14)] [73] [(94,vb true)] h fun a w h=>cS true h (fun _=>?_) nofun
   refine Je 3 [] [94] [(6,vb false)] h fun a w h=>qV (za8 (za5 (za5 (za8 (za5 (rT (.c (cB false)) h rfl ?_))))));have hz:zap s x c=(false):=by unfold zap;rw [(show (zd2 s x)=true from by simpa using hc2),bE];rw [yQ (p:=0<=c.proc/\c.proc<(s.procs.length:Int)) (by have:=dF hc4;have:=dF hc6;omega),show c.proc.toNat=k by omega,hx2,bU,bE];rw [show (x2 == c.from_)=true by have:=hc8;simpa using this,bE];rw [show zfl s k=x3.locs.length by unfold zfl;rw [hx3];rfl];rw [yQ (p:=0<=c.to_/\c.to_<(x3.locs.length:Int)) (by have:=dF hc10;have:=dF hc12;omega),bE,(zmf (q:=(fun m=>!zfi s m)) hx4 (there_lo hc14))];rfl
   rw [hz];try rfl
  have hc15':=dF hc15;refine Je 3 [(3,.g (xD 79 77 ki_2 (za7 hx4 (f:=d5)) (dO 78 _))),(6,.cmp (op:=.lss) (m:=x4.v) (n:=0) (b:=false) .i64 hc15),(11,.g (xD 87 85 ki_2 (za7 hx4 (f:=d5)) (dO 86 _))),(16,.len (za3 1 zer s.vars))] [73] [(94,vb (decide (x4.v>=(s.vars.length:Int))))] h fun a w h=>zad (x4.v>=(s.vars.length:Int)) h (fun hc16 hc16'=>?_) (fun hc17 hc17'=>?_)
  ·refine Je 3 [] [94] [(6,vb false)] h fun a w h=>qV (za8 (za5 (za5 (za8 (za5 (rT (.c (cB false)) h rfl ?_))))));have hz:zap s x c=(false):=by unfold zap;rw [(show (zd2 s x)=true from by simpa using hc2),bE];rw [yQ (p:=0<=c.proc/\c.proc<(s.procs.length:Int)) (by have:=dF hc4;have:=dF hc6;omega),show c.proc.toNat=k by omega,hx2,bU,bE];rw [show (x2 == c.from_)=true by have:=hc8;simpa using this,bE];rw [show zfl s k=x3.locs.length by unfold zfl;rw [hx3];rfl];rw [yQ (p:=0<=c.to_/\c.to_<(x3.locs.length:Int)) (by have:=dF hc10;have:=dF hc12;omega),bE,(zmf (q:=(fun m=>!zfi s m)) hx4 (there_hi hc16))];rfl
   rw [hz];try rfl
  refine qU (za6 (za1 (Jf 3 [(1,.j1 j)] [94] [(8,vI ((j:Int)+1))] h fun a w h=>za1 (zaa (x:=j) (y:=j+1) h ?_ ?_))))
  ·exact ⟨by have:=zab hx4;omega,any_step hx4 hI2 (there_no hc15 hc17)⟩
  show c.moves.length - (j+1)<c.moves.length - j;have:=zab hx4;omega
 refine exA (Jq 3 [(4,.call (SRHolds x.vals (L:=L) (M:=M) (by omega) hx.vok c.guard hc.guard.1 hc.guard.2))] [(6,vb (dV x.vals c.guard))] [] h fun a w h=>qV (rT (.c (cB (dV x.vals c.guard))) h rfl ?_));have hz:zap s x c=(dV x.vals c.guard):=by unfold zap;rw [(show (zd2 s x)=true from by simpa using hc2),bE];rw [yQ (p:=0<=c.proc/\c.proc<(s.procs.length:Int)) (by have:=dF hc4;have:=dF hc6;omega),show c.proc.toNat=k by omega,hx2,bU,bE];rw [show (x2 == c.from_)=true by have:=hc8;simpa using this,bE];rw [show zfl s k=x3.locs.length by unfold zfl;rw [hx3];rfl];rw [yQ (p:=0<=c.to_/\c.to_<(x3.locs.length:Int)) (by have:=dF hc10;have:=dF hc12;omega),bE,(any_end (q:=(fun m=>!zfi s m)) (dF hc18) hI2)];rfl
 rw [hz];try rfl
theorem range_keep {f:Nat->α} {cl:List α} {y:α} (hj:cl[j]?=some y) (hy:y=f j):(bC j).map f++cl.drop j=(bC (j+1)).map f++cl.drop (j+1):=by
 obtain ⟨hlt,rfl⟩:=cV.1 hj
 rw [cK hlt,hy,c8,cY,dA];rfl
theorem newV_at {c:zas} {p:ZI} (h:zbl c v=true) (hp:picks[zaw c v]?=some p):zfm x c picks v=ZI.of p.val:=by unfold zfm;rw [if_pos h,hp]
theorem newV_no {c:zas} (h:zbl c v=true) (hp:¬ ((zaw c v:Nat):Int)<(picks.length:Int)):zfm x c picks v=ze3:=by unfold zfm;rw [if_pos h,b6 (by omega)]
theorem zci {c:zas} {b:Bool} (hm:ziu c v=some m) (h:m.any=b):zbl c v=b:=by unfold zbl;rw [hm];exact h
theorem zhg {c:zas} (hm:ziu c v=none):zbl c v=false:=by unfold zbl;rw [hm]
theorem new_some {c:zas} (hm:ziu c v=some m) (h:m.any=false):zid x c v=ZI.of (zd6 m.t x.vals):=by unfold zid;rw [hm];simp only;rw [if_neg (by rw [h];exact Bool.noConfusion)]
theorem new_none {c:zas} {z:ZI} (hm:ziu c v=none) (hz:x.vals[v]?=some z):zid x c v=clZ z:=by unfold zid;rw [hm,hz];rfl
theorem cnt_le (c:zas):∀ v,zaw c v<=v
 | 0=>bI _
 | v+1=>by rw [zaw];have:=cnt_le c v;split <;> omega
theorem SRGo3 (s:zan) (x:StD) (ki:Nat) (picks:List ZI) (c:zas) {L:Nat} (hL:L+M<=4000) (hs:zbh L s) (hx:zhp M x) (hp:∀ z ∈ picks,ZOk M z) (hka:s.acts[ki]?=some c) (hpl:picks.length<=9223372036854775807):Fn dM 20 [] [vG (zcn s),vG [cIs x.locs,cZs x.vals],vN ki,(vZs picks)] (.tup [.agg [cIs (goC s x c picks).1.locs,cZs (goC s x c picks).1.vals],.c (cB (goC s x c picks).2)]) []:=by
 have lx1:=hx.locs;have lx2:=hx.vals;have ls1:=hs.vars;have ls2:=hs.procs;have lki:=zab hka;have hc:zgy L c:=hs.act c (lM hka);have lmv:=hc.len;have lvv:=hx.vals;refine fB Tryz.func20 rfl 139 fun w H B a h=>Jq 5 [] [(2,vN ki),(3,(vZs picks)),(4,vp 5 0),(5,vp 6 0),(8,vp 7 0),(9,vb false)] [(5,.box (zcn s)),(6,.box [cIs x.locs,cZs x.vals]),(7,.box [nCl,nCl])] h fun a w h=>Jg 8 [] [] [(10,vp 8 0)] [] [(8,.box [nCl,nCl])] h fun a w h=>qW ?_
 replace h:=zjj 8 0 9 1 3 [nCl,nCl] h;replace h:=zjj 8 1 10 2 28 [.own 9 0,nCl] h;refine Je 11 [] [] [(11,vI 0)] h fun a w h=>qZ ?_
 refine zbw (ι:=(Nat)) (fun j=>j<=x.locs.length)
   [] (fun j=>[(11,vN j)])
   [] (fun j=>[(8,.box [.own 9 (x.locs.take j).length,.own 10 0]),(9,.row 3 1 ((x.locs.take j).map zal))])
   (fun j=>x.locs.length - j) 0 ?_ h ?_
 ·exact bF _
 clear h;rintro j a w hI h;refine qW (Je 11 [(3,.len (za3 1 zal x.locs))] [] [(22,vb (decide ((j:Int)<(x.locs.length:Int))))] h fun a w h=>zad ((j:Int)<(x.locs.length:Int)) h (fun hc1 hc1'=>?_) (fun hc2 hc2'=>?_))
 ·refine qU (za1 (qW (qZ ?_)));obtain ⟨x1,hx1⟩:=gl x.locs j;refine Jh 11 [(5,.g (xD 30 28 zh0 (za7 hx1 (f:=zal)) (dO 29 _))),(7,.g (bD 32 ([x1].map zal) [(31,vI x1)] tb_0 (.cons (i:=0) (dO 31 _) (.nil)) (by kernel_rfl) (by simp [zal]))),(8,.g (aD 33 26 32 9 11 (x.locs.take j) [x1] zal tb_2 (by simp [zal])))] [22] [] [9] [(8,.box ([.own 11 ((x.locs.take j)++[x1]).length,.own 10 0])),(11,.row 3 1 (((x.locs.take j)++[x1]).map zal))] h fun a w h=>za6 (za1 (Jf 12 [(1,.j1 j)] [] [(11,vI ((j:Int)+1))] h fun a w h=>za1 ?_));rw [show (((x.locs.take j)++[x1]):List Int)=(x.locs.take (j+1)) from (by rw [cN,hx1];rfl)] at h;replace h:=zd7 11 9 h;refine zaa (x:=j) (y:=j+1) h ?_ ?_
  ·show j+1<=x.locs.length;omega
  show x.locs.length - (j+1)<x.locs.length - j;omega
 refine exA (qW ?_);rw [show ((x.locs.take j):List Int)=x.locs from (by rw [bW (by omega)])] at h;refine Jp 12 [] [(2,vN ki),(3,(vZs picks)),(4,vp 5 0),(5,vp 6 0),(8,vp 7 0),(9,vb false),(10,vp 8 0),(12,vI 0)] h fun a w h=>qZ ?_
 refine loopS (ι:=(Nat)) (fun i=>i<=x.vals.length)
   (fun i=>[(2,vN ki),(3,(vZs picks)),(4,vp 5 0),(5,vp 6 0),(8,vp 7 0),(9,vb false),(10,vp 8 0),(12,vN i)])
   (fun i=>[(5,.box (zcn s)),(6,.box [cIs x.locs,cZs x.vals]),(7,.box [nCl,nCl]),(8,.box [.own 9 x.locs.length,.own 10 ((x.vals.take i).map clZ).length]),(9,.row 3 1 (x.locs.map zal)),(10,.row 28 2 (((x.vals.take i).map clZ).map ziD))])
   (fun i=>x.vals.length - i) 0 ?_ h (by kernel_rfl) (by kernel_rfl) ?_
 ·exact bF _
 clear h;rintro i a w hI h;refine qW (Je 12 [(3,.len (za3 2 ziD x.vals))] [] [(39,vb (decide ((i:Int)<(x.vals.length:Int))))] h fun a w h=>zad ((i:Int)<(x.vals.length:Int)) h (fun hc3 hc3'=>?_) (fun hc4 hc4'=>?_))
 ·refine qU (za1 (qW (qZ ?_)));obtain ⟨x2,hx2⟩:=gl x.vals i;have gx2:=hx.val x2 (lM hx2);have lgx2:=gx2.2;obtain ⟨r3,er3,vr3,or3,lr3⟩:=mkZ (v:=x2.val) (m:=M) (bJ (zdd gx2.1) gx2.2);refine Jh 12 [(5,.g (xD 47 45 tt_6 (za7 hx2 (f:=ziD)) (dO 46 _))),(7,.call (dN ((show Fn _ _ _ _ (vz (ZI.of x2.val)) _ from SRClean x2 gx2.1 (by omega))) (yJ vz er3.symm))),(8,.g (bD 50 ([r3].map ziD) [(49,vz r3)] ty_5 (.cons (i:=0) (dO 49 _) (.nil)) (by kernel_rfl) (by simp [ziD]))),(9,.g (aD 51 43 50 10 12 ((x.vals.take i).map clZ) [r3] ziD kk_4 (by simp [ziD])))] [39] [] [10] [(8,.box ([.own 9 x.locs.length,.own 12 (((x.vals.take i).map clZ)++[r3]).length])),(12,.row 28 2 ((((x.vals.take i).map clZ)++[r3]).map ziD))] h fun a w h=>za6 (za1 (Jf 13 [(1,.j1 i)] [] [(12,vI ((i:Int)+1))] h fun a w h=>za1 ?_));rw [show ((((x.vals.take i).map clZ)++[r3]):List ZI)=((x.vals.take (i+1)).map clZ) from (by rw [<- map_snoc hx2];congr 1;simp [clZ, *])] at h;replace h:=zd7 12 10 h;refine zaa (x:=i) (y:=i+1) h ?_ ?_
  ·show i+1<=x.vals.length;omega
  show x.vals.length - (i+1)<x.vals.length - i;omega
 refine exA (qW ?_);rw [show (((x.vals.take i).map clZ):List ZI)=(x.vals.map clZ) from (by rw [bW (by omega)])] at h;refine Jp 13 [(1,.cmp (op:=.eql) (m:=(ki:Int)) (n:=(-1)) (b:=false) .i64 (beq_eq_false_iff_ne.2 (by omega)))] [(2,vN ki),(3,(vZs picks)),(4,vp 5 0),(5,vp 6 0),(8,vp 7 0),(9,vb false),(10,vp 8 0),(54,vb false)] h fun a w h=>zau h (qU (za1 (qW (Je 13 [(3,.call (zjz s x ki c hL hs hx hka))] [54] [(64,vb (!(zap s x c)))] h fun a w h=>cS (!(zap s x c)) h (fun hc5=>?_) (fun hc6=>?_)))))
 ·refine Je 13 [] [64] [] h fun a w h=>qV (za5 ?_);replace h:=zbs 7 0 1 [nCl,nCl] h;replace h:=zbs 7 1 2 [cIs [],nCl] h;refine zfj [.agg [cIs [],cZs []],.c (cB false)] h Exit.ret (.inl rfl)  rfl ⟨RV.agg _ 7 0 _ _ _ _ kk_5 rfl rfl rfl rfl,vT9,trivial⟩ ?_;have hz:goC s x c picks=(st0,false):=by unfold goC;rw [if_neg (fun h=>by have:=h.1;rw [(show (zap s x c)=false from by simpa using hc5)] at this;cases this)]
  rw [hz];try rfl
 refine qU (za1 (Jd 13 [(3,.g (xD 69 67 ki_1 (za7 hka (f:=zas.d)) (dO 68 _)))] [2,64] [(13,vp 13 0)] [(5,.box (zcn s)),(6,.box [cIs x.locs,cZs x.vals]),(7,.box [nCl,nCl]),(8,.box [.own 9 x.locs.length,.own 10 (x.vals.map clZ).length]),(9,.row 3 1 (x.locs.map zal)),(10,.row 28 2 ((x.vals.map clZ).map ziD)),(13,.box ([cI c.proc,cI c.from_,cI c.to_,cI c.guard.kind,cPs c.guard.r.t.parts]++zi c.guard.r.t.k++[cB c.guard.r.eq,cFs c.guard.kids,.d (.sl 5 (c.moves.map d5))]))] h fun a w h=>?_));have hen:=(show (zap s x c)=true from by simpa using hc6);have hfl:=zdi (zdr hen);have hpr:=zfw hen;obtain ⟨k0,hkk0⟩:∃ k_:Nat,c.proc=(k_:Int):=⟨_,(cG (by omega)).symm⟩;replace h:=cvM [] [] [] [(13,.box ([cI (k0:Int),cI c.from_,cI c.to_,cI c.guard.kind,cPs c.guard.r.t.parts]++zi c.guard.r.t.k++[cB c.guard.r.eq,cFs c.guard.kids,.d (.sl 5 (c.moves.map d5))]))] (by rw [hkk0]; try kernel_rfl) h;obtain ⟨x5,hx5⟩:=gl x.locs k0;refine Jg 14 [(6,.g (xO 77 72 9 x.locs.length k0 zh0 (dO 74 _))),(7,.g (Op.storeR (t:=77) (n:=9) (i:=k0) (fo:=0) (rty:=3) (es:=1) (r:=zal x5) (ds:=[.raw (.int .i64 c.to_)]) (rs:=[(76,vI c.to_)]) (rows:=x.locs.map zal) (rows':=(x.locs.set k0 c.to_).map zal) tl_7 (dO 76 _) rfl rfl rfl (za7 hx5 (f:=zal)) (by simp [zal]) (zc0 (xs:=x.locs) (F:=zal) k0 _ _ rfl)))] [] [] [] [(9,.row 3 1 ((x.locs.set k0 c.to_).map zal))] h fun a w h=>?_;replace h:=cvM [] [] [] [(13,.box ([cI c.proc,cI c.from_,cI c.to_,cI c.guard.kind,cPs c.guard.r.t.parts]++zi c.guard.r.t.k++[cB c.guard.r.eq,cFs c.guard.kids,.d (.sl 5 (c.moves.map d5))]))] (by rw [hkk0]; try kernel_rfl) h;refine Jg 14 [] [] [(14,vI 0)] [] [] h fun a w h=>qW (Je 14 [] [] [(15,vI 0)] h fun a w h=>qZ ?_)
 refine zbw (ι:=(Nat)) (fun j=>j<=x.vals.length)
   [] (fun j=>[(14,vI ((zaw c j:Nat):Int)),(15,vN j)])
   [] (fun j=>[(10,.row 28 2 (((bC j).map (zfm x c picks)++(x.vals.map clZ).drop j).map ziD))])
   (fun j=>x.vals.length - j) 0 ?_ h ?_
 ·exact bF _
 clear h;rintro j a w hI h;have hrl:=range_len (f:=(zfm x c picks)) (cl:=(x.vals.map clZ)) (j:=j) (by rw [bK];omega);rw [bK] at hrl;have hcf:=cnt_le c j;refine qW (Je 14 [(3,.len (za3 2 ziD x.vals))] [] [(82,vb (decide ((j:Int)<(x.vals.length:Int))))] h fun a w h=>zad ((j:Int)<(x.vals.length:Int)) h (fun hc7 hc7'=>?_) (fun hc12 hc12'=>?_))
 ·refine qU (za1 (qW (qZ ?_)))
  rcases idxB_find (fun m=>m.v == (j:Int)) c.moves with ⟨hix,hm⟩ | ⟨k,m,hix,hmk,hm⟩
  ·replace hm:ziu c j=none:=hm;refine Jq 14 [(2,.call (dN (SRmove c j lmv) (yJ (vi .i64) hix)))] [(3,(vZs picks)),(4,vp 5 0),(5,vp 6 0),(8,vp 7 0),(9,vb false),(10,vp 8 0),(13,vp 13 0),(14,vI ((zaw c j:Nat):Int)),(15,vN j),(16,vI (-1))] [(5,.box (zcn s)),(6,.box [cIs x.locs,cZs x.vals]),(7,.box [nCl,nCl]),(8,.box [.own 9 x.locs.length,.own 10 (x.vals.map clZ).length]),(9,.row 3 1 ((x.locs.set k0 c.to_).map zal)),(10,.row 28 2 (((bC j).map (zfm x c picks)++(x.vals.map clZ).drop j).map ziD)),(13,.box ([cI c.proc,cI c.from_,cI c.to_,cI c.guard.kind,cPs c.guard.r.t.parts]++zi c.guard.r.t.k++[cB c.guard.r.eq,cFs c.guard.kids,.d (.sl 5 (c.moves.map d5))]))] h fun a w h=>Je 14 [(1,.cmp (op:=.geq) (m:=(-1)) (n:=0) (b:=false) .i64 rfl)] [] [(97,vb false)] h fun a w h=>zau h (Je 14 [(1,.cmp (op:=.geq) (m:=(-1)) (n:=0) (b:=false) .i64 rfl)] [97] [(119,vb false)] h fun a w h=>zau h (qU (za6 (za1 (Jf 14 [(1,.j1 j)] [16,119] [(15,vI ((j:Int)+1))] h fun a w h=>za1 ?_)))));obtain ⟨zq,hzq⟩:∃ z_:ZI,x.vals[j]?=some z_:=⟨_,b8 (by omega)⟩;rw [show (((bC j).map (zfm x c picks)++(x.vals.map clZ).drop j):List ZI)=((bC (j+1)).map (zfm x c picks)++(x.vals.map clZ).drop (j+1)) from (range_keep (za7 hzq (f:=clZ)) (by rw [zlt (zhg hm),new_none hm hzq]))] at h;replace h:=cv (fun z_:Int=>F.of [(3,(vZs picks)),(4,vp 5 0),(5,vp 6 0),(8,vp 7 0),(9,vb false),(10,vp 8 0),(13,vp 13 0),(14,vI z_),(15,vI ((j:Int)+1))] [(5,.box (zcn s)),(6,.box [cIs x.locs,cZs x.vals]),(7,.box [nCl,nCl]),(8,.box [.own 9 x.locs.length,.own 10 (x.vals.map clZ).length]),(9,.row 3 1 ((x.locs.set k0 c.to_).map zal)),(10,.row 28 2 (((bC (j+1)).map (zfm x c picks)++(x.vals.map clZ).drop (j+1)).map ziD)),(13,.box ([cI c.proc,cI c.from_,cI c.to_,cI c.guard.kind,cPs c.guard.r.t.parts]++zi c.guard.r.t.k++[cB c.guard.r.eq,cFs c.guard.kids,.d (.sl 5 (c.moves.map d5))]))]) (show (((zaw c j:Nat):Int):Int)=((zaw c (j+1):Nat):Int) from (by rw [cnt_kept (zhg hm)])) (h.conv (by kernel_rfl));refine zaa (x:=j) (y:=j+1) h ?_ ?_
   ·show j+1<=x.vals.length;omega
   show x.vals.length - (j+1)<x.vals.length - j;omega
  replace hm:ziu c j=some m:=hm;have lmk:=zab hmk;refine Jq 14 [(2,.call (dN (SRmove c j lmv) (yJ (vi .i64) hix)))] [(3,(vZs picks)),(4,vp 5 0),(5,vp 6 0),(8,vp 7 0),(9,vb false),(10,vp 8 0),(13,vp 13 0),(14,vI ((zaw c j:Nat):Int)),(15,vN j),(16,vN k)] [(5,.box (zcn s)),(6,.box [cIs x.locs,cZs x.vals]),(7,.box [nCl,nCl]),(8,.box [.own 9 x.locs.length,.own 10 (x.vals.map clZ).length]),(9,.row 3 1 ((x.locs.set k0 c.to_).map zal)),(10,.row 28 2 (((bC j).map (zfm x c picks)++(x.vals.map clZ).drop j).map ziD)),(13,.box ([cI c.proc,cI c.from_,cI c.to_,cI c.guard.kind,cPs c.guard.r.t.parts]++zi c.guard.r.t.k++[cB c.guard.r.eq,cFs c.guard.kids,.d (.sl 5 (c.moves.map d5))]))] h fun a w h=>Je 14 [(1,.cmp (op:=.geq) (m:=(k:Int)) (n:=0) (b:=true) .i64 (show (decide ((k:Int)>=0))=true from yQ (by omega))),(6,.g (xD 94 92 ki_2 (za7 hmk (f:=d5)) (dO 93 _)))] [] [(97,vb m.any)] h fun a w h=>cS m.any h (fun hc8=>?_) (fun hc11=>?_)
  ·obtain ⟨x8,hx8⟩:=gl ((bC j).map (zfm x c picks)++(x.vals.map clZ).drop j) j;refine Jg 14 [(4,.g (xO 102 99 10 (x.vals.map clZ).length j tt_6 (dO 100 _))),(5,.g (Op.storeR (t:=102) (n:=10) (i:=j) (fo:=0) (rty:=28) (es:=2) (r:=ziD x8) (ds:=[.raw (.bool false),nsl []]) (rs:=[(101,vG [cB false,.d (nsl [])])]) (rows:=((bC j).map (zfm x c picks)++(x.vals.map clZ).drop j).map ziD) (rows':=(((bC j).map (zfm x c picks)++(x.vals.map clZ).drop j).set j (ZI.mk false [])).map ziD) zet (dO 101 _) rfl rfl rfl (za7 hx8 (f:=ziD)) (by simp [ziD]) (zc0 (xs:=((bC j).map (zfm x c picks)++(x.vals.map clZ).drop j)) (F:=ziD) j _ _ rfl)))] [16,97] [] [] [(10,.row 28 2 ((((bC j).map (zfm x c picks)++(x.vals.map clZ).drop j).set j (ZI.mk false [])).map ziD))] h fun a w h=>qW (Je 14 [(2,.len (za3 2 ziD picks))] [] [(106,vb (decide (((zaw c j:Nat):Int)<(picks.length:Int))))] h fun a w h=>zad (((zaw c j:Nat):Int)<(picks.length:Int)) h (fun hc9 hc9'=>?_) (fun hc10 hc10'=>?_))
   ·obtain ⟨x9,hx9⟩:=gl picks (zaw c j);have gx9:=hp x9 (lM hx9);have lgx9:=gx9.2;obtain ⟨r10,er10,vr10,or10,lr10⟩:=mkZ (v:=x9.val) (m:=M) (bJ (zdd gx9.1) gx9.2);refine Jh 14 [(5,.g (xD 112 110 tt_6 (za7 hx9 (f:=ziD)) (dO 111 _))),(7,.call (dN ((show Fn _ _ _ _ (vz (ZI.of x9.val)) _ from SRClean x9 gx9.1 (by omega))) (yJ vz er10.symm))),(8,.g (xO 115 108 10 (x.vals.map clZ).length j tt_6 (dO 109 _))),(9,.g (Op.storeR (t:=115) (n:=10) (i:=j) (fo:=0) (rty:=28) (es:=2) (r:=ziD (ZI.mk false [])) (ds:=[.raw (.bool r10.neg),nsl r10.abs]) (rs:=[(114,vz r10)]) (rows:=(((bC j).map (zfm x c picks)++(x.vals.map clZ).drop j).set j (ZI.mk false [])).map ziD) (rows':=((((bC j).map (zfm x c picks)++(x.vals.map clZ).drop j).set j (ZI.mk false [])).set j r10).map ziD) zet (dO 114 _) rfl rfl rfl (za7 (dC (cV.1 hx8).1) (f:=ziD)) (by simp [ziD]) (zc0 (xs:=(((bC j).map (zfm x c picks)++(x.vals.map clZ).drop j).set j (ZI.mk false []))) (F:=ziD) j _ _ rfl)))] [106] [] [] [(10,.row 28 2 (((((bC j).map (zfm x c picks)++(x.vals.map clZ).drop j).set j (ZI.mk false [])).set j r10).map ziD))] h fun a w h=>?_;refine za1 (Jf 14 [(1,.add .i64 (m:=((zaw c j:Nat):Int)) (n:=1) i6)] [] [(14,vI (((zaw c j:Nat):Int)+1))] h fun a w h=>za6 (za1 (Jf 14 [(1,.j1 j)] [] [(15,vI ((j:Int)+1))] h fun a w h=>za1 ?_)));rw [show (((((bC j).map (zfm x c picks)++(x.vals.map clZ).drop j).set j (ZI.mk false [])).set j r10):List ZI)=((bC (j+1)).map (zfm x c picks)++(x.vals.map clZ).drop (j+1)) from (by rw [List.set_set];exact range_set (by rw [bK];omega) (by rw [newV_at (zci hm hc8) hx9];simp [*]))] at h;replace h:=cv (fun z_:Int=>F.of [(3,(vZs picks)),(4,vp 5 0),(5,vp 6 0),(8,vp 7 0),(9,vb false),(10,vp 8 0),(13,vp 13 0),(14,vI z_),(15,vI ((j:Int)+1))] [(5,.box (zcn s)),(6,.box [cIs x.locs,cZs x.vals]),(7,.box [nCl,nCl]),(8,.box [.own 9 x.locs.length,.own 10 (x.vals.map clZ).length]),(9,.row 3 1 ((x.locs.set k0 c.to_).map zal)),(10,.row 28 2 (((bC (j+1)).map (zfm x c picks)++(x.vals.map clZ).drop (j+1)).map ziD)),(13,.box ([cI c.proc,cI c.from_,cI c.to_,cI c.guard.kind,cPs c.guard.r.t.parts]++zi c.guard.r.t.k++[cB c.guard.r.eq,cFs c.guard.kids,.d (.sl 5 (c.moves.map d5))]))]) (show (((zaw c j:Nat):Int)+1:Int)=((zaw c (j+1):Nat):Int) from (by rw [cnt_free (zci hm hc8)];omega)) (h.conv (by kernel_rfl));refine zaa (x:=j) (y:=j+1) h ?_ ?_
    ·show j+1<=x.vals.length;omega
    show x.vals.length - (j+1)<x.vals.length - j;omega
   refine qU (za1 (Jf 14 [(1,.add .i64 (m:=((zaw c j:Nat):Int)) (n:=1) i6)] [106] [(14,vI (((zaw c j:Nat):Int)+1))] h fun a w h=>za6 (za1 (Jf 14 [(1,.j1 j)] [] [(15,vI ((j:Int)+1))] h fun a w h=>za1 ?_))));rw [show ((((bC j).map (zfm x c picks)++(x.vals.map clZ).drop j).set j (ZI.mk false [])):List ZI)=((bC (j+1)).map (zfm x c picks)++(x.vals.map clZ).drop (j+1)) from (range_set (by rw [bK];omega) (by rw [newV_no (zci hm hc8) (dF hc10)];rfl))] at h;replace h:=cv (fun z_:Int=>F.of [(3,(vZs picks)),(4,vp 5 0),(5,vp 6 0),(8,vp 7 0),(9,vb false),(10,vp 8 0),(13,vp 13 0),(14,vI z_),(15,vI ((j:Int)+1))] [(5,.box (zcn s)),(6,.box [cIs x.locs,cZs x.vals]),(7,.box [nCl,nCl]),(8,.box [.own 9 x.locs.length,.own 10 (x.vals.map clZ).length]),(9,.row 3 1 ((x.locs.set k0 c.to_).map zal)),(10,.row 28 2 (((bC (j+1)).map (zfm x c picks)++(x.vals.map clZ).drop (j+1)).map ziD)),(13,.box ([cI c.proc,cI c.from_,cI c.to_,cI c.guard.kind,cPs c.guard.r.t.parts]++zi c.guard.r.t.k++[cB c.guard.r.eq,cFs c.guard.kids,.d (.sl 5 (c.moves.map d5))]))]) (show (((zaw c j:Nat):Int)+1:Int)=((zaw c (j+1):Nat):Int) from (by rw [cnt_free (zci hm hc8)];omega)) (h.conv (by kernel_rfl));refine zaa (x:=j) (y:=j+1) h ?_ ?_
   ·show j+1<=x.vals.length;omega
   show x.vals.length - (j+1)<x.vals.length - j;omega
  refine Je 14 [(1,.cmp (op:=.geq) (m:=(k:Int)) (n:=0) (b:=true) .i64 (show (decide ((k:Int)>=0))=true from yQ (by omega)))] [97] [(119,vb true)] h fun a w h=>cS true h (fun _=>?_) nofun
  obtain ⟨r11,er11,vr11,or11,lr11⟩:=mkZ (v:=zd6 m.t x.vals) (m:=L+M+2) (bJ (val_len (hc.mv m (lM hmk)) (by decide) hx.vok (fun p hp=>hp) (bI _)) (by omega));obtain ⟨x12,hx12⟩:=gl ((bC j).map (zfm x c picks)++(x.vals.map clZ).drop j) j;refine Jh 14 [(6,.g (xD 126 124 ki_2 (za7 hmk (f:=d5)) (dO 125 _))),(11,.call (dN (SRValue m.t x.vals (hc.mv m (lM hmk)) (by decide) (by omega) hx.vok) (yJ vz er11.symm))),(12,.g (xO 132 121 10 (x.vals.map clZ).length j tt_6 (dO 122 _))),(13,.g (Op.storeR (t:=132) (n:=10) (i:=j) (fo:=0) (rty:=28) (es:=2) (r:=ziD x12) (ds:=[.raw (.bool r11.neg),nsl r11.abs]) (rs:=[(131,vz r11)]) (rows:=((bC j).map (zfm x c picks)++(x.vals.map clZ).drop j).map ziD) (rows':=(((bC j).map (zfm x c picks)++(x.vals.map clZ).drop j).set j r11).map ziD) zet (dO 131 _) rfl rfl rfl (za7 hx12 (f:=ziD)) (by simp [ziD]) (zc0 (xs:=((bC j).map (zfm x c picks)++(x.vals.map clZ).drop j)) (F:=ziD) j _ _ rfl)))] [16,119] [] [] [(10,.row 28 2 ((((bC j).map (zfm x c picks)++(x.vals.map clZ).drop j).set j r11).map ziD))] h fun a w h=>za6 (za1 (Jf 14 [(1,.j1 j)] [] [(15,vI ((j:Int)+1))] h fun a w h=>za1 ?_));rw [show ((((bC j).map (zfm x c picks)++(x.vals.map clZ).drop j).set j r11):List ZI)=((bC (j+1)).map (zfm x c picks)++(x.vals.map clZ).drop (j+1)) from (range_set (by rw [bK];omega) (by rw [zlt (zci hm hc11),new_some hm hc11];simp [*]))] at h;replace h:=cv (fun z_:Int=>F.of [(3,(vZs picks)),(4,vp 5 0),(5,vp 6 0),(8,vp 7 0),(9,vb false),(10,vp 8 0),(13,vp 13 0),(14,vI z_),(15,vI ((j:Int)+1))] [(5,.box (zcn s)),(6,.box [cIs x.locs,cZs x.vals]),(7,.box [nCl,nCl]),(8,.box [.own 9 x.locs.length,.own 10 (x.vals.map clZ).length]),(9,.row 3 1 ((x.locs.set k0 c.to_).map zal)),(10,.row 28 2 (((bC (j+1)).map (zfm x c picks)++(x.vals.map clZ).drop (j+1)).map ziD)),(13,.box ([cI c.proc,cI c.from_,cI c.to_,cI c.guard.kind,cPs c.guard.r.t.parts]++zi c.guard.r.t.k++[cB c.guard.r.eq,cFs c.guard.kids,.d (.sl 5 (c.moves.map d5))]))]) (show (((zaw c j:Nat):Int):Int)=((zaw c (j+1):Nat):Int) from (by rw [cnt_kept (zci hm hc11)])) (h.conv (by kernel_rfl));refine zaa (x:=j) (y:=j+1) h ?_ ?_
  ·show j+1<=x.vals.length;omega
  show x.vals.length - (j+1)<x.vals.length - j;omega
 refine exA (qW ?_);replace h:=zj2 9 1 3 ((x.locs.set k0 c.to_).map zal) h [x.locs.length] ⟨by first | exact (bK _).symm | (simp;done) | (simp;omega),trivial⟩;replace h:=zj2 10 2 28 (((bC j).map (zfm x c picks)++(x.vals.map clZ).drop j).map ziD) h [(x.vals.map clZ).length] ⟨by first | exact (bK _).symm | (simp;done) | (simp;omega),trivial⟩;replace h:=cvM [] [] [] [(8,.box ([cIs (zf5 s x c picks).locs,cZs ((bC j).map (zfm x c picks)++(x.vals.map clZ).drop j)]))] (by rw [<- show ((x.locs.set k0 c.to_):List Int)=(zf5 s x c picks).locs from (by show _=x.locs.set c.proc.toNat c.to_;rw [show c.proc.toNat=k0 by omega])]; try kernel_rfl) h;rw [show (((bC j).map (zfm x c picks)++(x.vals.map clZ).drop j):List ZI)=(zf5 s x c picks).vals from (by rw [show j=s.vars.length by omega,range_end (by rw [bK];omega)];rfl)] at h;refine Jq 14 [(2,.call (SRFits s (zf5 s x c picks) (L:=L) (M:=L+M+2) (by omega) hs (outS_ok hs hx hc hp)))] [(8,vp 7 0),(9,vb false),(10,vp 8 0),(136,vb (!(zd2 s (zf5 s x c picks))))] [(7,.box [nCl,nCl]),(8,.box [cIs (zf5 s x c picks).locs,cZs (zf5 s x c picks).vals])] h fun a w h=>cS (!(zd2 s (zf5 s x c picks))) h (fun hc13=>?_) (fun hc14=>?_)
 ·refine Je 14 [] [136] [] h fun a w h=>qV (za5 ?_);replace h:=zbs 7 0 1 [nCl,nCl] h;replace h:=zbs 7 1 2 [cIs [],nCl] h;refine zfj [.agg [cIs [],cZs []],.c (cB false)] h Exit.ret (.inl rfl)  rfl ⟨RV.agg _ 7 0 _ _ _ _ kk_5 rfl rfl rfl rfl,vT9,trivial⟩ ?_;have hz:goC s x c picks=(st0,false):=by unfold goC;rw [if_neg (fun h=>by have:=h.2;rw [(show (zd2 s (zf5 s x c picks))=false from by simpa using hc13)] at this;cases this)]
  rw [hz];try rfl
 refine qU (za1 (Jq 14 [] [(8,vp 7 0),(9,vb true)] [(7,.box [cIs (zf5 s x c picks).locs,cZs (zf5 s x c picks).vals])] h fun a w h=>qV (zfj [.agg [cIs (zf5 s x c picks).locs,cZs (zf5 s x c picks).vals],.c (cB true)] h Exit.ret (.inl rfl)  rfl ⟨RV.agg _ 7 0 _ _ _ _ kk_5 rfl rfl rfl rfl,vT9,trivial⟩ ?_)));have hz:goC s x c picks=(zf5 s x c picks,true):=by unfold goC;rw [if_pos ⟨(show (zap s x c)=true from by simpa using hc6),(show (zd2 s (zf5 s x c picks))=true from by simpa using hc14)⟩]
 rw [hz];try rfl
theorem cnt_step_le (c:zas) (v:Nat):zaw c v<=zaw c (v+1):=by rw [zaw];omega
theorem cnt_mono (c:zas) {u:Nat} (h:u<=v):zaw c u<=zaw c v:=by
 induction v with
 | zero=>rw [Nat.le_zero.1 h];exact bI _
 | succ v ih =>
  rcases Nat.lt_or_ge u (v+1) with h1 | h1
  ·exact bJ (ih (by omega)) (cnt_step_le c v)
  ·rw [show u=v+1 by omega];exact bI _
def zbg (f:Nat->ZI) (c:zas):Nat->List ZI
  | 0=>[]
  | v+1=>if zbl c v=true then zbg f c v++[f v] else zbg f c v
theorem zfc (f:Nat->ZI) (c:zas):∀ n,(zbg f c n).length=zaw c n
 | 0=>rfl
 | n+1=>by
  rw [zbg,zaw]
  split
  ·rw [b7,zfc f c n];rfl
  ·rw [zfc f c n];rfl
theorem freeL_at (f:Nat->ZI) (c:zas) (hv:zbl c v=true):∀ n,v<n->(zbg f c n)[zaw c v]?=some (f v)
 | n+1,h=>by
  rw [zbg]
  rcases Nat.lt_or_ge v n with h1 | h1
  ·have ih:=freeL_at f c hv n h1
   split
   ·rw [dI (by rw [zfc];exact Nat.lt_of_lt_of_le (by rw [cnt_free hv];omega) (cnt_mono c h1))];exact ih
   ·exact ih
  ·obtain rfl:v=n:=by omega
   rw [if_pos hv,dJ (by rw [zfc];exact bI _),zfc,Nat.sub_self];rfl
theorem picks_freeL (y:StD) (c:zas):∀ n,zeo y c n=zbg (fun v=>(y.vals[v]?).getD ze3) c n
 | 0=>rfl
 | n+1=>by rw [zeo,zbg,picks_freeL y c n]
theorem zm5 {f:Nat->ZI} (h:∀ v,ZOk M (f v)) (c:zas):∀ n,∀ z ∈ zbg f c n,ZOk M z
 | 0,z,hz=>by cases hz
 | n+1,z,hz=>by
  rw [zbg] at hz
  split at hz
  ·rcases cC.1 hz with h1 | h1
   ·exact zm5 h c n z h1
   ·rw [bP.1 h1];exact h n
  ·exact zm5 h c n z hz
def zbx (s:zan) (v:Nat):ZI:=if (zbm s v).is_=true then (zbm s v).lo else ze3
theorem low_ok {L:Nat} (hs:zbh L s) (v:Nat):ZOk L (zbx s v):=by
 unfold zbx;split
 ·exact (bnd_ok hs v).1
 ·exact ZOk.zero
theorem cmp_self (x:Int):decide (zbo x x<=0)=true:=by unfold zbo;simp
theorem within_of (b:zak) (z:ZI):zbq b (ZI.of z.val)=zbq b z:=by unfold zbq;rw [ZI.val_of]
theorem within_val {p q:ZI} (h:p.val=q.val):zbq b p=zbq b q:=by unfold zbq;rw [h]
theorem nlocs_in (h:zd2 s x=true) {i:Nat} (hi:i<x.locs.length):zlh s x i=true:=by
 unfold zd2 at h;simp only [bN] at h;exact zd5.1 h.2.1 i hi
theorem vals_in (h:zd2 s x=true) {i:Nat} (hi:i<x.vals.length):valOk s x i=true:=by
 unfold zd2 at h;simp only [bN] at h;exact zd5.1 h.2.2 i hi
theorem enabled_to {c:zas} (h:zap s x c=true):0<=c.to_/\c.to_<(zfl s c.proc.toNat:Int):=by unfold zap at h;simp only [bN,decide_eq_true_eq] at h;exact h.1.2.2
theorem fits_out {c:zas} (picks:List ZI) (h:zap s x c=true):zd2 s (zf5 s x c picks)=zg8 s.vars.length (fun v=>zbq (zbm s v) (zfm x c picks v)):=by
 have hf:=zdr h;have hl:=zdi hf;have hp:=zfw h;have ht:=enabled_to h
 have e1:(zf5 s x c picks).locs.length=s.procs.length:=by simp only [zf5,dB];exact hl.1
 have e2:(zf5 s x c picks).vals.length=s.vars.length:=by simp [zf5]
 unfold zd2
 rw [yQ ⟨e1,e2⟩,bE]
 have a1:zg8 (zf5 s x c picks).locs.length (zlh s (zf5 s x c picks))=true:=zd5.2 fun i hi=>by
  rw [e1] at hi
  have h1:=nlocs_in hf (i:=i) (by omega)
  unfold zlh at h1 ⊢
  by_cases hi2:i=c.proc.toNat
  ·subst hi2
   have:(zf5 s x c picks).locs[c.proc.toNat]?=some c.to_:=by simp only [zf5];exact dC (by omega)
   rw [this];exact yQ ht
  ·have:(zf5 s x c picks).locs[i]?=x.locs[i]?:=by simp only [zf5];exact dL (Ne.symm hi2)
   rw [this];exact h1
 rw [a1,bE,e2]
 refine zia fun v hv=>?_
 unfold valOk
 have:(zf5 s x c picks).vals[v]?=some (zfm x c picks v):=by simp [zf5,cM,List.getElem?_range hv]
 rw [this];rfl
theorem fits_lows {c:zas} (h:zap s x c=true):zd2 s (zf5 s x c (zbg (zbx s) c s.vars.length))=zg8 s.vars.length (canAt s x c):=by
 rw [fits_out _ h]
 refine zia fun v hv=>?_
 unfold canAt
 by_cases hf:zbl c v=true
 ·rw [if_pos hf,newV_at hf (freeL_at (zbx s) c hf _ hv),within_of]
  unfold zbq zbx
  cases hb:(zbm s v).is_ with
  | false=>simp
  | true =>
   simp only [if_true,Bool.not_true,Bool.false_or,bE,cmp_self]
   by_cases hc:zbo (zbm s v).lo.val (zbm s v).hi.val<=0
   ·rw [yQ hc,yX (by omega)];rfl
   ·rw [yX hc,yQ (by omega)];rfl
 ·rw [if_neg hf,zlt (by simpa using hf)]
theorem can_goC {c:zas}:(goC s x c (zbg (zbx s) c s.vars.length)).2=canC s x c:=by
 unfold goC canC
 cases he:zap s x c with
 | false=>rfl
 | true =>
  rw [fits_lows he]
  cases ha:zg8 s.vars.length (canAt s x c) with
  | false=>rfl
  | true=>rfl
theorem zkl {f:Nat->ZI} {c:zas} {q:ZI} (h:zbl c v=true) (hq:q=f v):zbg f c v++[q]=zbg f c (v+1):=by rw [zbg,if_pos h,hq]
theorem freeL_kept {f:Nat->ZI} {c:zas} (h:zbl c v=false):zbg f c v=zbg f c (v+1):=by rw [zbg,if_neg (by rw [h];exact Bool.noConfusion)]
theorem SRCanN (s:zan) (x:StD) (i:Int) {L:Nat} (hL:L+M<=1900) (hs:zbh L s) (hx:zhp M x) (hi:zeh s i=none):Fn dM 78 [] [vG (zcn s),vG [cIs x.locs,cZs x.vals],vI i] (vb false) []:=by
 refine fB Tryz.func78 rfl 80 fun w H B a h=>Jq 0 [] [(2,vI i),(3,vp 0 0),(4,vp 1 0),(6,vb false)] [(0,.box (zcn s)),(1,.box [cIs x.locs,cZs x.vals])] h fun a w h=>qW (Je 2 [(3,.call (SRbeginsN s x i (by omega) hs hx hi))] [] [(17,vb true)] h fun a w h=>cS true h (fun _=>?_) nofun)
 refine Je 2 [] [17] [] h fun a w h=>qV (za5 (rT (.c (cB false)) h rfl ?_));rfl
theorem SRCanS (s:zan) (x:StD) (ki:Nat) (c:zas) {L:Nat} (hL:L+M<=1900) (hs:zbh L s) (hx:zhp M x) (hka:s.acts[ki]?=some c):Fn dM 78 [] [vG (zcn s),vG [cIs x.locs,cZs x.vals],vN ki] (vb (canC s x c)) []:=by
 have lx1:=hx.locs;have lx2:=hx.vals;have ls1:=hs.vars;have ls2:=hs.procs;have lki:=zab hka;have hc:zgy L c:=hs.act c (lM hka);have lmv:=hc.len;have lvv:=hx.vals;have lbn:=hs.bnds;refine fB Tryz.func78 rfl 80 fun w H B a h=>Jq 5 [] [(2,vN ki),(3,vp 5 0),(4,vp 6 0),(6,vb false)] [(5,.box (zcn s)),(6,.box [cIs x.locs,cZs x.vals])] h fun a w h=>qW (Je 7 [(3,.call (zjz s x ki c (L:=L) (M:=M) (by omega) hs hx hka))] [] [(17,vb (!(zap s x c)))] h fun a w h=>cS (!(zap s x c)) h (fun hc1=>?_) (fun hc2=>?_))
 ·refine Je 7 [] [17] [] h fun a w h=>qV (za5 (rT (.c (cB false)) h rfl ?_));have hz:canC s x c=false:=by unfold canC;rw [(show (zap s x c)=false from by simpa using hc1)];rfl
  rw [hz];try rfl
 refine qU (za1 ?_);have hen:=(show (zap s x c)=true from by simpa using hc2);have hfl:=zdi (zdr hen);refine Jg 7 [(0,.g (Op.buildE (d:=18) (n:=7) ty_5))] [17] [(7,vO 7 0)] [] [(7,.row 28 2 ([].map ziD))] h fun a w h=>qW (Je 8 [] [] [(8,vI 0)] h fun a w h=>qZ ?_)
 refine zbw (ι:=(Nat)) (fun j=>j<=x.vals.length)
   [] (fun j=>[(7,vO 7 (zbg (zbx s) c j).length),(8,vN j)])
   [] (fun j=>[(7,.row 28 2 ((zbg (zbx s) c j).map ziD))])
   (fun j=>x.vals.length - j) 0 ?_ h ?_
 ·exact bF _
 clear h;rintro j a w hI h;have hcf:=cnt_le c j;have hfll:=zfc (zbx s) c j;refine qW (Je 8 [(3,.len (za3 2 ziD x.vals))] [] [(23,vb (decide ((j:Int)<(x.vals.length:Int))))] h fun a w h=>zad ((j:Int)<(x.vals.length:Int)) h (fun hc3 hc3'=>?_) (fun hc10 hc10'=>?_))
 ·refine qU (za1 (qW (qZ ?_)))
  rcases idxB_find (fun m=>m.v == (j:Int)) c.moves with ⟨hix,hm⟩ | ⟨k,m,hix,hmk,hm⟩
  ·replace hm:ziu c j=none:=hm;refine Jq 8 [(3,.g (xD 29 27 ki_1 (za7 hka (f:=zas.d)) (dO 28 _))),(6,.call (dN (SRmove c j lmv) (yJ (vi .i64) hix)))] [(2,vN ki),(3,vp 5 0),(4,vp 6 0),(6,vb false),(7,vO 7 (zbg (zbx s) c j).length),(8,vN j),(9,vI (-1))] [(5,.box (zcn s)),(6,.box [cIs x.locs,cZs x.vals]),(7,.row 28 2 ((zbg (zbx s) c j).map ziD))] h fun a w h=>Je 8 [(1,.cmp (op:=.geq) (m:=(-1)) (n:=0) (b:=false) .i64 rfl)] [9] [(46,vb false)] h fun a w h=>zau h (qU (za6 (za1 (Jf 8 [(1,.j1 j)] [46] [(8,vI ((j:Int)+1))] h fun a w h=>za1 ?_))));replace h:=cvM [] [(7,vO 7 (zbg (zbx s) c (j+1)).length)] [] [(7,.row 28 2 ((zbg (zbx s) c (j+1)).map ziD))] (by rw [<- show ((zbg (zbx s) c j):List ZI)=(zbg (zbx s) c (j+1)) from (freeL_kept (zhg hm))]; try kernel_rfl) h;refine zaa (x:=j) (y:=j+1) h ?_ ?_
   ·show j+1<=x.vals.length;omega
   show x.vals.length - (j+1)<x.vals.length - j;omega
  replace hm:ziu c j=some m:=hm;have lmk:=zab hmk;refine Jq 8 [(3,.g (xD 29 27 ki_1 (za7 hka (f:=zas.d)) (dO 28 _))),(6,.call (dN (SRmove c j lmv) (yJ (vi .i64) hix)))] [(2,vN ki),(3,vp 5 0),(4,vp 6 0),(6,vb false),(7,vO 7 (zbg (zbx s) c j).length),(8,vN j),(9,vN k)] [(5,.box (zcn s)),(6,.box [cIs x.locs,cZs x.vals]),(7,.row 28 2 ((zbg (zbx s) c j).map ziD))] h fun a w h=>Je 8 [(1,.cmp (op:=.geq) (m:=(k:Int)) (n:=0) (b:=true) .i64 (show (decide ((k:Int)>=0))=true from yQ (by omega))),(6,.g (xD 39 37 ki_1 (za7 hka (f:=zas.d)) (dO 38 _))),(10,.g (xD 43 41 ki_2 (za7 hmk (f:=d5)) (dO 42 _)))] [9] [(46,vb m.any)] h fun a w h=>cS m.any h (fun hc4=>?_) (fun hc9=>?_)
  ·refine Jg 8 [] [46] [(10,vp 8 0)] [] [(8,.box [cB false,.d (nsl [])])] h fun a w h=>qW ?_
   rcases bG (decide ((j:Int)<(s.bounds.length:Int))) with hc5 | hc8
   ·have hc5':=dT hc5;obtain ⟨x4,hx4⟩:=gl s.bounds j;refine Je 9 [(3,.len (za3 5 d6 s.bounds)),(4,.cmp (op:=.lss) (m:=(j:Int)) (n:=(s.bounds.length:Int)) (b:=true) .i64 hc5),(9,.g (xD 57 55 kf_0 (za7 hx4 (f:=d6)) (dO 56 _)))] [] [(60,vb x4.is_)] h fun a w h=>cS x4.is_ h (fun hc6=>?_) (fun hc7=>?_)
    ·refine Jh 9 [(3,.g (xD 64 62 kf_0 (za7 hx4 (f:=d6)) (dO 63 _)))] [60] [] [] [(8,.box (zi x4.lo))] h fun a w h=>za1 (Jh 9 [(2,.g (bD 69 ([x4.lo].map ziD) [(68,vz x4.lo)] ty_5 (.cons (i:=0) (dO 68 _) (.nil)) (by kernel_rfl) (by simp [ziD]))),(3,.g (aD 70 67 69 7 9 (zbg (zbx s) c j) [x4.lo] ziD kk_4 (by simp [ziD])))] [10] [(7,vO 9 ((zbg (zbx s) c j)++[x4.lo]).length)] [7,8] [(9,.row 28 2 (((zbg (zbx s) c j)++[x4.lo]).map ziD))] h fun a w h=>za6 (za1 (Jf 10 [(1,.j1 j)] [] [(8,vI ((j:Int)+1))] h fun a w h=>za1 ?_)));rw [show (((zbg (zbx s) c j)++[x4.lo]):List ZI)=(zbg (zbx s) c (j+1)) from (zkl (zci hm hc4) (by unfold zbx zbm;rw [hx4,bU,if_pos hc6]))] at h;replace h:=zd7 9 7 h;refine zaa (x:=j) (y:=j+1) h ?_ ?_
     ·show j+1<=x.vals.length;omega
     show x.vals.length - (j+1)<x.vals.length - j;omega
    refine qU (za1 (Jh 10 [(2,.g (bD 69 ([(ZI.mk false [])].map ziD) [(68,vG [cB false,.d (nsl [])])] ty_5 (.cons (i:=0) (dO 68 _) (.nil)) (by kernel_rfl) (by simp [ziD]))),(3,.g (aD 70 67 69 7 10 (zbg (zbx s) c j) [(ZI.mk false [])] ziD kk_4 (by simp [ziD])))] [10,60] [(7,vO 10 ((zbg (zbx s) c j)++[(ZI.mk false [])]).length)] [7,8] [(10,.row 28 2 (((zbg (zbx s) c j)++[(ZI.mk false [])]).map ziD))] h fun a w h=>za6 (za1 (Jf 11 [(1,.j1 j)] [] [(8,vI ((j:Int)+1))] h fun a w h=>za1 ?_))));rw [show (((zbg (zbx s) c j)++[(ZI.mk false [])]):List ZI)=(zbg (zbx s) c (j+1)) from (zkl (zci hm hc4) (by unfold zbx zbm;rw [hx4,bU,if_neg (by rw [hc7];exact Bool.noConfusion)];try rfl))] at h;replace h:=zd7 10 7 h;refine zaa (x:=j) (y:=j+1) h ?_ ?_
    ·show j+1<=x.vals.length;omega
    show x.vals.length - (j+1)<x.vals.length - j;omega
   have hc8':=dF hc8;refine Je 11 [(3,.len (za3 5 d6 s.bounds)),(4,.cmp (op:=.lss) (m:=(j:Int)) (n:=(s.bounds.length:Int)) (b:=false) .i64 hc8)] [] [(60,vb false)] h fun a w h=>zau h (qU (za1 (Jh 11 [(2,.g (bD 69 ([(ZI.mk false [])].map ziD) [(68,vG [cB false,.d (nsl [])])] ty_5 (.cons (i:=0) (dO 68 _) (.nil)) (by kernel_rfl) (by simp [ziD]))),(3,.g (aD 70 67 69 7 11 (zbg (zbx s) c j) [(ZI.mk false [])] ziD kk_4 (by simp [ziD])))] [10,60] [(7,vO 11 ((zbg (zbx s) c j)++[(ZI.mk false [])]).length)] [7,8] [(11,.row 28 2 (((zbg (zbx s) c j)++[(ZI.mk false [])]).map ziD))] h fun a w h=>za6 (za1 (Jf 12 [(1,.j1 j)] [] [(8,vI ((j:Int)+1))] h fun a w h=>za1 ?_)))));rw [show (((zbg (zbx s) c j)++[(ZI.mk false [])]):List ZI)=(zbg (zbx s) c (j+1)) from (zkl (zci hm hc4) (by unfold zbx zbm;rw [b6 (by have:=dF hc8;omega)];rfl))] at h;replace h:=zd7 11 7 h;refine zaa (x:=j) (y:=j+1) h ?_ ?_
   ·show j+1<=x.vals.length;omega
   show x.vals.length - (j+1)<x.vals.length - j;omega
  refine qU (za6 (za1 (Jf 12 [(1,.j1 j)] [46] [(8,vI ((j:Int)+1))] h fun a w h=>za1 ?_)));replace h:=cvM [] [(7,vO 7 (zbg (zbx s) c (j+1)).length)] [] [(7,.row 28 2 ((zbg (zbx s) c (j+1)).map ziD))] (by rw [<- show ((zbg (zbx s) c j):List ZI)=(zbg (zbx s) c (j+1)) from (freeL_kept (zci hm hc9))]; try kernel_rfl) h;refine zaa (x:=j) (y:=j+1) h ?_ ?_
  ·show j+1<=x.vals.length;omega
  show x.vals.length - (j+1)<x.vals.length - j;omega
 refine exA ?_;replace h:=cvM [] [(7,vO 7 (zbg (zbx s) c s.vars.length).length)] [] [(7,.row 28 2 ((zbg (zbx s) c s.vars.length).map ziD))] (by rw [<- show ((zbg (zbx s) c j):List ZI)=(zbg (zbx s) c s.vars.length) from (by rw [show j=s.vars.length by omega])]; try kernel_rfl) h;replace h:=zj2 7 2 28 ((zbg (zbx s) c s.vars.length).map ziD) h [(zbg (zbx s) c s.vars.length).length] ⟨by first | exact (bK _).symm | (simp;done) | (simp;omega),trivial⟩;refine Jq 12 [(4,.call (SRGo3 s x ki (zbg (zbx s) c s.vars.length) c (L:=L) (M:=L+M) (by omega) hs (hx.mono (by omega)) (fun z hz=>⟨(zm5 (low_ok hs) c _ z hz).1,bJ (zm5 (low_ok hs) c _ z hz).2 (by omega)⟩) hka (by rw [zfc];have:=cnt_le c s.vars.length;omega)))] [(6,vb false),(12,vb (goC s x c (zbg (zbx s) c s.vars.length)).2)] [] h fun a w h=>Jq 13 [] [(6,vb (goC s x c (zbg (zbx s) c s.vars.length)).2)] [] h fun a w h=>qV (rT (.c (cB (goC s x c (zbg (zbx s) c s.vars.length)).2)) h rfl ?_);rw [<- can_goC];try rfl
theorem SRCan (s:zan) (x:StD) (i:Int) {L:Nat} (hL:L+M<=1900) (hs:zbh L s) (hx:zhp M x):Fn dM 78 [] [vG (zcn s),vG [cIs x.locs,cZs x.vals],vi .i64 i] (vb (can s x i)) []:=by
 unfold can
 cases hi:zeh s i with
 | none=>exact SRCanN s x i hL hs hx hi
 | some c=>obtain ⟨ki,rfl,hka⟩:=zky hi;exact SRCanS s x ki c hL hs hx hka
theorem SRStuck (s:zan) (x:StD) {L:Nat} (hL:L+M<=1900) (hs:zbh L s) (hx:zhp M x):Fn dM 44 [] [vG (zcn s),vG [cIs x.locs,cZs x.vals]] (vb (ziq s x)) []:=by
 have lx1:=hx.locs;have lx2:=hx.vals;have ls1:=hs.vars;have ls2:=hs.procs;have las:=hs.acts;refine fB Tryz.func44 rfl 20 fun w H B a h=>Jq 0 [] [(2,vp 0 0),(3,vp 1 0),(4,vb false)] [(0,.box (zcn s)),(1,.box [cIs x.locs,cZs x.vals])] h fun a w h=>qW (Je 2 [] [] [(5,vI 0)] h fun a w h=>qZ ?_)
 refine zbw (ι:=(Nat)) (fun j=>j<=s.acts.length/\zg8 j (fun i=>!can s x (i:Int))=true)
   [4] (fun j=>[(5,vN j)])
   [] (fun j=>[])
   (fun j=>s.acts.length - j) 0 ?_ h ?_
 ·exact ⟨bF _,rfl⟩
 clear h;rintro j a w hI h;obtain ⟨hI1,hI2⟩:=hI;refine qW (Je 2 [(3,.len (za3 10 zas.d s.acts))] [] [(10,vb (decide ((j:Int)<(s.acts.length:Int))))] h fun a w h=>zad ((j:Int)<(s.acts.length:Int)) h (fun hc1 hc1'=>?_) (fun hc4 hc4'=>?_))
 ·refine qU (za1 (qW (qZ (Je 2 [(3,.call (SRCan s x (j:Int) hL hs hx))] [10] [(16,vb (can s x (j:Int)))] h fun a w h=>cS (can s x (j:Int)) h (fun hc2=>?_) (fun hc3=>?_)))))
  ·refine Je 2 [] [16] [(4,vb false)] h fun a w h=>qV (za8 (za5 (za5 (za8 (za5 (rT (.c (cB false)) h rfl ?_))))));have hz:ziq s x=false:=by unfold ziq;rw [zc2 (j:=j) (by have:=dT hc1;omega) (show (!can s x (j:Int))=false by rw [hc2];rfl)];rfl
   rw [hz];try rfl
  refine qU (za6 (za1 (Jf 2 [(1,.j1 j)] [16] [(5,vI ((j:Int)+1))] h fun a w h=>za1 (zaa (x:=j) (y:=j+1) h ?_ ?_))))
  ·exact ⟨by omega,zbn hI2 (by rw [hc3];rfl)⟩
  show s.acts.length - (j+1)<s.acts.length - j;omega
 refine exA (Jq 2 [(2,.call (SRFits s x (L:=L) (M:=M) (by omega) hs hx))] [(4,vb (zd2 s x))] [] h fun a w h=>qV (rT (.c (cB (zd2 s x))) h rfl ?_));have hz:ziq s x=(zd2 s x):=by unfold ziq;rw [show s.acts.length=j by have:=dF hc4;omega,hI2];rfl
 rw [hz];try rfl
def zlg (x:StD) (c:zas) (y:StD) (p:Nat):Bool:=(y.locs[p]?).getD 0 == (if (p:Int)=c.proc then c.to_ else (x.locs[p]?).getD 0)
def zj4 (x:StD) (c:zas) (y:StD) (v:Nat):Bool:=zbl c v || decide ((zid x c v).val=((y.vals[v]?).getD ze3).val)
def zcy (s:zan) (x:StD) (c:zas) (y:StD):Bool:=(zap s x c && zd2 s y) && (zg8 x.locs.length (zlg x c y) && zg8 x.vals.length (zj4 x c y))
theorem out_loc {c:zas} (h:zap s x c=true) {p:Nat} (hp:p<x.locs.length):(zf5 s x c picks).locs[p]?=some (if (p:Int)=c.proc then c.to_ else (x.locs[p]?).getD 0):=by
 have hpr:=zfw h
 by_cases e:(p:Int)=c.proc
 ·rw [if_pos e,show p=c.proc.toNat by omega];simp only [zf5];exact dC (by omega)
 ·rw [if_neg e];simp only [zf5];rw [dL (by omega),b8 hp];rfl
theorem out_val {c:zas} (hv:v<s.vars.length):(zf5 s x c picks).vals[v]?=some (zfm x c picks v):=by simp [zf5,cM,List.getElem?_range hv]
theorem zft (s:zan) (x:StD) (c:zas) (y:StD):zcy s x c y=leadsC s x c y:=by
 unfold zcy leadsC
 cases he:zap s x c with
 | false=>rfl
 | true =>
  cases hy:zd2 s y with
  | false=>rfl
  | true =>
   rw [bE,bE,bE]
   have lx:=zdi (zdr he);have ly:=zdi hy
   have hn:∀ v,v<s.vars.length->(zfm x c (zeo y c s.vars.length) v).val=if zbl c v=true then ((y.vals[v]?).getD ze3).val else (zid x c v).val:=fun v hv=>by
    by_cases hf:zbl c v=true
    ·rw [if_pos hf,newV_at hf (by rw [picks_freeL];exact freeL_at _ c hf _ hv),ZI.val_of]
    ·rw [if_neg hf,zlt (by simpa using hf)]
   have key:(zd2 s (zf5 s x c (zeo y c s.vars.length))=true/\zgq y (zf5 s x c (zeo y c s.vars.length))=true) ↔ (zg8 x.locs.length (zlg x c y)=true/\zg8 x.vals.length (zj4 x c y)=true):=by
    unfold zgq
    simp only [bN,decide_eq_true_eq,zd5]
    constructor
    ·rintro ⟨_,h1,h2⟩
     refine ⟨fun p hp=>?_,fun v hv=>?_⟩
     ·unfold zlg;rw [h1,out_loc he hp];simp
     ·unfold zj4
      have hv':v<s.vars.length:=by omega
      have h3:=yJ (fun l=>l[v]?) h2
      simp only [cM,out_val hv', cZ] at h3
      cases hz:y.vals[v]? with
      | none=>rw [hz] at h3;cases h3
      | some z =>
       rw [hz] at h3
       simp only [cZ,Option.some.injEq] at h3
       rw [hn v hv', hz] at h3
       by_cases hf:zbl c v=true
       ·rw [hf];rfl
       ·rw [if_neg hf] at h3;rw [bU,yQ h3.symm,Bool.or_true]
    ·rintro ⟨h1,h2⟩
     have e1:y.locs=(zf5 s x c (zeo y c s.vars.length)).locs:=by
      refine List.ext_getElem? fun p=>?_
      by_cases hp:p<x.locs.length
      ·have:=h1 p hp;unfold zlg at this;rw [out_loc he hp]
       rw [b8 (by omega)] at this ⊢
       simp at this;rw [this]
      ·rw [b6 (by omega),b6 (by simp only [zf5,dB];omega)]
     have e2:y.vals.map ZI.val=(zf5 s x c (zeo y c s.vars.length)).vals.map ZI.val:=by
      refine List.ext_getElem? fun v=>?_
      simp only [cM]
      by_cases hv:v<s.vars.length
      ·rw [out_val hv]
       have:=h2 v (by omega);unfold zj4 at this
       rw [b8 (by omega)] at this ⊢
       simp only [cZ,Option.some.injEq,bU] at this ⊢
       rw [hn v hv]
       by_cases hf:zbl c v=true
       ·rw [if_pos hf,b8 (by omega)];rfl
       ·rw [if_neg hf];rw [show zbl c v=false by simpa using hf,Bool.false_or] at this;exact (of_decide_eq_true this).symm
      ·rw [b6 (by omega),b6 (by simp [zf5];omega)]
     refine ⟨?_,e1,e2⟩
     rw [fits_out _ he,zd5]
     intro v hv
     have h3:=vals_in hy (i:=v) (by omega)
     unfold valOk at h3
     rw [<- h3]
     refine within_val ?_
     have h4:=yJ (fun l=>l[v]?) e2
     simp only [cM,out_val hv] at h4
     rw [b8 (by omega)] at h4 ⊢
     simp only [cZ,Option.some.injEq,bU] at h4 ⊢
     exact h4.symm
   unfold goC
   by_cases hfo:zd2 s (zf5 s x c (zeo y c s.vars.length))=true
   ·rw [if_pos ⟨he,hfo⟩,bE]
    rw [Bool.eq_iff_iff,bN]
    exact ⟨fun h=>(key.2 h).2,fun h=>key.1 ⟨hfo,h⟩⟩
   ·rw [if_neg (fun h=>hfo h.2)]
    have:¬ (zg8 x.locs.length (zlg x c y)=true/\zg8 x.vals.length (zj4 x c y)=true):=fun h=>hfo (key.2 h).1
    rw [<- bN] at this
    simpa using this
theorem SRLeads1 (s:zan) (x y:StD) {L:Nat} (hL:L+M<=1900) (hs:zbh L s) (hx:zhp M x) (hy:zhp M y):Fn dM 37 [] [vG (zcn s),vG [cIs x.locs,cZs x.vals],vI (-1),vG [cIs y.locs,cZs y.vals]] (vb (ziq s x && zgq x y)) []:=by
 refine fB Tryz.func37 rfl 110 fun w H B a h=>Jq 0 [] [(2,vI (-1)),(4,vp 0 0),(5,vp 1 0),(7,vp 2 0),(8,vb false)] [(0,.box (zcn s)),(1,.box [cIs x.locs,cZs x.vals]),(2,.box [cIs y.locs,cZs y.vals])] h fun a w h=>qW (Je 3 [(1,.cmp (op:=.eql) (m:=(-1)) (n:=(-1)) (b:=true) .i64 rfl)] [] [(16,vb true)] h fun a w h=>cS true h (fun _=>?_) nofun)
 rcases bG (ziq s x) with hc1 | hc2
 ·refine Je 3 [(2,.call (dN (SRStuck s x hL hs hx) (yJ vb hc1))),(6,.call (SRSame18 x y (M:=M) (by omega) hx hy))] [16] [(8,vb (zgq x y))] h fun a w h=>qV (za5 (rT (.c (cB (zgq x y))) h rfl ?_));rw [hc1];try rfl
 refine Je 3 [(2,.call (dN (SRStuck s x hL hs hx) (yJ vb hc2)))] [16] [] h fun a w h=>qV (za5 (rT (.c (cB false)) h rfl ?_));rw [hc2];try rfl
theorem SRLeads2 (s:zan) (x:StD) (i:Int) (y:StD) {L:Nat} (hL:L+M<=1900) (hs:zbh L s) (hx:zhp M x) (hy:zhp M y) (hi:zeh s i=none) (hn:i≠-1):Fn dM 37 [] [vG (zcn s),vG [cIs x.locs,cZs x.vals],vI i,vG [cIs y.locs,cZs y.vals]] (vb false) []:=by
 refine fB Tryz.func37 rfl 110 fun w H B a h=>Jq 0 [] [(2,vI i),(4,vp 0 0),(5,vp 1 0),(7,vp 2 0),(8,vb false)] [(0,.box (zcn s)),(1,.box [cIs x.locs,cZs x.vals]),(2,.box [cIs y.locs,cZs y.vals])] h fun a w h=>qW (Je 3 [(1,.cmp (op:=.eql) (m:=i) (n:=(-1)) (b:=false) .i64 (beq_eq_false_iff_ne.2 hn))] [] [(16,vb false)] h fun a w h=>zau h (qU (za1 (qW (Je 3 [(3,.call (SRbeginsN s x i (by omega) hs hx hi))] [16] [(35,vb true)] h fun a w h=>cS true h (fun _=>?_) nofun)))))
 refine Je 3 [] [35] [] h fun a w h=>qV (za5 (rT (.c (cB false)) h rfl ?_));rfl
theorem SRLeads3 (s:zan) (x:StD) (ki:Nat) (y:StD) (c:zas) {L:Nat} (hL:L+M<=1900) (hs:zbh L s) (hx:zhp M x) (hy:zhp M y) (hka:s.acts[ki]?=some c):Fn dM 37 [] [vG (zcn s),vG [cIs x.locs,cZs x.vals],vN ki,vG [cIs y.locs,cZs y.vals]] (vb (leadsC s x c y)) []:=by
 have lx1:=hx.locs;have lx2:=hx.vals;have ls1:=hs.vars;have ls2:=hs.procs;have lki:=zab hka;have hc:zgy L c:=hs.act c (lM hka);have lmv:=hc.len;have lvv:=hx.vals;refine fB Tryz.func37 rfl 110 fun w H B a h=>Jq 5 [] [(2,vN ki),(4,vp 5 0),(5,vp 6 0),(7,vp 7 0),(8,vb false)] [(5,.box (zcn s)),(6,.box [cIs x.locs,cZs x.vals]),(7,.box [cIs y.locs,cZs y.vals])] h fun a w h=>qW (Je 8 [(1,.cmp (op:=.eql) (m:=(ki:Int)) (n:=(-1)) (b:=false) .i64 (beq_eq_false_iff_ne.2 (by omega)))] [] [(16,vb false)] h fun a w h=>zau h (qU (za1 (qW ?_))))
 rcases bG (zap s x c) with hc1 | hc20
 ·refine Je 8 [(3,.call (dN (zjz s x ki c (L:=L) (M:=M) (by omega) hs hx hka) (yJ vb hc1))),(8,.call (SRFits s y (L:=L) (M:=M) (by omega) hs hy))] [16] [(35,vb (!(zd2 s y)))] h fun a w h=>cS (!(zd2 s y)) h (fun hc2=>?_) (fun hc3=>?_)
  ·refine Je 8 [] [35] [] h fun a w h=>qV (za5 (rT (.c (cB false)) h rfl ?_));have hz:zcy s x c y=false:=by unfold zcy;rw [hc1,(show (zd2 s y)=false from by simpa using hc2)];rfl
   rw [<- zft,hz];try rfl
  refine qU (za1 (Jg 8 [(3,.g (xD 39 37 ki_1 (za7 hka (f:=zas.d)) (dO 38 _)))] [2,4,35] [(9,vp 8 0)] [5] [(8,.box (acC c))] h fun a w h=>qW ?_));have hen:=hc1;have hfl:=zdi (zdr hen);have hpr:=zfw hen;have hfy:=zdi (show (zd2 s y)=true from by simpa using hc3);refine Je 9 [] [] [(10,vI 0)] h fun a w h=>qZ ?_
  refine zbw (ι:=(Nat)) (fun j=>j<=x.locs.length/\zg8 j (zlg x c y)=true)
    [8] (fun j=>[(10,vN j)])
    [] (fun j=>[])
    (fun j=>x.locs.length - j) 0 ?_ h ?_
  ·exact ⟨bF _,rfl⟩
  clear h;rintro j a w hI h;obtain ⟨hj1,hj2⟩:=hI;refine qW (Je 9 [(3,.len (za3 1 zal x.locs))] [] [(45,vb (decide ((j:Int)<(x.locs.length:Int))))] h fun a w h=>zad ((j:Int)<(x.locs.length:Int)) h (fun hc4 hc4'=>?_) (fun hc11 hc11'=>?_))
  ·refine qU (za1 (qW (qZ ?_)));obtain ⟨x4,hx4⟩:=gl x.locs j;refine Je 9 [(3,.g (xD 51 49 zh0 (za7 hx4 (f:=zal)) (dO 50 _)))] [45] [(11,vI x4)] h fun a w h=>qW (Je 9 [] [] [(56,vb ((j:Int) == c.proc))] h fun a w h=>cS ((j:Int) == c.proc) h (fun hc5=>?_) (fun hc8=>?_))
   ·refine Jf 9 [] [56] [(11,vI c.to_)] h fun a w h=>za1 ?_;obtain ⟨x5,hx5⟩:=gl y.locs j;refine Je 9 [(3,.g (xD 62 60 zh0 (za7 hx5 (f:=zal)) (dO 61 _)))] [11] [(65,vb (x5 != c.to_))] h fun a w h=>cS (x5 != c.to_) h (fun hc6=>?_) (fun hc7=>?_)
    ·refine Je 9 [] [65] [(8,vb false)] h fun a w h=>qV (za8 (za5 (za5 (za8 (za5 (rT (.c (cB false)) h rfl ?_))))));have hz:zcy s x c y=false:=by unfold zcy;rw [hc1,(show (zd2 s y)=true from by simpa using hc3),bE,bE];rw [zc2 (j:=j) (by have:=dT hc4;omega) (show zlg x c y j=false from (by unfold zlg;rw [if_pos (by have:=hc5;simpa using this),hx5];have:=hc6;simpa using this))];rfl
     rw [<- zft,hz];try rfl
    refine qU (za6 (za1 (Jf 9 [(1,.j1 j)] [65] [(10,vI ((j:Int)+1))] h fun a w h=>za1 (zaa (x:=j) (y:=j+1) h ?_ ?_))))
    ·exact ⟨by omega,zbn hj2 (by unfold zlg;rw [if_pos (by have:=hc5;simpa using this),hx5];have:=hc7;simpa using this)⟩
    show x.locs.length - (j+1)<x.locs.length - j;omega
   refine qU (za1 ?_);obtain ⟨x6,hx6⟩:=gl y.locs j;refine Je 9 [(3,.g (xD 62 60 zh0 (za7 hx6 (f:=zal)) (dO 61 _)))] [11,56] [(65,vb (x6 != x4))] h fun a w h=>cS (x6 != x4) h (fun hc9=>?_) (fun hc10=>?_)
   ·refine Je 9 [] [65] [(8,vb false)] h fun a w h=>qV (za8 (za5 (za5 (za8 (za5 (rT (.c (cB false)) h rfl ?_))))));have hz:zcy s x c y=false:=by unfold zcy;rw [hc1,(show (zd2 s y)=true from by simpa using hc3),bE,bE];rw [zc2 (j:=j) (by have:=dT hc4;omega) (show zlg x c y j=false from (by unfold zlg;rw [if_neg (by have:=hc8;simpa using this),hx4,hx6];have:=hc9;simpa using this))];rfl
    rw [<- zft,hz];try rfl
   refine qU (za6 (za1 (Jf 9 [(1,.j1 j)] [65] [(10,vI ((j:Int)+1))] h fun a w h=>za1 (zaa (x:=j) (y:=j+1) h ?_ ?_))))
   ·exact ⟨by omega,zbn hj2 (by unfold zlg;rw [if_neg (by have:=hc8;simpa using this),hx4,hx6];have:=hc10;simpa using this)⟩
   show x.locs.length - (j+1)<x.locs.length - j;omega
  refine exA (qW (Je 9 [] [10,45] [(12,vI 0)] h fun a w h=>qZ ?_))
  refine zbw (ι:=(Nat)) (fun i=>i<=x.vals.length/\zg8 i (zj4 x c y)=true)
    [] (fun i=>[(12,vN i)])
    [] (fun i=>[])
    (fun i=>x.vals.length - i) 0 ?_ h ?_
  ·exact ⟨bF _,rfl⟩
  clear h;rintro i a w hI h;obtain ⟨hi1,hi2⟩:=hI;refine qW (Je 9 [(3,.len (za3 2 ziD x.vals))] [] [(70,vb (decide ((i:Int)<(x.vals.length:Int))))] h fun a w h=>zad ((i:Int)<(x.vals.length:Int)) h (fun hc12 hc12'=>?_) (fun hc19 hc19'=>?_))
  ·refine qU (za1 (qW (qZ ?_)))
   rcases idxB_find (fun m=>m.v == (i:Int)) c.moves with ⟨hix,hm⟩ | ⟨k,m,hix,hmk,hm⟩
   ·replace hm:ziu c i=none:=hm;refine Jq 9 [(2,.call (dN (SRmove c i lmv) (yJ (vi .i64) hix)))] [(5,vp 6 0),(7,vp 7 0),(9,vp 8 0),(12,vN i),(13,vI (-1))] [(6,.box [cIs x.locs,cZs x.vals]),(7,.box [cIs y.locs,cZs y.vals]),(8,.box (acC c))] h fun a w h=>?_;obtain ⟨x8,hx8⟩:=gl x.vals i;have gx8:=hx.val x8 (lM hx8);have lgx8:=gx8.2;refine Jg 9 [(3,.g (xD 79 77 tt_6 (za7 hx8 (f:=ziD)) (dO 78 _)))] [] [(14,vp 9 0)] [] [(9,.box (zi x8))] h fun a w h=>qW (Je 10 [(1,.cmp (op:=.geq) (m:=(-1)) (n:=0) (b:=false) .i64 rfl)] [] [(90,vb false)] h fun a w h=>zau h (qU (za1 (qW (Je 10 [(1,.cmp (op:=.geq) (m:=(-1)) (n:=0) (b:=false) .i64 rfl)] [90] [(92,vb false)] h fun a w h=>zau h (qU (za1 ?_)))))));obtain ⟨x9,hx9⟩:=gl y.vals i;have gx9:=hy.val x9 (lM hx9);have lgx9:=gx9.2;refine Jg 10 [(4,.g (xD 106 104 tt_6 (za7 hx9 (f:=ziD)) (dO 105 _))),(6,.call (SRCmp x8 x9 gx8.1 gx9.1 (by omega) (by omega)))] [13,14,92] [(109,vb (zbo x8.val x9.val != 0))] [9] [] h fun a w h=>cS (zbo x8.val x9.val != 0) h (fun hc13=>?_) (fun hc14=>?_)
    ·refine Je 10 [] [109] [(8,vb false)] h fun a w h=>qV (za8 (za5 (za5 (za8 (za5 (rT (.c (cB false)) h rfl ?_))))));have hz:zcy s x c y=false:=by unfold zcy;rw [hc1,(show (zd2 s y)=true from by simpa using hc3),bE,bE];rw [show x.locs.length=j by have:=dF hc11;omega,hj2,bE];rw [zc2 (j:=i) (by have:=dT hc12;omega) (show zj4 x c y i=false from (by unfold zj4;rw [zhg hm,new_none hm hx8,show (clZ x8).val=x8.val from ZI.val_of _,hx9];have:=hc13;rw [zkt] at this;simpa using this))]
     rw [<- zft,hz];try rfl
    refine qU (za6 (za1 (Jf 10 [(1,.j1 i)] [109] [(12,vI ((i:Int)+1))] h fun a w h=>za1 (zaa (x:=i) (y:=i+1) h ?_ ?_))))
    ·exact ⟨by omega,zbn hi2 (by unfold zj4;rw [zhg hm,new_none hm hx8,show (clZ x8).val=x8.val from ZI.val_of _,hx9];have:=hc14;rw [zkt] at this;simpa using this)⟩
    show x.vals.length - (i+1)<x.vals.length - i;omega
   replace hm:ziu c i=some m:=hm;have lmk:=zab hmk;refine Jq 9 [(2,.call (dN (SRmove c i lmv) (yJ (vi .i64) hix)))] [(5,vp 6 0),(7,vp 7 0),(9,vp 8 0),(12,vN i),(13,vN k)] [(6,.box [cIs x.locs,cZs x.vals]),(7,.box [cIs y.locs,cZs y.vals]),(8,.box (acC c))] h fun a w h=>?_;obtain ⟨x12,hx12⟩:=gl x.vals i;have gx12:=hx.val x12 (lM hx12);have lgx12:=gx12.2;refine Jg 9 [(3,.g (xD 79 77 tt_6 (za7 hx12 (f:=ziD)) (dO 78 _)))] [] [(14,vp 9 0)] [] [(9,.box (zi x12))] h fun a w h=>qW (Je 10 [(1,.cmp (op:=.geq) (m:=(k:Int)) (n:=0) (b:=true) .i64 (show (decide ((k:Int)>=0))=true from yQ (by omega))),(6,.g (xD 87 85 ki_2 (za7 hmk (f:=d5)) (dO 86 _)))] [] [(90,vb m.any)] h fun a w h=>cS m.any h (fun hc15=>?_) (fun hc16=>?_))
   ·refine wp_exit (zcb (zaz (za1 (Jh 10 [(1,.j1 i)] [13,14,90] [(12,vI ((i:Int)+1))] [9] [] h fun a w h=>za1 (zaa (x:=i) (y:=i+1) h ?_ ?_)))))
    ·exact ⟨by omega,zbn hi2 (by unfold zj4;rw [zci hm hc15];rfl)⟩
    show x.vals.length - (i+1)<x.vals.length - i;omega
   refine qU (za1 (qW (Je 10 [(1,.cmp (op:=.geq) (m:=(k:Int)) (n:=0) (b:=true) .i64 (show (decide ((k:Int)>=0))=true from yQ (by omega)))] [90] [(92,vb true)] h fun a w h=>cS true h (fun _=>?_) nofun)));obtain ⟨r13,er13,vr13,or13,lr13⟩:=mkZ (v:=zd6 m.t x.vals) (m:=L+M+2) (bJ (val_len (hc.mv m (lM hmk)) (by decide) hx.vok (fun p hp=>hp) (bI _)) (by omega));refine Jh 10 [(3,.g (xD 96 94 ki_2 (za7 hmk (f:=d5)) (dO 95 _))),(8,.call (dN (SRValue m.t x.vals (hc.mv m (lM hmk)) (by decide) (by omega) hx.vok) (yJ vz er13.symm)))] [13,92] [] [] [(9,.box (zi r13))] h fun a w h=>za1 ?_;obtain ⟨x14,hx14⟩:=gl y.vals i;have gx14:=hy.val x14 (lM hx14);have lgx14:=gx14.2;refine Jg 10 [(4,.g (xD 106 104 tt_6 (za7 hx14 (f:=ziD)) (dO 105 _))),(6,.call (SRCmp r13 x14 or13 gx14.1 (by omega) (by omega)))] [14] [(109,vb (zbo r13.val x14.val != 0))] [9] [] h fun a w h=>cS (zbo r13.val x14.val != 0) h (fun hc17=>?_) (fun hc18=>?_)
   ·refine Je 10 [] [109] [(8,vb false)] h fun a w h=>qV (za8 (za5 (za5 (za8 (za5 (rT (.c (cB false)) h rfl ?_))))));have hz:zcy s x c y=false:=by unfold zcy;rw [hc1,(show (zd2 s y)=true from by simpa using hc3),bE,bE];rw [show x.locs.length=j by have:=dF hc11;omega,hj2,bE];rw [zc2 (j:=i) (by have:=dT hc12;omega) (show zj4 x c y i=false from (by unfold zj4;rw [zci hm hc16,new_some hm hc16,ZI.val_of,<- vr13,hx14];have:=hc17;rw [zkt] at this;simpa using this))]
    rw [<- zft,hz];try rfl
   refine qU (za6 (za1 (Jf 10 [(1,.j1 i)] [109] [(12,vI ((i:Int)+1))] h fun a w h=>za1 (zaa (x:=i) (y:=i+1) h ?_ ?_))))
   ·exact ⟨by omega,zbn hi2 (by unfold zj4;rw [zci hm hc16,new_some hm hc16,ZI.val_of,<- vr13,hx14];have:=hc18;rw [zkt] at this;simpa using this)⟩
   show x.vals.length - (i+1)<x.vals.length - i;omega
  refine exA (Jq 10 [] [(8,vb true)] [] h fun a w h=>qV (rT (.c (cB true)) h rfl ?_));have hz:zcy s x c y=true:=by unfold zcy;rw [hc1,(show (zd2 s y)=true from by simpa using hc3),bE,bE];rw [show x.locs.length=j by have:=dF hc11;omega,hj2,bE];rw [show x.vals.length=i by have:=dF hc19;omega,hi2]
  rw [<- zft,hz];try rfl
 refine Je 10 [(3,.call (dN (zjz s x ki c (L:=L) (M:=M) (by omega) hs hx hka) (yJ vb hc20)))] [16] [(35,vb true)] h fun a w h=>cS true h (fun _=>?_) nofun
 refine Je 10 [] [35] [] h fun a w h=>qV (za5 (rT (.c (cB false)) h rfl ?_));have hz:zcy s x c y=false:=by unfold zcy;rw [hc20];rfl
 rw [<- zft,hz];try rfl
theorem SRLeads (s:zan) (x:StD) (i:Int) (y:StD) {L:Nat} (hL:L+M<=1900) (hs:zbh L s) (hx:zhp M x) (hy:zhp M y):Fn dM 37 [] [vG (zcn s),vG [cIs x.locs,cZs x.vals],vi .i64 i,vG [cIs y.locs,cZs y.vals]] (vb (ze4 s x i y)) []:=by
 by_cases hn:i=-1
 ·subst hn;unfold ze4;rw [if_pos rfl];exact SRLeads1 s x y hL hs hx hy
 ·cases hi:zeh s i with
  | none=>unfold ze4;rw [if_neg hn,hi];exact SRLeads2 s x i y hL hs hx hy hi hn
  | some c=>unfold ze4;rw [if_neg hn,hi];obtain ⟨ki,rfl,hka⟩:=zky hi;exact SRLeads3 s x ki y c hL hs hx hy hka
def zao (r:zib) (i:Nat):StD:=((r.stem++r.cycle)[i]?).getD st0
theorem zei {r:zib} (h:RunOk M r) (i:Nat):zhp M (zao r i):=by
 unfold zao
 cases hx:(r.stem++r.cycle)[i]? with
 | none=>exact st0_ok
 | some x=>exact h.all x (cH hx)
theorem zh8 (s:zan) (r:zib) (i:Nat):zj9 s r i=ze4 s (zao r i) ((r.acts[i]?).getD 0) (nxt r i):=rfl
theorem nxt_lt {r:zib} {i:Nat} (h:i+1<(r.stem++r.cycle).length):nxt r i=zao r (i+1):=by unfold nxt;rw [if_pos h];rfl
theorem SRAt0 (r:zib) (i:Nat) (hl:r.stem.length+r.cycle.length<=20) (hi:i<=1000):Fn dM 11 [] [vG [.d (.sl 2 (r.stem.map dP)),.d (.sl 2 (r.cycle.map dP)),cIs r.acts],vN i] (vG [cIs (zao r i).locs,cZs (zao r i).vals]) []:=by
 have lall:(r.stem++r.cycle).length=r.stem.length+r.cycle.length:=b7;refine fB Tryz.func11 rfl 34 fun w H B a h=>Jq 0 [] [(1,vN i),(2,vp 0 0),(4,vp 1 0)] [(0,.box [.d (.sl 2 (r.stem.map dP)),.d (.sl 2 (r.cycle.map dP)),cIs r.acts]),(1,.box [nCl,nCl])] h fun a w h=>qW (Je 2 [(3,.len (za3 2 dP r.stem))] [] [(9,vb (decide ((i:Int)<(r.stem.length:Int))))] h fun a w h=>zad ((i:Int)<(r.stem.length:Int)) h (fun hc1 hc1'=>?_) (fun hc2 hc2'=>?_))
 ·obtain ⟨x1,hx1⟩:=gl r.stem i;refine Jg 2 [(3,.g (xD 13 11 kn_0 (za7 hx1 (f:=dP)) (dO 12 _)))] [9] [] [] [(1,.box [cIs x1.locs,cZs x1.vals])] h fun a w h=>qV (za5 (rA 1 [cIs x1.locs,cZs x1.vals] h kk_5 rfl ?_));have hz:zao r i=x1:=by unfold zao;rw [dI (by have:=dT hc1;omega),hx1];rfl
  rw [hz];try rfl
 refine qU (za1 (qW (Je 2 [(3,.len (za3 2 dP r.stem)),(6,.len (za3 2 dP r.cycle)),(7,.g (Op.arith (op:=.add) (d:=22) (xt:=3) (yt:=3) (k:=.i64) (m:=(r.stem.length:Int)) (n:=(r.cycle.length:Int)) (r:=((r.stem++r.cycle).length:Int)) (dO 18 _) (dO 21 _) (.inl ⟨rfl,(by rw [b7];omega)⟩) i6))] [9] [(23,vb (decide ((i:Int)<((r.stem++r.cycle).length:Int))))] h fun a w h=>zad ((i:Int)<((r.stem++r.cycle).length:Int)) h (fun hc3 hc3'=>?_) (fun hc4 hc4'=>?_))))
 ·obtain ⟨x2,hx2⟩:∃ z_:StD,r.cycle[i - r.stem.length]?=some z_:=⟨_,b8 (by have:(r.stem++r.cycle).length=r.stem.length+r.cycle.length:=b7;omega)⟩;refine Jq 2 [(5,.len (za3 2 dP r.stem)),(6,.g (Op.arith (op:=.sub) (d:=30) (xt:=3) (yt:=3) (k:=.i64) (m:=(i:Int)) (n:=(r.stem.length:Int)) (r:=((i - r.stem.length:Nat):Int)) (dO 26 _) (dO 29 _) (.inr (.inl ⟨rfl,(by omega)⟩)) i6)),(7,.g (xD 31 25 kn_0 (za7 hx2 (f:=dP)) (dO 30 _)))] [(4,vp 1 0)] [(1,.box [cIs x2.locs,cZs x2.vals])] h fun a w h=>qV (za5 (rA 1 [cIs x2.locs,cZs x2.vals] h kk_5 rfl ?_));have hz:zao r i=x2:=by unfold zao;rw [dJ (by have:=dF hc2;omega),hx2];rfl
  rw [hz];try rfl
 refine qU (za1 (Jg 2 [] [1,2,23] [] [0] [] h fun a w h=>qV ?_));replace h:=zbs 1 0 1 [nCl,nCl] h;replace h:=zbs 1 1 2 [cIs [],nCl] h;refine rA 1 [cIs [],cZs []] h kk_5 rfl ?_;have hz:zao r i=st0:=by unfold zao;rw [b6 (by have:=dF hc4;omega)];rfl
 rw [hz];try rfl
theorem SRAt (r:zib) (z:Int) (i:Nat) (hz:z=(i:Int)) (hl:r.stem.length+r.cycle.length<=20) (hi:i<=1000):Fn dM 11 [] [vG [.d (.sl 2 (r.stem.map dP)),.d (.sl 2 (r.cycle.map dP)),cIs r.acts],vi .i64 z] (vG [cIs (zao r i).locs,cZs (zao r i).vals]) []:=by subst hz;exact SRAt0 r i hl hi
theorem SRRight (s:zan) (r:zib) {L:Nat} (hL:L+M<=1900) (hs:zbh L s) (hr:RunOk M r):Fn dM 13 [] [vG (zcn s),vG [.d (.sl 2 (r.stem.map dP)),.d (.sl 2 (r.cycle.map dP)),cIs r.acts]] (vb (right s r)) []:=by
 have lr:=hr.len;have lall:(r.stem++r.cycle).length=r.stem.length+r.cycle.length:=b7;refine fB Tryz.func13 rfl 64 fun w H B a h=>Jq 0 [] [(2,vp 0 0),(3,vp 1 0),(4,vb false)] [(0,.box (zcn s)),(1,.box [.d (.sl 2 (r.stem.map dP)),.d (.sl 2 (r.cycle.map dP)),cIs r.acts])] h fun a w h=>Je 2 [(2,.len (za3 2 dP r.stem)),(5,.len (za3 2 dP r.cycle)),(6,.g (Op.arith (op:=.add) (d:=14) (xt:=3) (yt:=3) (k:=.i64) (m:=(r.stem.length:Int)) (n:=(r.cycle.length:Int)) (r:=((r.stem++r.cycle).length:Int)) (dO 10 _) (dO 13 _) (.inl ⟨rfl,(by rw [b7];omega)⟩) i6))] [] [(5,vI ((r.stem++r.cycle).length:Int))] h fun a w h=>qW ?_
 rcases bG ((r.cycle.length:Int) == 0) with hc1 | hc2
 ·refine Je 2 [(2,.len (za3 2 dP r.cycle)),(3,.cmp (op:=.eql) (m:=(r.cycle.length:Int)) (n:=0) (b:=true) .i64 hc1)] [] [(25,vb true)] h fun a w h=>cS true h (fun _=>?_) nofun
  refine Je 2 [] [25] [] h fun a w h=>qV (za5 (rT (.c (cB false)) h rfl ?_));have hz:right s r=false:=by unfold right;rw [yX (by have:=hc1;simp at this;intro h;exact h.1 (by simp [this]))];rfl
  rw [hz];try rfl
 have hcl:0<r.cycle.length:=by have:=beq_eq_false_iff_ne.1 hc2;omega
 refine Je 2 [(2,.len (za3 2 dP r.cycle)),(3,.cmp (op:=.eql) (m:=(r.cycle.length:Int)) (n:=0) (b:=false) .i64 hc2),(7,.len (za3 1 zal r.acts))] [] [(25,vb ((r.acts.length:Int) != ((r.stem++r.cycle).length:Int)))] h fun a w h=>cS ((r.acts.length:Int) != ((r.stem++r.cycle).length:Int)) h (fun hc3=>?_) (fun hc4=>?_)
 ·refine Je 2 [] [25] [] h fun a w h=>qV (za5 (rT (.c (cB false)) h rfl ?_));have hz:right s r=false:=by unfold right;rw [yX (by have:=hc3;simp at this;intro h;have:=h.2;simp at this;omega)];rfl
  rw [hz];try rfl
 have hla:r.acts.length=(r.stem++r.cycle).length:=by have:=hc4;simp only [bne_eq_false_iff_eq] at this;omega
 refine qU (za1 (qW (Je 2 [] [25] [(6,vI 0)] h fun a w h=>qZ ?_)))
 refine zbw (ι:=(Nat)) (fun j=>j<=(r.stem++r.cycle).length/\zg8 j (zj9 s r)=true/\(0<j->first s (zao r 0)=true))
   [4] (fun j=>[(6,vN j)])
   [] (fun j=>[])
   (fun j=>(r.stem++r.cycle).length - j) 0 ?_ h ?_
 ·exact ⟨bF _,rfl,fun h=>absurd h (Nat.lt_irrefl 0)⟩
 clear h;rintro j a w hI h;obtain ⟨hI1,hI2,hI3⟩:=hI;refine qW (Je 2 [] [] [(28,vb (decide ((j:Int)<((r.stem++r.cycle).length:Int))))] h fun a w h=>zad ((j:Int)<((r.stem++r.cycle).length:Int)) h (fun hc5 hc5'=>?_) (fun hc22 hc22'=>?_))
 ·refine qU (za1 (qW (qZ (qW ?_))))
  rcases bG ((j:Int) == 0) with hc6 | hc15
  ·refine Je 2 [(1,.cmp (op:=.eql) (m:=(j:Int)) (n:=0) (b:=true) .i64 hc6),(5,.call (SRAt r 0 0 (by omega) (by omega) (by omega))),(6,.call (SRFirst s (zao r 0) (L:=L) (M:=M) (by omega) hs (zei hr _)))] [28] [(39,vb (!(first s (zao r 0))))] h fun a w h=>cS (!(first s (zao r 0))) h (fun hc7=>?_) (fun hc8=>?_)
   ·refine Je 2 [] [39] [(4,vb false)] h fun a w h=>qV (za5 (za8 (za5 (za5 (za8 (za5 (rT (.c (cB false)) h rfl ?_)))))));have hz:right s r=false:=by unfold right;rw [yQ ⟨by have:=hc2;simp at this;intro h;exact this (cR.1 h),by have:=hc4;simp at this;simp;omega⟩,bE];rw [show first s (((r.stem++r.cycle)[0]?).getD st0)=false from (show (first s (zao r 0))=false from by simpa using hc7)];rfl
    rw [hz];try rfl
   refine qU (za1 (Jg 2 [(2,.j1 j),(3,.call (SRAt r ((j:Int)+1) (j+1) (by omega) (by omega) (by omega)))] [39] [(7,vp 2 0)] [] [(2,.box [cIs (zao r (j+1)).locs,cZs (zao r (j+1)).vals])] h fun a w h=>qW (Je 3 [(1,.j1 j)] [] [(47,vb (((j:Int)+1) == ((r.stem++r.cycle).length:Int)))] h fun a w h=>cS (((j:Int)+1) == ((r.stem++r.cycle).length:Int)) h (fun hc9=>?_) (fun hc12=>?_))))
   ·obtain ⟨x4,hx4⟩:=gl r.cycle 0;have gx4:=hr.cycle x4 (lM hx4);refine Jh 3 [(2,.g (xD 50 49 kn_0 (za7 hx4 (f:=dP)) (OV.const (.int .i64 0) rfl)))] [47] [] [] [(2,.box [cIs x4.locs,cZs x4.vals])] h fun a w h=>za1 ?_;obtain ⟨x6,hx6⟩:=gl r.acts j;refine Jg 3 [(3,.call (SRAt r (j:Int) j (by omega) (by omega) (by omega))),(7,.g (xD 59 57 zh0 (za7 hx6 (f:=zal)) (dO 58 _))),(10,.call (SRLeads s (zao r j) x6 x4 hL hs (zei hr _) gx4))] [7] [(63,vb (!(ze4 s (zao r j) x6 x4)))] [2] [] h fun a w h=>cS (!(ze4 s (zao r j) x6 x4)) h (fun hc10=>?_) (fun hc11=>?_)
    ·refine Je 3 [] [63] [(4,vb false)] h fun a w h=>qV (za8 (za5 (za5 (za8 (za5 (rT (.c (cB false)) h rfl ?_))))));have hz:right s r=false:=by unfold right;rw [yQ ⟨by have:=hc2;simp at this;intro h;exact this (cR.1 h),by have:=hc4;simp at this;simp;omega⟩,bE];rw [zc2 (j:=j) (by have:=dT hc5;omega) (show zj9 s r j=false from (by rw [zh8,hx6,show nxt r j=x4 by unfold nxt;rw [if_neg (by have:=hc9;simp only [beq_iff_eq] at this;omega),hx4];rfl];exact (show (ze4 s (zao r j) x6 x4)=false from by simpa using hc10))),bV]
     rw [hz];try rfl
    refine qU (za6 (za1 (Jf 3 [(1,.j1 j)] [63] [(6,vI ((j:Int)+1))] h fun a w h=>za1 (zaa (x:=j) (y:=j+1) h ?_ ?_))))
    ·exact ⟨by omega,zbn hI2 (by rw [zh8,hx6,show nxt r j=x4 by unfold nxt;rw [if_neg (by have:=hc9;simp only [beq_iff_eq] at this;omega),hx4];rfl];exact (show (ze4 s (zao r j) x6 x4)=true from by simpa using hc11)),(fun _=>(show (first s (zao r 0))=true from by simpa using hc8))⟩
    show (r.stem++r.cycle).length - (j+1)<(r.stem++r.cycle).length - j;omega
   refine qU (za1 ?_);obtain ⟨x9,hx9⟩:=gl r.acts j;refine Jg 3 [(3,.call (SRAt r (j:Int) j (by omega) (by omega) (by omega))),(7,.g (xD 59 57 zh0 (za7 hx9 (f:=zal)) (dO 58 _))),(10,.call (SRLeads s (zao r j) x9 (zao r (j+1)) hL hs (zei hr _) (zei hr _)))] [7,47] [(63,vb (!(ze4 s (zao r j) x9 (zao r (j+1)))))] [2] [] h fun a w h=>cS (!(ze4 s (zao r j) x9 (zao r (j+1)))) h (fun hc13=>?_) (fun hc14=>?_)
   ·refine Je 3 [] [63] [(4,vb false)] h fun a w h=>qV (za8 (za5 (za5 (za8 (za5 (rT (.c (cB false)) h rfl ?_))))));have hz:right s r=false:=by unfold right;rw [yQ ⟨by have:=hc2;simp at this;intro h;exact this (cR.1 h),by have:=hc4;simp at this;simp;omega⟩,bE];rw [zc2 (j:=j) (by have:=dT hc5;omega) (show zj9 s r j=false from (by rw [zh8,hx9,nxt_lt (show j+1<(r.stem++r.cycle).length by have:=hc12;simp only [beq_eq_false_iff_ne] at this;omega)];exact (show (ze4 s (zao r j) x9 (zao r (j+1)))=false from by simpa using hc13))),bV]
    rw [hz];try rfl
   refine qU (za6 (za1 (Jf 3 [(1,.j1 j)] [63] [(6,vI ((j:Int)+1))] h fun a w h=>za1 (zaa (x:=j) (y:=j+1) h ?_ ?_))))
   ·exact ⟨by omega,zbn hI2 (by rw [zh8,hx9,nxt_lt (show j+1<(r.stem++r.cycle).length by have:=hc12;simp only [beq_eq_false_iff_ne] at this;omega)];exact (show (ze4 s (zao r j) x9 (zao r (j+1)))=true from by simpa using hc14)),(fun _=>(show (first s (zao r 0))=true from by simpa using hc8))⟩
   show (r.stem++r.cycle).length - (j+1)<(r.stem++r.cycle).length - j;omega
  refine Je 3 [(1,.cmp (op:=.eql) (m:=(j:Int)) (n:=0) (b:=false) .i64 hc15)] [28] [(39,vb false)] h fun a w h=>zau h (qU (za1 (Jg 3 [(2,.j1 j),(3,.call (SRAt r ((j:Int)+1) (j+1) (by omega) (by omega) (by omega)))] [39] [(7,vp 3 0)] [] [(3,.box [cIs (zao r (j+1)).locs,cZs (zao r (j+1)).vals])] h fun a w h=>qW (Je 4 [(1,.j1 j)] [] [(47,vb (((j:Int)+1) == ((r.stem++r.cycle).length:Int)))] h fun a w h=>cS (((j:Int)+1) == ((r.stem++r.cycle).length:Int)) h (fun hc16=>?_) (fun hc19=>?_)))))
  ·obtain ⟨x12,hx12⟩:=gl r.cycle 0;have gx12:=hr.cycle x12 (lM hx12);refine Jh 4 [(2,.g (xD 50 49 kn_0 (za7 hx12 (f:=dP)) (OV.const (.int .i64 0) rfl)))] [47] [] [] [(3,.box [cIs x12.locs,cZs x12.vals])] h fun a w h=>za1 ?_;obtain ⟨x14,hx14⟩:=gl r.acts j;refine Jg 4 [(3,.call (SRAt r (j:Int) j (by omega) (by omega) (by omega))),(7,.g (xD 59 57 zh0 (za7 hx14 (f:=zal)) (dO 58 _))),(10,.call (SRLeads s (zao r j) x14 x12 hL hs (zei hr _) gx12))] [7] [(63,vb (!(ze4 s (zao r j) x14 x12)))] [3] [] h fun a w h=>cS (!(ze4 s (zao r j) x14 x12)) h (fun hc17=>?_) (fun hc18=>?_)
   ·refine Je 4 [] [63] [(4,vb false)] h fun a w h=>qV (za8 (za5 (za5 (za8 (za5 (rT (.c (cB false)) h rfl ?_))))));have hz:right s r=false:=by unfold right;rw [yQ ⟨by have:=hc2;simp at this;intro h;exact this (cR.1 h),by have:=hc4;simp at this;simp;omega⟩,bE];rw [zc2 (j:=j) (by have:=dT hc5;omega) (show zj9 s r j=false from (by rw [zh8,hx14,show nxt r j=x12 by unfold nxt;rw [if_neg (by have:=hc16;simp only [beq_iff_eq] at this;omega),hx12];rfl];exact (show (ze4 s (zao r j) x14 x12)=false from by simpa using hc17))),bV]
    rw [hz];try rfl
   refine qU (za6 (za1 (Jf 4 [(1,.j1 j)] [63] [(6,vI ((j:Int)+1))] h fun a w h=>za1 (zaa (x:=j) (y:=j+1) h ?_ ?_))))
   ·exact ⟨by omega,zbn hI2 (by rw [zh8,hx14,show nxt r j=x12 by unfold nxt;rw [if_neg (by have:=hc16;simp only [beq_iff_eq] at this;omega),hx12];rfl];exact (show (ze4 s (zao r j) x14 x12)=true from by simpa using hc18)),(fun _=>hI3 (by have:=hc15;simp only [beq_eq_false_iff_ne] at this;omega))⟩
   show (r.stem++r.cycle).length - (j+1)<(r.stem++r.cycle).length - j;omega
  refine qU (za1 ?_);obtain ⟨x17,hx17⟩:=gl r.acts j;refine Jg 4 [(3,.call (SRAt r (j:Int) j (by omega) (by omega) (by omega))),(7,.g (xD 59 57 zh0 (za7 hx17 (f:=zal)) (dO 58 _))),(10,.call (SRLeads s (zao r j) x17 (zao r (j+1)) hL hs (zei hr _) (zei hr _)))] [7,47] [(63,vb (!(ze4 s (zao r j) x17 (zao r (j+1)))))] [3] [] h fun a w h=>cS (!(ze4 s (zao r j) x17 (zao r (j+1)))) h (fun hc20=>?_) (fun hc21=>?_)
  ·refine Je 4 [] [63] [(4,vb false)] h fun a w h=>qV (za8 (za5 (za5 (za8 (za5 (rT (.c (cB false)) h rfl ?_))))));have hz:right s r=false:=by unfold right;rw [yQ ⟨by have:=hc2;simp at this;intro h;exact this (cR.1 h),by have:=hc4;simp at this;simp;omega⟩,bE];rw [zc2 (j:=j) (by have:=dT hc5;omega) (show zj9 s r j=false from (by rw [zh8,hx17,nxt_lt (show j+1<(r.stem++r.cycle).length by have:=hc19;simp only [beq_eq_false_iff_ne] at this;omega)];exact (show (ze4 s (zao r j) x17 (zao r (j+1)))=false from by simpa using hc20))),bV]
   rw [hz];try rfl
  refine qU (za6 (za1 (Jf 4 [(1,.j1 j)] [63] [(6,vI ((j:Int)+1))] h fun a w h=>za1 (zaa (x:=j) (y:=j+1) h ?_ ?_))))
  ·exact ⟨by omega,zbn hI2 (by rw [zh8,hx17,nxt_lt (show j+1<(r.stem++r.cycle).length by have:=hc19;simp only [beq_eq_false_iff_ne] at this;omega)];exact (show (ze4 s (zao r j) x17 (zao r (j+1)))=true from by simpa using hc21)),(fun _=>hI3 (by have:=hc15;simp only [beq_eq_false_iff_ne] at this;omega))⟩
  show (r.stem++r.cycle).length - (j+1)<(r.stem++r.cycle).length - j;omega
 refine exA (Jq 4 [] [(4,vb true)] [] h fun a w h=>qV (rT (.c (cB true)) h rfl ?_));have hz:right s r=true:=by unfold right;rw [yQ ⟨by have:=hc2;simp at this;intro h;exact this (cR.1 h),by have:=hc4;simp at this;simp;omega⟩,bE];rw [show first s (((r.stem++r.cycle)[0]?).getD st0)=true from hI3 (by have:=dF hc22;omega),show (r.stem++r.cycle).length=j by have:=dF hc22;omega,hI2];rfl
 rw [hz];try rfl
theorem all2c {R:α->β->Prop} {x:α} {xs:List α} {us:List β} (h:zbb R (x :: xs) us):∃ u vs,us=u :: vs/\R x u/\zbb R xs vs:=by
 cases us with
 | nil=>exact h.elim
 | cons u us=>exact ⟨u,us,rfl,h⟩
theorem Fn.agg6 {P:Program} {k:FuncId} {ps qs:List (Nat × L)} {es:Nat} {c1 c2 c3 c4 c5:C} {x y res:V} (h:Fn P k ps [vG [c1,c2,c3,c4,c5,.d (.sl es [])],x,y] res qs):Fn P k ps [vG [c1,c2,c3,c4,c5,nCl],x,y] res qs:=by
 intro w H B vals pre
 obtain ⟨h1,h2,h3,h4,h5,h0⟩:=pre
 cases vals with
 | nil=>exact h5.elim
 | cons v vs =>
  obtain ⟨⟨us,rfl,ha⟩,ht⟩:=h5
  obtain ⟨u1,us,rfl,a1,ha⟩:=all2c ha
  obtain ⟨u2,us,rfl,a2,ha⟩:=all2c ha
  obtain ⟨u3,us,rfl,a3,ha⟩:=all2c ha
  obtain ⟨u4,us,rfl,a4,ha⟩:=all2c ha
  obtain ⟨u5,us,rfl,a5,ha⟩:=all2c ha
  obtain ⟨u6,us,rfl,a6,hz⟩:=all2c ha
  have h6:u6=zam:=VR.rawI (B:=B) a6
  subst h6
  exact h w H B _ ⟨h1,h2,h3,h4,⟨⟨_,rfl,a1,a2,a3,a4,a5,DR.nil _ _ _ (fun _=>rfl) (bF _),hz⟩,ht⟩,h0⟩
def fewB (L:Nat) (b:zak):Bool:=decide ((b.lo.abs.length:Int)<=(L:Int)) && decide ((b.hi.abs.length:Int)<=(L:Int))
def formT (t:zaf):za0:=⟨2,⟨t,false⟩,[]⟩
def fewM (L:Nat) (m:zai):Bool:=zm9 (formT m.t) 5 L
def fewA (L:Nat) (c:zas):Bool:=(zm9 c.guard 30 L && decide ((c.moves.length:Int)<=20)) && c.moves.all (fewM L)
def zc9 (L:Nat) (s:zan):Bool:=(decide ((s.vars.length:Int)<=8/\(s.bounds.length:Int)<=20/\(s.procs.length:Int)<=6/\(s.acts.length:Int)<=20) && zm9 s.init 30 L) && (s.bounds.all (fewB L) && s.acts.all (fewA L))
def zig (L:Nat) (x:StD):Bool:=decide ((x.locs.length:Int)<=10/\(x.vals.length:Int)<=10) && x.vals.all fun z=>decide ((z.abs.length:Int)<=(L:Int))
structure SysRd (s:zan):Prop where
  init:s.init.lb
  bnd:∀ b ∈ s.bounds,Lb b.lo.abs/\Lb b.hi.abs
  act:∀ c ∈ s.acts,c.guard.lb/\∀ m ∈ c.moves,TLb m.t
  len:s.bounds.length<=9223372036854775807/\s.acts.length<=9223372036854775807
  mlen:∀ c ∈ s.acts,c.moves.length<=9223372036854775807
def StRd (x:StD):Prop:=(∀ z ∈ x.vals,Lb z.abs)/\x.vals.length<=9223372036854775807
theorem fewF_ok {most:Int} {L:Nat} (h:zm9 f most L=true) (hl:f.lb):f.ok L:=by unfold zm9 at h;rw [bN] at h;exact za0.few_ok f h.2 hl
theorem formT_lb (h:TLb t):(formT t).lb:=(za0.lb_eq _).2 ⟨⟨h,bF _⟩,fun g hg=>(by cases hg)⟩
theorem formT_ok {L:Nat} (h:(formT t).ok L):TOk 20 L t:=((za0.ok_eq L _).1 h).1 rfl
theorem few_sys {L:Nat} (h:zc9 L s=true) (hr:SysRd s):zbh L s:=by
 unfold zc9 at h
 simp only [bN,decide_eq_true_eq,dD] at h
 obtain ⟨⟨⟨h1,h2,h3,h4⟩,h5⟩,h6,h7⟩:=h
 refine ⟨by omega,by omega,by omega,by omega,fun b hb=>?_,⟨hr.init,fewF_ok h5 hr.init⟩,fun c hc=>?_⟩
 ·have:=h6 b hb;unfold fewB at this;simp only [bN,decide_eq_true_eq] at this
  exact ⟨⟨(hr.bnd b hb).1,by omega⟩,(hr.bnd b hb).2,by omega⟩
 ·have:=h7 c hc;unfold fewA at this;simp only [bN,decide_eq_true_eq,dD] at this
  exact ⟨⟨(hr.act c hc).1,fewF_ok this.1.1 (hr.act c hc).1⟩,by omega,fun m hm=>formT_ok (fewF_ok (this.2 m hm) (formT_lb ((hr.act c hc).2 m hm)))⟩
theorem few_st {L:Nat} (h:zig L x=true) (hr:StRd x):zhp L x:=by
 unfold zig at h
 simp only [bN,decide_eq_true_eq,dD] at h
 exact ⟨by omega,by omega,fun z hz=>⟨hr.1 z hz,by have:=h.2 z hz;omega⟩⟩
theorem SFewSt (x:StD) (L:Nat) (hr:StRd x):Fn dM 10 [] [vG [cIs x.locs,cZs x.vals],vN L] (vb (zig L x)) []:=by
 have lv:=hr.2;refine fB Tryz.func10 rfl 32 fun w H B a h=>Jq 0 [] [(1,vN L),(2,vp 0 0),(4,vb false)] [(0,.box [cIs x.locs,cZs x.vals])] h fun a w h=>qW ?_
 rcases bG (decide ((x.locs.length:Int)>10)) with hc1 | hc2
 ·have hc1':=dT hc1;refine Je 1 [(2,.len (za3 1 zal x.locs)),(3,.cmp (op:=.gtr) (m:=(x.locs.length:Int)) (n:=10) (b:=true) .i64 hc1)] [] [(15,vb true)] h fun a w h=>cS true h (fun _=>?_) nofun
  refine Je 1 [] [15] [] h fun a w h=>qV (za5 (rT (.c (cB false)) h rfl ?_));have hz:zig L x=false:=by unfold zig;rw [yX (p:=(x.locs.length:Int)<=10/\(x.vals.length:Int)<=10) (by have:=dT hc1;omega)];rfl
  rw [hz];try rfl
 have hc2':=dF hc2;refine Je 1 [(2,.len (za3 1 zal x.locs)),(3,.cmp (op:=.gtr) (m:=(x.locs.length:Int)) (n:=10) (b:=false) .i64 hc2),(7,.len (za3 2 ziD x.vals))] [] [(15,vb (decide ((x.vals.length:Int)>10)))] h fun a w h=>zad ((x.vals.length:Int)>10) h (fun hc3 hc3'=>?_) (fun hc4 hc4'=>?_)
 ·refine Je 1 [] [15] [] h fun a w h=>qV (za5 (rT (.c (cB false)) h rfl ?_));have hz:zig L x=false:=by unfold zig;rw [yX (p:=(x.locs.length:Int)<=10/\(x.vals.length:Int)<=10) (by have:=dT hc3;omega)];rfl
  rw [hz];try rfl
 refine qU (za1 (qW (Je 1 [] [15] [(5,vI 0)] h fun a w h=>qZ ?_)))
 refine zbw (ι:=(Nat)) (fun j=>j<=x.vals.length/\(x.vals.take j).all (fun z=>decide ((z.abs.length:Int)<=(L:Int)))=true)
   [4] (fun j=>[(5,vN j)])
   [] (fun j=>[])
   (fun j=>x.vals.length - j) 0 ?_ h ?_
 ·exact ⟨bF _,rfl⟩
 clear h;rintro j a w hI h;obtain ⟨hI1,hI2⟩:=hI;refine qW (Je 1 [(3,.len (za3 2 ziD x.vals))] [] [(20,vb (decide ((j:Int)<(x.vals.length:Int))))] h fun a w h=>zad ((j:Int)<(x.vals.length:Int)) h (fun hc5 hc5'=>?_) (fun hc8 hc8'=>?_))
 ·refine qU (za1 (qW (qZ ?_)));obtain ⟨x1,hx1⟩:=gl x.vals j;refine Je 1 [(3,.g (xD 26 24 tt_6 (za7 hx1 (f:=ziD)) (dO 25 _))),(6,.len (zf6 x1.abs))] [20] [(31,vb (decide ((x1.abs.length:Int)>(L:Int))))] h fun a w h=>zad ((x1.abs.length:Int)>(L:Int)) h (fun hc6 hc6'=>?_) (fun hc7 hc7'=>?_)
  ·refine Je 1 [] [31] [(4,vb false)] h fun a w h=>qV (za8 (za5 (za5 (za8 (za5 (rT (.c (cB false)) h rfl ?_))))));have hz:zig L x=false:=by unfold zig;rw [yQ (p:=(x.locs.length:Int)<=10/\(x.vals.length:Int)<=10) (by have:=dF hc2;have:=dF hc4;omega),bE];exact zca hx1 (yX (by have:=dT hc6;omega))
   rw [hz];try rfl
  refine qU (za6 (za1 (Jf 1 [(1,.j1 j)] [31] [(5,vI ((j:Int)+1))] h fun a w h=>za1 (zaa (x:=j) (y:=j+1) h ?_ ?_))))
  ·exact ⟨by have:=zab hx1;omega,zdj hx1 hI2 (yQ (by have:=dF hc7;omega))⟩
  show x.vals.length - (j+1)<x.vals.length - j;have:=zab hx1;omega
 refine exA (Jq 1 [] [(4,vb true)] [] h fun a w h=>qV (rT (.c (cB true)) h rfl ?_));have hz:zig L x=true:=by unfold zig;rw [yQ (p:=(x.locs.length:Int)<=10/\(x.vals.length:Int)<=10) (by have:=dF hc2;have:=dF hc4;omega),bE];exact ze2 (dF hc8) hI2
 rw [hz];try rfl
theorem SFewSys (s:zan) (L:Nat) (hr:SysRd s):Fn dM 30 [] [vG (zcn s),vN L] (vb (zc9 L s)) []:=by
 have lb1:=hr.len.1;have lb2:=hr.len.2;refine fB Tryz.func30 rfl 118 fun w H B a h=>Jq 0 [] [(1,vN L),(2,vp 0 0),(4,vb false)] [(0,.box (zcn s))] h fun a w h=>qW ?_
 rcases bG (decide ((s.vars.length:Int)>8)) with hc1 | hc2
 ·have hc1':=dT hc1;refine Je 1 [(2,.len (za3 1 zer s.vars)),(3,.cmp (op:=.gtr) (m:=(s.vars.length:Int)) (n:=8) (b:=true) .i64 hc1)] [] [(36,vb true)] h fun a w h=>cS true h (fun _=>?_) nofun
  refine Je 1 [] [36] [] h fun a w h=>qV (za5 (rT (.c (cB false)) h rfl ?_));have hz:zc9 L s=false:=by unfold zc9;rw [yX (p:=(s.vars.length:Int)<=8/\(s.bounds.length:Int)<=20/\(s.procs.length:Int)<=6/\(s.acts.length:Int)<=20) (by have:=dT hc1;omega)];rfl
  rw [hz];try rfl
 have hc2':=dF hc2
 rcases bG (decide ((s.bounds.length:Int)>20)) with hc3 | hc4
 ·have hc3':=dT hc3;refine Je 1 [(2,.len (za3 1 zer s.vars)),(3,.cmp (op:=.gtr) (m:=(s.vars.length:Int)) (n:=8) (b:=false) .i64 hc2),(7,.len (za3 5 d6 s.bounds)),(8,.cmp (op:=.gtr) (m:=(s.bounds.length:Int)) (n:=20) (b:=true) .i64 hc3)] [] [(36,vb true)] h fun a w h=>cS true h (fun _=>?_) nofun
  refine Je 1 [] [36] [] h fun a w h=>qV (za5 (rT (.c (cB false)) h rfl ?_));have hz:zc9 L s=false:=by unfold zc9;rw [yX (p:=(s.vars.length:Int)<=8/\(s.bounds.length:Int)<=20/\(s.procs.length:Int)<=6/\(s.acts.length:Int)<=20) (by have:=dT hc3;omega)];rfl
  rw [hz];try rfl
 have hc4':=dF hc4
 rcases bG (decide ((s.procs.length:Int)>6)) with hc5 | hc6
 ·have hc5':=dT hc5;refine Je 1 [(2,.len (za3 1 zer s.vars)),(3,.cmp (op:=.gtr) (m:=(s.vars.length:Int)) (n:=8) (b:=false) .i64 hc2),(7,.len (za3 5 d6 s.bounds)),(8,.cmp (op:=.gtr) (m:=(s.bounds.length:Int)) (n:=20) (b:=false) .i64 hc4),(13,.len (za3 3 zbj.d s.procs)),(14,.cmp (op:=.gtr) (m:=(s.procs.length:Int)) (n:=6) (b:=true) .i64 hc5)] [] [(36,vb true)] h fun a w h=>cS true h (fun _=>?_) nofun
  refine Je 1 [] [36] [] h fun a w h=>qV (za5 (rT (.c (cB false)) h rfl ?_));have hz:zc9 L s=false:=by unfold zc9;rw [yX (p:=(s.vars.length:Int)<=8/\(s.bounds.length:Int)<=20/\(s.procs.length:Int)<=6/\(s.acts.length:Int)<=20) (by have:=dT hc5;omega)];rfl
  rw [hz];try rfl
 have hc6':=dF hc6
 rcases bG (decide ((s.acts.length:Int)>20)) with hc7 | hc8
 ·have hc7':=dT hc7;refine Je 1 [(2,.len (za3 1 zer s.vars)),(3,.cmp (op:=.gtr) (m:=(s.vars.length:Int)) (n:=8) (b:=false) .i64 hc2),(7,.len (za3 5 d6 s.bounds)),(8,.cmp (op:=.gtr) (m:=(s.bounds.length:Int)) (n:=20) (b:=false) .i64 hc4),(13,.len (za3 3 zbj.d s.procs)),(14,.cmp (op:=.gtr) (m:=(s.procs.length:Int)) (n:=6) (b:=false) .i64 hc6),(19,.len (za3 10 zas.d s.acts)),(20,.cmp (op:=.gtr) (m:=(s.acts.length:Int)) (n:=20) (b:=true) .i64 hc7)] [] [(36,vb true)] h fun a w h=>cS true h (fun _=>?_) nofun
  refine Je 1 [] [36] [] h fun a w h=>qV (za5 (rT (.c (cB false)) h rfl ?_));have hz:zc9 L s=false:=by unfold zc9;rw [yX (p:=(s.vars.length:Int)<=8/\(s.bounds.length:Int)<=20/\(s.procs.length:Int)<=6/\(s.acts.length:Int)<=20) (by have:=dT hc7;omega)];rfl
  rw [hz];try rfl
 have hc8':=dF hc8;refine Je 1 [(2,.len (za3 1 zer s.vars)),(3,.cmp (op:=.gtr) (m:=(s.vars.length:Int)) (n:=8) (b:=false) .i64 hc2),(7,.len (za3 5 d6 s.bounds)),(8,.cmp (op:=.gtr) (m:=(s.bounds.length:Int)) (n:=20) (b:=false) .i64 hc4),(13,.len (za3 3 zbj.d s.procs)),(14,.cmp (op:=.gtr) (m:=(s.procs.length:Int)) (n:=6) (b:=false) .i64 hc6),(19,.len (za3 10 zas.d s.acts)),(20,.cmp (op:=.gtr) (m:=(s.acts.length:Int)) (n:=20) (b:=false) .i64 hc8),(26,.call (SFewF s.init 30 (L:Int) hr.init (by decide) (by decide)))] [] [(36,vb (!(zm9 s.init 30 L)))] h fun a w h=>cS (!(zm9 s.init 30 L)) h (fun hc9=>?_) (fun hc10=>?_)
 ·refine Je 1 [] [36] [] h fun a w h=>qV (za5 (rT (.c (cB false)) h rfl ?_));have hz:zc9 L s=false:=by unfold zc9;rw [yQ (p:=(s.vars.length:Int)<=8/\(s.bounds.length:Int)<=20/\(s.procs.length:Int)<=6/\(s.acts.length:Int)<=20) (by have:=dF hc2;have:=dF hc4;have:=dF hc6;have:=dF hc8;omega),bE];rw [(show (zm9 s.init 30 L)=false from by simpa using hc9)];rfl
  rw [hz];try rfl
 refine qU (za1 (qW (Je 1 [] [36] [(5,vI 0)] h fun a w h=>qZ ?_)))
 refine zbw (ι:=(Nat)) (fun j=>j<=s.bounds.length/\(s.bounds.take j).all (fewB L)=true)
   [4] (fun j=>[(5,vN j)])
   [] (fun j=>[])
   (fun j=>s.bounds.length - j) 0 ?_ h ?_
 ·exact ⟨bF _,rfl⟩
 clear h;rintro j a w hI h;obtain ⟨hI1,hI2⟩:=hI;refine qW (Je 1 [(3,.len (za3 5 d6 s.bounds))] [] [(41,vb (decide ((j:Int)<(s.bounds.length:Int))))] h fun a w h=>zad ((j:Int)<(s.bounds.length:Int)) h (fun hc11 hc11'=>?_) (fun hc16 hc16'=>?_))
 ·refine qU (za1 (qW (qZ ?_)));obtain ⟨x2,hx2⟩:=gl s.bounds j
  rcases bG (decide ((x2.lo.abs.length:Int)>(L:Int))) with hc12 | hc13
  ·have hc12':=dT hc12;refine Je 1 [(3,.g (xD 47 45 kf_0 (za7 hx2 (f:=d6)) (dO 46 _))),(7,.len (zf6 x2.lo.abs)),(9,.cmp (op:=.gtr) (m:=(x2.lo.abs.length:Int)) (n:=(L:Int)) (b:=true) .i64 hc12)] [41] [(65,vb true)] h fun a w h=>cS true h (fun _=>?_) nofun
   refine Je 1 [] [65] [(4,vb false)] h fun a w h=>qV (za8 (za5 (za5 (za8 (za5 (rT (.c (cB false)) h rfl ?_))))));have hz:zc9 L s=false:=by unfold zc9;rw [yQ (p:=(s.vars.length:Int)<=8/\(s.bounds.length:Int)<=20/\(s.procs.length:Int)<=6/\(s.acts.length:Int)<=20) (by have:=dF hc2;have:=dF hc4;have:=dF hc6;have:=dF hc8;omega),bE];rw [(show (zm9 s.init 30 L)=true from by simpa using hc10)];rw [zca hx2 (show fewB L x2=false from (by unfold fewB;rw [yX (by have:=dT hc12;omega)];rfl))];rfl
   rw [hz];try rfl
  have hc13':=dF hc13;refine Je 1 [(3,.g (xD 47 45 kf_0 (za7 hx2 (f:=d6)) (dO 46 _))),(7,.len (zf6 x2.lo.abs)),(9,.cmp (op:=.gtr) (m:=(x2.lo.abs.length:Int)) (n:=(L:Int)) (b:=false) .i64 hc13),(14,.g (xD 58 56 kf_0 (za7 hx2 (f:=d6)) (dO 57 _))),(18,.len (zf6 x2.hi.abs))] [41] [(65,vb (decide ((x2.hi.abs.length:Int)>(L:Int))))] h fun a w h=>zad ((x2.hi.abs.length:Int)>(L:Int)) h (fun hc14 hc14'=>?_) (fun hc15 hc15'=>?_)
  ·refine Je 1 [] [65] [(4,vb false)] h fun a w h=>qV (za8 (za5 (za5 (za8 (za5 (rT (.c (cB false)) h rfl ?_))))));have hz:zc9 L s=false:=by unfold zc9;rw [yQ (p:=(s.vars.length:Int)<=8/\(s.bounds.length:Int)<=20/\(s.procs.length:Int)<=6/\(s.acts.length:Int)<=20) (by have:=dF hc2;have:=dF hc4;have:=dF hc6;have:=dF hc8;omega),bE];rw [(show (zm9 s.init 30 L)=true from by simpa using hc10)];rw [zca hx2 (show fewB L x2=false from (by unfold fewB;rw [yX (p:=(x2.hi.abs.length:Int)<=(L:Int)) (by have:=dT hc14;omega),bV]))];rfl
   rw [hz];try rfl
  refine qU (za6 (za1 (Jf 1 [(1,.j1 j)] [65] [(5,vI ((j:Int)+1))] h fun a w h=>za1 (zaa (x:=j) (y:=j+1) h ?_ ?_))))
  ·exact ⟨by have:=zab hx2;omega,zdj hx2 hI2 (by unfold fewB;rw [yQ (by have:=dF hc13;omega),yQ (by have:=dF hc15;omega)];rfl)⟩
  show s.bounds.length - (j+1)<s.bounds.length - j;have:=zab hx2;omega
 refine exA (qW (Je 1 [] [5,41] [(6,vI 0)] h fun a w h=>qZ ?_))
 refine zbw (ι:=(Nat)) (fun q=>q<=s.acts.length/\(s.acts.take q).all (fewA L)=true)
   [] (fun q=>[(6,vN q)])
   [] (fun q=>[])
   (fun q=>s.acts.length - q) 0 ?_ h ?_
 ·exact ⟨bF _,rfl⟩
 clear h;rintro q a w hI h;obtain ⟨hQ1,hQ2⟩:=hI;refine qW (Je 1 [(3,.len (za3 10 zas.d s.acts))] [] [(70,vb (decide ((q:Int)<(s.acts.length:Int))))] h fun a w h=>zad ((q:Int)<(s.acts.length:Int)) h (fun hc17 hc17'=>?_) (fun hc26 hc26'=>?_))
 ·refine qU (za1 (qW (qZ (qW ?_))));obtain ⟨x3,hx3⟩:=gl s.acts q;have lmx3:=hr.mlen x3 (lM hx3)
  rcases bG (zm9 x3.guard 30 L) with hc18 | hc25
  ·refine Je 1 [(3,.g (xD 76 74 ki_1 (za7 hx3 (f:=zas.d)) (dO 75 _))),(7,.call (dN (SFewF x3.guard 30 (L:Int) (hr.act x3 (lM hx3)).1 (by decide) (by decide)) (yJ vb hc18))),(13,.g (xD 86 84 ki_1 (za7 hx3 (f:=zas.d)) (dO 85 _))),(16,.len (za3 5 d5 x3.moves))] [70] [(91,vb (decide ((x3.moves.length:Int)>20)))] h fun a w h=>zad ((x3.moves.length:Int)>20) h (fun hc19 hc19'=>?_) (fun hc20 hc20'=>?_)
   ·refine Je 1 [] [91] [(4,vb false)] h fun a w h=>qV (za5 (za8 (za5 (za5 (za8 (za5 (rT (.c (cB false)) h rfl ?_)))))));have hz:zc9 L s=false:=by unfold zc9;rw [yQ (p:=(s.vars.length:Int)<=8/\(s.bounds.length:Int)<=20/\(s.procs.length:Int)<=6/\(s.acts.length:Int)<=20) (by have:=dF hc2;have:=dF hc4;have:=dF hc6;have:=dF hc8;omega),bE];rw [(show (zm9 s.init 30 L)=true from by simpa using hc10)];rw [ze2 (dF hc16) hI2];rw [zca hx3 (show fewA L x3=false from (by unfold fewA;rw [yX (p:=(x3.moves.length:Int)<=20) (by have:=dT hc19;omega),bV];rfl))];rfl
    rw [hz];try rfl
   refine qU (za1 (Je 1 [] [91] [(7,vI 0)] h fun a w h=>qZ ?_))
   refine zbw (ι:=(Nat)) (fun i=>i<=x3.moves.length/\(x3.moves.take i).all (fewM L)=true)
     [] (fun i=>[(7,vN i)])
     [] (fun i=>[])
     (fun i=>x3.moves.length - i) 0 ?_ h ?_
   ·exact ⟨bF _,rfl⟩
   clear h;rintro i a w hI h;obtain ⟨hJ1,hJ2⟩:=hI;refine qW (Je 1 [(4,.g (xD 96 94 ki_1 (za7 hx3 (f:=zas.d)) (dO 95 _))),(7,.len (za3 5 d5 x3.moves))] [] [(100,vb (decide ((i:Int)<(x3.moves.length:Int))))] h fun a w h=>zad ((i:Int)<(x3.moves.length:Int)) h (fun hc21 hc21'=>?_) (fun hc24 hc24'=>?_))
   ·refine qU (za1 (qW (qZ ?_)));obtain ⟨x6,hx6⟩:=gl x3.moves i;refine Je 1 [(3,.g (xD 106 104 ki_1 (za7 hx3 (f:=zas.d)) (dO 105 _))),(7,.g (xD 110 108 ki_2 (za7 hx6 (f:=d5)) (dO 109 _))),(13,.call (Fn.agg6 (SFewF (formT x6.t) 5 (L:Int) (formT_lb ((hr.act x3 (lM hx3)).2 x6 (lM hx6))) (by decide) (by decide))))] [100] [(117,vb (!(zm9 (formT x6.t) 5 L)))] h fun a w h=>cS (!(zm9 (formT x6.t) 5 L)) h (fun hc22=>?_) (fun hc23=>?_)
    ·refine Je 1 [] [117] [(4,vb false)] h fun a w h=>qV (za8 (za5 (za5 (za8 (za8 (za5 (za5 (za8 (za5 (rT (.c (cB false)) h rfl ?_))))))))));have hz:zc9 L s=false:=by unfold zc9;rw [yQ (p:=(s.vars.length:Int)<=8/\(s.bounds.length:Int)<=20/\(s.procs.length:Int)<=6/\(s.acts.length:Int)<=20) (by have:=dF hc2;have:=dF hc4;have:=dF hc6;have:=dF hc8;omega),bE];rw [(show (zm9 s.init 30 L)=true from by simpa using hc10)];rw [ze2 (dF hc16) hI2];rw [zca hx3 (show fewA L x3=false from (by unfold fewA;rw [hc18,yQ (p:=(x3.moves.length:Int)<=20) (by have:=dF hc20;omega),bE,bE];exact zca hx6 (show fewM L x6=false from (show (zm9 (formT x6.t) 5 L)=false from by simpa using hc22))))];rfl
     rw [hz];try rfl
    refine qU (za6 (za1 (Jf 1 [(1,.j1 i)] [117] [(7,vI ((i:Int)+1))] h fun a w h=>za1 (zaa (x:=i) (y:=i+1) h ?_ ?_))))
    ·have:=zab hx6;exact ⟨by omega,zdj hx6 hJ2 (show fewM L x6=true from (show (zm9 (formT x6.t) 5 L)=true from by simpa using hc23))⟩
    show x3.moves.length - (i+1)<x3.moves.length - i;have:=zab hx6;omega
   refine wp_exit (zcb (zcb (zaz (za6 (za1 (Jf 1 [(1,.add .i64 (m:=(q:Int)) (n:=1) i6)] [7,100] [(6,vI ((q:Int)+1))] h fun a w h=>za1 (zaa (x:=q) (y:=q+1) h ?_ ?_)))))))
   ·have:=zab hx3;exact ⟨by omega,zdj hx3 hQ2 (by unfold fewA;rw [hc18,yQ (p:=(x3.moves.length:Int)<=20) (by have:=dF hc20;omega),bE,bE];exact ze2 (dF hc24) hJ2)⟩
   show s.acts.length - (q+1)<s.acts.length - q;have:=zab hx3;omega
  refine Je 1 [(3,.g (xD 76 74 ki_1 (za7 hx3 (f:=zas.d)) (dO 75 _))),(7,.call (dN (SFewF x3.guard 30 (L:Int) (hr.act x3 (lM hx3)).1 (by decide) (by decide)) (yJ vb hc25)))] [70] [(91,vb true)] h fun a w h=>cS true h (fun _=>?_) nofun
  refine Je 1 [] [91] [(4,vb false)] h fun a w h=>qV (za5 (za8 (za5 (za5 (za8 (za5 (rT (.c (cB false)) h rfl ?_)))))));have hz:zc9 L s=false:=by unfold zc9;rw [yQ (p:=(s.vars.length:Int)<=8/\(s.bounds.length:Int)<=20/\(s.procs.length:Int)<=6/\(s.acts.length:Int)<=20) (by have:=dF hc2;have:=dF hc4;have:=dF hc6;have:=dF hc8;omega),bE];rw [(show (zm9 s.init 30 L)=true from by simpa using hc10)];rw [ze2 (dF hc16) hI2];rw [zca hx3 (show fewA L x3=false from (by unfold fewA;rw [hc25];rfl))];rfl
  rw [hz];try rfl
 refine exA (Jq 1 [] [(4,vb true)] [] h fun a w h=>qV (rT (.c (cB true)) h rfl ?_));have hz:zc9 L s=true:=by unfold zc9;rw [yQ (p:=(s.vars.length:Int)<=8/\(s.bounds.length:Int)<=20/\(s.procs.length:Int)<=6/\(s.acts.length:Int)<=20) (by have:=dF hc2;have:=dF hc4;have:=dF hc6;have:=dF hc8;omega),bE];rw [(show (zm9 s.init 30 L)=true from by simpa using hc10)];rw [ze2 (dF hc16) hI2];rw [ze2 (dF hc26) hQ2];rfl
 rw [hz];try rfl
def atD (loc v:Int):StD:=⟨[loc],[ZI.of v]⟩
mutual
inductive Wk:D->D->Prop
  | refl (x:D):Wk x x
  | nil (es:Nat):Wk (.raw zam) (.sl es [])
  | sl (es:Nat) (a b:List (List D)) (h:WkR a b):Wk (.sl es a) (.sl es b)
inductive WkL:List D->List D->Prop
  | nil:WkL [] []
  | cons (x y:D) (xs ys:List D) (h:Wk x y) (hs:WkL xs ys):WkL (x :: xs) (y :: ys)
inductive WkR:List (List D)->List (List D)->Prop
  | nil:WkR [] []
  | cons (x y:List D) (xs ys:List (List D)) (h:WkL x y) (hs:WkR xs ys):WkR (x :: xs) (y :: ys)
end
theorem lea_tok (n:Int) (hn:-1000<=n/\n<=1000):TOk 20 3 (zaq n).t:=⟨(show 1<=20 by decide),fun p hp=>by
 rw [bP.1 hp];exact ⟨ZI.lb_of _,show (ZI.of 1).abs.length<=3 from by decide⟩,ZI.lb_of _,bJ (ZI.len_of (L:=2) (by have:=pw2;show ((0:Int) - n).natAbs<_;omega)) (by decide)⟩
theorem le2:TOk 20 3 (zaq 2).t:=lea_tok 2 (by decide)
theorem psE_ok:zih [zaq 2]:=⟨by decide,fun r hr=>by rw [bP.1 hr];exact le2.mono (by decide) (by decide)⟩
theorem lit_holds (vs:List ZI) (r:za9) (b:Bool):(litF r b).holds vs=(zax vs r == b):=by
 unfold litF
 cases b with
 | true=>rw [if_pos rfl,zi9];cases zax vs r <;> rfl
 | false=>rw [if_neg Bool.noConfusion,deny_holds,zi9];cases zax vs r <;> rfl
def wantA (ps:List za9) (bs:List Bool) (vs:List ZI):Bool:=(List.zipWith (fun r b=>zax vs r == b) ps bs).all id
theorem cube_holds (ps:List za9) (bs:List Bool) (vs:List ZI):(zb1 ps bs).holds vs=wantA ps bs vs:=by
 unfold zb1 wantA
 rw [zfh]
 unfold zeb
 induction ps generalizing bs with
 | nil=>rfl
 | cons p ps ih =>
  cases bs with
  | nil=>rfl
  | cons b bs=>rw [dE,dE,dG,dG,lit_holds,ih];rfl
theorem want_own (ps:List za9) (vs:List ZI):wantA ps (ps.map (zax vs)) vs=true:=by
 unfold wantA
 induction ps with
 | nil=>rfl
 | cons p ps ih=>rw [bL,dE,dG,ih];simp
theorem ln14_4:SlT dM 41 69 2:=SlT.mk' Tryz.underlying41 (by kernel_rfl)
theorem LFewRs (rs:List za9) (most L:Int) (hl:rs.length<=9223372036854775807):Fn dM 31 [] [(vRs rs),vi .i64 most,vi .i64 L] (vb (zhj rs most L)) []:=SFewRs rs most L hl
theorem kw_4:ElZ dM 36 102 3:=ElZ.mk' Tryz.underlying36 _ _ rfl rfl
theorem kw_5:ElZ dM 71 75 5:=ElZ.mk' Tryz.underlying71 _ _ rfl rfl
theorem kw_6:ElZ dM 37 73 10:=ElZ.mk' Tryz.underlying37 _ _ rfl rfl
theorem kw_7:Sz dM 39 10 true:=Sz.mk' (by kernel_rfl) Tryz.underlying39 _ rfl
def sysE:zan:=⟨[⟨#[120]⟩],[⟨true,ze3,ZI.of 3⟩],form0,[⟨⟨#[112]⟩,[⟨#[97]⟩,⟨#[98]⟩],.raw zam⟩],[⟨0,0,1,form0,[⟨0,false,⟨[⟨0,ZI.of 1⟩],ZI.of 1⟩⟩]⟩]⟩
theorem e1:goS sysE (atD 0 2) 0 []=(atD 1 3,true):=by kernel_rfl
theorem e2:(goS sysE (atD 0 3) 0 []).2=false:=by kernel_rfl
theorem e3:ziq sysE (atD 0 3)=true:=by kernel_rfl
theorem e4:can sysE (atD 0 0) 0=true:=by kernel_rfl
theorem e5:ze4 sysE (atD 0 1) 0 (atD 1 2)=true:=by kernel_rfl
theorem allN_of {f:Nat->Bool}:∀ {n:Nat}, (∀ i,i<n->f i=true)->zg8 n f=true
 | 0,_=>rfl
 | n+1,h=>zbn (allN_of fun i hi=>h i (by omega)) (h n (by omega))
section
variable {w:World} {n:Nat}
theorem rep_raw {t e:TypeId} (hu:Tryz.prog.underlying t=some (.slice e)):zf2 w n t rawD (fun _=>True):=fun H enc base spare held fuel cs x hn hx=>by
 rcases DataW.trod_slice hu hx with ⟨rfl,_⟩ | ⟨a,len,cap,elems,rest,m,rfl,rfl,_⟩
 ·exact ⟨.raw _,trivial,DR.raw _ rfl,trivial⟩
 ·exact ⟨.raw _,trivial,DR.raw _ rfl,trivial⟩
theorem rep_ZIl:zf2 w n 52 (slD 2 ziD) (fun xs=>xs.length<=maxLen/\∀ x ∈ xs,Lb x.abs) :=
 zc7 (k:=2) Tryz.underlying52 (by kernel_rfl) (by decide) (fun _=>rfl) rep_ZI
theorem rep_strs:zf2 w n 22 (slD 1 zer) (fun xs=>xs.length<=maxLen/\∀ x ∈ xs,x.size<=maxLen) :=
 zc7 (k:=1) Tryz.underlying22 (by kernel_rfl) (by decide) (fun _=>rfl) (rep_str Tryz.underlying9)
theorem rep_Rel:zf2 w n 32 d4 (fun r=>TLb r.t) :=
 ((zbp (n:=n) Tryz.underlying32 (by kernel_rfl) (.cons (k0:=3) rfl (by kernel_rfl) rep_Term (.cons (k0:=1) rfl (by kernel_rfl) (zjf Tryz.underlying4) .nil))).map (fun p=>⟨p.1,p.2.1⟩) (fun _=>rfl) fun _ h=>h.1).mono (cF n)
theorem rep_Form:∀ {n:Nat}, zf2 w n 35 dQ za0.lb
 | 0=>zf2.zero
 | n+1=>(zbp (n:=n) Tryz.underlying35 (by kernel_rfl) (.cons (k0:=1) rfl (by kernel_rfl) (zit Tryz.underlying3) (.cons (k0:=4) rfl (by kernel_rfl) rep_Rel (.cons (k0:=1) rfl (by kernel_rfl) (zc7 (k:=6) Tryz.underlying33 (by kernel_rfl) (by decide) dS rep_Form) .nil)))).map (fun p=>⟨p.1,p.2.1,p.2.2.1⟩) (fun _=>(dR _).trans rfl) fun _ h=>(za0.lb_eq _).2 ⟨⟨h.2.1,bJ h.2.2.1.1 (by decide)⟩,h.2.2.1.2⟩
theorem rep_Bound:zf2 w n 132 d6 (fun b=>Lb b.lo.abs/\Lb b.hi.abs) :=
 ((zbp (n:=n) Tryz.underlying132 (by kernel_rfl) (.cons (k0:=1) rfl (by kernel_rfl) (zjf Tryz.underlying4) (.cons (k0:=2) rfl (by kernel_rfl) rep_ZI (.cons (k0:=2) rfl (by kernel_rfl) rep_ZI .nil)))).map (fun p=>⟨p.1,p.2.1,p.2.2.1⟩) (fun _=>rfl) fun _ h=>⟨h.2.1,h.2.2.1⟩).mono (cF n)
theorem rep_Move:zf2 w n 75 d5 (fun m=>TLb m.t) :=
 ((zbp (n:=n) Tryz.underlying75 (by kernel_rfl) (.cons (k0:=1) rfl (by kernel_rfl) (zit Tryz.underlying3) (.cons (k0:=1) rfl (by kernel_rfl) (zjf Tryz.underlying4) (.cons (k0:=3) rfl (by kernel_rfl) rep_Term .nil)))).map (fun p=>⟨p.1,p.2.1,p.2.2.1⟩) (fun _=>rfl) fun _ h=>h.2.2.1).mono (cF n)
theorem rep_Moves:zf2 w n 71 (slD 5 d5) (fun xs=>xs.length<=maxLen/\∀ x ∈ xs,TLb x.t) :=
 zc7 (k:=5) Tryz.underlying71 (by kernel_rfl) (by decide) (fun _=>rfl) rep_Move
theorem rep_Bounds:zf2 w n 23 (slD 5 d6) (fun xs=>xs.length<=maxLen/\∀ x ∈ xs,Lb x.lo.abs/\Lb x.hi.abs) :=
 zc7 (k:=5) Tryz.underlying23 (by kernel_rfl) (by decide) (fun _=>rfl) rep_Bound
theorem rep_Act:zf2 w n 73 zas.d (fun c=>c.guard.lb/\c.moves.length<=maxLen/\∀ m ∈ c.moves,TLb m.t) :=
 ((zbp (n:=n) Tryz.underlying73 (by kernel_rfl) (.cons (k0:=1) rfl (by kernel_rfl) (zit Tryz.underlying3) (.cons (k0:=1) rfl (by kernel_rfl) (zit Tryz.underlying3) (.cons (k0:=1) rfl (by kernel_rfl) (zit Tryz.underlying3) (.cons (k0:=6) rfl (by kernel_rfl) rep_Form (.cons (k0:=1) rfl (by kernel_rfl) rep_Moves .nil)))))).map (fun p=>⟨p.1,p.2.1,p.2.2.1,p.2.2.2.1,p.2.2.2.2.1⟩) (fun _=>by rw [dR];rfl) fun _ h=>⟨h.2.2.2.1,h.2.2.2.2.1⟩).mono (cF n)
theorem rep_Proc:zf2 w n 102 zbj.d (fun _=>True) :=
 ((zbp (n:=n) Tryz.underlying102 (by kernel_rfl) (.cons (k0:=1) rfl (by kernel_rfl) (rep_str Tryz.underlying9) (.cons (k0:=1) rfl (by kernel_rfl) rep_strs (.cons (k0:=1) rfl (by kernel_rfl) (rep_raw Tryz.underlying100) .nil)))).map (fun p=>⟨p.1,p.2.1,p.2.2.1⟩) (fun _=>rfl) fun _ _=>trivial).mono (cF n)
theorem rep_Procs:zf2 w n 36 (slD 3 zbj.d) (fun xs=>xs.length<=maxLen/\∀ x ∈ xs,True) :=
 zc7 (k:=3) Tryz.underlying36 (by kernel_rfl) (by decide) (fun _=>rfl) rep_Proc
theorem rep_Acts:zf2 w n 37 (slD 10 zas.d) (fun xs=>xs.length<=maxLen/\∀ x ∈ xs,x.guard.lb/\x.moves.length<=maxLen/\∀ m ∈ x.moves,TLb m.t) :=
 zc7 (k:=10) Tryz.underlying37 (by kernel_rfl) (by decide) (fun _=>rfl) rep_Act
theorem rep_Sys:zf2 w n 39 zan.d SysRd :=
 ((zbp (n:=n) Tryz.underlying39 (by kernel_rfl) (.cons (k0:=1) rfl (by kernel_rfl) rep_strs (.cons (k0:=1) rfl (by kernel_rfl) rep_Bounds (.cons (k0:=6) rfl (by kernel_rfl) rep_Form (.cons (k0:=1) rfl (by kernel_rfl) rep_Procs (.cons (k0:=1) rfl (by kernel_rfl) rep_Acts .nil)))))).map (fun p=>⟨p.1,p.2.1,p.2.2.1,p.2.2.2.1,p.2.2.2.2.1⟩) (fun _=>by rw [dR];rfl) fun _ h=>⟨h.2.2.1,h.2.1.2,fun c hc=>⟨(h.2.2.2.2.1.2 c hc).1,(h.2.2.2.2.1.2 c hc).2.2⟩,⟨bJ h.2.1.1 (by decide),bJ h.2.2.2.2.1.1 (by decide)⟩,fun c hc=>bJ (h.2.2.2.2.1.2 c hc).2.1 (by decide)⟩).mono (cF n)
theorem rep_State:zf2 w n 54 dP StRd :=
 ((zbp (n:=n) Tryz.underlying54 (by kernel_rfl) (.cons (k0:=1) rfl (by kernel_rfl) zlq (.cons (k0:=1) rfl (by kernel_rfl) rep_ZIl .nil))).map (fun p=>⟨p.1,p.2.1⟩) (fun _=>rfl) fun _ h=>⟨h.2.1.2,bJ h.2.1.1 (by decide)⟩).mono (cF n)
end
section
variable {w:World} {n:Nat}
theorem rep_RelsL:zf2 w n 40 (slD 4 d4) (fun xs=>xs.length<=maxLen/\∀ x ∈ xs,TLb x.t) :=
 zc7 (k:=4) Tryz.underlying40 (by kernel_rfl) (by decide) (fun _=>rfl) rep_Rel
theorem rep_bools:zf2 w n 67 (slD 1 zb4) (fun xs=>xs.length<=maxLen/\∀ x ∈ xs,True) :=
 zc7 (k:=1) Tryz.underlying67 (by kernel_rfl) (by decide) (fun _=>rfl) (zjf Tryz.underlying4)
end
theorem valT_var (v:Int) (vs:List ZI):zd6 (zh3 v) vs=zce vs v:=by
 unfold zh3
 rw [zc6]
 simp [zd6,oneT,zeq,ZI.val_of]
 rw [show (⟨false,[]⟩:ZI).val=0 from rfl,Int.zero_add]
theorem coefZ_far {ps:List za4} {v:Int} (h:∀ p ∈ ps,p.v≠v):zah ps v=0:=by
 induction ps with
 | nil=>rfl
 | cons p ps ih=>simp only [zah];rw [if_neg (fun e=>h p (by simp) e.1),ih (fun q hq=>h q (by simp [hq]))];rfl
theorem zjv (a:Int):zbo a a=0:=by unfold zbo;split <;> (try split) <;> omega
theorem cmpRl_cp (r:za9):zdm (cpR r) r=0:=by
 unfold zdm cpR
 rw [show cmpT (za2 r.t) r.t=0 from cmpT_eq (zby _),show zgs ⟨za2 r.t,r.eq⟩=zgs r from rfl,zjv];rfl
theorem gath_pre (f:za0):∀ ps,∃ ys,f.gath ps=ps++ys :=
 dW (P:=fun f=>∀ ps,∃ ys,f.gath ps=ps++ys) (fun k r ks ih ps=>by
  rw [za0.gath_eq]
  split
  ·exact ⟨_,rfl⟩
  ·have:∀ (xs:List za0),(∀ g ∈ xs,g ∈ ks)->∀ qs:List za9,∃ ys,xs.foldl (fun a g=>g.gath a) qs=qs++ys:=fun xs=>by
    induction xs with
    | nil=>intro _ qs;exact ⟨[],by simp⟩
    | cons x xs ihx =>
     intro hx qs
     obtain ⟨y1,h1⟩:=ih x (hx x (bS ..)) qs
     obtain ⟨y2,h2⟩:=ihx (fun g hg=>hx g (b9 _ hg)) (x.gath qs)
     exact ⟨y1++y2,by rw [cL,h2,h1,dA]⟩
   exact this ks (fun g hg=>hg) ps) f
def za0.fl (f:za0):Prop:=f.fold fun k _ _ hs=>(k=0\/k=1\/k=2\/k=4\/k=5)/\∀ h ∈ hs,h
theorem za0.fl_eq (f:za0):f.fl ↔ (f.kind=0\/f.kind=1\/f.kind=2\/f.kind=4\/f.kind=5)/\∀ g ∈ f.kids,g.fl:=by
 have:=dU (fun k _ _ (hs:List Prop)=>(k=0\/k=1\/k=2\/k=4\/k=5)/\∀ h ∈ hs,h) f
 unfold za0.fl
 rw [this]
 refine and_congr_right fun _=>⟨fun h g hg=>h _ (b5.2 ⟨g,hg,rfl⟩),fun h p hp=>?_⟩
 obtain ⟨g,hg,rfl⟩:=b5.1 hp
 exact h g hg
theorem fl_tru (b:Bool):(zcs b).fl:=by rw [za0.fl_eq];exact ⟨by cases b;exact .inr (.inl rfl);exact .inl rfl,fun g hg=>by cases hg⟩
theorem fl_tight (r:za9):(zb0 r).fl:=by
 unfold zb0;split
 ·rw [za0.fl_eq];exact ⟨.inr (.inr (.inl rfl)),fun g hg=>by cases hg⟩
 ·exact fl_tru _
theorem zhh {k:Int} (hk:k=4\/k=5):∀ (fs out:List za0),(∀ g ∈ out,g.fl)->(∀ g ∈ fs,g.fl)->(zbd k fs out).fl
 | [],out,h,_=>by
  unfold zbd
  match out with
  | []=>exact fl_tru _
  | [g]=>exact h g (bS ..)
  | g :: q :: l=>rw [za0.fl_eq];exact ⟨by rcases hk with hk | hk <;> subst hk;exact .inr (.inr (.inr (.inl rfl)));exact .inr (.inr (.inr (.inr rfl))),h⟩
 | f :: fs,out,h,h2=>by
  rw [zbd]
  have hf:=h2 f (bS ..)
  have hfs:∀ g ∈ fs,g.fl:=fun g hg=>h2 g (b9 _ hg)
  split
  ·exact hf
  ·split
   ·exact zhh hk fs out h hfs
   ·split
    ·exact zhh hk fs _ (fun g hg=>(cC.1 hg).elim (h g) fun hg=>((za0.fl_eq _).1 hf).2 g hg) hfs
    ·exact zhh hk fs _ (fun g hg=>(cC.1 hg).elim (h g) fun hg=>by rw [bP.1 hg];exact hf) hfs
theorem flat_fl (f:za0):∀ d,(f.flat d).fl :=
 dW (P:=fun f=>∀ d,(f.flat d).fl) (fun k r ks ih d=>by
  rw [za0.flat_eq]
  show (zgu k r (ks.map za0.flat) d).fl
  unfold zgu
  split
  ·exact fl_tru _
  ·split
   ·split
    ·refine zhh (.inr rfl) _ [] (fun g hg=>by cases hg) fun g hg=>?_
     obtain ⟨q,hq,rfl⟩:=b5.1 hg
     exact fl_tight q
    ·exact fl_tight r
   ·split
    ·cases ks with
     | nil=>exact fl_tru _
     | cons g gs=>exact ih g (bS ..) (!d)
    ·split
     ·rename_i h4
      refine zhh (by cases d <;> simp <;> omega) _ [] (fun g hg=>by cases hg) fun g hg=>?_
      rw [List.map_map] at hg
      obtain ⟨q,hq,rfl⟩:=b5.1 hg
      exact ih q hq d
     ·exact fl_tru _) f
theorem sizeGo_ge {lim:Int}:∀ (ks:List za0) (n:Int),n<=zdp lim (ks.map za0.size) n
 | [],n=>Int.le_refl _
 | g :: ks,n=>by
  rw [bL,zdp]
  split
  ·rename_i h
   have h1:=sizeGo_ge (lim:=lim) ks (n+g.size (lim - n))
   have h2:=(g.size_bd (lim - n) (by omega)).1
   omega
  ·exact Int.le_refl _
theorem size_wid (f:za0):∀ lim:Int,0<=lim->f.size lim<=lim->(f.wid:Int)<=3*f.size lim :=
 dW (P:=fun f=>∀ lim:Int,0<=lim->f.size lim<=lim->(f.wid:Int)<=3*f.size lim) (fun k r ks ih lim hl h=>by
  rw [za0.size_eq] at h ⊢
  rw [dZ]
  have key:∀ (xs:List za0),(∀ g ∈ xs,g ∈ ks)->∀ n:Int,zdp lim (xs.map za0.size) n<=lim->(((xs.map za0.wid).sum:Nat):Int)<=3*(zdp lim (xs.map za0.size) n - n):=fun xs=>by
   induction xs with
   | nil=>intro _ n _;show (0:Int)<=3*(n - n);omega
   | cons x xs ihx =>
    intro hx n hn
    rw [bL,zdp] at hn
    rw [bL,bL,cD,zdp]
    split at hn
    ·rename_i e
     rw [if_pos e]
     have h1:=sizeGo_ge (lim:=lim) xs (n+x.size (lim - n))
     have h2:=ih x (hx x (bS ..)) (lim - n) (by omega) (by omega)
     have h3:=ihx (fun g hg=>hx g (b9 _ hg)) _ hn
     omega
    ·omega
  have:=key (cnt k ks) (fun g hg=>zb9 hg) 1 h
  show (((3+((cnt k ks).map za0.wid).sum:Nat)):Int)<=3*zdp lim ((cnt k ks).map za0.size) 1
  omega) f
theorem ok_okB {L:Nat} (f:za0):f.ok L->f.lb->f.wid<=1000000000000->f.okB 20 L :=
 dW (P:=fun f=>f.ok L->f.lb->f.wid<=1000000000000->f.okB 20 L) (fun k r ks ih h1 h2 h3=>by
  rw [za0.okB_eq]
  have o1:=(za0.ok_eq _ _).1 h1
  have o2:=(za0.lb_eq _).1 h2
  refine ⟨⟨o1.1,o2.1.2,?_⟩,fun g hg=>ih g (zb9 hg) (o1.2 g hg) (o2.2 g (zb9 hg)) (bJ (wid_kid hg) h3)⟩
  rw [dZ] at h3
  have:∀ xs:List za0,xs.length<=(xs.map za0.wid).sum:=fun xs=>by
   induction xs with
   | nil=>exact bI _
   | cons x xs ih=>rw [bL,cD,cT,dZ];omega
  have:=this (cnt k ks)
  change 3+((cnt k ks).map za0.wid).sum<=1000000000000 at h3
  show (cnt k ks).length<=1000000000000
  omega) f
def geF (l r:zaf):za0:=zfp (leaR (subT l r))
def leF (l r:zaf):za0:=zfp (leaR (subT r l))
def bndF (s:zan) (v:Nat) (t:zaf):List za0:=if (zbm s v).is_=true then [geF t (zcu (zbm s v).lo),leF t (zcu (zbm s v).hi)] else []
def sndB (s:zan) (c:zas):Bool:=((decide (0<=c.proc/\c.proc<(s.procs.length:Int)) && decide (0<=c.from_/\c.from_<(zfl s c.proc.toNat:Int))) && decide (0<=c.to_/\c.to_<(zfl s c.proc.toNat:Int))) && !(c.moves.any fun m=>!zfi s m)
def zac (s:zan) (i:Int):zas × Bool:=match zeh s i with | none=>(act0,false) | some c=>(c,sndB s c)
def mvA (c:zas) (v:Nat):zai × Bool:=match ziu c v with | none=>(mv0,false) | some m=>(m,true)
def zd4 (c:zas) (v:Nat):zaf × Bool:=match ziu c v with | none=>(zh3 (v:Int),true) | some m=>if m.any=true then (⟨[],ze3⟩,false) else (za2 m.t,true)
def zfy (s:zan) (c:zas) (v:Nat):List za0:=if (zd4 c v).2=true then bndF s v (zd4 c v).1 else if (zbm s v).is_=true then [leF (zcu (zbm s v).lo) (zcu (zbm s v).hi)] else []
def canL (s:zan) (c:zas):List za0:=c.guard :: (bC s.vars.length).flatMap (zfy s c)
def zex (s:zan) (c:zas):za0:=zcj (canL s c)
theorem zdz (F:Nat->List β) (j:Nat):(bC (j+1)).flatMap F=(bC j).flatMap F++F j:=by rw [c8,List.flatMap_append];simp
theorem zdy (F:Nat->List β) {m:Nat} (h:∀ v,(F v).length<=m) (j:Nat):((bC j).flatMap F).length<=j*m:=by
 induction j with
 | zero=>simp
 | succ j ih=>rw [zdz,b7,Nat.succ_mul];have:=h j;omega
theorem ze0 {F:Nat->List β} {Q:β->Prop} (h:∀ v,v<n->∀ x ∈ F v,Q x):∀ x ∈ (bC n).flatMap F,Q x:=fun x hx=>by
 obtain ⟨v,hv,hx⟩:=List.mem_flatMap.1 hx
 exact h v (List.mem_range.1 hv) x hx
theorem zkd {L:Nat} {k:ZI} (h:ZOk L k):TOk 20 L (zcu k):=(TOk.num (ZI.lb_of _) (bJ (zdd h.1) h.2)).mono (bF _) (bI _)
theorem sub_tok {l r:zaf} {m L:Nat} (hl:TOk n L l) (hr:TOk m L r) (hn:n+m<=400000000):TOk (n+m) (2*(L+3)+2) (subT l r) :=
 (addT_ok (hl.mono (bI _) (show L<=L+3 by omega)) ((TOk.mul hr (ZI.lb_of _) (show (ZI.of (-1)).abs.length<=2 from by decide)).plain (by omega)) (by omega)).mono (bI _) (by omega)
theorem at_okB {l r:zaf} {m:Nat} (hl:TOk n 20 l) (hr:TOk m 20 r) (hn:n+m<=400000000) (e:Bool):(zfp ⟨za2 (subT l r),e⟩).okB (n+m) 50 :=
 zi2 ((((sub_tok hl hr hn).plain (by omega)).plain (by omega)).mono (bI _) (by omega))
theorem var_tok (v:Int):TOk 1 20 (zh3 v):=(TOk.plain TOk.one (by decide)).mono (bI _) (by decide)
theorem bnd_num (hs:zbh 3 s) (v:Nat):TOk 20 20 (zcu (zbm s v).lo)/\TOk 20 20 (zcu (zbm s v).hi) :=
 ⟨(zkd (bnd_ok hs v).1).mono (bI _) (by decide),(zkd (bnd_ok hs v).2).mono (bI _) (by decide)⟩
theorem bndF_ok (hs:zbh 3 s) (v:Nat) (ht:TOk 20 20 t):∀ g ∈ bndF s v t,g.okB 40 50:=fun g hg=>by
 unfold bndF at hg
 split at hg
 ·rcases List.mem_cons.1 hg with rfl | hg
  ·exact at_okB (n:=20) (m:=20) ht (bnd_num hs v).1 (by decide) false
  ·rw [bP.1 hg];exact at_okB (n:=20) (m:=20) (bnd_num hs v).2 ht (by decide) false
 ·cases hg
theorem bndF_len (s:zan) (v:Nat) (t:zaf):(bndF s v t).length<=2:=by unfold bndF;split <;> simp
theorem ziz {L:Nat} (hn:n<=1000000000) {fs:List za0} (h:∀ g ∈ fs,g.okB n L) (hl:fs.length<=1000000000000):(zcj fs).okB n (L+1) :=
 zi1 (by decide) (by rw [bK];exact hl) fun g hg=>by
  obtain ⟨q,hq,rfl⟩:=b5.1 hg
  exact okB_cl hn q (h q hq)
theorem val_tok {c:zas} (hc:zgy 3 c) (v:Nat):TOk 20 20 (zd4 c v).1:=by
 unfold zd4
 cases e:ziu c v with
 | none=>exact (var_tok _).mono (by decide) (bI _)
 | some m =>
  show TOk 20 20 (if m.any=true then _ else _:zaf × Bool).1
  split
  ·exact ⟨bF _,(fun p hp=>by cases hp),zg0,bF _⟩
  ·exact ((hc.mv m (by unfold ziu at e;exact c6 e)).plain (by decide)).mono (bI _) (by decide)
theorem canS_ok (hs:zbh 3 s) {c:zas} (hc:zgy 3 c) (v:Nat):∀ g ∈ zfy s c v,g.okB 40 50:=fun g hg=>by
 unfold zfy at hg
 split at hg
 ·exact bndF_ok hs v (val_tok hc v) g hg
 ·split at hg
  ·rw [bP.1 hg];exact at_okB (n:=20) (m:=20) (bnd_num hs v).2 (bnd_num hs v).1 (by decide) false
  ·cases hg
theorem zme (s:zan) (c:zas) (v:Nat):(zfy s c v).length<=2:=by
 unfold zfy;split
 ·exact bndF_len _ _ _
 ·split <;> simp
theorem form_okB {L:Nat} (hf:f.lb/\f.ok L) (hw:f.wid<=1000000000000):f.okB 20 L:=ok_okB f hf.2 hf.1 hw
theorem act0_ok:zgy 3 act0:=⟨⟨by rw [za0.lb_eq];exact ⟨⟨⟨zg0,fun p hp=>by cases hp⟩,bF _⟩,fun g hg=>by cases hg⟩,by rw [za0.ok_eq];exact ⟨fun e=>absurd e (by decide),fun g hg=>absurd (zb9 hg) (by show g ∉ [];exact List.not_mem_nil)⟩⟩,bF _,fun m hm=>by cases hm⟩
theorem zg2 (hs:zbh 3 s) (i:Int):zgy 3 (zac s i).1:=by
 unfold zac
 cases e:zeh s i with
 | none=>exact act0_ok
 | some c =>
  refine hs.act c ?_
  unfold zeh at e
  split at e
  ·exact cH e
  ·cases e
def zlj (s:zan):Prop:=s.init.wid<=100/\∀ c ∈ s.acts,c.guard.wid<=100
theorem zl6 (hs:zlj s) (i:Int):(zac s i).1.guard.wid<=100:=by
 unfold zac
 cases e:zeh s i with
 | none=>show act0.guard.wid<=100;rw [dZ];decide
 | some c =>
  refine hs.2 c ?_
  unfold zeh at e
  split at e
  ·exact cH e
  ·cases e
theorem can_ok (hs:zbh 3 s) {c:zas} (hc:zgy 3 c) (hw:c.guard.wid<=100):∀ g ∈ canL s c,g.okB 40 50:=fun g hg=>by
 unfold canL at hg
 rcases List.mem_cons.1 hg with rfl | hg
 ·exact dY (by decide) (by decide) _ (form_okB hc.guard (by omega))
 ·exact ze0 (fun v _=>canS_ok hs hc v) g hg
theorem bnd_is (h:s.bounds[v]?=some b):zbm s v=b:=by unfold zbm;rw [h];rfl
theorem bnd_no (h:s.bounds.length<=v):(zbm s v).is_=false:=by unfold zbm;rw [b6 h];rfl
theorem bndF_at (h:s.bounds[v]?=some b) (e:b.is_=true):bndF s v t=[geF t (zcu b.lo),leF t (zcu b.hi)]:=by unfold bndF;rw [bnd_is h,if_pos e]
theorem bndF_no (h:(zbm s v).is_=false):bndF s v t=[]:=by unfold bndF;rw [h];rfl
theorem LCmpLe (l r:zaf) (hl:TOk 20 20 l) (hr:TOk 20 20 r):Fn dM 154 [] [vI 3,(vT l),(vT r)] (vF (leF l r)) []:=by
 refine fB Tryz.func154 rfl 51 fun w H B a h=>Jq 0 [] [(0,vI 3),(4,vp 0 0),(5,vp 1 0),(6,vp 2 0)] [(0,.box (zT l)),(1,.box (zT r)),(2,.box zF0)] h fun a w h=>?_
 obtain ⟨r1,er1,vr1,or1,lr1⟩:=mkZ (v:=1) (m:=2) (ZI.len_of (by have:=pw2;omega));refine Jg 3 [(0,.call (dN (SOf 1 ⟨by omega,by omega⟩) (yJ vz er1.symm))),(1,.call (zhq r1 or1 (by omega)))] [] [(7,vp 3 0)] [] [(3,.box (zT (zcu r1)))] h fun a w h=>qW (Je 4 [] [0] [(10,vI 3)] h fun a w h=>qZ (Je 4 [(0,.cmp (op:=.eql) (m:=3) (n:=0) (b:=false) .i64 rfl)] [] [(11,vb false)] h fun a w h=>zau h (Je 4 [(0,.cmp (op:=.eql) (m:=3) (n:=1) (b:=false) .i64 rfl)] [11] [(18,vb false)] h fun a w h=>zau h (Je 4 [(0,.cmp (op:=.eql) (m:=3) (n:=2) (b:=false) .i64 rfl)] [18] [(24,vb false)] h fun a w h=>zau h (Jg 4 [(0,.cmp (op:=.eql) (m:=3) (n:=3) (b:=true) .i64 rfl)] [7,24] [(33,vb true)] [3] [] h fun a w h=>cS true h (fun _=>?_) nofun)))));refine Jq 4 [(2,.call (STSub r l (hr.mono (by decide) (by decide)) (hl.mono (by decide) (by decide)))),(3,.call (LLeast (subT r l) ((sub_tok hr hl (by decide)).mono (by decide) (by decide)))),(4,.call (LOf (leaR (subT r l)) (TOk.mono ((sub_tok hr hl (by decide)).plain (by decide)) (by decide) (by decide))))] [(6,vp 2 0)] [(2,.box (zF (zfp (leaR (subT r l)))))] h fun a w h=>qV (za8 (za5 (rA 2 (zF (zfp (leaR (subT r l)))) h zdh rfl ?_)));rfl
theorem LCmpGe (l r:zaf) (hl:TOk 20 20 l) (hr:TOk 20 20 r):Fn dM 154 [] [vI 5,(vT l),(vT r)] (vF (geF l r)) []:=by
 refine fB Tryz.func154 rfl 51 fun w H B a h=>Jq 0 [] [(0,vI 5),(4,vp 0 0),(5,vp 1 0),(6,vp 2 0)] [(0,.box (zT l)),(1,.box (zT r)),(2,.box zF0)] h fun a w h=>?_
 obtain ⟨r1,er1,vr1,or1,lr1⟩:=mkZ (v:=1) (m:=2) (ZI.len_of (by have:=pw2;omega));refine Jg 3 [(0,.call (dN (SOf 1 ⟨by omega,by omega⟩) (yJ vz er1.symm))),(1,.call (zhq r1 or1 (by omega)))] [] [(7,vp 3 0)] [] [(3,.box (zT (zcu r1)))] h fun a w h=>qW (Je 4 [] [0] [(10,vI 5)] h fun a w h=>qZ (Je 4 [(0,.cmp (op:=.eql) (m:=5) (n:=0) (b:=false) .i64 rfl)] [] [(11,vb false)] h fun a w h=>zau h (Je 4 [(0,.cmp (op:=.eql) (m:=5) (n:=1) (b:=false) .i64 rfl)] [11] [(18,vb false)] h fun a w h=>zau h (Je 4 [(0,.cmp (op:=.eql) (m:=5) (n:=2) (b:=false) .i64 rfl)] [18] [(24,vb false)] h fun a w h=>zau h (Jg 4 [(0,.cmp (op:=.eql) (m:=5) (n:=3) (b:=false) .i64 rfl)] [7,24] [(33,vb false)] [3] [] h fun a w h=>zau h (Je 4 [(0,.cmp (op:=.eql) (m:=5) (n:=4) (b:=false) .i64 rfl)] [33] [(40,vb false)] h fun a w h=>zau h (Je 4 [(0,.cmp (op:=.eql) (m:=5) (n:=5) (b:=true) .i64 rfl)] [10,40] [(45,vb true)] h fun a w h=>cS true h (fun _=>?_) nofun)))))));refine Jq 4 [(2,.call (LCmpLe r l hr hl))] [(6,vp 2 0)] [(2,.box (zF (leF r l)))] h fun a w h=>qV (za8 (za5 (rA 2 (zF (leF r l)) h zdh rfl ?_)));rfl
theorem Lvariable (v:Nat) :Fn dM 152 [] [vN v] (vT (zh3 (v:Int))) []:=by
 refine fB Tryz.func152 rfl 5 fun w H B a h=>Jq 0 [] [(0,vN v),(2,vp 0 0)] [(0,.box zT0)] h fun a w h=>Jd 1 [(1,.call (SVar (v:Int)))] [0] [] [(0,.box (zT (zh3 (v:Int))))] h fun a w h=>qV (rA 0 (zT (zh3 (v:Int))) h zh7 rfl ?_)
 rfl
theorem Lbounded (s:zan) (v:Nat) (t:zaf) (hs:zbh 3 s) (ht:TOk 20 20 t):Fn dM 153 [] [vG (zcn s),vN v,(vT t)] (vFs (bndF s v t)) []:=by
 have lbs:=hs.bnds;refine fB Tryz.func153 rfl 38 fun w H B a h=>Jq 0 [] [(1,vN v),(3,vp 0 0),(5,vp 1 0),(6,vW zam)] [(0,.box (zcn s)),(1,.box (zT t))] h fun a w h=>qW ?_
 rcases bG (decide ((v:Int)>=(s.bounds.length:Int))) with hc1 | hc2
 ·have hc1':=dT hc1;refine Je 2 [(3,.len (za3 5 d6 s.bounds)),(4,.cmp (op:=.geq) (m:=(v:Int)) (n:=(s.bounds.length:Int)) (b:=true) .i64 hc1)] [] [(21,vb true)] h fun a w h=>cS true h (fun _=>?_) nofun
  refine Je 2 [] [21] [] h fun a w h=>qV (za5 ?_);replace h:=nilDSx 6 0 6 (vW zam) h;refine rT (.c (cFs [])) h rfl ?_;have hz:bndF s v t=[]:=bndF_no (bnd_no (by omega));rw [hz];try rfl
 have hc2':=dF hc2;obtain ⟨x1,hx1⟩:=gl s.bounds v;refine Je 2 [(3,.len (za3 5 d6 s.bounds)),(4,.cmp (op:=.geq) (m:=(v:Int)) (n:=(s.bounds.length:Int)) (b:=false) .i64 hc2),(9,.g (xD 17 15 kf_0 (za7 hx1 (f:=d6)) (dO 16 _)))] [] [(21,vb (!x1.is_))] h fun a w h=>cS (!x1.is_) h (fun hc3=>?_) (fun hc4=>?_)
 ·refine Je 2 [] [21] [] h fun a w h=>qV (za5 ?_);replace h:=nilDSx 6 0 6 (vW zam) h;refine rT (.c (cFs [])) h rfl ?_;have hz:bndF s v t=[]:=bndF_no (by rw [bnd_is hx1];exact (show (x1.is_)=false from by simpa using hc3));rw [hz];try rfl
 refine qU (za1 (Jg 2 [(3,.g (xD 25 23 kf_0 (za7 hx1 (f:=d6)) (dO 24 _)))] [1,3,21] [(7,vp 2 0)] [0] [(2,.box ([cB x1.is_]++zi x1.lo++zi x1.hi))] h fun a w h=>Jq 3 [(3,.call (zhq x1.lo (hs.bnd x1 (lM hx1)).1.1 (by have:=(hs.bnd x1 (lM hx1)).1.2;omega))),(4,.call (LCmpGe t (zcu x1.lo) ht ((zkd (hs.bnd x1 (lM hx1)).1).mono (bI _) (by decide)))),(8,.call (zhq x1.hi (hs.bnd x1 (lM hx1)).2.1 (by have:=(hs.bnd x1 (lM hx1)).2.2;omega))),(9,.call (LCmpLe t (zcu x1.hi) ht ((zkd (hs.bnd x1 (lM hx1)).2).mono (bI _) (by decide)))),(10,.g (Op.buildD (d:=37) (len:=2) (rows:=[(geF t (zcu x1.lo)),(leF t (zcu x1.hi))].map dQ) (rs:=[(31,(vF (geF t (zcu x1.lo)))),(36,(vF (leF t (zcu x1.hi))))]) kb_1 (.cons (i:=0) (dO 31 _) (.cons (i:=1) (dO 36 _) (.nil))) (by simp only [bL,cO,cP,cQ,cJ,dR]; try kernel_rfl) rfl (by simp [dS]) (by decide) (by decide)))] [(6,(vFs [(geF t (zcu x1.lo)),(leF t (zcu x1.hi))]))] [] h fun a w h=>qV (rT (.c (cFs [(geF t (zcu x1.lo)),(leF t (zcu x1.hi))])) h rfl ?_)));have hz:bndF s v t=[(geF t (zcu x1.lo)),(leF t (zcu x1.hi))]:=bndF_at hx1 (by have:=(show (x1.is_)=true from by simpa using hc4);simpa using this);rw [hz];try rfl
theorem mc2_1:zbt dM 150:=zbt.mk' (by kernel_rfl)
theorem mc2_7:zbt dM 148:=zbt.mk' (by kernel_rfl)
theorem mc2_8:zbt dM 187:=zbt.mk' (by kernel_rfl)
theorem Lsound1 (x l:Int) :Fn dM 148 [(3,.box [cI l])] [vI x,vp 3 0] (vb (decide (0<=x/\x<l))) [(3,.box [cI l])]:=by
 refine fB Tryz.func148 rfl 11 fun w H B a h=>Jq 6 [] [(0,vI x),(1,vp 3 0),(3,vb false)] [(3,.box [cI l])] h fun a w h=>?_
 rcases bG (decide (x>=0)) with hc1 | hc2
 ·have hc1':=dT hc1;refine Jp 6 [(1,.cmp (op:=.geq) (m:=x) (n:=0) (b:=true) .i64 hc1)] [(3,vb (decide (x<l)))] h fun a w h=>qV (rT (.c (cB (decide (x<l)))) h rfl ?_);have hz:decide (0<=x/\x<l)=(decide (x<l)):=by have h0:=dT hc1;exact decide_eq_decide.2 ⟨fun e=>e.2,fun e=>⟨h0,e⟩⟩
  rw [hz];try rfl
 have hc2':=dF hc2;refine Jp 6 [(1,.cmp (op:=.geq) (m:=x) (n:=0) (b:=false) .i64 hc2)] [(3,vb false)] h fun a w h=>qV (rT (.c (cB false)) h rfl ?_);have hz:decide (0<=x/\x<l)=(false):=by exact yX (fun e=>dF hc2 e.1)
 rw [hz];try rfl
theorem Lsound2 (s:zan) (m:zai) :Fn dM 150 [(0,.box (zcn s))] [vG ([cI m.v,cB m.any,cPs m.t.parts]++zi m.t.k),vp 0 0] (vb (!zfi s m)) [(0,.box (zcn s))]:=by
 refine fB Tryz.func150 rfl 15 fun w H B a h=>Jq 6 [] [(1,vp 0 0),(2,vp 6 0),(3,vb false)] [(0,.box (zcn s)),(6,.box ([cI m.v,cB m.any,cPs m.t.parts]++zi m.t.k))] h fun a w h=>?_
 rcases bG (decide (m.v<0)) with hc1 | hc2
 ·have hc1':=dT hc1;refine Jg 7 [(2,.cmp (op:=.lss) (m:=m.v) (n:=0) (b:=true) .i64 hc1)] [1,2] [(3,vb true)] [6] [] h fun a w h=>qV (rT (.c (cB true)) h rfl ?_);have hz:(!zfi s m)=(true):=(there_lo hc1);rw [hz];try rfl
 have hc2':=dF hc2;refine Jg 7 [(2,.cmp (op:=.lss) (m:=m.v) (n:=0) (b:=false) .i64 hc2),(8,.len (za3 1 zer s.vars))] [1,2] [(3,vb (decide (m.v>=(s.vars.length:Int))))] [6] [] h fun a w h=>qV (rT (.c (cB (decide (m.v>=(s.vars.length:Int))))) h rfl ?_);have hz:(!zfi s m)=(decide (m.v>=(s.vars.length:Int))):=(by have:=dF hc2;unfold zfi;rw [yQ (p:=m.v>=0) (by omega),bE,<- decide_not];exact decide_eq_decide.2 (by omega));rw [hz];try rfl
theorem SIdxWS (pr:zai->Bool) (xs:List zai) (s:zan) (hf:∀ x ∈ xs,Fn dM 150 [(0,.box (zcn s))] [vG ([cI x.v,cB x.any,cPs x.t.parts]++zi x.t.k),vp 0 0] (vb (pr x)) [(0,.box (zcn s))]) (hl:xs.length<=9223372036854775807):Fn dM 186 [(0,.box (zcn s))] [vS 5 (xs.map d5),.t (.c (.fn (.func 150) [] [.ptr 0 0]))] (vI (zdq pr xs 0)) [(0,.box (zcn s))]:=by
 refine fB Tryz.func186 rfl 19 fun w H B a h=>Jq 5 [] [(0,vS 5 (xs.map d5)),(1,.t (.c (.fn (.func 150) [] [.ptr 0 0]))),(4,vI 0)] [(0,.box (zcn s))] h fun a w h=>qW (Je 5 [(1,.len (za3 5 d5 xs))] [] [(7,vN xs.length),(8,vI 0)] h fun a w h=>qZ ?_)
 refine zbw (ι:=(Nat)) (fun j=>j<=xs.length/\zdq pr xs 0=zdq pr (xs.drop j) j)
   [4] (fun j=>[(8,vN j)])
   [] (fun j=>[])
   (fun j=>xs.length - j) 0 ?_ h ?_
 ·exact ⟨bF _,rfl⟩
 clear h;rintro j a w hI h;obtain ⟨hI1,hI2⟩:=hI;refine Je 5 [] [] [(9,vb (decide ((j:Int)<(xs.length:Int))))] h fun a w h=>qW (zad ((j:Int)<(xs.length:Int)) h (fun hc1 hc1'=>?_) (fun hc4 hc4'=>?_))
 ·refine qU (za1 (qW (qZ (Je 5 [] [9] [(5,vN j)] h fun a w h=>?_))));obtain ⟨x1,hx1⟩:=gl xs j;refine Je 5 [(3,.g (xD 14 12 ki_2 (za7 hx1 (f:=d5)) (dO 13 _))),(5,.g (Op.callV (d:=16) (t:=11) (cap:=[.ptr 0 0]) (args:=[vG ([cI x1.v,cB x1.any,cPs x1.t.parts]++zi x1.t.k)]) (rs:=[(15,vG ([cI x1.v,cB x1.any,cPs x1.t.parts]++zi x1.t.k))]) (tys:=#[75]) (hf x1 (lM hx1)) mc2_1 (OVs.cons (dO 15 _) (OVs.nil))))] [] [(16,vb (pr x1))] h fun a w h=>cS (pr x1) h (fun hc2=>?_) (fun hc3=>?_)
  ·refine Je 5 [] [5,16] [(4,vN j)] h fun a w h=>qV (za8 (za5 (za5 (za8 (za5 (rT (.c (cI (j:Int))) h rfl ?_))))));have hz:zdq pr xs 0=(j:Int):=by rw [hI2,zg4 hx1,if_pos hc2]
   rw [hz];try rfl
  refine qU (za6 (za1 (Jf 5 [(0,.j1 j)] [5,16] [(8,vI ((j:Int)+1))] h fun a w h=>za1 (zaa (x:=j) (y:=j+1) h ?_ ?_))))
  ·exact ⟨by have:=zab hx1;omega,by rw [hI2,zg4 hx1,if_neg (by rw [hc3];exact Bool.noConfusion)]⟩
  (try simp);omega
 refine exA (Jp 5 [] [(4,vI (-1))] h fun a w h=>qV (rT (.c (cI (-1))) h rfl ?_));have hz:zdq pr xs 0=-1:=by rw [hI2,bX (by omega)];rfl
 rw [hz];try rfl
theorem SAnyWS (pr:zai->Bool) (xs:List zai) (s:zan) (hf:∀ x ∈ xs,Fn dM 150 [(0,.box (zcn s))] [vG ([cI x.v,cB x.any,cPs x.t.parts]++zi x.t.k),vp 0 0] (vb (pr x)) [(0,.box (zcn s))]) (hl:xs.length<=9223372036854775807):Fn dM 149 [(0,.box (zcn s))] [vS 5 (xs.map d5),.t (.c (.fn (.func 150) [] [.ptr 0 0]))] (vb (xs.any pr)) [(0,.box (zcn s))]:=by
 refine fB Tryz.func149 rfl 9 fun w H B a h=>Jq 5 [] [(0,vS 5 (xs.map d5)),(1,.t (.c (.fn (.func 150) [] [.ptr 0 0]))),(4,vb false)] [(0,.box (zcn s))] h fun a w h=>Jp 5 [(2,.call (SIdxWS pr xs s hf  hl))] [(4,vb (decide (zdq pr xs 0>=0)))] h fun a w h=>qV (rT (.c (cB (decide (zdq pr xs 0>=0)))) h rfl ?_)
 rw [<- idxB_any];try rfl
theorem LsoundN (s:zan) (i:Int) (hi:zeh s i=none):Fn dM 108 [] [vG (zcn s),vI i] (.tup [.agg (acC act0),.c (cB false)]) []:=by
 refine fB Tryz.func108 rfl 65 fun w H B a h=>Jq 0 [] [(1,vI i),(2,vp 0 0),(4,vp 1 0),(5,vb false)] [(0,.box (zcn s)),(1,.box [cI 0,cI 0,cI 0,cI 0,nCl,cB false,.d (nsl []),cB false,nCl,nCl])] h fun a w h=>qW ?_
 rcases bG (decide (i<0)) with hc1 | hc2
 ·have hc1':=dT hc1;refine Je 2 [(1,.cmp (op:=.lss) (m:=i) (n:=0) (b:=true) .i64 hc1)] [] [(18,vb true)] h fun a w h=>cS true h (fun _=>?_) nofun
  refine Je 2 [] [18] [] h fun a w h=>qV (za5 ?_);replace h:=zbs 1 4 3 [cI 0,cI 0,cI 0,cI 0,nCl,cB false,.d (nsl []),cB false,nCl,nCl] h;replace h:=zbs 1 8 6 [cI 0,cI 0,cI 0,cI 0,cPs [],cB false,.d (nsl []),cB false,nCl,nCl] h;replace h:=zbs 1 9 5 [cI 0,cI 0,cI 0,cI 0,cPs [],cB false,.d (nsl []),cB false,cFs [],nCl] h;refine zfj [.agg [cI 0,cI 0,cI 0,cI 0,cPs [],cB false,.d (nsl []),cB false,cFs [],.d (.sl 5 ([].map d5))],.c (cB false)] h Exit.ret (.inl rfl)  rfl ⟨RV.agg _ 1 0 _ _ _ _ ki_0 rfl rfl rfl rfl,vT9,trivial⟩ ?_;rfl
 have hc2':=dF hc2;refine Je 2 [(1,.cmp (op:=.lss) (m:=i) (n:=0) (b:=false) .i64 hc2),(6,.len (za3 10 zas.d s.acts)),(7,.cmp (op:=.geq) (m:=i) (n:=(s.acts.length:Int)) (b:=true) .i64 (yQ (by have:=actAt_none hi;have:=dF hc2;omega)))] [] [(18,vb true)] h fun a w h=>cS true h (fun _=>?_) nofun
 refine Je 2 [] [18] [] h fun a w h=>qV (za5 ?_);replace h:=zbs 1 4 3 [cI 0,cI 0,cI 0,cI 0,nCl,cB false,.d (nsl []),cB false,nCl,nCl] h;replace h:=zbs 1 8 6 [cI 0,cI 0,cI 0,cI 0,cPs [],cB false,.d (nsl []),cB false,nCl,nCl] h;replace h:=zbs 1 9 5 [cI 0,cI 0,cI 0,cI 0,cPs [],cB false,.d (nsl []),cB false,cFs [],nCl] h;refine zfj [.agg [cI 0,cI 0,cI 0,cI 0,cPs [],cB false,.d (nsl []),cB false,cFs [],.d (.sl 5 ([].map d5))],.c (cB false)] h Exit.ret (.inl rfl)  rfl ⟨RV.agg _ 1 0 _ _ _ _ ki_0 rfl rfl rfl rfl,vT9,trivial⟩ ?_;rfl
theorem LsoundS (s:zan) (ki:Nat) (c:zas) (hc:zgy 3 c) (hps:s.procs.length<=6) (hka:s.acts[ki]?=some c):Fn dM 108 [] [vG (zcn s),vN ki] (.tup [.agg ([cI c.proc,cI c.from_,cI c.to_,cI c.guard.kind,cPs c.guard.r.t.parts]++zi c.guard.r.t.k++[cB c.guard.r.eq,cFs c.guard.kids,.d (.sl 5 (c.moves.map d5))]),.c (cB (sndB s c))]) []:=by
 have lki:=zab hka;refine fB Tryz.func108 rfl 65 fun w H B a h=>Jq 0 [] [(1,vN ki),(2,vp 0 0),(4,vp 1 0),(5,vb false)] [(0,.box (zcn s)),(1,.box [cI 0,cI 0,cI 0,cI 0,nCl,cB false,.d (nsl []),cB false,nCl,nCl])] h fun a w h=>qW (Je 2 [(1,.cmp (op:=.lss) (m:=(ki:Int)) (n:=0) (b:=false) .i64 (show (decide ((ki:Int)<0))=false from yX (by omega))),(6,.len (za3 10 zas.d s.acts)),(7,.cmp (op:=.geq) (m:=(ki:Int)) (n:=(s.acts.length:Int)) (b:=false) .i64 (show (decide ((ki:Int)>=(s.acts.length:Int)))=false from yX (by omega)))] [] [(18,vb false)] h fun a w h=>zau h (qU (za1 (Jg 2 [(3,.g (xD 23 21 ki_1 (za7 hka (f:=zas.d)) (dO 22 _)))] [1,18] [(6,vp 2 0)] [] [(2,.box ([cI c.proc,cI c.from_,cI c.to_,cI c.guard.kind,cPs c.guard.r.t.parts]++zi c.guard.r.t.k++[cB c.guard.r.eq,cFs c.guard.kids,.d (.sl 5 (c.moves.map d5))]))] h fun a w h=>qW ?_))))
 rcases bG (decide (c.proc<0)) with hc1 | hc2
 ·have hc1':=dT hc1;refine Je 3 [(2,.cmp (op:=.lss) (m:=c.proc) (n:=0) (b:=true) .i64 hc1)] [] [(35,vb true)] h fun a w h=>cS true h (fun _=>?_) nofun
  refine Jg 3 [] [35] [] [] [(1,.box ([cI c.proc,cI c.from_,cI c.to_,cI c.guard.kind,cPs c.guard.r.t.parts]++zi c.guard.r.t.k++[cB c.guard.r.eq,cFs c.guard.kids,.d (.sl 5 (c.moves.map d5))]))] h fun a w h=>qV (za5 (zfj [.agg ([cI c.proc,cI c.from_,cI c.to_,cI c.guard.kind,cPs c.guard.r.t.parts]++zi c.guard.r.t.k++[cB c.guard.r.eq,cFs c.guard.kids,.d (.sl 5 (c.moves.map d5))]),.c (cB false)] h Exit.ret (.inl rfl)  rfl ⟨RV.agg _ 1 0 _ _ _ _ ki_0 rfl rfl rfl rfl,vT9,trivial⟩ ?_));have hz:sndB s c=(false):=by unfold sndB;rw [yX (p:=0<=c.proc/\c.proc<(s.procs.length:Int)) (by have:=dT hc1;omega)];rfl
  rw [hz];try rfl
 have hc2':=dF hc2;refine Je 3 [(2,.cmp (op:=.lss) (m:=c.proc) (n:=0) (b:=false) .i64 hc2),(8,.len (za3 3 zbj.d s.procs))] [] [(35,vb (decide (c.proc>=(s.procs.length:Int))))] h fun a w h=>zad (c.proc>=(s.procs.length:Int)) h (fun hc3 hc3'=>?_) (fun hc4 hc4'=>?_)
 ·refine Jg 3 [] [35] [] [] [(1,.box ([cI c.proc,cI c.from_,cI c.to_,cI c.guard.kind,cPs c.guard.r.t.parts]++zi c.guard.r.t.k++[cB c.guard.r.eq,cFs c.guard.kids,.d (.sl 5 (c.moves.map d5))]))] h fun a w h=>qV (za5 (zfj [.agg ([cI c.proc,cI c.from_,cI c.to_,cI c.guard.kind,cPs c.guard.r.t.parts]++zi c.guard.r.t.k++[cB c.guard.r.eq,cFs c.guard.kids,.d (.sl 5 (c.moves.map d5))]),.c (cB false)] h Exit.ret (.inl rfl)  rfl ⟨RV.agg _ 1 0 _ _ _ _ ki_0 rfl rfl rfl rfl,vT9,trivial⟩ ?_));have hz:sndB s c=(false):=by unfold sndB;rw [yX (p:=0<=c.proc/\c.proc<(s.procs.length:Int)) (by have:=dT hc3;omega)];rfl
  rw [hz];try rfl
 refine qU (za1 ?_);obtain ⟨k,hkk⟩:∃ k_:Nat,c.proc=(k_:Int):=⟨_,(cG (by have:=dF hc2;omega)).symm⟩;replace h:=cvM [] [] [] [(2,.box ([cI (k:Int),cI c.from_,cI c.to_,cI c.guard.kind,cPs c.guard.r.t.parts]++zi c.guard.r.t.k++[cB c.guard.r.eq,cFs c.guard.kids,.d (.sl 5 (c.moves.map d5))]))] (by rw [hkk]; try kernel_rfl) h;obtain ⟨x1,hx1⟩:=gl s.procs k;refine Jg 3 [(4,.g (xD 41 38 kf_5 (za7 hx1 (f:=zbj.d)) (dO 40 _))),(7,.len (za3 1 zer x1.locs))] [35] [(7,vp 3 0)] [] [(3,.box [cI (x1.locs.length:Int)])] h fun a w h=>Je 4 [(0,.g (Op.makeFs (d:=45) (fn:=.func 148) [(7,3,0)]))] [7] [(8,.t (.c (.fn (.func 148) [] [.ptr 3 0])))] h fun a w h=>Jg 4 [(2,.g (Op.makeFs (d:=48) (fn:=.func 150) [(2,0,0)])),(3,.call (SAnyWS (fun m=>!zfi s m) c.moves s (fun m _=>Lsound2 s m) (by have:=hc.len;omega)))] [2] [(9,vb (c.moves.any fun m=>!zfi s m))] [0] [] h fun a w h=>?_
 rcases bG (decide (0<=c.from_/\c.from_<(x1.locs.length:Int))) with hc5 | hc8
 ·have hc5':=dT hc5
  rcases bG (decide (0<=c.to_/\c.to_<(x1.locs.length:Int))) with hc6 | hc7
  ·have hc6':=dT hc6;refine Jq 4 [(4,.g (Op.callV (d:=54) (t:=51) (cap:=[.ptr 3 0]) (args:=[vI c.from_]) (rs:=[(53,vI c.from_)]) (tys:=#[3]) (dN (Lsound1 c.from_ (x1.locs.length:Int)) (yJ vb hc5)) mc2_7 (OVs.cons (dO 53 _) (OVs.nil)))),(9,.g (Op.callV (d:=59) (t:=56) (cap:=[.ptr 3 0]) (args:=[vI c.to_]) (rs:=[(58,vI c.to_)]) (tys:=#[3]) (dN (Lsound1 c.to_ (x1.locs.length:Int)) (yJ vb hc6)) mc2_7 (OVs.cons (dO 58 _) (OVs.nil))))] [(4,vp 1 0),(5,vb (!(c.moves.any fun m=>!zfi s m)))] [(1,.box ([cI (k:Int),cI c.from_,cI c.to_,cI c.guard.kind,cPs c.guard.r.t.parts]++zi c.guard.r.t.k++[cB c.guard.r.eq,cFs c.guard.kids,.d (.sl 5 (c.moves.map d5))]))] h fun a w h=>qV (zfj [.agg ([cI (k:Int),cI c.from_,cI c.to_,cI c.guard.kind,cPs c.guard.r.t.parts]++zi c.guard.r.t.k++[cB c.guard.r.eq,cFs c.guard.kids,.d (.sl 5 (c.moves.map d5))]),.c (cB (!(c.moves.any fun m=>!zfi s m)))] h Exit.ret (.inl rfl)  rfl ⟨RV.agg _ 1 0 _ _ _ _ ki_0 rfl rfl rfl rfl,vT9,trivial⟩ ?_);have hz:sndB s c=(!(c.moves.any fun m=>!zfi s m)):=by unfold sndB;rw [yQ (p:=0<=c.proc/\c.proc<(s.procs.length:Int)) (by have:=dF hc2;have:=dF hc4;omega),show c.proc.toNat=k by omega,show zfl s k=x1.locs.length by unfold zfl;rw [hx1];rfl,bE];rw [hc5,hc6];simp
   rw [hz,hkk];try rfl
  have hc7':=dF hc7;refine Jg 4 [(4,.g (Op.callV (d:=54) (t:=51) (cap:=[.ptr 3 0]) (args:=[vI c.from_]) (rs:=[(53,vI c.from_)]) (tys:=#[3]) (dN (Lsound1 c.from_ (x1.locs.length:Int)) (yJ vb hc5)) mc2_7 (OVs.cons (dO 53 _) (OVs.nil)))),(9,.g (Op.callV (d:=59) (t:=56) (cap:=[.ptr 3 0]) (args:=[vI c.to_]) (rs:=[(58,vI c.to_)]) (tys:=#[3]) (dN (Lsound1 c.to_ (x1.locs.length:Int)) (yJ vb hc7)) mc2_7 (OVs.cons (dO 58 _) (OVs.nil))))] [6,8,9] [] [2,3] [(1,.box ([cI (k:Int),cI c.from_,cI c.to_,cI c.guard.kind,cPs c.guard.r.t.parts]++zi c.guard.r.t.k++[cB c.guard.r.eq,cFs c.guard.kids,.d (.sl 5 (c.moves.map d5))]))] h fun a w h=>qV (zfj [.agg ([cI (k:Int),cI c.from_,cI c.to_,cI c.guard.kind,cPs c.guard.r.t.parts]++zi c.guard.r.t.k++[cB c.guard.r.eq,cFs c.guard.kids,.d (.sl 5 (c.moves.map d5))]),.c (cB false)] h Exit.ret (.inl rfl)  rfl ⟨RV.agg _ 1 0 _ _ _ _ ki_0 rfl rfl rfl rfl,vT9,trivial⟩ ?_);have hz:sndB s c=(false):=by unfold sndB;rw [yQ (p:=0<=c.proc/\c.proc<(s.procs.length:Int)) (by have:=dF hc2;have:=dF hc4;omega),show c.proc.toNat=k by omega,show zfl s k=x1.locs.length by unfold zfl;rw [hx1];rfl,bE];rw [hc5,hc7];simp
  rw [hz,hkk];try rfl
 have hc8':=dF hc8;refine Jg 4 [(4,.g (Op.callV (d:=54) (t:=51) (cap:=[.ptr 3 0]) (args:=[vI c.from_]) (rs:=[(53,vI c.from_)]) (tys:=#[3]) (dN (Lsound1 c.from_ (x1.locs.length:Int)) (yJ vb hc8)) mc2_7 (OVs.cons (dO 53 _) (OVs.nil))))] [6,8,9] [] [2,3] [(1,.box ([cI (k:Int),cI c.from_,cI c.to_,cI c.guard.kind,cPs c.guard.r.t.parts]++zi c.guard.r.t.k++[cB c.guard.r.eq,cFs c.guard.kids,.d (.sl 5 (c.moves.map d5))]))] h fun a w h=>qV (zfj [.agg ([cI (k:Int),cI c.from_,cI c.to_,cI c.guard.kind,cPs c.guard.r.t.parts]++zi c.guard.r.t.k++[cB c.guard.r.eq,cFs c.guard.kids,.d (.sl 5 (c.moves.map d5))]),.c (cB false)] h Exit.ret (.inl rfl)  rfl ⟨RV.agg _ 1 0 _ _ _ _ ki_0 rfl rfl rfl rfl,vT9,trivial⟩ ?_);have hz:sndB s c=(false):=by unfold sndB;rw [yQ (p:=0<=c.proc/\c.proc<(s.procs.length:Int)) (by have:=dF hc2;have:=dF hc4;omega),show c.proc.toNat=k by omega,show zfl s k=x1.locs.length by unfold zfl;rw [hx1];rfl,bE];rw [hc8];simp
 rw [hz,hkk];try rfl
theorem Lsound (s:zan) (i:Int) (hs:zbh 3 s):Fn dM 108 [] [vG (zcn s),vi .i64 i] (.tup [.agg (acC (zac s i).1),.c (cB (zac s i).2)]) []:=by
 unfold zac
 cases hi:zeh s i with
 | none=>exact LsoundN s i hi
 | some c=>obtain ⟨ki,rfl,hka⟩:=zky hi;exact LsoundS s ki c (hs.act c (cH hka)) hs.procs hka
theorem Lmove1 (m:zai) (v:Nat) :Fn dM 187 [(1,.box [cI (v:Int)])] [vG ([cI m.v,cB m.any,cPs m.t.parts]++zi m.t.k),vp 1 0] (vb (m.v == (v:Int))) [(1,.box [cI (v:Int)])]:=by
 refine fB Tryz.func187 rfl 8 fun w H B a h=>Jq 6 [] [(1,vp 1 0),(2,vp 6 0),(3,vb false)] [(1,.box [cI (v:Int)]),(6,.box ([cI m.v,cB m.any,cPs m.t.parts]++zi m.t.k))] h fun a w h=>Jg 7 [] [1,2] [(3,vb (m.v == (v:Int)))] [6] [] h fun a w h=>qV (rT (.c (cB (m.v == (v:Int)))) h rfl ?_)
 rfl
theorem SIdxWM (pr:zai->Bool) (xs:List zai) (v:Nat) (hf:∀ x ∈ xs,Fn dM 187 [(1,.box [cI (v:Int)])] [vG ([cI x.v,cB x.any,cPs x.t.parts]++zi x.t.k),vp 1 0] (vb (pr x)) [(1,.box [cI (v:Int)])]) (hl:xs.length<=9223372036854775807):Fn dM 186 [(1,.box [cI (v:Int)])] [vS 5 (xs.map d5),.t (.c (.fn (.func 187) [] [.ptr 1 0]))] (vI (zdq pr xs 0)) [(1,.box [cI (v:Int)])]:=by
 refine fB Tryz.func186 rfl 19 fun w H B a h=>Jq 5 [] [(0,vS 5 (xs.map d5)),(1,.t (.c (.fn (.func 187) [] [.ptr 1 0]))),(4,vI 0)] [(1,.box [cI (v:Int)])] h fun a w h=>qW (Je 5 [(1,.len (za3 5 d5 xs))] [] [(7,vN xs.length),(8,vI 0)] h fun a w h=>qZ ?_)
 refine zbw (ι:=(Nat)) (fun j=>j<=xs.length/\zdq pr xs 0=zdq pr (xs.drop j) j)
   [4] (fun j=>[(8,vN j)])
   [] (fun j=>[])
   (fun j=>xs.length - j) 0 ?_ h ?_
 ·exact ⟨bF _,rfl⟩
 clear h;rintro j a w hI h;obtain ⟨hI1,hI2⟩:=hI;refine Je 5 [] [] [(9,vb (decide ((j:Int)<(xs.length:Int))))] h fun a w h=>qW (zad ((j:Int)<(xs.length:Int)) h (fun hc1 hc1'=>?_) (fun hc4 hc4'=>?_))
 ·refine qU (za1 (qW (qZ (Je 5 [] [9] [(5,vN j)] h fun a w h=>?_))));obtain ⟨x1,hx1⟩:=gl xs j;refine Je 5 [(3,.g (xD 14 12 ki_2 (za7 hx1 (f:=d5)) (dO 13 _))),(5,.g (Op.callV (d:=16) (t:=11) (cap:=[.ptr 1 0]) (args:=[vG ([cI x1.v,cB x1.any,cPs x1.t.parts]++zi x1.t.k)]) (rs:=[(15,vG ([cI x1.v,cB x1.any,cPs x1.t.parts]++zi x1.t.k))]) (tys:=#[75]) (hf x1 (lM hx1)) mc2_8 (OVs.cons (dO 15 _) (OVs.nil))))] [] [(16,vb (pr x1))] h fun a w h=>cS (pr x1) h (fun hc2=>?_) (fun hc3=>?_)
  ·refine Je 5 [] [5,16] [(4,vN j)] h fun a w h=>qV (za8 (za5 (za5 (za8 (za5 (rT (.c (cI (j:Int))) h rfl ?_))))));have hz:zdq pr xs 0=(j:Int):=by rw [hI2,zg4 hx1,if_pos hc2]
   rw [hz];try rfl
  refine qU (za6 (za1 (Jf 5 [(0,.j1 j)] [5,16] [(8,vI ((j:Int)+1))] h fun a w h=>za1 (zaa (x:=j) (y:=j+1) h ?_ ?_))))
  ·exact ⟨by have:=zab hx1;omega,by rw [hI2,zg4 hx1,if_neg (by rw [hc3];exact Bool.noConfusion)]⟩
  (try simp);omega
 refine exA (Jp 5 [] [(4,vI (-1))] h fun a w h=>qV (rT (.c (cI (-1))) h rfl ?_));have hz:zdq pr xs 0=-1:=by rw [hI2,bX (by omega)];rfl
 rw [hz];try rfl
theorem find_idx (pr:α->Bool):∀ (xs:List α) (n:Nat),(zdq pr xs n<0->xs.find? pr=none)/\∀ k:Nat,zdq pr xs n=((n+k:Nat):Int)->∃ x,xs[k]?=some x/\xs.find? pr=some x
 | [],n=>⟨fun _=>rfl,fun k h=>by unfold zdq at h;omega⟩
 | x :: xs,n=>by
  unfold zdq
  by_cases e:pr x=true
  ·rw [if_pos e]
   refine ⟨fun h=>by omega,fun k h=>⟨x,?_,by rw [dH,e]⟩⟩
   have:k=0:=by omega
   subst this;rfl
  ·rw [if_neg e]
   have ih:=find_idx pr xs (n+1)
   have he:pr x=false:=by simpa using e
   refine ⟨fun h=>by rw [dH,he];exact ih.1 h,fun k h=>?_⟩
   cases k with
   | zero =>
    exfalso
    have hx:∀ (ys:List α) (m:Nat),zdq pr ys m<0\/(m:Int)<=zdq pr ys m:=fun ys=>by
     induction ys with
     | nil=>intro m;left;unfold zdq;omega
     | cons y ys ihy =>
      intro m;unfold zdq;split
      ·right;omega
      ·rcases ihy (m+1) with h1 | h1
       ·left;exact h1
       ·right;omega
    rcases hx xs (n+1) with h1 | h1 <;> omega
   | succ k =>
    obtain ⟨y,h1,h2⟩:=ih.2 k (by rw [h];congr 1;omega)
    exact ⟨y,h1,by rw [dH,he];exact h2⟩
theorem idxB_len (pr:α->Bool):∀ (xs:List α) (n:Nat),zdq pr xs n<0\/zdq pr xs n<((n+xs.length:Nat):Int)
 | [],n=>by left;unfold zdq;omega
 | x :: xs,n=>by
  unfold zdq
  split
  ·right;rw [cT];omega
  ·rcases idxB_len pr xs (n+1) with h | h
   ·exact .inl h
   ·right;rw [cT];omega
theorem mvA_no {c:zas} (h:zdq (fun m:zai=>m.v == (v:Int)) c.moves 0<0):mvA c v=(mv0,false):=by
 unfold mvA ziu;rw [(find_idx _ c.moves 0).1 h]
theorem mvA_at {c:zas} {k:Nat} (h:zdq (fun m:zai=>m.v == (v:Int)) c.moves 0=(k:Int)) (hm:c.moves[k]?=some m):mvA c v=(m,true):=by
 obtain ⟨x,h1,h2⟩:=(find_idx _ c.moves 0).2 k (by rw [h,Nat.zero_add])
 rw [hm] at h1;injection h1 with h1
 unfold mvA ziu;rw [h2,h1]
theorem Lmove (c:zas) (v:Nat) (hc:zgy 3 c):Fn dM 151 [] [vG (acC c),vN v] (.tup [.agg ([cI (mvA c v).1.v,cB (mvA c v).1.any,cPs (mvA c v).1.t.parts]++zi (mvA c v).1.t.k),.c (cB (mvA c v).2)]) []:=by
 have lcm:=hc.len;have lix:=idxB_len (fun m:zai=>m.v == (v:Int)) c.moves 0;refine fB Tryz.func151 rfl 19 fun w H B a h=>Jq 0 [] [(2,vp 0 0),(3,vp 1 0),(4,vp 2 0),(5,vb false)] [(0,.box (acC c)),(1,.box [cI (v:Int)]),(2,.box [cI 0,cB false,nCl,cB false,.d (nsl [])])] h fun a w h=>Jg 3 [(2,.g (Op.makeFs (d:=9) (fn:=.func 187) [(3,1,0)])),(3,.call (SIdxWM (fun m:zai=>m.v == (v:Int)) c.moves v (fun m _=>Lmove1 m v) (by have:=hc.len;omega)))] [3] [(6,vI (zdq (fun m:zai=>m.v == (v:Int)) c.moves 0))] [1] [] h fun a w h=>qW (Je 3 [] [] [(12,vb (decide ((zdq (fun m:zai=>m.v == (v:Int)) c.moves 0)<0)))] h fun a w h=>zad ((zdq (fun m:zai=>m.v == (v:Int)) c.moves 0)<0) h (fun hc1 hc1'=>?_) (fun hc2 hc2'=>?_))
 ·refine Je 3 [] [12] [] h fun a w h=>qV (za5 ?_);replace h:=zbs 2 2 3 [cI 0,cB false,nCl,cB false,.d (nsl [])] h;refine zfj [.agg [cI 0,cB false,cPs [],cB false,.d (nsl [])],.c (cB false)] h Exit.ret (.inl rfl)  rfl ⟨RV.agg _ 2 0 _ _ _ _ ki_5 rfl rfl rfl rfl,vT9,trivial⟩ ?_;rw [mvA_no (dT hc1)];try rfl
 refine qU (za1 ?_);obtain ⟨kx,hkkx⟩:∃ k_:Nat,(zdq (fun m:zai=>m.v == (v:Int)) c.moves 0)=(k_:Int):=⟨_,(cG (by have:=dF hc2;omega)).symm⟩;replace h:=cvM [] [(6,vN kx)] [] [] (by rw [hkkx]; try kernel_rfl) h;obtain ⟨x2,hx2⟩:=gl c.moves kx;refine Jq 3 [(3,.g (xD 17 15 ki_2 (za7 hx2 (f:=d5)) (dO 16 _)))] [(4,vp 2 0),(5,vb true)] [(2,.box ([cI x2.v,cB x2.any,cPs x2.t.parts]++zi x2.t.k))] h fun a w h=>qV (zfj [.agg ([cI x2.v,cB x2.any,cPs x2.t.parts]++zi x2.t.k),.c (cB true)] h Exit.ret (.inl rfl)  rfl ⟨RV.agg _ 2 0 _ _ _ _ ki_5 rfl rfl rfl rfl,vT9,trivial⟩ ?_);rw [mvA_at hkkx hx2];try rfl
theorem mvA_tok {c:zas} (hc:zgy 3 c) (v:Nat):TOk 20 3 (mvA c v).1.t:=by
 unfold mvA
 cases e:ziu c v with
 | none=>exact ⟨bF _,(fun p hp=>by cases hp),zg0,bF _⟩
 | some m=>exact hc.mv m (by unfold ziu at e;exact c6 e)
theorem valA_no {c:zas} (h:(mvA c v).2=false):zd4 c v=(zh3 (v:Int),true):=by
 unfold mvA at h;unfold zd4
 cases e:ziu c v with
 | none=>rfl
 | some m=>rw [e] at h;cases h
theorem valA_any {c:zas} (h:(mvA c v).2=true) (a:(mvA c v).1.any=true):zd4 c v=(⟨[],ze3⟩,false):=by
 unfold mvA at h a;unfold zd4
 cases e:ziu c v with
 | none=>rw [e] at h;cases h
 | some m=>rw [e] at a;exact if_pos a
theorem valA_set {c:zas} (h:(mvA c v).2=true) (a:(mvA c v).1.any=false):zd4 c v=(za2 (mvA c v).1.t,true):=by
 unfold mvA at h a ⊢;unfold zd4
 cases e:ziu c v with
 | none=>rw [e] at h;cases h
 | some m=>rw [e] at a;exact if_neg (by rw [show m.any=false from a];exact Bool.noConfusion)
theorem Lvalue (c:zas) (v:Nat) (hc:zgy 3 c):Fn dM 110 [] [vG (acC c),vN v] (.tup [.agg (zT (zd4 c v).1),.c (cB (zd4 c v).2)]) []:=by
 refine fB Tryz.func110 rfl 26 fun w H B a h=>Jq 0 [] [(1,vN v),(2,vp 0 0),(4,vp 1 0),(5,vb false)] [(0,.box (acC c)),(1,.box zT0)] h fun a w h=>Jg 2 [(2,.call (Lmove c v hc))] [2] [(6,vp 2 0),(7,vb (mvA c v).2)] [0] [(2,.box ([cI (mvA c v).1.v,cB (mvA c v).1.any,cPs (mvA c v).1.t.parts]++zi (mvA c v).1.t.k))] h fun a w h=>qW (qZ (Je 3 [] [7] [(14,vb (!(mvA c v).2))] h fun a w h=>cS (!(mvA c v).2) h (fun hc1=>?_) (fun hc2=>?_)))
 ·refine Jg 3 [(1,.call (Lvariable v))] [1,14] [(5,vb true)] [] [(1,.box (zT (zh3 (v:Int))))] h fun a w h=>qV (za8 (za5 (zfj [.agg (zT (zh3 (v:Int))),.c (cB true)] h Exit.ret (.inl rfl)  rfl ⟨RV.agg _ 1 0 _ _ _ _ zh7 rfl rfl rfl rfl,vT9,trivial⟩ ?_)));rw [valA_no (by have:=hc1;simpa using this)];try rfl
 refine Je 3 [] [1,14] [(19,vb (mvA c v).1.any)] h fun a w h=>cS (mvA c v).1.any h (fun hc3=>?_) (fun hc4=>?_)
 ·refine Je 3 [] [19] [] h fun a w h=>qV (za8 (za5 ?_));replace h:=zbs 1 0 3 zT0 h;refine zfj [.agg [cPs [],cB false,.d (nsl [])],.c (cB false)] h Exit.ret (.inl rfl)  rfl ⟨RV.agg _ 1 0 _ _ _ _ zh7 rfl rfl rfl rfl,vT9,trivial⟩ ?_;rw [valA_any (by have:=hc2;simpa using this) hc3];try rfl
 refine qU (za6 (za1 (Jq 3 [(2,.call (zen (mvA c v).1.t (mvA_tok hc v) (by decide) (by decide)))] [(4,vp 1 0),(5,vb true)] [(1,.box (zT (za2 (mvA c v).1.t)))] h fun a w h=>qV (zfj [.agg (zT (za2 (mvA c v).1.t)),.c (cB true)] h Exit.ret (.inl rfl)  rfl ⟨RV.agg _ 1 0 _ _ _ _ zh7 rfl rfl rfl rfl,vT9,trivial⟩ ?_))));rw [valA_set (by have:=hc2;simpa using this) hc4];try rfl
theorem canS_t {c:zas} (h:(zd4 c v).2=true):zfy s c v=bndF s v (zd4 c v).1:=by unfold zfy;rw [if_pos h]
theorem canS_a {c:zas} (h:(zd4 c v).2=false) (hb:s.bounds[v]?=some b) (e:b.is_=true):zfy s c v=[leF (zcu b.lo) (zcu b.hi)]:=by unfold zfy;rw [h,if_neg Bool.noConfusion,bnd_is hb,if_pos e]
theorem canS_n {c:zas} (h:(zd4 c v).2=false) (e:(zbm s v).is_=false):zfy s c v=[]:=by unfold zfy;rw [h,if_neg Bool.noConfusion,e];rfl
theorem Lcan (s:zan) (c:zas) (hs:zbh 3 s) (hc:zgy 3 c) (hg:c.guard.wid<=100):Fn dM 111 [] [vG (zcn s),vG (acC c)] (vF (zex s c)) []:=by
 have lvs:=hs.vars;have lbs:=hs.bnds;have lcn:=zdy (zfy s c) (zme s c) s.vars.length;refine fB Tryz.func111 rfl 63 fun w H B a h=>Jq 5 [] [(2,vp 5 0),(3,vp 6 0),(4,vp 7 0)] [(5,.box (zcn s)),(6,.box (acC c)),(7,.box zF0)] h fun a w h=>Jg 8 [(2,.g (Op.buildO (d:=12) (n:=8) (len:=1) (rows:=[c.guard].map dQ) (rs:=[(11,(vF c.guard))]) kb_1 (.cons (i:=0) (dO 11 _) (.nil)) (by simp only [bL,cO,cP,cQ,cJ,dR]; try kernel_rfl) rfl (by simp [dS]) (by decide) (by decide)))] [] [(5,vO 8 1)] [] [(8,.row 35 6 ([c.guard].map dQ))] h fun a w h=>qW (Je 9 [(2,.len (za3 1 zer s.vars))] [] [(15,vN s.vars.length),(16,vI 0)] h fun a w h=>qZ ?_)
 replace h:=cvM [] [] [] [(8,.row 35 6 (([c.guard]++(bC 0).flatMap (zfy s c)).map dQ))] (by rw [<- show ([c.guard]:List za0)=([c.guard]++(bC 0).flatMap (zfy s c)) from (by simp)]; try kernel_rfl) h
 refine zbw (ι:=(Nat)) (fun j=>j<=s.vars.length)
   [] (fun j=>[(5,vO 8 ([c.guard]++(bC j).flatMap (zfy s c)).length),(16,vN j)])
   [] (fun j=>[(8,.row 35 6 (([c.guard]++(bC j).flatMap (zfy s c)).map dQ))])
   (fun j=>s.vars.length - j) 0 ?_ h ?_
 ·exact bF _
 clear h;rintro j a w hI h;have lcj:=zdy (zfy s c) (zme s c) j;have lbj:=bndF_len s j (zd4 c j).1;refine Je 9 [] [] [(17,vb (decide ((j:Int)<(s.vars.length:Int))))] h fun a w h=>qW (zad ((j:Int)<(s.vars.length:Int)) h (fun hc1 hc1'=>?_) (fun hc8 hc8'=>?_))
 ·refine qU (za1 (qW (qZ (Je 9 [] [17] [(6,vN j)] h fun a w h=>Jg 9 [(2,.call (Lvalue c j hc))] [] [(7,vp 9 0),(8,vb (zd4 c j).2)] [] [(9,.box (zT (zd4 c j).1))] h fun a w h=>Je 10 [] [8] [(25,vb (zd4 c j).2)] h fun a w h=>cS (zd4 c j).2 h (fun hc2=>?_) (fun hc3=>?_)))))
  ·refine Jh 10 [(4,.call (Lbounded s j (zd4 c j).1 hs (val_tok hc j))),(5,.g (aD 31 26 30 8 10 ([c.guard]++(bC j).flatMap (zfy s c)) (bndF s j (zd4 c j).1) dQ la_7 (by simp [dS])))] [6,7,25] [(5,vO 10 (([c.guard]++(bC j).flatMap (zfy s c))++(bndF s j (zd4 c j).1)).length)] [8,9] [(10,.row 35 6 ((([c.guard]++(bC j).flatMap (zfy s c))++(bndF s j (zd4 c j).1)).map dQ))] h fun a w h=>za6 (za1 (Jf 11 [(0,.j1 j)] [] [(16,vI ((j:Int)+1))] h fun a w h=>za1 ?_));rw [show ((([c.guard]++(bC j).flatMap (zfy s c))++(bndF s j (zd4 c j).1)):List za0)=([c.guard]++(bC (j+1)).flatMap (zfy s c)) from (by rw [zdz (zfy s c) j,canS_t hc2];simp)] at h;replace h:=zd7 10 8 h;refine zaa (x:=j) (y:=j+1) h ?_ ?_
   ·have:=dT hc1;show j+1<=s.vars.length;omega
   show s.vars.length - (j+1)<s.vars.length - j;have:=dT hc1;omega
  rcases bG (decide ((j:Int)<(s.bounds.length:Int))) with hc4 | hc7
  ·have hc4':=dT hc4;obtain ⟨x3,hx3⟩:=gl s.bounds j;refine Jg 11 [(3,.len (za3 5 d6 s.bounds)),(4,.cmp (op:=.lss) (m:=(j:Int)) (n:=(s.bounds.length:Int)) (b:=true) .i64 hc4),(9,.g (xD 41 39 kf_0 (za7 hx3 (f:=d6)) (dO 40 _)))] [7,25] [(44,vb x3.is_)] [9] [] h fun a w h=>cS x3.is_ h (fun hc5=>?_) (fun hc6=>?_)
   ·refine Jg 11 [(3,.g (xD 48 46 kf_0 (za7 hx3 (f:=d6)) (dO 47 _)))] [6,44] [(9,vp 11 0)] [] [(11,.box ([cB x3.is_]++zi x3.lo++zi x3.hi))] h fun a w h=>Jh 12 [(3,.call (zhq x3.lo (hs.bnd x3 (lM hx3)).1.1 (by have:=(hs.bnd x3 (lM hx3)).1.2;omega))),(6,.call (zhq x3.hi (hs.bnd x3 (lM hx3)).2.1 (by have:=(hs.bnd x3 (lM hx3)).2.2;omega))),(7,.call (LCmpLe (zcu x3.lo) (zcu x3.hi) ((zkd (hs.bnd x3 (lM hx3)).1).mono (bI _) (by decide)) ((zkd (hs.bnd x3 (lM hx3)).2).mono (bI _) (by decide)))),(8,.g (bD 58 ([(leF (zcu x3.lo) (zcu x3.hi))].map dQ) [(57,(vF (leF (zcu x3.lo) (zcu x3.hi))))] kb_1 (.cons (i:=0) (dO 57 _) (.nil)) (by simp only [bL,cO,cP,cQ,cJ,dR]; try kernel_rfl) (by simp [dS]))),(9,.g (aD 59 50 58 8 12 ([c.guard]++(bC j).flatMap (zfy s c)) [(leF (zcu x3.lo) (zcu x3.hi))] dQ la_7 (by simp [dS])))] [9] [(5,vO 12 (([c.guard]++(bC j).flatMap (zfy s c))++[(leF (zcu x3.lo) (zcu x3.hi))]).length)] [8,11] [(12,.row 35 6 ((([c.guard]++(bC j).flatMap (zfy s c))++[(leF (zcu x3.lo) (zcu x3.hi))]).map dQ))] h fun a w h=>za6 (za1 (Jf 13 [(0,.j1 j)] [] [(16,vI ((j:Int)+1))] h fun a w h=>za1 ?_));rw [show ((([c.guard]++(bC j).flatMap (zfy s c))++[(leF (zcu x3.lo) (zcu x3.hi))]):List za0)=([c.guard]++(bC (j+1)).flatMap (zfy s c)) from (by rw [zdz (zfy s c) j,canS_a hc3 hx3 hc5];simp)] at h;replace h:=zd7 12 8 h;refine zaa (x:=j) (y:=j+1) h ?_ ?_
    ·have:=dT hc1;show j+1<=s.vars.length;omega
    show s.vars.length - (j+1)<s.vars.length - j;have:=dT hc1;omega
   refine qU (za6 (za1 (Jf 13 [(0,.j1 j)] [6,44] [(16,vI ((j:Int)+1))] h fun a w h=>za1 ?_)));rw [show (([c.guard]++(bC j).flatMap (zfy s c)):List za0)=([c.guard]++(bC (j+1)).flatMap (zfy s c)) from (by rw [zdz (zfy s c) j,canS_n hc3 (by rw [bnd_is hx3];exact hc6)];simp)] at h;refine zaa (x:=j) (y:=j+1) h ?_ ?_
   ·have:=dT hc1;show j+1<=s.vars.length;omega
   show s.vars.length - (j+1)<s.vars.length - j;have:=dT hc1;omega
  have hc7':=dF hc7;refine Jg 13 [(3,.len (za3 5 d6 s.bounds)),(4,.cmp (op:=.lss) (m:=(j:Int)) (n:=(s.bounds.length:Int)) (b:=false) .i64 hc7)] [7,25] [(44,vb false)] [9] [] h fun a w h=>zau h (qU (za6 (za1 (Jf 13 [(0,.j1 j)] [6,44] [(16,vI ((j:Int)+1))] h fun a w h=>za1 ?_))));rw [show (([c.guard]++(bC j).flatMap (zfy s c)):List za0)=([c.guard]++(bC (j+1)).flatMap (zfy s c)) from (by rw [zdz (zfy s c) j,canS_n hc3 (bnd_no (by omega))];simp)] at h;refine zaa (x:=j) (y:=j+1) h ?_ ?_
  ·have:=dT hc1;show j+1<=s.vars.length;omega
  show s.vars.length - (j+1)<s.vars.length - j;have:=dT hc1;omega
 refine exA ?_;rw [show (([c.guard]++(bC j).flatMap (zfy s c)):List za0)=(canL s c) from (by rw [show j=s.vars.length by have:=dF hc8;omega];rfl)] at h;replace h:=zj2 8 6 35 ((canL s c).map dQ) h [(canL s c).length] ⟨by first | exact (bK _).symm | (simp;done) | (simp;omega),trivial⟩;refine Jq 13 [(1,.call (LAll (canL s c) (fun g hg_=>dY (by decide) (by decide) _ (can_ok hs hc hg g hg_)) (by show List.length _<=_;unfold canL;rw [cT];omega)))] [(4,vp 7 0)] [(7,.box (zF (zex s c)))] h fun a w h=>qV (rA 7 (zF (zex s c)) h zdh rfl ?_);rfl
def offZ (s:zan) (k:Nat):Int:=(k:Int)*(s.vars.length:Int)
def atF (s:zan) (f:za0) (k:Nat):za0:=f.each (zcv (offZ s k))
def begB (s:zan) (locs:List Int) (a:zas):Bool:=decide (locs.length=s.procs.length) && ((locs[a.proc.toNat]?).getD 0 == a.from_)
def zgw (s:zan) (locs:List Int) (i:Int):zas × Bool:=((zac s i).1,(zac s i).2 && begB s locs (zac s i).1)
def zh4 (s:zan) (locs:List Int) (v:Nat):List za0:=if (zgw s locs (v:Int)).2=true then [ziv (zex s (zgw s locs (v:Int)).1)] else []
def zj8 (s:zan) (locs:List Int):za0:=zcj ((bC s.acts.length).flatMap (zh4 s locs))
theorem zjc (h:(zac s i).2=true):0<=(zac s i).1.proc/\(zac s i).1.proc<(s.procs.length:Int):=by
 unfold zac at h ⊢
 cases e:zeh s i with
 | none=>rw [e] at h;cases h
 | some c =>
  rw [e] at h
  change sndB s c=true at h
  unfold sndB at h
  simp only [bN,decide_eq_true_eq] at h
  exact h.1.1.1
theorem canF_ok (hs:zbh 3 s) {c:zas} (hc:zgy 3 c) (hw:c.guard.wid<=100):(zex s c).okB 40 51:=ziz (by decide) (can_ok hs hc hw) (by unfold canL;rw [cT];have:=zdy (zfy s c) (zme s c) s.vars.length;have:=hs.vars;omega)
theorem stkS_ok (hs:zbh 3 s) (hw:zlj s) (locs:List Int) (v:Nat):∀ g ∈ zh4 s locs v,g.okB 40 52:=fun g hg=>by
 unfold zh4 at hg
 split at hg
 ·rw [bP.1 hg]
  exact zi1 (by decide) (by simp) fun q hq=>by rw [bP.1 hq];exact okB_cl (by decide) _ (canF_ok hs (zg2 hs _) (zl6 hw _))
 ·cases hg
theorem zln (s:zan) (locs:List Int) (v:Nat):(zh4 s locs v).length<=1:=by unfold zh4;split <;> simp
theorem stkF_ok (hs:zbh 3 s) (hw:zlj s) (locs:List Int):(zj8 s locs).okB 40 53:=ziz (by decide) (ze0 fun v _=>stkS_ok hs hw locs v) (by have:=zdy (zh4 s locs) (zln s locs) s.acts.length;have:=hs.acts;omega)
theorem Loffset (s:zan) (k:Nat) (hs:zbh 3 s) (hk:k<=4096):Fn dM 146 [] [vG (zcn s),vN k] (vI (offZ s k)) []:=by
 have lvs:=hs.vars;obtain ⟨mkv,hmkv⟩:∃ z_:Nat,z_=k*s.vars.length:=⟨_,rfl⟩;have hmk2:mkv<=4096*8:=by rw [hmkv];exact Nat.mul_le_mul hk lvs
 have hmk3:(k:Int)*(s.vars.length:Int)=(mkv:Int):=by rw [hmkv,Int.natCast_mul]
 refine fB Tryz.func146 rfl 12 fun w H B a h=>Jq 0 [] [(1,vN k),(2,vp 0 0),(4,vI 0)] [(0,.box (zcn s))] h fun a w h=>Jq 1 [(1,.g (Op.max2 (d:=6) (tys:=#[3,3]) (k:=.i64) (m:=(k:Int)) (n:=0) (r:=(k:Int)) (dO 5 _) (OV.const (.int .i64 0) rfl) (by omega))),(2,.g (Op.min2 (d:=7) (tys:=#[3,3]) (k:=.i64) (m:=(k:Int)) (n:=4096) (r:=(k:Int)) (dO 6 _) (OV.const (.int .i64 4096) rfl) (by omega))),(5,.len (za3 1 zer s.vars)),(6,.mul .i64 (m:=(k:Int)) (n:=(s.vars.length:Int)) i6)] [(4,vI ((k:Int)*(s.vars.length:Int)))] [] h fun a w h=>qV (rT (.c (cI ((k:Int)*(s.vars.length:Int)))) h rfl ?_)
 rfl
theorem Lat (s:zan) (f:za0) (k:Nat) (hs:zbh 3 s) (hk:k<=4096) (hf:f.okB 40 200):Fn dM 106 [] [vG (zcn s),(vF f),vN k] (vF (atF s f k)) []:=by
 refine fB Tryz.func106 rfl 12 fun w H B a h=>Jq 0 [] [(2,vN k),(3,vp 0 0),(4,vp 1 0),(6,vp 2 0)] [(0,.box (zcn s)),(1,.box (zF f)),(2,.box zF0)] h fun a w h=>Jq 3 [(3,.call (Loffset s k hs (by omega))),(4,.call (LMoveF f (offZ s k) (dY (by decide) (by decide) _ hf) (dY (by decide) (by decide) _ (okB_cl (by decide) _ hf))))] [(6,vp 2 0)] [(2,.box (zF (za0.each (zcv (offZ s k)) f)))] h fun a w h=>qV (rA 2 (zF (za0.each (zcv (offZ s k)) f)) h zdh rfl ?_)
 rfl
theorem Lbegins (s:zan) (locs:List Int) (i:Int) (hs:zbh 3 s) (hl:locs.length<=9223372036854775807):Fn dM 147 [] [.t (.agg (zcn s)),.t (.c (.d (.sl 1 (locs.map zal)))),vI i] (.tup [.agg ([.d (.raw (.int .i64 (zgw s locs i).1.proc)),.d (.raw (.int .i64 (zgw s locs i).1.from_)),.d (.raw (.int .i64 (zgw s locs i).1.to_)),.d (.raw (.int .i64 (zgw s locs i).1.guard.kind)),.d (.sl 3 ((zgw s locs i).1.guard.r.t.parts.map za4.d))]++zi (zgw s locs i).1.guard.r.t.k++[.d (.raw (.bool (zgw s locs i).1.guard.r.eq)),.d (.sl 6 ((zgw s locs i).1.guard.kids.map dQ)),.d (.sl 5 ((zgw s locs i).1.moves.map d5))]),.c (.d (.raw (.bool (zgw s locs i).2)))]) []:=by
 have lps:=hs.procs;have lpr:(zac s i).2=true->0<=(zac s i).1.proc/\(zac s i).1.proc<(s.procs.length:Int):=zjc;refine fB Tryz.func147 rfl 36 fun w H B a h=>?_
 refine Jq 0 [] [(1,.t (.c (.d (.sl 1 (locs.map zal))))),(2,vI i),(3,vp 0 0),(6,vp 1 0),(7,vb false)] [(0,.box (zcn s)),(1,.box [.d (.raw (.int .i64 0)),.d (.raw (.int .i64 0)),.d (.raw (.int .i64 0)),.d (.raw (.int .i64 0)),.d (.raw zam),.d (.raw (.bool false)),.d (nsl []),.d (.raw (.bool false)),.d (.raw zam),.d (.raw zam)])] h fun a w h=>?_;refine Jq 2 [(2,.call (Lsound s i hs))] [(1,.t (.c (.d (.sl 1 (locs.map zal))))),(3,vp 0 0),(6,vp 1 0),(7,vb false),(8,vp 2 0),(9,vb (zac s i).2)] [(0,.box (zcn s)),(1,.box [.d (.raw (.int .i64 0)),.d (.raw (.int .i64 0)),.d (.raw (.int .i64 0)),.d (.raw (.int .i64 0)),.d (.raw zam),.d (.raw (.bool false)),.d (nsl []),.d (.raw (.bool false)),.d (.raw zam),.d (.raw zam)]),(2,.box ([.d (.raw (.int .i64 (zac s i).1.proc)),.d (.raw (.int .i64 (zac s i).1.from_)),.d (.raw (.int .i64 (zac s i).1.to_)),.d (.raw (.int .i64 (zac s i).1.guard.kind)),.d (.sl 3 ((zac s i).1.guard.r.t.parts.map za4.d))]++zi (zac s i).1.guard.r.t.k++[.d (.raw (.bool (zac s i).1.guard.r.eq)),.d (.sl 6 ((zac s i).1.guard.kids.map dQ)),.d (.sl 5 ((zac s i).1.moves.map d5))]))] h fun a w h=>?_
 rcases bG (zac s i).2 with hc1 | hc4
 ·have lpx:=zjc hc1;rw [hc1] at h
  rcases bG ((locs.length:Int) == (s.procs.length:Int)) with hc2 | hc3
  ·have hc2':=hc2;(try simp at hc2');obtain ⟨kp,hkkp⟩:∃ k_:Nat,(zac s i).1.proc=(k_:Int):=⟨_,(cG ((zjc hc1).1)).symm⟩;replace h:=h.conv (f':=F.of [(1,.t (.c (.d (.sl 1 (locs.map zal))))),(3,vp 0 0),(6,vp 1 0),(7,vb false),(8,vp 2 0),(9,vb true)] [(0,.box (zcn s)),(1,.box [.d (.raw (.int .i64 0)),.d (.raw (.int .i64 0)),.d (.raw (.int .i64 0)),.d (.raw (.int .i64 0)),.d (.raw zam),.d (.raw (.bool false)),.d (nsl []),.d (.raw (.bool false)),.d (.raw zam),.d (.raw zam)]),(2,.box ([.d (.raw (.int .i64 (kp:Int))),.d (.raw (.int .i64 (zac s i).1.from_)),.d (.raw (.int .i64 (zac s i).1.to_)),.d (.raw (.int .i64 (zac s i).1.guard.kind)),.d (.sl 3 ((zac s i).1.guard.r.t.parts.map za4.d))]++zi (zac s i).1.guard.r.t.k++[.d (.raw (.bool (zac s i).1.guard.r.eq)),.d (.sl 6 ((zac s i).1.guard.kids.map dQ)),.d (.sl 5 ((zac s i).1.moves.map d5))]))]) (by rw [hkkp]);obtain ⟨x2,hx2⟩:=gl locs kp;refine Jq 3 [(4,.len (za3 1 zal locs)),(7,.len (za3 3 zbj.d s.procs)),(8,.cmp (op:=.eql) (m:=(locs.length:Int)) (n:=(s.procs.length:Int)) (b:=true) .i64 hc2),(14,.g (xD 30 27 zh0 (za7 hx2 (f:=zal)) (dO 29 _)))] [(6,vp 1 0),(7,vb (x2 == (zac s i).1.from_))] [(1,.box ([.d (.raw (.int .i64 (kp:Int))),.d (.raw (.int .i64 (zac s i).1.from_)),.d (.raw (.int .i64 (zac s i).1.to_)),.d (.raw (.int .i64 (zac s i).1.guard.kind)),.d (.sl 3 ((zac s i).1.guard.r.t.parts.map za4.d))]++zi (zac s i).1.guard.r.t.k++[.d (.raw (.bool (zac s i).1.guard.r.eq)),.d (.sl 6 ((zac s i).1.guard.kids.map dQ)),.d (.sl 5 ((zac s i).1.moves.map d5))]))] h fun a w h=>?_;refine qV ?_;refine zfj [.agg ([.d (.raw (.int .i64 (kp:Int))),.d (.raw (.int .i64 (zac s i).1.from_)),.d (.raw (.int .i64 (zac s i).1.to_)),.d (.raw (.int .i64 (zac s i).1.guard.kind)),.d (.sl 3 ((zac s i).1.guard.r.t.parts.map za4.d))]++zi (zac s i).1.guard.r.t.k++[.d (.raw (.bool (zac s i).1.guard.r.eq)),.d (.sl 6 ((zac s i).1.guard.kids.map dQ)),.d (.sl 5 ((zac s i).1.moves.map d5))]),.c (.d (.raw (.bool (x2 == (zac s i).1.from_))))] h Exit.ret (.inl rfl)  rfl ⟨RV.agg _ 1 0 _ _ _ _ ki_0 rfl rfl rfl rfl,vT9,trivial⟩ ?_;have hz:(zgw s locs i).2=(x2 == (zac s i).1.from_):=by show ((zac s i).2 && begB s locs (zac s i).1)=_;rw [hc1,bE];unfold begB;rw [yQ (p:=locs.length=s.procs.length) (by have:=hc2;simp at this;omega),bE,show (zac s i).1.proc.toNat=kp by omega,hx2];rfl
   rw [hz,show (zgw s locs i).1.proc=(kp:Int) from hkkp];try rfl
  have hc3':=hc3;(try simp at hc3');obtain ⟨kp,hkkp⟩:∃ k_:Nat,(zac s i).1.proc=(k_:Int):=⟨_,(cG ((zjc hc1).1)).symm⟩;replace h:=h.conv (f':=F.of [(1,.t (.c (.d (.sl 1 (locs.map zal))))),(3,vp 0 0),(6,vp 1 0),(7,vb false),(8,vp 2 0),(9,vb true)] [(0,.box (zcn s)),(1,.box [.d (.raw (.int .i64 0)),.d (.raw (.int .i64 0)),.d (.raw (.int .i64 0)),.d (.raw (.int .i64 0)),.d (.raw zam),.d (.raw (.bool false)),.d (nsl []),.d (.raw (.bool false)),.d (.raw zam),.d (.raw zam)]),(2,.box ([.d (.raw (.int .i64 (kp:Int))),.d (.raw (.int .i64 (zac s i).1.from_)),.d (.raw (.int .i64 (zac s i).1.to_)),.d (.raw (.int .i64 (zac s i).1.guard.kind)),.d (.sl 3 ((zac s i).1.guard.r.t.parts.map za4.d))]++zi (zac s i).1.guard.r.t.k++[.d (.raw (.bool (zac s i).1.guard.r.eq)),.d (.sl 6 ((zac s i).1.guard.kids.map dQ)),.d (.sl 5 ((zac s i).1.moves.map d5))]))]) (by rw [hkkp]);refine Jq 3 [(4,.len (za3 1 zal locs)),(7,.len (za3 3 zbj.d s.procs)),(8,.cmp (op:=.eql) (m:=(locs.length:Int)) (n:=(s.procs.length:Int)) (b:=false) .i64 hc3)] [(6,vp 1 0),(7,vb false)] [(1,.box ([.d (.raw (.int .i64 (kp:Int))),.d (.raw (.int .i64 (zac s i).1.from_)),.d (.raw (.int .i64 (zac s i).1.to_)),.d (.raw (.int .i64 (zac s i).1.guard.kind)),.d (.sl 3 ((zac s i).1.guard.r.t.parts.map za4.d))]++zi (zac s i).1.guard.r.t.k++[.d (.raw (.bool (zac s i).1.guard.r.eq)),.d (.sl 6 ((zac s i).1.guard.kids.map dQ)),.d (.sl 5 ((zac s i).1.moves.map d5))]))] h fun a w h=>?_;refine qV ?_;refine zfj [.agg ([.d (.raw (.int .i64 (kp:Int))),.d (.raw (.int .i64 (zac s i).1.from_)),.d (.raw (.int .i64 (zac s i).1.to_)),.d (.raw (.int .i64 (zac s i).1.guard.kind)),.d (.sl 3 ((zac s i).1.guard.r.t.parts.map za4.d))]++zi (zac s i).1.guard.r.t.k++[.d (.raw (.bool (zac s i).1.guard.r.eq)),.d (.sl 6 ((zac s i).1.guard.kids.map dQ)),.d (.sl 5 ((zac s i).1.moves.map d5))]),.c (.d (.raw (.bool false)))] h Exit.ret (.inl rfl)  rfl ⟨RV.agg _ 1 0 _ _ _ _ ki_0 rfl rfl rfl rfl,vT9,trivial⟩ ?_;have hz:(zgw s locs i).2=(false):=by show ((zac s i).2 && begB s locs (zac s i).1)=_;rw [hc1,bE];unfold begB;rw [yX (p:=locs.length=s.procs.length) (by have:=hc3;simp at this;omega),Bool.false_and]
  rw [hz,show (zgw s locs i).1.proc=(kp:Int) from hkkp];try rfl
 rw [hc4] at h;refine Jq 3 [] [(6,vp 1 0),(7,vb false)] [(1,.box ([.d (.raw (.int .i64 (zac s i).1.proc)),.d (.raw (.int .i64 (zac s i).1.from_)),.d (.raw (.int .i64 (zac s i).1.to_)),.d (.raw (.int .i64 (zac s i).1.guard.kind)),.d (.sl 3 ((zac s i).1.guard.r.t.parts.map za4.d))]++zi (zac s i).1.guard.r.t.k++[.d (.raw (.bool (zac s i).1.guard.r.eq)),.d (.sl 6 ((zac s i).1.guard.kids.map dQ)),.d (.sl 5 ((zac s i).1.moves.map d5))]))] h fun a w h=>?_;refine qV ?_;refine zfj [.agg ([.d (.raw (.int .i64 (zac s i).1.proc)),.d (.raw (.int .i64 (zac s i).1.from_)),.d (.raw (.int .i64 (zac s i).1.to_)),.d (.raw (.int .i64 (zac s i).1.guard.kind)),.d (.sl 3 ((zac s i).1.guard.r.t.parts.map za4.d))]++zi (zac s i).1.guard.r.t.k++[.d (.raw (.bool (zac s i).1.guard.r.eq)),.d (.sl 6 ((zac s i).1.guard.kids.map dQ)),.d (.sl 5 ((zac s i).1.moves.map d5))]),.c (.d (.raw (.bool false)))] h Exit.ret (.inl rfl)  rfl ⟨RV.agg _ 1 0 _ _ _ _ ki_0 rfl rfl rfl rfl,vT9,trivial⟩ ?_;have hz:(zgw s locs i).2=(false):=by show ((zac s i).2 && begB s locs (zac s i).1)=_;rw [hc4,Bool.false_and]
 rw [hz];try rfl
theorem Lstuck (s:zan) (locs:List Int) (hs:zbh 3 s) (hw:zlj s) (hl:locs.length<=9223372036854775807):Fn dM 107 [] [vG (zcn s),(vIs locs)] (vF (zj8 s locs)) []:=by
 have las:=hs.acts;have lsn:=zdy (zh4 s locs) (zln s locs) s.acts.length;refine fB Tryz.func107 rfl 33 fun w H B a h=>Jq 5 [] [(1,(vIs locs)),(2,vp 5 0),(4,vp 6 0)] [(5,.box (zcn s)),(6,.box zF0)] h fun a w h=>Je 7 [] [] [(5,vW zam)] h fun a w h=>qW (Je 7 [(2,.len (za3 10 zas.d s.acts))] [] [(11,vN s.acts.length),(12,vI 0)] h fun a w h=>qZ ?_)
 replace h:=zfr 5 0 7 6 35 (vW zam) h
 refine zbw (ι:=(Nat)) (fun j=>j<=s.acts.length)
   [] (fun j=>[(5,vO 7 ((bC j).flatMap (zh4 s locs)).length),(12,vN j)])
   [] (fun j=>[(7,.row 35 6 (((bC j).flatMap (zh4 s locs)).map dQ))])
   (fun j=>s.acts.length - j) 0 ?_ h ?_
 ·exact bF _
 clear h;rintro j a w hI h;have lsj:=zdy (zh4 s locs) (zln s locs) j;refine Je 8 [] [] [(13,vb (decide ((j:Int)<(s.acts.length:Int))))] h fun a w h=>qW (zad ((j:Int)<(s.acts.length:Int)) h (fun hc1 hc1'=>?_) (fun hc4 hc4'=>?_))
 ·refine qU (za1 (qW (qZ (Je 8 [] [13] [(6,vN j)] h fun a w h=>Jg 8 [(3,.call (Lbegins s locs (j:Int) hs hl))] [6] [(7,vp 8 0),(8,vb (zgw s locs (j:Int)).2)] [] [(8,.box (acC (zgw s locs (j:Int)).1))] h fun a w h=>Je 9 [] [8] [(22,vb (zgw s locs (j:Int)).2)] h fun a w h=>cS (zgw s locs (j:Int)).2 h (fun hc2=>?_) (fun hc3=>?_)))))
  ·refine Jh 9 [(3,.call (Lcan s (zgw s locs (j:Int)).1 hs (zg2 hs _) (zl6 hw _))),(4,.call (LDeny (zex s (zgw s locs (j:Int)).1) (dY (by decide) (by decide) _ (canF_ok hs (zg2 hs _) (zl6 hw _))))),(5,.g (bD 28 ([(ziv (zex s (zgw s locs (j:Int)).1))].map dQ) [(27,(vF (ziv (zex s (zgw s locs (j:Int)).1))))] kb_1 (.cons (i:=0) (dO 27 _) (.nil)) (by simp only [bL,cO,cP,cQ,cJ,dR]; try kernel_rfl) (by simp [dS]))),(6,.g (aD 29 23 28 7 9 ((bC j).flatMap (zh4 s locs)) [(ziv (zex s (zgw s locs (j:Int)).1))] dQ la_7 (by simp [dS])))] [7,22] [(5,vO 9 (((bC j).flatMap (zh4 s locs))++[(ziv (zex s (zgw s locs (j:Int)).1))]).length)] [7,8] [(9,.row 35 6 ((((bC j).flatMap (zh4 s locs))++[(ziv (zex s (zgw s locs (j:Int)).1))]).map dQ))] h fun a w h=>za6 (za1 (Jf 10 [(0,.j1 j)] [] [(12,vI ((j:Int)+1))] h fun a w h=>za1 ?_));rw [show ((((bC j).flatMap (zh4 s locs))++[(ziv (zex s (zgw s locs (j:Int)).1))]):List za0)=((bC (j+1)).flatMap (zh4 s locs)) from (by rw [zdz (zh4 s locs) j,show zh4 s locs j=[ziv (zex s (zgw s locs (j:Int)).1)] from if_pos hc2];first | done | simp)] at h;replace h:=zd7 9 7 h;refine zaa (x:=j) (y:=j+1) h ?_ ?_
   ·have:=dT hc1;show j+1<=s.acts.length;omega
   show s.acts.length - (j+1)<s.acts.length - j;have:=dT hc1;omega
  refine qU (za6 (za1 (Jh 10 [(0,.j1 j)] [7,22] [(12,vI ((j:Int)+1))] [8] [] h fun a w h=>za1 ?_)));replace h:=cvM [] [(5,vO 7 ((bC (j+1)).flatMap (zh4 s locs)).length)] [] [(7,.row 35 6 (((bC (j+1)).flatMap (zh4 s locs)).map dQ))] (by rw [<- show (((bC j).flatMap (zh4 s locs)):List za0)=((bC (j+1)).flatMap (zh4 s locs)) from (by rw [zdz (zh4 s locs) j,show zh4 s locs j=[] from if_neg (by rw [hc3];exact Bool.noConfusion)];first | done | simp)]; try kernel_rfl) h;refine zaa (x:=j) (y:=j+1) h ?_ ?_
  ·have:=dT hc1;show j+1<=s.acts.length;omega
  show s.acts.length - (j+1)<s.acts.length - j;have:=dT hc1;omega
 refine exA ?_;replace h:=cvM [] [(5,vO 7 ((bC s.acts.length).flatMap (zh4 s locs)).length)] [] [(7,.row 35 6 (((bC s.acts.length).flatMap (zh4 s locs)).map dQ))] (by rw [<- show (((bC j).flatMap (zh4 s locs)):List za0)=((bC s.acts.length).flatMap (zh4 s locs)) from (by rw [show j=s.acts.length by have:=dF hc4;omega])]; try kernel_rfl) h;replace h:=zj2 7 6 35 (((bC s.acts.length).flatMap (zh4 s locs)).map dQ) h [((bC s.acts.length).flatMap (zh4 s locs)).length] ⟨by first | exact (bK _).symm | (simp;done) | (simp;omega),trivial⟩;refine Jq 10 [(1,.call (LAll ((bC s.acts.length).flatMap (zh4 s locs)) (fun g hg=>dY (by decide) (by decide) _ (ze0 (fun v _=>stkS_ok hs hw locs v) g hg)) (by omega)))] [(4,vp 6 0)] [(6,.box (zF (zj8 s locs)))] h fun a w h=>qV (rA 6 (zF (zj8 s locs)) h zdh rfl ?_);rfl
theorem LStuck (s:zan) (locs:List Int) (k:Nat) (hs:zbh 3 s) (hw:zlj s) (hl:locs.length<=9223372036854775807) (hk:k<=4096):Fn dM 69 [] [vG (zcn s),(vIs locs),vN k] (vF (atF s (zj8 s locs) k)) []:=by
 refine fB Tryz.func69 rfl 13 fun w H B a h=>Jq 0 [] [(1,(vIs locs)),(2,vN k),(3,vp 0 0),(6,vp 1 0)] [(0,.box (zcn s)),(1,.box zF0)] h fun a w h=>Jq 2 [(3,.call (Lstuck s locs hs hw hl)),(5,.call (Lat s (zj8 s locs) k hs hk (dY (by decide) (by decide) _ (stkF_ok hs hw locs))))] [(6,vp 1 0)] [(1,.box (zF (atF s (zj8 s locs) k)))] h fun a w h=>qV (rA 1 (zF (atF s (zj8 s locs) k)) h zdh rfl ?_)
 rfl
structure RunRd (r:zib):Prop where
  stem:∀ x ∈ r.stem,StRd x
  cycle:∀ x ∈ r.cycle,StRd x
  len:r.stem.length+r.cycle.length<=9223372036854775807
  acts:r.acts.length<=9223372036854775807
theorem st0_rd:StRd st0:=⟨fun z hz=>(by cases hz),bF _⟩
theorem RunRd.at {r:zib} (h:RunRd r) (i:Nat):StRd (zao r i):=by
 unfold zao
 cases hx:(r.stem++r.cycle)[i]? with
 | none=>exact st0_rd
 | some x=>exact (cC.1 (cH hx)).elim (h.stem x) (h.cycle x)
section
variable {w:World} {n:Nat} {H:Type} {enc:TypeId × Value->H} {base fuel:Nat} {spare:Nat->Bool} {held:Bool}
theorem slice_sized {t e:TypeId} {cs:List Value} {x:DataW H × List MemPlace} (hu:Tryz.prog.underlying t=some (.slice e)) (hb:0<Tryz.prog.bytesOf e) (hx:DataW.trod enc dM w base spare held fuel t cs=some x) (hw:∀ n ∈ x.1.weights dM t,n<=reachBytes) {es:Nat} {rows:List (List D)} (hd:zbb (DR (all w)) [.sl es rows] cs):rows.length<=reachBytes:=by
 rcases DataW.trod_slice hu hx with ⟨rfl,_⟩ | ⟨a,len,cap,elems,rest,m,rfl,rfl,rfl,_,_,_,h4,_⟩
 ·have h0:=hd.1
  cases h0 with
  | nil=>exact bF _
 ·have h1:(elems.length+rest.length)*Tryz.prog.bytesOf e<=reachBytes:=hw _ (by simp [DataW.weights,hu])
  have hl:rows.length=len:=by
   have h0:=hd.1
   cases h0 with
   | nil=>rfl
   | sl=>rfl
  exact bJ (bJ (by omega:rows.length<=elems.length+rest.length) (Nat.le_mul_of_pos_right _ hb)) h1
theorem run_sized {r:zib} {cs:List Value} {x:DataW H × List MemPlace} (hf:DataW.trod enc dM w base spare held fuel 47 cs=some x) (hw:∀ n ∈ x.1.weights dM 47,n<=reachBytes) (hd:zbb (DR (all w)) (zib.d r) cs):r.stem.length<=reachBytes/\r.cycle.length<=reachBytes:=by
 obtain ⟨xs,m,rfl,rfl,h2,h3,h4⟩:=DataW.trod_struct Tryz.underlying47 hf
 obtain ⟨c0,cs,rfl,a0,hd⟩:=all2c (show zbb (DR (all w)) [.sl 2 (r.stem.map dP),.sl 2 (r.cycle.map dP),.sl 1 (r.acts.map zal)] cs from hd)
 obtain ⟨c1,cs,rfl,a1,hd⟩:=all2c hd
 obtain ⟨c2,cs,rfl,a2,hd⟩:=all2c hd
 have e0:Tryz.prog.cellsOf 45=1:=by kernel_rfl
 obtain ⟨d0,hd0⟩:∃ d,xs[0]?=some d:=⟨_,b8 (by rw [h3];decide)⟩
 obtain ⟨d1,hd1⟩:∃ d,xs[1]?=some d:=⟨_,b8 (by rw [h3];decide)⟩
 have q0:DataW.trod enc dM w base spare held m 45 (List.take (Tryz.prog.cellsOf 45) (c0 :: c1 :: c2 :: cs))=some d0:=by rw [<- hd0];exact h4 0 _ rfl
 have q1:DataW.trod enc dM w base spare held m 45 (List.take (Tryz.prog.cellsOf 45) (c1 :: c2 :: cs))=some d1:=by rw [<- hd1];exact h4 1 _ rfl
 rw [e0] at q0 q1
 have k0:=slice_sized Tryz.underlying45 (by decide +kernel) q0 (fun n hn=>hw n (by
  simp only [DataW.weights,Tryz.underlying47]
  exact DataW.weights_mem_each (j:=0) rfl (by rw [cM,hd0];rfl) n hn)) ⟨a0,trivial⟩
 have k1:=slice_sized Tryz.underlying45 (by decide +kernel) q1 (fun n hn=>hw n (by
  simp only [DataW.weights,Tryz.underlying47]
  exact DataW.weights_mem_each (j:=1) rfl (by rw [cM,hd1];rfl) n hn)) ⟨a1,trivial⟩
 rw [bK] at k0 k1
 exact ⟨k0,k1⟩
theorem rep_States:zf2 w n 45 (slD 2 dP) (fun xs=>xs.length<=maxLen/\∀ x ∈ xs,StRd x) :=
 zc7 (k:=2) Tryz.underlying45 (by kernel_rfl) (by decide) (fun _=>rfl) rep_State
theorem rep_Run:zf2 w n 47 zib.d (fun r=>(∀ x ∈ r.stem,StRd x)/\(∀ x ∈ r.cycle,StRd x)/\r.acts.length<=maxLen) :=
 ((zbp (n:=n) Tryz.underlying47 (by kernel_rfl) (.cons (k0:=1) rfl (by kernel_rfl) rep_States (.cons (k0:=1) rfl (by kernel_rfl) rep_States (.cons (k0:=1) rfl (by kernel_rfl) zlq .nil)))).map (fun p=>⟨p.1,p.2.1,p.2.2.1⟩) (fun _=>rfl) fun _ h=>⟨h.1.2,h.2.1.2,h.2.2.1.1⟩).mono (cF n)
end
def PsOkW (ps:List za9):Prop:=ps.length<=1000/\∀ r ∈ ps,TokR 100 r
theorem PsOkW.tok (h:PsOkW ps):ps.length<=1000000000000/\∀ p ∈ ps,TOk 200000000 3000 p.t:=⟨bJ h.1 (by decide),fun p hp=>(h.2 p hp).mono (by decide) (by decide)⟩
end S
end Go.Proofs.YtlcijejaplagbaaGreat
section
namespace Go.Proofs
open Go.Shelf

end Go.Proofs
end
namespace Go.Proofs.YtlcijejaplagbaaGreat
namespace S
structure SideD where
  times:ZI
  rest:zaf
def SideD.d (x:SideD):List D:=[.raw (.bool x.times.neg),nsl x.times.abs,.sl 3 (x.rest.parts.map za4.d),.raw (.bool x.rest.k.neg),nsl x.rest.k.abs]
structure SidesD where
  lows:List SideD
  highs:List SideD
  others:List za9
def SidesD.d (x:SidesD):List D:=[.sl 5 (x.lows.map SideD.d),.sl 5 (x.highs.map SideD.d),.sl 4 (x.others.map d4)]
def RsOk (rs:List za9):Prop:=rs.length<=20/\∀ r ∈ rs,TokR 8 r
section
open Go.RowKit Go.Sort
end
end S
theorem zjd {x y:Int} (hx:-1<=x/\x<=1) (hy:-1<=y/\y<=1):-1<=x*y/\x*y<=1:=by
 have h1:x=-1\/x=0\/x=1:=by omega
 rcases h1 with rfl | rfl | rfl <;> omega
theorem val_two (x:Nat):nV [x % 4294967296,x / 4294967296]=x:=by simp only [nV];omega
namespace S
variable {n j M:Nat} {f:za0} {t:zaf} {ks:List za0}
def RkOk (r:za9):Prop:=TOk 200000000 200 r.t
theorem RkOk.of {L:Nat} {r:za9} (h:TOk n L r.t) (hn:n<=200000000) (hL:L<=200):RkOk r:=h.mono hn hL
theorem zj5 (k:ZI) (vs:List ZI):zd6 (zcu k) vs=k.val:=by simp [zd6,zcu,zeq,ZI.val_of]
theorem RsOk.take {rs:List za9} (h:RsOk rs) (j:Nat):RsOk (rs.take j):=⟨by rw [cU];have:=h.1;omega,fun r hr=>h.2 r (cW hr)⟩
theorem orZ2_r (a b:Int) (h:a=0):orZ [a,b]=b:=by
 unfold orZ;rw [if_neg (fun e=>e h)];unfold orZ
 split
 ·rfl
 ·rename_i e;exact (Classical.not_not.1 e).symm
theorem orZ2_l (a b:Int) (h:a≠0):orZ [a,b]=a:=by unfold orZ;rw [if_pos h]
theorem kid_okA2 {L:Nat} {g:za0} (h:f.okA n L) (hg:g ∈ f.kids):g.okA n L:=((za0.okA_eq _ _ _).1 h).2 g hg
theorem kid_nodes9 {g:za0} (hg:g ∈ f.kids):g.nodes<=f.nodes:=by
 rw [za0.nodes_eq f]
 obtain ⟨j,hj⟩:=List.getElem?_of_mem hg
 have:=zj7 f.kids j hj;omega
theorem me4_2:zbt dM 160:=zbt.mk' (by kernel_rfl)
def hasV (t:zaf) (v:Int):Bool:=sgn (zah t.parts v) != 0
def forgK (vs:List Int) (k:Int) (r:za9) (ks cs:List za0):za0:=if k=2 then (if vs.any (hasV r.t)=true then zcs true else ⟨k,r,ks⟩) else ⟨k,zR,cs⟩
def za0.forg (vs:List Int) (f:za0):za0:=f.fold (forgK vs)
theorem za0.forg_eq (vs:List Int) (f:za0):f.forg vs=forgK vs f.kind f.r f.kids (f.kids.map (za0.forg vs)):=dU _ f
theorem forg_t {vs:List Int} (h:f.kind=2) (k:vs.any (hasV f.r.t)=true):f.forg vs=zcs true:=by rw [za0.forg_eq];unfold forgK;rw [if_pos h,if_pos k]
theorem forg_f {vs:List Int} (h:f.kind=2) (k:vs.any (hasV f.r.t)=false):f.forg vs=f:=by rw [za0.forg_eq];unfold forgK;rw [if_pos h,k,if_neg Bool.noConfusion];cases f;rfl
theorem forg_k {vs:List Int} (h:¬ f.kind=2):f.forg vs=⟨f.kind,zR,f.kids.map (za0.forg vs)⟩:=by rw [za0.forg_eq];unfold forgK;rw [if_neg h]
def zck (c:zas) (n:Nat):List Int:=(bC n).flatMap fun v=>if (zd4 c v).2=true then [(v:Int)] else []
def zd9 (c:zas) (n:Nat):List zaf:=(bC n).flatMap fun v=>if (zd4 c v).2=true then [(zd4 c v).1] else []
def zd8 (c:zas) (n:Nat):List Int:=(bC n).flatMap fun v=>if (zd4 c v).2=true then [] else [(v:Int)]
def preF (s:zan) (act:Int) (f:za0):za0:=if act=-1 then zcj [f] else if (zac s act).2=true then zcj [zex s (zac s act).1,((f.flat false).forg (zd8 (zac s act).1 s.vars.length)).each (zbu (zck (zac s act).1 s.vars.length) (zd9 (zac s act).1 s.vars.length))] else zcs false
theorem pre_len (c:zas) (n:Nat):(zck c n).length<=n/\(zd9 c n).length<=n/\(zd8 c n).length<=n:=by
 have:=zdy (fun v=>if (zd4 c v).2=true then [(v:Int)] else []) (m:=1) (fun v=>by split <;> simp) n
 have:=zdy (fun v=>if (zd4 c v).2=true then [(zd4 c v).1] else []) (m:=1) (fun v=>by split <;> simp) n
 have:=zdy (fun v=>if (zd4 c v).2=true then [] else [(v:Int)]) (m:=1) (fun v=>by split <;> simp) n
 unfold zck zd9 zd8
 omega
theorem zh1 (c:zas) (j:Nat):zck c (j+1)=zck c j++(if (zd4 c j).2=true then [(j:Int)] else [])/\zd9 c (j+1)=zd9 c j++(if (zd4 c j).2=true then [(zd4 c j).1] else [])/\zd8 c (j+1)=zd8 c j++(if (zd4 c j).2=true then [] else [(j:Int)]) :=
 ⟨zdz _ j,zdz _ j,zdz _ j⟩
theorem preB_ok {c:zas} (hc:zgy 3 c) (n:Nat):∀ b ∈ zd9 c n,zk5 b:=ze0 fun v _ b hb=>by
 split at hb
 ·rw [bP.1 hb];exact (val_tok hc v).mono (by decide) (bI _)
 ·cases hb
theorem forg_ok {L:Nat} (vs:List Int) (f:za0):f.okA n L->f.nodes<=1000000000000->(f.forg vs).okB n L :=
 dW (P:=fun f=>f.okA n L->f.nodes<=1000000000000->(f.forg vs).okB n L) (fun k r ks ih hf hn=>by
  obtain ⟨h1,h2⟩:=(za0.okA_eq _ _ _).1 hf
  have hk:=zkh ⟨k,r,ks⟩
  change ks.length+1<=_ at hk
  rw [za0.forg_eq]
  show (forgK vs k r ks (ks.map (za0.forg vs))).okB n L
  unfold forgK
  split
  ·rename_i e
   split
   ·exact okB_tru _ _ _
   ·rw [za0.okB_eq]
    refine ⟨⟨h1,by show ks.length<=_;omega,?_⟩,fun g hg=>?_⟩
    ·show (cnt k ks).length<=_;rw [e];exact bF _
    ·change g ∈ cnt k ks at hg;rw [e] at hg;cases hg
  ·rename_i e
   exact zi1 e (by rw [bK];omega) fun g hg=>by
    obtain ⟨q,hq,rfl⟩:=b5.1 hg
    exact ih q hq (h2 q hq) (bJ (kid_nodes9 (f:=⟨k,r,ks⟩) hq) hn)) f
theorem Lforget1 (v:Int) (f:za0) (hf:TOk 300000000 3000 f.r.t):Fn dM 160 [(0,.box (zF f))] [vI v,vp 0 0] (vb (hasV f.r.t v)) [(0,.box (zF f))]:=by
 refine fB Tryz.func160 rfl 9 fun w H B a h=>Jq 6 [] [(0,vI v),(1,vp 0 0),(3,vb false)] [(0,.box (zF f))] h fun a w h=>Jp 6 [(4,.call (SHas f.r.t v hf (by decide) (by decide)))] [(3,vb (hasV f.r.t v))] h fun a w h=>qV (rT (.c (cB (hasV f.r.t v))) h rfl ?_)
 rfl
theorem SIdxFG (pr:Int->Bool) (xs:List Int) (f:za0) (hf:∀ x ∈ xs,Fn dM 160 [(0,.box (zF f))] [vI x,vp 0 0] (vb (pr x)) [(0,.box (zF f))]) (hl:xs.length<=9223372036854775807):Fn dM 193 [(0,.box (zF f))] [(vIs xs),.t (.c (.fn (.func 160) [] [.ptr 0 0]))] (vI (zdq pr xs 0)) [(0,.box (zF f))]:=by
 refine fB Tryz.func193 rfl 19 fun w H B a h=>Jq 5 [] [(0,(vIs xs)),(1,.t (.c (.fn (.func 160) [] [.ptr 0 0]))),(4,vI 0)] [(0,.box (zF f))] h fun a w h=>qW (Je 5 [(1,.len (za3 1 zal xs))] [] [(7,vN xs.length),(8,vI 0)] h fun a w h=>qZ ?_)
 refine zbw (ι:=(Nat)) (fun j=>j<=xs.length/\zdq pr xs 0=zdq pr (xs.drop j) j)
   [4] (fun j=>[(8,vN j)])
   [] (fun j=>[])
   (fun j=>xs.length - j) 0 ?_ h ?_
 ·exact ⟨bF _,rfl⟩
 clear h;rintro j a w hI h;obtain ⟨hI1,hI2⟩:=hI;refine Je 5 [] [] [(9,vb (decide ((j:Int)<(xs.length:Int))))] h fun a w h=>qW (zad ((j:Int)<(xs.length:Int)) h (fun hc1 hc1'=>?_) (fun hc4 hc4'=>?_))
 ·refine qU (za1 (qW (qZ (Je 5 [] [9] [(5,vN j)] h fun a w h=>?_))));obtain ⟨x1,hx1⟩:=gl xs j;refine Je 5 [(3,.g (xD 14 12 zh0 (za7 hx1 (f:=zal)) (dO 13 _))),(5,.g (Op.callV (d:=16) (t:=11) (cap:=[.ptr 0 0]) (args:=[vI x1]) (rs:=[(15,vI x1)]) (tys:=#[3]) (hf x1 (lM hx1)) me4_2 (OVs.cons (dO 15 _) (OVs.nil))))] [] [(16,vb (pr x1))] h fun a w h=>cS (pr x1) h (fun hc2=>?_) (fun hc3=>?_)
  ·refine Je 5 [] [5,16] [(4,vN j)] h fun a w h=>qV (za8 (za5 (za5 (za8 (za5 (rT (.c (cI (j:Int))) h rfl ?_))))));have hz:zdq pr xs 0=(j:Int):=by rw [hI2,zg4 hx1,if_pos hc2]
   rw [hz];try rfl
  refine qU (za6 (za1 (Jf 5 [(0,.j1 j)] [5,16] [(8,vI ((j:Int)+1))] h fun a w h=>za1 (zaa (x:=j) (y:=j+1) h ?_ ?_))))
  ·exact ⟨by have:=zab hx1;omega,by rw [hI2,zg4 hx1,if_neg (by rw [hc3];exact Bool.noConfusion)]⟩
  (try simp);omega
 refine exA (Jp 5 [] [(4,vI (-1))] h fun a w h=>qV (rT (.c (cI (-1))) h rfl ?_));have hz:zdq pr xs 0=-1:=by rw [hI2,bX (by omega)];rfl
 rw [hz];try rfl
theorem SAnyFG (pr:Int->Bool) (xs:List Int) (f:za0) (hf:∀ x ∈ xs,Fn dM 160 [(0,.box (zF f))] [vI x,vp 0 0] (vb (pr x)) [(0,.box (zF f))]) (hl:xs.length<=9223372036854775807):Fn dM 159 [(0,.box (zF f))] [(vIs xs),.t (.c (.fn (.func 160) [] [.ptr 0 0]))] (vb (xs.any pr)) [(0,.box (zF f))]:=by
 refine fB Tryz.func159 rfl 9 fun w H B a h=>Jq 5 [] [(0,(vIs xs)),(1,.t (.c (.fn (.func 160) [] [.ptr 0 0]))),(4,vb false)] [(0,.box (zF f))] h fun a w h=>Jp 5 [(2,.call (SIdxFG pr xs f hf  hl))] [(4,vb (decide (zdq pr xs 0>=0)))] h fun a w h=>qV (rT (.c (cB (decide (zdq pr xs 0>=0)))) h rfl ?_)
 rw [<- idxB_any];try rfl
theorem rel_okF {L:Nat} (h:f.okA n L) (e:f.kind=2):TOk n L f.r.t:=((za0.okA_eq _ _ _).1 h).1 e
theorem Lforget0 (f:za0) (vs:List Int) (ih:∀ g ∈ f.kids,Fn dM 113 [] [(vF g),(vIs vs)] (vF (za0.forg vs g)) []) (hf:f.okA 300000000 3000) (hn:f.nodes<=1000000000000) (hlv:vs.length<=9223372036854775807):Fn dM 113 [] [(vF f),(vIs vs)] (vF (za0.forg vs f)) []:=by
 have lkn:=zkh f;refine fB Tryz.func113 rfl 36 fun w H B a h=>Jq 0 [] [(1,(vIs vs)),(2,vp 0 0),(4,vp 1 0)] [(0,.box (zF f)),(1,.box zF0)] h fun a w h=>qW (Je 2 [] [] [(10,vb (f.kind == 2))] h fun a w h=>cS (f.kind == 2) h (fun hc1=>?_) (fun hc4=>?_))
 ·refine qW (Je 2 [(1,.g (Op.makeFs (d:=12) (fn:=.func 160) [(2,0,0)])),(2,.call (SAnyFG (hasV f.r.t) vs f (fun v _=>Lforget1 v f (rel_okF hf (by have:=hc1;simpa using this))) hlv))] [10] [(13,vb (vs.any (hasV f.r.t)))] h fun a w h=>cS (vs.any (hasV f.r.t)) h (fun hc2=>?_) (fun hc3=>?_))
  ·refine Jg 2 [(0,.call (zk3 true))] [13] [] [] [(1,.box (zF (zcs true)))] h fun a w h=>qV (za5 (za5 (rA 1 (zF (zcs true)) h zdh rfl ?_)));rw [forg_t (by have:=hc1;simpa using this) hc2];try rfl
  refine qU (za1 (Jg 2 [] [13] [] [] [(1,.box (zF f))] h fun a w h=>qV (za5 (rA 1 (zF f) h zdh rfl ?_))));rw [forg_f (by have:=hc1;simpa using this) hc3];try rfl
 refine qU (za1 (Jg 2 [] [10] [(5,vp 2 0)] [] [(2,.box [cI f.kind,nCl,cB false,.d (nsl []),cB false,nCl])] h fun a w h=>qW (Jg 3 [(2,.len (za3 6 dQ f.kids))] [2] [(20,(vFs f.kids)),(21,vN f.kids.length),(22,vI 0)] [0] [] h fun a w h=>qZ ?_)));replace h:=zjj 2 5 3 6 35 [cI f.kind,nCl,cB false,.d (nsl []),cB false,nCl] h
 refine zbw (ι:=(Nat)) (fun j=>j<=f.kids.length)
   [] (fun j=>[(22,vN j)])
   [] (fun j=>[(2,.box [cI f.kind,nCl,cB false,.d (nsl []),cB false,.own 3 ((f.kids.take j).map (za0.forg vs)).length]),(3,.row 35 6 (((f.kids.take j).map (za0.forg vs)).map dQ))])
   (fun j=>f.kids.length - j) 0 ?_ h ?_
 ·exact bF _
 clear h;rintro j a w hI h;have lmj:((f.kids.take j).map (za0.forg vs)).length<=j:=by rw [bK,cU];omega
 refine Je 4 [] [] [(23,vb (decide ((j:Int)<(f.kids.length:Int))))] h fun a w h=>qW (zad ((j:Int)<(f.kids.length:Int)) h (fun hc5 hc5'=>?_) (fun hc6 hc6'=>?_))
 ·refine qU (za1 (qW (qZ ?_)));obtain ⟨x3,hx3⟩:=gl f.kids j;refine Jg 4 [(0,.g (xD 24 20 zie ((za7 hx3 (f:=dQ)).trans (yJ some (dR x3))) (dO 22 _)))] [23] [(7,vp 4 0)] [] [(4,.box (zF x3))] h fun a w h=>Jh 5 [(4,.call (ih x3 (lM hx3))),(5,.g (bD 31 ([(za0.forg vs x3)].map dQ) [(30,(vF (za0.forg vs x3)))] kb_1 (.cons (i:=0) (dO 30 _) (.nil)) (by simp only [bL,cO,cP,cQ,cJ,dR]; try kernel_rfl) (by simp [dS]))),(6,.g (aD 32 27 31 3 5 ((f.kids.take j).map (za0.forg vs)) [(za0.forg vs x3)] dQ la_7 (by simp [dS])))] [7] [] [3,4] [(2,.box ([cI f.kind,nCl,cB false,.d (nsl []),cB false,.own 5 (((f.kids.take j).map (za0.forg vs))++[(za0.forg vs x3)]).length])),(5,.row 35 6 ((((f.kids.take j).map (za0.forg vs))++[(za0.forg vs x3)]).map dQ))] h fun a w h=>za6 (za1 (Jf 6 [(0,.j1 j)] [] [(22,vI ((j:Int)+1))] h fun a w h=>za1 ?_));rw [show ((((f.kids.take j).map (za0.forg vs))++[(za0.forg vs x3)]):List za0)=((f.kids.take (j+1)).map (za0.forg vs)) from (zej hx3)] at h;replace h:=zd7 5 3 h;refine zaa (x:=j) (y:=j+1) h ?_ ?_
  ·have:=zab hx3;show j+1<=f.kids.length;omega
  show f.kids.length - (j+1)<f.kids.length - j;have:=zab hx3;omega
 refine exA (Jg 6 [] [1,5,20,21,22,23] [] [2] [(1,.box [cI f.kind,nCl,cB false,.d (nsl []),cB false,.own 3 ((f.kids.take j).map (za0.forg vs)).length])] h fun a w h=>qV ?_);rw [show (((f.kids.take j).map (za0.forg vs)):List za0)=(f.kids.map (za0.forg vs)) from (by rw [bW (by omega)])] at h;replace h:=zbs 1 1 3 [cI f.kind,nCl,cB false,.d (nsl []),cB false,.own 3 (f.kids.map (za0.forg vs)).length] h;replace h:=zj2 3 6 35 ((f.kids.map (za0.forg vs)).map dQ) h [(f.kids.map (za0.forg vs)).length] ⟨by first | exact (bK _).symm | (simp;done) | (simp;omega),trivial⟩;refine rA 1 [cI f.kind,cPs [],cB false,.d (nsl []),cB false,cFs (f.kids.map (za0.forg vs))] h zdh rfl ?_;rw [forg_k (by have:=hc4;simpa using this)];try rfl
theorem Lforget (vs:List Int) (hlv:vs.length<=9223372036854775807) (f:za0):f.okA 300000000 3000->f.nodes<=1000000000000->Fn dM 113 [] [(vF f),(vIs vs)] (vF (za0.forg vs f)) [] :=
 dW (P:=fun f=>f.okA 300000000 3000->f.nodes<=1000000000000->Fn dM 113 [] [(vF f),(vIs vs)] (vF (za0.forg vs f)) []) (fun k r ks ih hf hn=>Lforget0 ⟨k,r,ks⟩ vs (fun g hg=>ih g hg (kid_okA2 hf hg) (bJ (kid_nodes9 (f:=⟨k,r,ks⟩) hg) hn)) hf hn hlv) f
theorem rel_psok {L:Nat} (h:TOk n L t) (hn:n<=1000000000:=by decide) (hL:L<=40000:=by decide):PsOk 40000 t.parts:=⟨bJ h.len hn,fun p hp=>⟨(h.ps p hp).1,bJ (h.ps p hp).2 hL⟩⟩
def za0.vars (f:za0):List Int:=f.fold fun k r _ vs=>if k=2 then ze7 r.t.parts else (cnt k vs).foldl (fun a v=>v.foldl zes a) []
theorem za0.vars_eq (f:za0):f.vars=if f.kind=2 then ze7 f.r.t.parts else (cnt f.kind f.kids).foldl (fun a g=>(za0.vars g).foldl zes a) []:=by
 have:=dU (fun k r _ (vs:List (List Int))=>if k=2 then ze7 r.t.parts else (cnt k vs).foldl (fun a v=>v.foldl zes a) []) f
 rw [zd0,List.foldl_map] at this;exact this
theorem foldl_take_v {g:za0} (h:ks[j]?=some g):(ks.take (j+1)).foldl (fun a g=>(za0.vars g).foldl zes a) []=(za0.vars g).foldl zes ((ks.take j).foldl (fun a g=>(za0.vars g).foldl zes a) []):=by
 rw [cN,h,c7];rfl
theorem insF_len (vs a:List Int):(vs.foldl zes a).length<=a.length+vs.length:=by
 induction vs generalizing a with
 | nil=>exact bI _
 | cons v vs ih=>rw [cL,cT];have:=ih (zes a v);have:=zm2 a v;omega
theorem vf_len (gs:List za0) (a:List Int):(gs.foldl (fun a g=>(za0.vars g).foldl zes a) a).length<=a.length+(gs.map fun g=>g.vars.length).sum:=by
 induction gs generalizing a with
 | nil=>simp
 | cons g gs ih =>
  rw [cL,bL,cD]
  have h1:=ih (g.vars.foldl zes a)
  have h2:=insF_len g.vars a
  omega
theorem sum_mul40 {F G:za0->Nat}:∀ {xs:List za0}, (∀ x ∈ xs,F x<=40*G x)->(xs.map F).sum<=40*(xs.map G).sum
 | [],_=>bI _
 | x :: xs,h=>by
  rw [bL,bL,cD,cD]
  have:=h x (bS ..);have:=sum_mul40 (xs:=xs) fun y hy=>h y (b9 _ hy);omega
theorem vars_len (f:za0):f.okB 40 400->f.vars.length<=40*f.wid :=
 dW (P:=fun f=>f.okB 40 400->f.vars.length<=40*f.wid) (fun k r ks ih hf=>by
  rw [za0.vars_eq,dZ]
  split
  ·rename_i e
   have h1:=varsZ_len (za0.mk k r ks).r.t.parts
   have h2:=(((za0.okB_eq _ _ _).1 hf).1.1 e).len
   omega
  ·have h1:=vf_len (cnt k ks) []
   have h2:((cnt k ks).map fun g=>g.vars.length).sum<=40*((cnt k ks).map za0.wid).sum:=sum_mul40 fun g hg=>ih g (zb9 hg) (zhe hf hg)
   show ((cnt k ks).foldl (fun a g=>(za0.vars g).foldl zes a) []).length<=40*(3+((cnt k ks).map za0.wid).sum)
   simp only [List.length_nil] at h1
   omega) f
theorem vars_room {x:za0} (hf:f.okB 40 400) (hx:(cnt f.kind f.kids)[j]?=some x):(((cnt f.kind f.kids).take j).foldl (fun a g=>(za0.vars g).foldl zes a) []).length+x.vars.length<=40*f.wid:=by
 have h1:=vf_len ((cnt f.kind f.kids).take j) []
 have h2:((cnt f.kind f.kids).map fun g=>g.vars.length).sum<=40*((cnt f.kind f.kids).map za0.wid).sum:=sum_mul40 fun g hg=>vars_len g (zhe hf hg)
 have h3:=dZ f
 have h4:(((cnt f.kind f.kids).take j).map fun g=>g.vars.length).sum+x.vars.length<=((cnt f.kind f.kids).map fun g=>g.vars.length).sum:=by
  obtain ⟨hj,rfl⟩:=cV.1 hx
  have e:(cnt f.kind f.kids)=(cnt f.kind f.kids).take j++(cnt f.kind f.kids)[j] :: (cnt f.kind f.kids).drop (j+1):=by rw [<- cK hj,cX]
  have e2:=yJ (fun l:List za0=>(l.map fun g=>g.vars.length).sum) e
  simp only [cY,List.sum_append,bL,cD] at e2
  omega
 simp only [List.length_nil] at h1
 omega
def inB (s:zan) (f:za0):Bool:=match f.vars.getLast? with | none=>true | some v=>decide (v<(s.vars.length:Int))
def bothV (s:zan) (x y:StD) (k:Nat):List ZI:=(List.replicate (k*s.vars.length) ze3++x.vals)++y.vals
theorem last_at {vs:List Int} {v:Int} (hj:vs[j]?=some v) (h:j+1=vs.length):vs.getLast?=some v:=by
 rw [List.getLast?_eq_getElem?, show vs.length - 1=j by omega];exact hj
theorem LR4HoldsW (r:za9) (vs:List ZI) (hM:M<=300) (hv:VOk M vs) (hr:TOk 1000000000 1000 r.t):Fn dM 19 [] [(vR r),(vZs vs)] (vb (zax vs r)) []:=SRrelHoldsG r vs (bI 1000000000) (L:=1000) (by omega) hv hr
theorem zht (vs:List ZI) (hM:M<=300) (hv:VOk M vs) (f:za0):f.okB 1000000000 1000->Fn dM 16 [] [(vF f),(vZs vs)] (vb (dV vs f)) [] :=
 dW (P:=fun f=>f.okB 1000000000 1000->Fn dM 16 [] [(vF f),(vZs vs)] (vb (dV vs f)) []) (fun k r ks ih hf=>SRHoldsG ⟨k,r,ks⟩ vs (fun g=>g.okB 1000000000 1000) (fun g hg h=>ih g hg h) (fun e=>LR4HoldsW r vs hM hv (((za0.okB_eq _ _ _).1 hf).1.1 e)) (fun g hg=>zhe hf hg) (zdw hf)) f
theorem LR5Vars0 (f:za0) (ih:∀ g ∈ (cnt f.kind f.kids),Fn dM 32 [] [(vF g)] (vIs (za0.vars g)) []) (hf:f.okB 40 400) (hw:f.wid<=20000):Fn dM 32 [] [(vF f)] (vIs (za0.vars f)) []:=by
 have lck:=zff hf;have lkm:=zdw hf;refine fB Tryz.func32 rfl 42 fun w H B a h=>Jq 0 [] [(1,vp 0 0),(2,vW zam)] [(0,.box (zF f))] h fun a w h=>Je 1 [(0,.g (Op.buildED (d:=8) tb_0))] [] [(3,(vIs []))] h fun a w h=>qW (Je 1 [] [] [(11,vb (f.kind == 2))] h fun a w h=>cS (f.kind == 2) h (fun hc1=>?_) (fun hc2=>?_))
 ·refine Je 1 [(3,.call (SVars f.r.t (rel_psok (rel_ok hf hc1))))] [11] [(2,(vIs (ze7 f.r.t.parts)))] h fun a w h=>qV (za5 (rT (.c (cIs (ze7 f.r.t.parts))) h rfl ?_));have hz:f.vars=ze7 f.r.t.parts:=by rw [za0.vars_eq,if_pos (by have:=hc1;simpa using this)]
  rw [hz];try rfl
 refine qU (za1 (Jg 1 [(1,.call (SKids f))] [1,11] [(4,(vFs (cnt f.kind f.kids)))] [0] [] h fun a w h=>qW (Jg 1 [] [] [(5,vI 0)] [] [] h fun a w h=>qZ ?_)))
 refine zbw (ι:=(Nat)) (fun j=>j<=(cnt f.kind f.kids).length)
   [] (fun j=>[(3,(vIs (((cnt f.kind f.kids).take j).foldl (fun a g=>(za0.vars g).foldl zes a) []))),(5,vN j)])
   [] (fun j=>[])
   (fun j=>(cnt f.kind f.kids).length - j) 0 ?_ h ?_
 ·exact bF _
 clear h;rintro j a w hI h;refine qW (Jg 1 [(2,.len (za3 6 dQ (cnt f.kind f.kids)))] [] [(21,vb (decide ((j:Int)<((cnt f.kind f.kids).length:Int))))] [] [] h fun a w h=>zad ((j:Int)<((cnt f.kind f.kids).length:Int)) h (fun hc3 hc3'=>?_) (fun hc6 hc6'=>?_))
 ·refine qU (za1 (qW (qZ ?_)));obtain ⟨x3,hx3⟩:=gl (cnt f.kind f.kids) j;refine Jg 1 [(2,.g (xD 26 24 zie ((za7 hx3 (f:=dQ)).trans (yJ some (dR x3))) (dO 25 _))),(4,.call (ih x3 (lM hx3)))] [21] [(6,(vIs (za0.vars x3)))] [] [] h fun a w h=>Jg 1 [] [] [(7,vI 0)] [] [] h fun a w h=>qZ ?_
  refine zbw (ι:=(Nat)) (fun i=>i<=(za0.vars x3).length)
    [] (fun i=>[(3,(vIs (((za0.vars x3).take i).foldl zes (((cnt f.kind f.kids).take j).foldl (fun a g=>(za0.vars g).foldl zes a) [])))),(7,vN i)])
    [] (fun i=>[])
    (fun i=>(za0.vars x3).length - i) 0 ?_ h ?_
  ·exact bF _
  clear h;rintro i a w hI h;have lvi:=insF_len ((za0.vars x3).take i) (((cnt f.kind f.kids).take j).foldl (fun a g=>(za0.vars g).foldl zes a) []);have lti:((za0.vars x3).take i).length<=i:=by rw [cU];omega
  have lvr:=vars_room hf hx3;refine qW (Jg 1 [(2,.len (za3 1 zal (za0.vars x3)))] [] [(32,vb (decide ((i:Int)<((za0.vars x3).length:Int))))] [] [] h fun a w h=>zad ((i:Int)<((za0.vars x3).length:Int)) h (fun hc4 hc4'=>?_) (fun hc5 hc5'=>?_))
  ·refine qU (za1 (qW (qZ ?_)));obtain ⟨x5,hx5⟩:=gl (za0.vars x3) i;refine Jh 1 [(3,.g (xD 38 36 zh0 (za7 hx5 (f:=zal)) (dO 37 _))),(5,.call (SInsert (((za0.vars x3).take i).foldl zes (((cnt f.kind f.kids).take j).foldl (fun a g=>(za0.vars g).foldl zes a) [])) x5 (by omega)))] [32] [(3,(vIs (zes (((za0.vars x3).take i).foldl zes (((cnt f.kind f.kids).take j).foldl (fun a g=>(za0.vars g).foldl zes a) [])) x5)))] [] [] h fun a w h=>za6 (za1 (Jh 1 [(1,.j1 i)] [] [(7,vI ((i:Int)+1))] [] [] h fun a w h=>za1 ?_));rw [show ((zes (((za0.vars x3).take i).foldl zes (((cnt f.kind f.kids).take j).foldl (fun a g=>(za0.vars g).foldl zes a) [])) x5):List Int)=(((za0.vars x3).take (i+1)).foldl zes (((cnt f.kind f.kids).take j).foldl (fun a g=>(za0.vars g).foldl zes a) [])) from (by rw [cN,hx5,c7];rfl)] at h;refine zaa (x:=i) (y:=i+1) h ?_ ?_
   ·have:=zab hx5;show i+1<=(za0.vars x3).length;omega
   show (za0.vars x3).length - (i+1)<(za0.vars x3).length - i;have:=zab hx5;omega
  refine wp_exit (zcb (zcb (zaz (za6 (za1 (Jh 1 [(1,.j1 j)] [6,7,32] [(5,vI ((j:Int)+1))] [] [] h fun a w h=>za1 ?_))))));rw [show ((((za0.vars x3).take i).foldl zes (((cnt f.kind f.kids).take j).foldl (fun a g=>(za0.vars g).foldl zes a) [])):List Int)=(((cnt f.kind f.kids).take (j+1)).foldl (fun a g=>(za0.vars g).foldl zes a) []) from (by rw [show i=(za0.vars x3).length by omega,List.take_length];exact (foldl_take_v hx3).symm)] at h;refine zaa (x:=j) (y:=j+1) h ?_ ?_
  ·have:=zab hx3;show j+1<=(cnt f.kind f.kids).length;omega
  show (cnt f.kind f.kids).length - (j+1)<(cnt f.kind f.kids).length - j;have:=zab hx3;omega
 refine exA (Jq 1 [] [(2,(vIs (((cnt f.kind f.kids).take j).foldl (fun a g=>(za0.vars g).foldl zes a) [])))] [] h fun a w h=>qV (rT (.c (cIs (((cnt f.kind f.kids).take j).foldl (fun a g=>(za0.vars g).foldl zes a) []))) h rfl ?_));have hz:f.vars=(((cnt f.kind f.kids).take j).foldl (fun a g=>(za0.vars g).foldl zes a) []):=by rw [za0.vars_eq,if_neg (by have:=hc2;simpa using this),bW (by omega)]
 rw [hz];try rfl
theorem LR5Vars (f:za0):f.okB 40 400->f.wid<=20000->Fn dM 32 [] [(vF f)] (vIs (za0.vars f)) [] :=
 dW (P:=fun f=>f.okB 40 400->f.wid<=20000->Fn dM 32 [] [(vF f)] (vIs (za0.vars f)) []) (fun k r ks ih hf hw=>LR5Vars0 ⟨k,r,ks⟩ (fun g hg=>ih g (zb9 hg) (zhe hf hg) (bJ (wid_kid hg) hw)) hf hw) f
end S
end Go.Proofs.YtlcijejaplagbaaGreat
