/-
  Part 4 of the proof of the statement WholeWords. It holds for every input.
-/
import Derived.Test.YtjnkkdfojfjncaaGreatWW3
import Derived.Test.YtjnkkdfojfjncaaGreatWW2
import Derived.Shelf.Sort.AssemblyIn
import Derived.Shelf.Abstract
import Derived.Shelf.RegionOpen
import Derived.OwnWalkIn
import Derived.TacticsInMore
import Derived.LoopNIn
import Derived.LoopIn
import Derived.Test.YtjnkkdfojfjncaaGreatWW1
import Derived.Maps.Keyed
import Derived.DeepKeys4
set_option maxRecDepth 100000
set_option maxHeartbeats 20000000
open Go.RowKit
open List renaming length_map->bA,length_append->bB,lookup_cons->bC,length_nil->bE,length_cons->bF,mem_map->bG,flatten->bH,length->bI,getElem?_eq_some_iff->bJ,all_eq_true->bM,getElem?_map->bN,getElem?_eq_getElem->bO,mem_cons->bQ,getElem?_mapIdx->bR,mem_singleton->bT,map_cons->bU,length_singleton->bV,mem_cons_of_mem->bY,take_add_one->bZ,take_of_length_le->b7,append_nil->cA,mem_append->cC,getElem?_set_ne->cD,mem_of_getElem?->cE,mem_iff_getElem?->cF,mem_flatMap->cG,flatten_cons->cH,map_drop->cJ,mem_of_mem_drop->cK,getElem?_set_self->cL,map_nil->cM,ext_getElem?->cN,getElem?_eq_none->cO,length_take->cP,flatten_nil->cQ,map_map->cU,map_take->cW,size_toArray->cX,length_mapIdx->cY,mem_cons_self->cZ,getElem?_cons_zero->c7,contains_eq_mem->c8,mem_flatten->dB,mem_of_mem_take->dC,nil_append->dD,cons_append->dE,length_set->dG,getElem?_drop->dH,getElem?_take->dI,map_append->dL,mapIdx_cons->dM,getElem?_append_left->dO,getElem?_append_right->dP,take_append_drop->dQ,mem_iff_getElem->dU,getElem?_eq_none_iff->dW,drop_of_length_le->dX
open Nat renaming le_refl->bK,beq_refl->bL,zero_le->bP,blt_eq->bX,add_sub_cancel->cR,sub_self->cT,mul_le_mul_right->dJ,zero_add->dN,eq_of_beq_eq_true->dV
open Option renaming map_some->bS,map_eq_some_iff->b8
open Bool renaming and_eq_true->bW,not_eq_true'->b9,eq_false_or_eq_true->cV,true_and->dA
open Array renaming replicate_succ->dR,replicate_zero->dS
open Go.Proofs.Tryz renaming prog->dY
open Go.Proofs.YtjnkkdfojfjncaaGreat.S.OV renaming const->dZ,tmp->d4
open Go.Proofs.YtjnkkdfojfjncaaGreat.S.PF renaming l->d5
open Go.Proofs.YtjnkkdfojfjncaaGreat.S.za2 renaming d->d6,d_eq->d7,d_len->d8,kind->eA
namespace Go.Proofs.YtjnkkdfojfjncaaGreat
namespace S
variable {wd:zaf} {j k i t n o m p x:Nat} {xs:List Int} {v:Int} {xt ty kt mt et:TypeId} {rs sl:List (Nat × V)} {lc qs:List (Nat × L)} {nm:Nat->Nat} {hd:Option (List (List C))} {f:F} {q:List D × List (List D)} {ns:List Nat} {draw:Bool} {a:Act} {w:World} {e:E} {β α:Type} {fn:Func} {args:List V} {res:V} {tl:Nat->Option L} {z key:Value} {P:Program} {H:Im} {B:Bl} {es:List (Value × D)} {kv:T} {al:List PF} {y:TkD} {kk:Int × Int}
theorem va7_5:ArT dY 91 35 2 1:=ArT.mk' Tryz.underlying91 (by kernel_rfl)
theorem va7_6:Sz dY 35 1 false:=Sz.mk' (by kernel_rfl) Tryz.underlying35 _ rfl
noncomputable def celT (wd:zaf) (f:za2) (k j:Nat):D:=if k<j then .sl 1 ((truT wd (za8 f k).pf).map za0) else .raw za6
theorem celT_0 {f:za2} (hj:j<2):(if j=0 then D.sl 1 ((truT wd (za8 f j).pf).map za0) else celT wd f 0 j)=celT wd f 0 (j+1):=by
 rcases (show j=0\/j=1 by omega) with rfl | rfl <;> rfl
theorem celT_1 {f:za2} (hj:j<2):(if j=1 then D.sl 1 ((truT wd (za8 f j).pf).map za0) else celT wd f 1 j)=celT wd f 1 (j+1):=by
 rcases (show j=0\/j=1 by omega) with rfl | rfl <;> rfl
theorem zcx {f:za2} (h:k<j):celT wd f k j = .sl 1 ((truT wd (za8 f k).pf).map za0):=if_pos h
theorem SWtr2n (i:Nat) (wd:zaf) (f:za2) (hp:f.prop<0) (hi:i<wN wd) (hlt:(zc4 wd i).length<=9223372036854775807) (hl:wN wd<=1000000):Fn dY 43 [(1,.box [.d (.sl 1 (wd.stem.map (slD 1 za0))),.d (.sl 1 (wd.cycle.map (slD 1 za0)))]),(2,.box [cI f.kind,cI f.prop,.d (.sl 3 (f.kids.map d6))])] [vN i,vp 1 0,vp 2 0] (vb (hdB (zc4 wd i) f.prop)) [(1,.box [.d (.sl 1 (wd.stem.map (slD 1 za0))),.d (.sl 1 (wd.cycle.map (slD 1 za0)))]),(2,.box [cI f.kind,cI f.prop,.d (.sl 3 (f.kids.map d6))])]:=by
 refine fB Tryz.func43 rfl 26 fun w H B a h=>Jq 5 [] [(0,vN i),(1,vp 1 0),(2,vp 2 0),(4,vb false)] [(1,.box [.d (.sl 1 (wd.stem.map (slD 1 za0))),.d (.sl 1 (wd.cycle.map (slD 1 za0)))]),(2,.box [cI f.kind,cI f.prop,.d (.sl 3 (f.kids.map d6))])] h fun a w h=>Je 5 [(2,.call (SWletter wd i hl hi))] [0,1] [(5,vS 1 ((zc4 wd i).map za0))] h fun a w h=>Jp 5 [(2,.cmp (op:=.geq) (m:=f.prop) (n:=0) (b:=false) .i64 (show decide (f.prop>=0)=false from decide_eq_false (by omega)))] [(4,vb false)] h fun a w h=>qV (rT (.c (cB false)) h rfl ?_)
 have hz:hdB (zc4 wd i) f.prop=false:=by unfold hdB;rw [decide_eq_false (p:=0<=f.prop) (by omega)];rfl
 rw [hz];try rfl
theorem SWtr2p (i:Nat) (wd:zaf) (f:za2) (hp:0<=f.prop) (hi:i<wN wd) (hlt:(zc4 wd i).length<=9223372036854775807) (hl:wN wd<=1000000):Fn dY 43 [(1,.box [.d (.sl 1 (wd.stem.map (slD 1 za0))),.d (.sl 1 (wd.cycle.map (slD 1 za0)))]),(2,.box [cI f.kind,cI f.prop,.d (.sl 3 (f.kids.map d6))])] [vN i,vp 1 0,vp 2 0] (vb (hdB (zc4 wd i) f.prop)) [(1,.box [.d (.sl 1 (wd.stem.map (slD 1 za0))),.d (.sl 1 (wd.cycle.map (slD 1 za0)))]),(2,.box [cI f.kind,cI f.prop,.d (.sl 3 (f.kids.map d6))])]:=by
 refine fB Tryz.func43 rfl 26 fun w H B a h=>Jq 5 [] [(0,vN i),(1,vp 1 0),(2,vp 2 0),(4,vb false)] [(1,.box [.d (.sl 1 (wd.stem.map (slD 1 za0))),.d (.sl 1 (wd.cycle.map (slD 1 za0)))]),(2,.box [cI f.kind,cI f.prop,.d (.sl 3 (f.kids.map d6))])] h fun a w h=>Je 5 [(2,.call (SWletter wd i hl hi))] [0,1] [(5,vS 1 ((zc4 wd i).map za0))] h fun a w h=>?_
 obtain ⟨k,hkk⟩:∃ k_:Nat,f.prop=(k_:Int):=⟨_,(Int.toNat_of_nonneg (by omega)).symm⟩;replace h:=cvM [] [] [] [(2,.box [cI f.kind,cI (k:Int),.d (.sl 3 (f.kids.map d6))])] (by rw [hkk]; try kernel_rfl) h
 rcases cV (decide ((k:Int)<((zc4 wd i).length:Int))) with hc1 | hc2
 ·have hc1':=dT hc1;obtain ⟨x2,hx2⟩:=gl (zc4 wd i) k;refine Jg 5 [(2,.cmp (op:=.geq) (m:=(k:Int)) (n:=0) (b:=true) .i64 (show decide ((k:Int)>=0)=true from decide_eq_true (by omega))),(7,.len (za9 1 za0 (zc4 wd i))),(8,.cmp (op:=.lss) (m:=(k:Int)) (n:=((zc4 wd i).length:Int)) (b:=true) .i64 hc1),(14,.g (xD 23 20 zbo (zab hx2 (f:=za0)) (d4 22 _)))] [2,5] [(4,vb x2)] [] [] h fun a w h=>qV ?_;replace h:=cvM [] [] [] [(2,.box [cI f.kind,cI f.prop,.d (.sl 3 (f.kids.map d6))])] (by rw [hkk]; try kernel_rfl) h;refine rT (.c (cB x2)) h rfl ?_;have hz:hdB (zc4 wd i) f.prop=x2:=by unfold hdB;rw [hkk,decide_eq_true (p:=(0:Int)<=(k:Int)) (by omega),dA];rw [hc1,dA,show ((k:Int)).toNat=k by omega,hx2];rfl
  rw [hz];try rfl
 have hc2':=dF hc2;refine Jg 5 [(2,.cmp (op:=.geq) (m:=(k:Int)) (n:=0) (b:=true) .i64 (show decide ((k:Int)>=0)=true from decide_eq_true (by omega))),(7,.len (za9 1 za0 (zc4 wd i))),(8,.cmp (op:=.lss) (m:=(k:Int)) (n:=((zc4 wd i).length:Int)) (b:=false) .i64 hc2)] [2,5] [] [] [] h fun a w h=>qV ?_;replace h:=cvM [] [] [] [(2,.box [cI f.kind,cI f.prop,.d (.sl 3 (f.kids.map d6))])] (by rw [hkk]; try kernel_rfl) h;refine rT (.c (cB false)) h rfl ?_;have hz:hdB (zc4 wd i) f.prop=false:=by unfold hdB;rw [hkk,decide_eq_true (p:=(0:Int)<=(k:Int)) (by omega),dA];rw [hc2];rfl
 rw [hz];try rfl
theorem SWtr2 (i:Nat) (wd:zaf) (f:za2) (hi:i<wN wd) (hlt:(zc4 wd i).length<=9223372036854775807) (hl:wN wd<=1000000):Fn dY 43 [(1,.box [.d (.sl 1 (wd.stem.map (slD 1 za0))),.d (.sl 1 (wd.cycle.map (slD 1 za0)))]),(2,.box [cI f.kind,cI f.prop,.d (.sl 3 (f.kids.map d6))])] [vi .i64 (i:Int),vp 1 0,vp 2 0] (vb (hdB (zc4 wd i) f.prop)) [(1,.box [.d (.sl 1 (wd.stem.map (slD 1 za0))),.d (.sl 1 (wd.cycle.map (slD 1 za0)))]),(2,.box [cI f.kind,cI f.prop,.d (.sl 3 (f.kids.map d6))])]:=by
 by_cases hp:f.prop<0
 ·exact SWtr2n i wd f hp hi hlt hl
 ·exact SWtr2p i wd f (by omega) hi hlt hl
theorem SWtruth0 (wd:zaf) (f:za2) (ih:∀ i,i<arT f.kind->Fn dY 21 [] [vG [.d (.sl 1 (wd.stem.map (slD 1 za0))),.d (.sl 1 (wd.cycle.map (slD 1 za0)))],vG [cI (za8 f i).kind,cI (za8 f i).prop,.d (.sl 3 ((za8 f i).kids.map d6))]] (vS 1 ((truT wd (za8 f i).pf).map za0)) []) (hlt:∀ i,i<wN wd->(zc4 wd i).length<=9223372036854775807) (hc0:0<wd.cycle.length) (hl:wN wd<=1000000):Fn dY 21 [] [vG [.d (.sl 1 (wd.stem.map (slD 1 za0))),.d (.sl 1 (wd.cycle.map (slD 1 za0)))],vG [cI f.kind,cI f.prop,.d (.sl 3 (f.kids.map d6))]] (vS 1 ((truT wd f.pf).map za0)) []:=by
 have hN9:=zby wd;have lk8:=zbt f.kind;refine fB Tryz.func21 rfl 94 fun w H B a h=>Jq 5 [] [(2,vp 5 0),(3,vp 6 0),(4,vW za6)] [(5,.box [.d (.sl 1 (wd.stem.map (slD 1 za0))),.d (.sl 1 (wd.cycle.map (slD 1 za0)))]),(6,.box [cI f.kind,cI f.prop,.d (.sl 3 (f.kids.map d6))])] h fun a w h=>Jg 7 [] [] [(5,vp 7 0)] [] [(7,.box [nCl,nCl])] h fun a w h=>qW (Je 8 [(2,.call (zgo f.kind))] [] [(12,vI ((arT f.kind:Nat):Int)),(13,vI 0)] h fun a w h=>qZ ?_)
 refine zdp (ι:=(Nat)) (fun j=>j<=arT f.kind)
   [] (fun j=>[(13,vN j)])
   [] (fun j=>[(7,.box [.d (celT wd f 0 j),.d (celT wd f 1 j)])])
   (fun j=>arT f.kind - j) 0 ?_ h ?_
 ·exact bP _
 clear h;rintro j a w hI h;have lk9:=zbt f.kind;refine Je 8 [] [] [(14,vb (decide ((j:Int)<((arT f.kind:Nat):Int))))] h fun a w h=>qW (zav ((j:Int)<((arT f.kind:Nat):Int)) h (fun hc1 hc1'=>?_) (fun hc2 hc2'=>?_))
 ·refine qU (za1 (qW (qZ (Je 8 [] [14] [(6,vN j)] h fun a w h=>Jh 8 [(4,.call (SWkid f j (by have:=dT hc1;have:=zbt f.kind;omega))),(5,.call (ih j (by have:=dT hc1;omega))),(6,.g (Op.idxA (d:=22) (t:=5) (n:=7) (o:=0) (i:=j) (k:=.i64) va7_5 (by have:=dT hc1;omega) j (by omega) (d4 16 _))),(7,.g (Op.storeA2 (t:=22) (n:=7) (j:=j) (c0:=(celT wd f 0 j)) (c1:=(celT wd f 1 j)) (x:=(.sl 1 ((truT wd (za8 f j).pf).map za0))) va7_6 (d4 21 _) (by have:=dT hc1;omega)))] [6] [] [] [(7,.box [.d (if j=0 then (.sl 1 ((truT wd (za8 f j).pf).map za0)) else (celT wd f 0 j)),.d (if j=1 then (.sl 1 ((truT wd (za8 f j).pf).map za0)) else (celT wd f 1 j))])] h fun a w h=>za7 (za1 (Jf 8 [(0,.j1 j)] [] [(13,vI ((j:Int)+1))] h fun a w h=>za1 ?_))))));have hj2:j<2:=by have:=dT hc1;omega
  replace h:=cvM [] [] [] [(7,.box [.d (celT wd f 0 (j+1)),.d (celT wd f 1 (j+1))])] (by rw [<- celT_0 hj2,<- celT_1 hj2]; try kernel_rfl) h;refine zaj (x:=j) (y:=j+1) h ?_ ?_
  ·have:=dT hc1;show j+1<=arT f.kind;omega
  have:=dT hc1;show arT f.kind - (j+1)<arT f.kind - j;omega
 refine exA ?_;have hj9:j=arT f.kind:=by have:=dF hc2;omega
 refine Jg 8 [(0,.g (Op.idxA (d:=24) (t:=5) (n:=7) (o:=0) (i:=0) (k:=.i64) va7_5 (by decide) 0 (by omega) (dZ (.int .i64 0) rfl))),(2,.g (Op.idxA (d:=26) (t:=5) (n:=7) (o:=0) (i:=1) (k:=.i64) va7_5 (by decide) 1 (by omega) (dZ (.int .i64 1) rfl)))] [5,12,13,14] [(7,vp 8 0),(8,vp 9 0)] [7] [(8,.box [.d (celT wd f 0 j)]),(9,.box [.d (celT wd f 1 j)])] h fun a w h=>Jg 10 [(1,.call (SWeachTA wd (fun _=>true) (fun i _=>SWttA i) hl))] [] [(9,vO 0 (zao wd (fun _=>true)).length)] [] [(0,.row 4 1 ((zao wd (fun _=>true)).map za0))] h fun a w h=>qW ?_;replace h:=cvM [] [(9,vO 0 (truT wd .tt).length)] [] [(0,.row 4 1 ((truT wd .tt).map za0))] (by rw [<- show ((zao wd (fun _=>true)):List Bool)=(truT wd .tt) from t_tt]; try kernel_rfl) h;have ltt:=zb6 wd .tt;replace h:=zb7 0 11 h;refine Je 10 [] [] [(31,vI f.kind)] h fun a w h=>qZ (Je 10 [] [] [(32,vb (f.kind == 0))] h fun a w h=>cS (f.kind == 0) h (fun hc3=>?_) (fun hc4=>?_))
 ·have hk9:=(show f.kind=0 by have:=hc3;simpa using this);have ha9:j=0:=hj9.trans (by rw [hk9];rfl);replace h:=cvM [] [] [] [(8,.box [nCl]),(9,.box [nCl])] (by rw [ha9]; try kernel_rfl) h;replace h:=zg6 11 1 4 ((truT wd .tt).map za0) h [(truT wd .tt).length] ⟨by first | exact (bA _).symm | (simp;done) | (simp;omega),trivial⟩;refine Jg 10 [] [3,7,8,9,31,32] [(4,vS 1 ((truT wd .tt).map za0))] [6,8,9] [] h fun a w h=>qV (zaa (za5 (rT (.c (.d (.sl 1 ((truT wd .tt).map za0)))) h rfl ?_)))
  have hz:truT wd f.pf=(truT wd .tt):=by
   have e9:=(show f.kind=0 by have:=hc3;simpa using this);rw [zct,e9];rfl
  rw [hz];try rfl
 refine Je 10 [] [32] [(35,vb (f.kind == 2))] h fun a w h=>cS (f.kind == 2) h (fun hc5=>?_) (fun hc6=>?_)
 ·have hk9:=(show f.kind=2 by have:=hc5;simpa using this);replace h:=zb7 5 1 h;replace h:=zb7 6 2 h;refine Jg 10 [(1,.g (Op.makeFs (d:=38) (fn:=.func 43) [(2,1,0),(3,2,0)])),(2,.call (SWeach2 wd (fun i=>hdB (zc4 wd i) f.prop) f (fun i hi=>SWtr2 i wd f hi (hlt i hi) hl) hl))] [3,7,8,9,31,35] [(4,vO 0 (zao wd (fun i=>hdB (zc4 wd i) f.prop)).length)] [8,9,11,2] [(0,.row 4 1 ((zao wd (fun i=>hdB (zc4 wd i) f.prop)).map za0))] h fun a w h=>qV (zaa (za5 ?_));replace h:=cvM [] [(4,vO 0 (truT wd (.pa f.prop)).length)] [] [(0,.row 4 1 ((truT wd (.pa f.prop)).map za0))] (by rw [<- show ((zao wd (fun i=>hdB (zc4 wd i) f.prop)):List Bool)=(truT wd (.pa f.prop)) from (t_pa hc0 f.prop)]; try kernel_rfl) h;have lf9:=zb6 wd (.pa f.prop);replace h:=zg6 0 1 4 ((truT wd (.pa f.prop)).map za0) h [(truT wd (.pa f.prop)).length] ⟨by first | exact (bA _).symm | (simp;done) | (simp;omega),trivial⟩;refine rT (.c (.d (.sl 1 ((truT wd (.pa f.prop)).map za0)))) h rfl ?_
  have hz:truT wd f.pf=(truT wd (.pa f.prop)):=by
   have e9:=(show f.kind=2 by have:=hc5;simpa using this);rw [zct,e9];rfl
  rw [hz];try rfl
 refine Jg 10 [] [3,35] [(40,vb (f.kind == 3))] [6] [] h fun a w h=>cS (f.kind == 3) h (fun hc7=>?_) (fun hc8=>?_)
 ·have hk9:=(show f.kind=3 by have:=hc7;simpa using this);have ha9:j=1:=hj9.trans (by rw [hk9];rfl);replace h:=cvM [] [] [] [(8,.box [.d (.sl 1 ((truT wd (za8 f 0).pf).map za0))])] (by rw [zcx (k:=0) (j:=j) (by omega)]; try kernel_rfl) h;replace h:=zb7 8 1 h;refine Jg 10 [(1,.g (Op.makeFs (d:=43) (fn:=.func 45) [(7,1,0)])),(2,.call (SWeach3 wd (fun x=>!zag (truT wd (za8 f 0).pf) x) (truT wd (za8 f 0).pf) (fun i hi=>SWtr3 i (truT wd (za8 f 0).pf) (by rw [zb6];exact hi)) hl))] [7,8,9,31,40] [(4,vO 0 (zao wd (fun x=>!zag (truT wd (za8 f 0).pf) x)).length)] [9,11,1] [(0,.row 4 1 ((zao wd (fun x=>!zag (truT wd (za8 f 0).pf) x)).map za0))] h fun a w h=>qV (zaa (za5 ?_));replace h:=cvM [] [(4,vO 0 (truT wd (PF.neg (za8 f 0).pf)).length)] [] [(0,.row 4 1 ((truT wd (PF.neg (za8 f 0).pf)).map za0))] (by rw [<- show ((zao wd (fun x=>!zag (truT wd (za8 f 0).pf) x)):List Bool)=(truT wd (PF.neg (za8 f 0).pf)) from (t_not)]; try kernel_rfl) h;have lf9:=zb6 wd (PF.neg (za8 f 0).pf);replace h:=zg6 0 1 4 ((truT wd (PF.neg (za8 f 0).pf)).map za0) h [(truT wd (PF.neg (za8 f 0).pf)).length] ⟨by first | exact (bA _).symm | (simp;done) | (simp;omega),trivial⟩;refine rT (.c (.d (.sl 1 ((truT wd (PF.neg (za8 f 0).pf)).map za0)))) h rfl ?_
  have hz:truT wd f.pf=(truT wd (PF.neg (za8 f 0).pf)):=by
   have e9:=(show f.kind=3 by have:=hc7;simpa using this);rw [zct,e9];rfl
  rw [hz];try rfl
 refine Je 10 [] [40] [(45,vb (f.kind == 4))] h fun a w h=>cS (f.kind == 4) h (fun hc9=>?_) (fun hc10=>?_)
 ·have hk9:=(show f.kind=4 by have:=hc9;simpa using this);have ha9:j=2:=hj9.trans (by rw [hk9];rfl);replace h:=cvM [] [] [] [(8,.box [.d (.sl 1 ((truT wd (za8 f 0).pf).map za0))]),(9,.box [.d (.sl 1 ((truT wd (za8 f 1).pf).map za0))])] (by rw [zcx (k:=0) (j:=j) (by omega),zcx (k:=1) (j:=j) (by omega)]; try kernel_rfl) h;replace h:=zb7 8 1 h;replace h:=zb7 9 2 h;refine Jg 10 [(1,.g (Op.makeFs (d:=48) (fn:=.func 46) [(7,1,0),(8,2,0)])),(2,.call (SWeach4 wd (fun x=>zag (truT wd (za8 f 0).pf) x && zag (truT wd (za8 f 1).pf) x) (truT wd (za8 f 0).pf) (truT wd (za8 f 1).pf) (fun i hi=>SWtr4 i (truT wd (za8 f 0).pf) (truT wd (za8 f 1).pf) (by rw [zb6];exact hi) (by rw [zb6];exact hi)) hl))] [7,8,9,31,45] [(4,vO 0 (zao wd (fun x=>zag (truT wd (za8 f 0).pf) x && zag (truT wd (za8 f 1).pf) x)).length)] [11,1,2] [(0,.row 4 1 ((zao wd (fun x=>zag (truT wd (za8 f 0).pf) x && zag (truT wd (za8 f 1).pf) x)).map za0))] h fun a w h=>qV (zaa (za5 ?_));replace h:=cvM [] [(4,vO 0 (truT wd (.and (za8 f 0).pf (za8 f 1).pf)).length)] [] [(0,.row 4 1 ((truT wd (.and (za8 f 0).pf (za8 f 1).pf)).map za0))] (by rw [<- show ((zao wd (fun x=>zag (truT wd (za8 f 0).pf) x && zag (truT wd (za8 f 1).pf) x)):List Bool)=(truT wd (.and (za8 f 0).pf (za8 f 1).pf)) from (t_and)]; try kernel_rfl) h;have lf9:=zb6 wd (.and (za8 f 0).pf (za8 f 1).pf);replace h:=zg6 0 1 4 ((truT wd (.and (za8 f 0).pf (za8 f 1).pf)).map za0) h [(truT wd (.and (za8 f 0).pf (za8 f 1).pf)).length] ⟨by first | exact (bA _).symm | (simp;done) | (simp;omega),trivial⟩;refine rT (.c (.d (.sl 1 ((truT wd (.and (za8 f 0).pf (za8 f 1).pf)).map za0)))) h rfl ?_
  have hz:truT wd f.pf=(truT wd (.and (za8 f 0).pf (za8 f 1).pf)):=by
   have e9:=(show f.kind=4 by have:=hc9;simpa using this);rw [zct,e9];rfl
  rw [hz];try rfl
 refine Je 10 [] [45] [(50,vb (f.kind == 5))] h fun a w h=>cS (f.kind == 5) h (fun hc11=>?_) (fun hc12=>?_)
 ·have hk9:=(show f.kind=5 by have:=hc11;simpa using this);have ha9:j=2:=hj9.trans (by rw [hk9];rfl);replace h:=cvM [] [] [] [(8,.box [.d (.sl 1 ((truT wd (za8 f 0).pf).map za0))]),(9,.box [.d (.sl 1 ((truT wd (za8 f 1).pf).map za0))])] (by rw [zcx (k:=0) (j:=j) (by omega),zcx (k:=1) (j:=j) (by omega)]; try kernel_rfl) h;replace h:=zb7 8 1 h;replace h:=zb7 9 2 h;refine Jg 10 [(1,.g (Op.makeFs (d:=53) (fn:=.func 47) [(7,1,0),(8,2,0)])),(2,.call (SWeach5 wd (fun x=>zag (truT wd (za8 f 0).pf) x || zag (truT wd (za8 f 1).pf) x) (truT wd (za8 f 0).pf) (truT wd (za8 f 1).pf) (fun i hi=>SWtr5 i (truT wd (za8 f 0).pf) (truT wd (za8 f 1).pf) (by rw [zb6];exact hi) (by rw [zb6];exact hi)) hl))] [7,8,9,31,50] [(4,vO 0 (zao wd (fun x=>zag (truT wd (za8 f 0).pf) x || zag (truT wd (za8 f 1).pf) x)).length)] [11,1,2] [(0,.row 4 1 ((zao wd (fun x=>zag (truT wd (za8 f 0).pf) x || zag (truT wd (za8 f 1).pf) x)).map za0))] h fun a w h=>qV (zaa (za5 ?_));replace h:=cvM [] [(4,vO 0 (truT wd (.or (za8 f 0).pf (za8 f 1).pf)).length)] [] [(0,.row 4 1 ((truT wd (.or (za8 f 0).pf (za8 f 1).pf)).map za0))] (by rw [<- show ((zao wd (fun x=>zag (truT wd (za8 f 0).pf) x || zag (truT wd (za8 f 1).pf) x)):List Bool)=(truT wd (.or (za8 f 0).pf (za8 f 1).pf)) from (t_or)]; try kernel_rfl) h;have lf9:=zb6 wd (.or (za8 f 0).pf (za8 f 1).pf);replace h:=zg6 0 1 4 ((truT wd (.or (za8 f 0).pf (za8 f 1).pf)).map za0) h [(truT wd (.or (za8 f 0).pf (za8 f 1).pf)).length] ⟨by first | exact (bA _).symm | (simp;done) | (simp;omega),trivial⟩;refine rT (.c (.d (.sl 1 ((truT wd (.or (za8 f 0).pf (za8 f 1).pf)).map za0)))) h rfl ?_
  have hz:truT wd f.pf=(truT wd (.or (za8 f 0).pf (za8 f 1).pf)):=by
   have e9:=(show f.kind=5 by have:=hc11;simpa using this);rw [zct,e9];rfl
  rw [hz];try rfl
 refine Je 10 [] [50] [(55,vb (f.kind == 7))] h fun a w h=>cS (f.kind == 7) h (fun hc13=>?_) (fun hc14=>?_)
 ·have hk9:=(show f.kind=7 by have:=hc13;simpa using this);have ha9:j=2:=hj9.trans (by rw [hk9];rfl);replace h:=cvM [] [] [] [(8,.box [.d (.sl 1 ((truT wd (za8 f 0).pf).map za0))]),(9,.box [.d (.sl 1 ((truT wd (za8 f 1).pf).map za0))])] (by rw [zcx (k:=0) (j:=j) (by omega),zcx (k:=1) (j:=j) (by omega)]; try kernel_rfl) h;replace h:=zb7 8 1 h;replace h:=zb7 9 2 h;refine Jg 10 [(1,.g (Op.makeFs (d:=58) (fn:=.func 48) [(7,1,0),(8,2,0)])),(2,.call (SWeach6 wd (fun x=>!zag (truT wd (za8 f 0).pf) x || zag (truT wd (za8 f 1).pf) x) (truT wd (za8 f 0).pf) (truT wd (za8 f 1).pf) (fun i hi=>SWtr6 i (truT wd (za8 f 0).pf) (truT wd (za8 f 1).pf) (by rw [zb6];exact hi) (by rw [zb6];exact hi)) hl))] [7,8,9,31,55] [(4,vO 0 (zao wd (fun x=>!zag (truT wd (za8 f 0).pf) x || zag (truT wd (za8 f 1).pf) x)).length)] [11,1,2] [(0,.row 4 1 ((zao wd (fun x=>!zag (truT wd (za8 f 0).pf) x || zag (truT wd (za8 f 1).pf) x)).map za0))] h fun a w h=>qV (zaa (za5 ?_));replace h:=cv (fun z_:List Bool=>F.of [(2,vp 5 0),(4,vO 0 z_.length)] [(5,.box [.d (.sl 1 (wd.stem.map (slD 1 za0))),.d (.sl 1 (wd.cycle.map (slD 1 za0)))]),(0,.row 4 1 (z_.map za0))]) (show ((zao wd (fun x=>!zag (truT wd (za8 f 0).pf) x || zag (truT wd (za8 f 1).pf) x)):List Bool)=(truT wd (.or (PF.neg (za8 f 0).pf) (za8 f 1).pf)) from (t_imp)) (h.conv (by kernel_rfl));have lf9:=zb6 wd (.or (PF.neg (za8 f 0).pf) (za8 f 1).pf);replace h:=zg6 0 1 4 ((truT wd (.or (PF.neg (za8 f 0).pf) (za8 f 1).pf)).map za0) h [(truT wd (.or (PF.neg (za8 f 0).pf) (za8 f 1).pf)).length] ⟨by first | exact (bA _).symm | (simp;done) | (simp;omega),trivial⟩;refine rT (.c (.d (.sl 1 ((truT wd (.or (PF.neg (za8 f 0).pf) (za8 f 1).pf)).map za0)))) h rfl ?_
  have hz:truT wd f.pf=(truT wd (.or (PF.neg (za8 f 0).pf) (za8 f 1).pf)):=by
   have e9:=(show f.kind=7 by have:=hc13;simpa using this);rw [zct,e9];rfl
  rw [hz];try rfl
 refine Je 10 [] [55] [(60,vb (f.kind == 8))] h fun a w h=>cS (f.kind == 8) h (fun hc15=>?_) (fun hc16=>?_)
 ·have hk9:=(show f.kind=8 by have:=hc15;simpa using this);have ha9:j=1:=hj9.trans (by rw [hk9];rfl);replace h:=cvM [] [] [] [(8,.box [.d (.sl 1 ((truT wd (za8 f 0).pf).map za0))])] (by rw [zcx (k:=0) (j:=j) (by omega)]; try kernel_rfl) h;replace h:=zb7 8 1 h;replace h:=zb7 5 2 h;refine Jg 10 [(1,.g (Op.makeFs (d:=63) (fn:=.func 49) [(7,1,0),(2,2,0)])),(2,.call (SWeach7 wd (fun x=>zag (truT wd (za8 f 0).pf) (nxW wd x)) (truT wd (za8 f 0).pf) (fun i hi=>SWtr7 i (truT wd (za8 f 0).pf) wd (by rw [zb6];exact zd2 hc0 hi) hi hl) hl))] [7,8,9,31,60] [(4,vO 0 (zao wd (fun x=>zag (truT wd (za8 f 0).pf) (nxW wd x))).length)] [9,11,1] [(0,.row 4 1 ((zao wd (fun x=>zag (truT wd (za8 f 0).pf) (nxW wd x))).map za0))] h fun a w h=>qV (zaa (za5 ?_));replace h:=cvM [] [(4,vO 0 (truT wd (.nx (za8 f 0).pf)).length)] [] [(0,.row 4 1 ((truT wd (.nx (za8 f 0).pf)).map za0))] (by rw [<- show ((zao wd (fun x=>zag (truT wd (za8 f 0).pf) (nxW wd x))):List Bool)=(truT wd (.nx (za8 f 0).pf)) from (t_nx hc0)]; try kernel_rfl) h;have lf9:=zb6 wd (.nx (za8 f 0).pf);replace h:=zg6 0 1 4 ((truT wd (.nx (za8 f 0).pf)).map za0) h [(truT wd (.nx (za8 f 0).pf)).length] ⟨by first | exact (bA _).symm | (simp;done) | (simp;omega),trivial⟩;refine rT (.c (.d (.sl 1 ((truT wd (.nx (za8 f 0).pf)).map za0)))) h rfl ?_
  have hz:truT wd f.pf=(truT wd (.nx (za8 f 0).pf)):=by
   have e9:=(show f.kind=8 by have:=hc15;simpa using this);rw [zct,e9];rfl
  rw [hz];try rfl
 refine Je 10 [] [60] [(65,vb (f.kind == 9))] h fun a w h=>cS (f.kind == 9) h (fun hc17=>?_) (fun hc18=>?_)
 ·have hk9:=(show f.kind=9 by have:=hc17;simpa using this);have ha9:j=1:=hj9.trans (by rw [hk9];rfl);replace h:=cvM [] [] [] [(8,.box [.d (.sl 1 ((truT wd (za8 f 0).pf).map za0))])] (by rw [zcx (k:=0) (j:=j) (by omega)]; try kernel_rfl) h;refine Jg 10 [(2,.call (zel wd hl)),(3,.g (Op.makeD (d:=70) (L:=(wN wd)) (zs:=[.raw (.bool false)]) (rows:=(List.replicate (wN wd) false).map za0) zf9 va6_3 rfl (d4 69 _) (d4 69 _) (by omega) (by rw [List.map_replicate];rfl))),(5,.call ((by have h9_:=SWfree wd .ff (za8 f 0).pf hc0 hl;rw [<- t_ff (w:=wd)] at h9_;exact h9_)))] [7,8,9,31,65] [(4,vS 1 ((truT wd (.fr .ff (za8 f 0).pf)).map za0))] [8,9,11] [] h fun a w h=>qV (zaa (za5 (rT (.c (.d (.sl 1 ((truT wd (.fr .ff (za8 f 0).pf)).map za0)))) h rfl ?_)))
  have hz:truT wd f.pf=(truT wd (.fr .ff (za8 f 0).pf)):=by
   have e9:=(show f.kind=9 by have:=hc17;simpa using this);rw [zct,e9];rfl
  rw [hz];try rfl
 refine Je 10 [] [65] [(73,vb (f.kind == 10))] h fun a w h=>cS (f.kind == 10) h (fun hc19=>?_) (fun hc20=>?_)
 ·have hk9:=(show f.kind=10 by have:=hc19;simpa using this);have ha9:j=1:=hj9.trans (by rw [hk9];rfl);replace h:=cvM [] [] [] [(8,.box [.d (.sl 1 ((truT wd (za8 f 0).pf).map za0))])] (by rw [zcx (k:=0) (j:=j) (by omega)]; try kernel_rfl) h;replace h:=cvM [] [] [] [(9,.box [nCl])] (by rw [ha9]; try kernel_rfl) h;replace h:=zg6 11 1 4 ((truT wd .tt).map za0) h [(truT wd .tt).length] ⟨by first | exact (bA _).symm | (simp;done) | (simp;omega),trivial⟩;refine Jg 10 [(3,.call ((SWuntil wd .tt (za8 f 0).pf hc0 hl)))] [7,8,9,31,73] [(4,vS 1 ((truT wd (.un .tt (za8 f 0).pf)).map za0))] [8,9] [] h fun a w h=>qV (zaa (za5 (rT (.c (.d (.sl 1 ((truT wd (.un .tt (za8 f 0).pf)).map za0)))) h rfl ?_)))
  have hz:truT wd f.pf=(truT wd (.un .tt (za8 f 0).pf)):=by
   have e9:=(show f.kind=10 by have:=hc19;simpa using this);rw [zct,e9];rfl
  rw [hz];try rfl
 refine Jg 10 [] [9,73] [(79,vb (f.kind == 11))] [11] [] h fun a w h=>cS (f.kind == 11) h (fun hc21=>?_) (fun hc22=>?_)
 ·have hk9:=(show f.kind=11 by have:=hc21;simpa using this);have ha9:j=2:=hj9.trans (by rw [hk9];rfl);replace h:=cvM [] [] [] [(8,.box [.d (.sl 1 ((truT wd (za8 f 0).pf).map za0))]),(9,.box [.d (.sl 1 ((truT wd (za8 f 1).pf).map za0))])] (by rw [zcx (k:=0) (j:=j) (by omega),zcx (k:=1) (j:=j) (by omega)]; try kernel_rfl) h;refine Jg 10 [(3,.call ((SWuntil wd (za8 f 0).pf (za8 f 1).pf hc0 hl)))] [7,8,31,79] [(4,vS 1 ((truT wd (.un (za8 f 0).pf (za8 f 1).pf)).map za0))] [8,9] [] h fun a w h=>qV (zaa (za5 (rT (.c (.d (.sl 1 ((truT wd (.un (za8 f 0).pf (za8 f 1).pf)).map za0)))) h rfl ?_)))
  have hz:truT wd f.pf=(truT wd (.un (za8 f 0).pf (za8 f 1).pf)):=by
   have e9:=(show f.kind=11 by have:=hc21;simpa using this);rw [zct,e9];rfl
  rw [hz];try rfl
 refine Je 10 [] [31,79] [(85,vb (f.kind == 12))] h fun a w h=>cS (f.kind == 12) h (fun hc23=>?_) (fun hc24=>?_)
 ·have hk9:=(show f.kind=12 by have:=hc23;simpa using this);have ha9:j=2:=hj9.trans (by rw [hk9];rfl);replace h:=cvM [] [] [] [(8,.box [.d (.sl 1 ((truT wd (za8 f 0).pf).map za0))]),(9,.box [.d (.sl 1 ((truT wd (za8 f 1).pf).map za0))])] (by rw [zcx (k:=0) (j:=j) (by omega),zcx (k:=1) (j:=j) (by omega)]; try kernel_rfl) h;refine Jg 10 [(3,.call ((SWfree wd (za8 f 0).pf (za8 f 1).pf hc0 hl)))] [7,8,85] [(4,vS 1 ((truT wd (.fr (za8 f 0).pf (za8 f 1).pf)).map za0))] [8,9] [] h fun a w h=>qV (zaa (za5 (rT (.c (.d (.sl 1 ((truT wd (.fr (za8 f 0).pf (za8 f 1).pf)).map za0)))) h rfl ?_)))
  have hz:truT wd f.pf=(truT wd (.fr (za8 f 0).pf (za8 f 1).pf)):=by
   have e9:=(show f.kind=12 by have:=hc23;simpa using this);rw [zct,e9];rfl
  rw [hz];try rfl
 refine qU (za7 (za1 (Jq 10 [(1,.call (zel wd hl)),(2,.g (Op.makeD (d:=93) (L:=(wN wd)) (zs:=[.raw (.bool false)]) (rows:=(List.replicate (wN wd) false).map za0) zf9 va6_3 rfl (d4 92 _) (d4 92 _) (by omega) (by rw [List.map_replicate];rfl)))] [(4,vS 1 ((List.replicate (wN wd) false).map za0))] [] h fun a w h=>qV (rT (.c (.d (.sl 1 ((List.replicate (wN wd) false).map za0)))) h rfl ?_))))
 have hz:truT wd f.pf=(List.replicate (wN wd) false):=by
  have e9:f.pf = .ff:=by rw [zct];(repeat' split) <;> first | rfl | omega | (simp_all;done)
  rw [e9,<- t_ff]
 rw [hz];try rfl
theorem SWtruth (wd:zaf) (hlt:∀ i,i<wN wd->(zc4 wd i).length<=9223372036854775807) (hc0:0<wd.cycle.length) (hl:wN wd<=1000000) (f:za2):Fn dY 21 [] [vG [.d (.sl 1 (wd.stem.map (slD 1 za0))),.d (.sl 1 (wd.cycle.map (slD 1 za0)))],vG [cI f.kind,cI f.prop,.d (.sl 3 (f.kids.map d6))]] (vS 1 ((truT wd f.pf).map za0)) [] :=
 za2.indK (Q:=fun f=>Fn dY 21 [] [vG [.d (.sl 1 (wd.stem.map (slD 1 za0))),.d (.sl 1 (wd.cycle.map (slD 1 za0)))],vG [cI f.kind,cI f.prop,.d (.sl 3 (f.kids.map d6))]] (vS 1 ((truT wd f.pf).map za0)) []) (fun f ih=>SWtruth0 wd f ih hlt hc0 hl) f
theorem va8_5:SlT dY 105 25 1:=SlT.mk' Tryz.underlying105 (by kernel_rfl)
theorem va8_10:ElZ dY 105 25 1:=ElZ.mk' Tryz.underlying105 _ _ rfl rfl
theorem flat_le9 {xss:List (List (List Bool))} {x:List (List Bool)} (h:xss[i]?=some x):((xss.take i).flatten++x.take j).length<=xss.flatten.length:=by
 have e:xss=xss.take i++x :: xss.drop (i+1):=by
  have hi:=(bJ.1 h).1
  have hx:=(bJ.1 h).2
  rw [<- hx,<- List.drop_eq_getElem_cons hi,dQ]
 conv=>rhs;rw [e]
 simp only [List.flatten_append,cH,bB,cP]
 omega
theorem SWHolds (f:za2) (wd:zaf) (k:Nat) (hlt:∀ i,i<wN wd->(zc4 wd i).length<=9223372036854775807) (hc0:0<wd.cycle.length) (hl:wN wd<=1000000) (hk:k<=1000000):Fn dY 10 [] [vG [cI f.kind,cI f.prop,.d (.sl 3 (f.kids.map d6))],vG [.d (.sl 1 (wd.stem.map (slD 1 za0))),.d (.sl 1 (wd.cycle.map (slD 1 za0)))],vN k] (vb (zag (truT wd f.pf) (zbx wd k))) []:=by
 have hN9:=zby wd;refine fB Tryz.func10 rfl 21 fun w H B a h=>Jq 5 [] [(2,vN k),(3,vp 5 0),(4,vp 6 0),(6,vb false)] [(5,.box [cI f.kind,cI f.prop,.d (.sl 3 (f.kids.map d6))]),(6,.box [.d (.sl 1 (wd.stem.map (slD 1 za0))),.d (.sl 1 (wd.cycle.map (slD 1 za0)))])] h fun a w h=>Jq 7 [(2,.len (c:=(.d (.sl 1 (wd.cycle.map (slD 1 za0))))) (n:=wd.cycle.length) (za9 _ _ _)),(3,.cmp (op:=.gtr) (m:=(wd.cycle.length:Int)) (n:=0) (b:=true) .i64 (show decide ((wd.cycle.length:Int)>0)=true from decide_eq_true (by omega))),(7,.call (SWtruth wd hlt hc0 hl f)),(10,.call (SWplace wd k hl hc0 hk)),(11,.g (xD 18 14 zbo (zab (zbp (xs:=truT wd f.pf) (i:=zbx wd k) (by rw [zb6];exact plW_lt hc0 k)) (f:=za0)) (d4 17 _)))] [(6,vb (zag (truT wd f.pf) (zbx wd k)))] [] h fun a w h=>qV (rT (.c (cB (zag (truT wd f.pf) (zbx wd k)))) h rfl ?_)
 rfl
theorem SClB1 (xs:List Bool) (hn:0<xs.length) (hl:xs.length<=1000000):Fn dY 57 [] [vS 1 (xs.map za0)] (vS 1 (xs.map za0)) []:=by
 refine fB Tryz.func57 rfl 8 fun w H B a h=>Jq 0 [] [(0,vS 1 (xs.map za0)),(2,vW za6)] [] h fun a w h=>qW (Jg 0 [(1,.g (Op.eqNilD (d:=4) (t:=3) (es:=1) (xt:=35) (yt:=35) (rows:=xs.map za0) zbo.hu ((by rw [bA];exact hn)) (dZ za6 rfl)))] [] [(4,vb false)] [] [] h fun a w h=>zd1 h (qU (za1 (Jq 0 [(0,.g (Op.buildE (d:=5) (n:=0) zgc)),(2,.g (Op.appOD (d:=7) (t:=5) (u:=6) (n:=0) (n':=1) (len:=0) (len':=xs.length) (rows:=[].map za0) (rows2:=xs.map za0) (rows':=xs.map za0) zf9 (by first | exact (bA _).symm | simp) (by first | (rw [bB,bA];done) | (simp;done) | (simp;omega)) (by simp) (fun r_ h_=>by obtain ⟨x_,_,rfl⟩:=bG.1 h_;rfl) (by first | omega | (simp at *;done) | (simp at *;omega))))] [(2,vO 1 xs.length)] [(1,.row 4 1 (xs.map za0))] h fun a w h=>qV ?_))))
 replace h:=zg6 1 1 4 (xs.map za0) h [xs.length] ⟨by first | exact (bA _).symm | (simp;done) | (simp;omega),trivial⟩;refine rT (.c (.d (.sl 1 (xs.map za0)))) h rfl ?_;rfl
theorem SClB2 :Fn dY 57 [] [vW za6] (vS 1 ([].map za0)) []:=by
 refine fB Tryz.func57 rfl 8 fun w H B a h=>Jq 0 [] [(0,vW za6),(2,vW za6)] [] h fun a w h=>qW (Jg 0 [(1,.g (Op.eqNilR (d:=4) (xt:=35) (yt:=35) (ao:=none) (n:=0) (c:=0) zbo.hu (d4 3 _) (dZ za6 rfl)))] [] [(4,vb true)] [] [] h fun a w h=>cS true h (fun _=>?_) nofun)
 refine Jg 0 [] [4] [] [] [] h fun a w h=>qV (za5 ?_);replace h:=nilDSx 2 0 1 (vW za6) h;refine rT (.c (.d (.sl 1 ([].map za0)))) h rfl ?_;rfl
theorem SClB3 (ao:Addr) (c:Nat) (hc:c<=maxLen):Fn dY 57 [] [vW (.slice (some ao) 0 c)] (vS 1 ([].map za0)) []:=by
 refine fB Tryz.func57 rfl 8 fun w H B a h=>Jq 0 [] [(0,vW (.slice (some ao) 0 c)),(2,vW za6)] [] h fun a w h=>qW (Jg 0 [(1,.g (Op.eqNilR (d:=4) (xt:=35) (yt:=35) (ao:=some ao) (n:=0) (c:=c) zbo.hu (d4 3 _) (dZ za6 rfl)))] [] [(4,vb false)] [] [] h fun a w h=>zd1 h (qU (za1 ?_)))
 replace h:=nilDSr 0 0 1 (vW (.slice (some ao) 0 c)) (some ao) c (fun e=>by cases e) hc [(0,vS 1 ([].map za0)),(2,vW za6),(4,vb false)] [] h rfl rfl;refine Jq 0 [(0,.g (Op.buildE (d:=5) (n:=0) zgc)),(2,.g (Op.appOD (d:=7) (t:=5) (u:=6) (n:=0) (n':=1) (len:=0) (len':=0) (rows:=[].map za0) (rows2:=[].map za0) (rows':=[].map za0) zf9 (by first | exact (bA _).symm | simp) (by first | (rw [bB,bA];done) | (simp;done) | (simp;omega)) (by simp) (fun r_ h_=>by obtain ⟨x_,_,rfl⟩:=bG.1 h_;rfl) (by first | omega | (simp at *;done) | (simp at *;omega))))] [(2,vO 1 0)] [(1,.row 4 1 ([].map za0))] h fun a w h=>qV ?_;replace h:=zg6 1 1 4 ([].map za0) h [0] ⟨by first | exact (bA _).symm | (simp;done) | (simp;omega),trivial⟩;refine rT (.c (.d (.sl 1 ([].map za0)))) h rfl ?_;rfl
theorem SClB (xs:List Bool) (hl:xs.length<=1000000):Fn dY 57 [] [vS 1 (xs.map za0)] (vS 1 (xs.map za0)) []:=by
 cases xs with
 | nil =>
  refine Fn.rawE fun ao c h1 h2=>?_
  cases ao with
  | none=>obtain rfl:=h1 rfl;exact SClB2
  | some ao=>exact SClB3 ao c h2
 | cons x xs=>exact SClB1 (x :: xs) (by simp) hl
theorem SWletters (xss:List (List (List Bool))) (hl:xss.flatten.length<=1000000) (hn:xss.length<=1000000) (hll:∀ l ∈ xss.flatten,l.length<=1000000):Fn dY 25 [] [vS 1 (xss.map (slD 1 (slD 1 za0)))] (vS 1 (xss.flatten.map (slD 1 za0))) []:=by
 refine fB Tryz.func25 rfl 28 fun w H B a h=>Jq 5 [] [(0,vS 1 (xss.map (slD 1 (slD 1 za0)))),(2,vW za6)] [] h fun a w h=>Jg 5 [] [] [(3,vW za6)] [] [] h fun a w h=>qW (Jg 5 [(1,.len (c:=(.d (.sl 1 (xss.map (slD 1 (slD 1 za0)))))) (n:=xss.length) (za9 _ _ _))] [0] [(8,vS 1 (xss.map (slD 1 (slD 1 za0)))),(9,vN xss.length),(10,vI 0)] [] [] h fun a w h=>qZ ?_)
 replace h:=zdb 3 0 5 1 35 (vW za6) h;replace h:=zb7 5 0 h;replace h:=cvM [] [(3,vO 0 ((xss.take 0).flatten).length)] [] [(0,.row 35 1 (((xss.take 0).flatten).map (slD 1 za0)))] (by kernel_rfl) h
 refine zdp (ι:=(Nat)) (fun i=>i<=xss.length)
   [] (fun i=>[(3,vO 0 ((xss.take i).flatten).length),(10,vN i)])
   [] (fun i=>[(0,.row 35 1 (((xss.take i).flatten).map (slD 1 za0)))])
   (fun i=>xss.length - i) 0 ?_ h ?_
 ·exact bP _
 clear h;rintro i a w hI h;refine Je 6 [] [] [(11,vb (decide ((i:Int)<(xss.length:Int))))] h fun a w h=>qW (zav ((i:Int)<(xss.length:Int)) h (fun hc1 hc1'=>?_) (fun hc4 hc4'=>?_))
 ·refine qU (za1 (qW (qZ ?_)));obtain ⟨x1,hx1⟩:=gl xss i;have lx9:x1.length<=1000000:=Nat.le_trans (by have:=flat_le9 (j:=x1.length) hx1;rw [bB,List.take_length] at this;omega) hl;refine Je 6 [(0,.g (xD 12 8 va8_5 (zab hx1 (f:=(slD 1 (slD 1 za0)))) (d4 10 _)))] [11] [(5,vS 1 (x1.map (slD 1 za0)))] h fun a w h=>Je 6 [(1,.len (c:=(.d (.sl 1 (x1.map (slD 1 za0))))) (n:=x1.length) (za9 _ _ _))] [5] [(14,vS 1 (x1.map (slD 1 za0))),(15,vN x1.length),(16,vI 0)] h fun a w h=>qZ ?_;replace h:=cvM [] [(3,vO 0 (((xss.take i).flatten)++x1.take 0).length)] [] [(0,.row 35 1 ((((xss.take i).flatten)++x1.take 0).map (slD 1 za0)))] (by rw [<- show (((xss.take i).flatten):List (List Bool))=(((xss.take i).flatten)++x1.take 0) from (by simp)]; try kernel_rfl) h
  refine zdp (ι:=(Nat)) (fun j=>j<=x1.length)
    [] (fun j=>[(3,vO 0 (((xss.take i).flatten)++x1.take j).length),(16,vN j)])
    [] (fun j=>[(0,.row 35 1 ((((xss.take i).flatten)++x1.take j).map (slD 1 za0)))])
    (fun j=>x1.length - j) 0 ?_ h ?_
  ·exact bP _
  clear h;rintro j a w hI h;have hfl9:=flat_le9 (j:=j) hx1;refine Je 6 [] [] [(17,vb (decide ((j:Int)<(x1.length:Int))))] h fun a w h=>qW (zav ((j:Int)<(x1.length:Int)) h (fun hc2 hc2'=>?_) (fun hc3 hc3'=>?_))
  ·refine qU (za1 (qW (qZ ?_)));obtain ⟨x2,hx2⟩:=gl x1 j;refine Je 6 [(0,.g (xD 18 14 zhd (zab hx2 (f:=(slD 1 za0))) (d4 16 _)))] [17] [(7,vS 1 (x2.map za0))] h fun a w h=>Jh 6 [(2,.call (SClB x2 (hll x2 (dB.2 ⟨_,lM hx1,lM hx2⟩)))),(3,.g (bD 23 ([x2].map (slD 1 za0)) [(22,vS 1 (x2.map za0))] kn_15 (.cons (i:=0) (d4 22 _) (.nil)) (by kernel_rfl) (by simp [slD]))),(4,.g (Op.appOD (d:=24) (t:=20) (u:=23) (n:=0) (n':=6) (len:=(((xss.take i).flatten)++x1.take j).length) (len':=((((xss.take i).flatten)++x1.take j)++[x2]).length) (rows:=(((xss.take i).flatten)++x1.take j).map (slD 1 za0)) (rows2:=[x2].map (slD 1 za0)) (rows':=((((xss.take i).flatten)++x1.take j)++[x2]).map (slD 1 za0)) kn_16 (by first | exact (bA _).symm | simp) (by first | (rw [bB,bA];done) | (simp;done) | (simp;omega)) (by simp) (by simp [slD]) (by first | omega | (simp at *;done) | (simp at *;omega))))] [7] [(3,vO 6 ((((xss.take i).flatten)++x1.take j)++[x2]).length)] [0] [(6,.row 35 1 (((((xss.take i).flatten)++x1.take j)++[x2]).map (slD 1 za0)))] h fun a w h=>za7 (za1 (Jf 7 [(0,.j1 j)] [] [(16,vI ((j:Int)+1))] h fun a w h=>za1 ?_));replace h:=zb7 6 0 h;rw [show (((((xss.take i).flatten)++x1.take j)++[x2]):List (List Bool))=(((xss.take i).flatten)++x1.take (j+1)) from (by rw [bZ,hx2,List.append_assoc];rfl)] at h;refine zaj (x:=j) (y:=j+1) h ?_ ?_
   ·have:=zal hx2;show j+1<=x1.length;omega
   have:=zal hx2;show x1.length - (j+1)<x1.length - j;omega
  refine wp_exit (zgt (zgt (zdt (za7 (za1 (Jf 7 [(0,.j1 i)] [14,15,16,17] [(10,vI ((i:Int)+1))] h fun a w h=>za1 ?_))))));rw [show ((((xss.take i).flatten)++x1.take j):List (List Bool))=((xss.take (i+1)).flatten) from (by rw [b7 (l:=x1) (i:=j) (by have:=dF hc3;omega),bZ,hx1];simp)] at h;refine zaj (x:=i) (y:=i+1) h ?_ ?_
  ·have:=zal hx1;show i+1<=xss.length;omega
  have:=zal hx1;show xss.length - (i+1)<xss.length - i;omega
 refine exA (Jp 7 [] [(2,vO 0 ((xss.take i).flatten).length)] h fun a w h=>qV ?_);rw [show (((xss.take i).flatten):List (List Bool))=xss.flatten from (by rw [b7 (by have:=dF hc4;omega)])] at h;replace h:=zg6 0 1 35 (xss.flatten.map (slD 1 za0)) h [xss.flatten.length] ⟨by first | exact (bA _).symm | (simp;done) | (simp;omega),trivial⟩;refine rT (.c (.d (.sl 1 (xss.flatten.map (slD 1 za0))))) h rfl ?_;rfl
theorem SWShift (wd:zaf) (hlb:∀ l,l ∈ wd.stem\/l ∈ wd.cycle->l.length<=1000000) (hc0:0<wd.cycle.length) (hl:wN wd<=1000000):Fn dY 12 [] [vG [.d (.sl 1 (wd.stem.map (slD 1 za0))),.d (.sl 1 (wd.cycle.map (slD 1 za0)))],vI 1] (vG [.d (.sl 1 ((shfT wd).stem.map (slD 1 za0))),.d (.sl 1 ((shfT wd).cycle.map (slD 1 za0)))]) []:=by
 have hN9:=zby wd;have hp19:=plW_lt hc0 1;refine fB Tryz.func12 rfl 47 fun w H B a h=>Jq 5 [] [(1,vI 1),(2,vp 5 0),(4,vp 6 0)] [(5,.box [.d (.sl 1 (wd.stem.map (slD 1 za0))),.d (.sl 1 (wd.cycle.map (slD 1 za0)))]),(6,.box [nCl,nCl])] h fun a w h=>qW (Je 7 [(2,.len (c:=(.d (.sl 1 (wd.cycle.map (slD 1 za0))))) (n:=wd.cycle.length) (za9 _ _ _)),(3,.cmp (op:=.eql) (m:=(wd.cycle.length:Int)) (n:=0) (b:=false) .i64 (show ((wd.cycle.length:Int) == 0)=false from beq_eq_false_iff_ne.2 (by omega)))] [] [(10,vb false)] h fun a w h=>zd1 h (qU (za1 (Je 7 [(2,.call (SWplace wd 1 hl hc0 (by decide)))] [1,10] [(5,vI ((zbx wd 1:Nat):Int))] h fun a w h=>qW (Je 7 [(2,.len (c:=(.d (.sl 1 (wd.stem.map (slD 1 za0))))) (n:=wd.stem.length) (za9 _ _ _))] [] [(6,vN wd.stem.length)] h fun a w h=>Je 7 [] [] [(20,vb (decide (((zbx wd 1:Nat):Int)>=(wd.stem.length:Int))))] h fun a w h=>zav (((zbx wd 1:Nat):Int)>=(wd.stem.length:Int)) h (fun hc1 hc1'=>?_) (fun hc2 hc2'=>?_))))))
 ·refine Jg 7 [(4,.g (Op.arith (op:=.sub) (d:=25) (xt:=3) (yt:=3) (k:=.i64) (m:=((zbx wd 1:Nat):Int)) (n:=(wd.stem.length:Int)) (r:=((zbx wd 1 - wd.stem.length:Nat):Int)) (d4 23 _) (d4 24 _) (.inr (.inl ⟨rfl,(by omega)⟩)) i6)),(5,.g (Op.sliceD (d:=26) (t:=22) (l:=(zbx wd 1 - wd.stem.length)) (h:=wd.cycle.length) (rows:=wd.cycle.map (slD 1 za0)) (rows':=(wd.cycle.drop (zbx wd 1 - wd.stem.length)).map (slD 1 za0)) zhd (BO.yes (k:=.i64) (i:=(zbx wd 1 - wd.stem.length)) _ (d4 25 _)) (by rw [bA];exact BO.no _) (by first | omega | (simp at *;omega)) (by first | omega | (simp only [bA];omega) | (simp at *;omega)) (by first | (simp [cJ];done) | (rw [b7 (by simp <;> omega)];simp [cJ])))),(10,.g (Op.arith (op:=.sub) (d:=31) (xt:=3) (yt:=3) (k:=.i64) (m:=((zbx wd 1:Nat):Int)) (n:=(wd.stem.length:Int)) (r:=((zbx wd 1 - wd.stem.length:Nat):Int)) (d4 29 _) (d4 30 _) (.inr (.inl ⟨rfl,(by omega)⟩)) i6)),(11,.g (Op.sliceD (d:=32) (t:=28) (l:=0) (h:=(zbx wd 1 - wd.stem.length)) (rows:=wd.cycle.map (slD 1 za0)) (rows':=(wd.cycle.take (zbx wd 1 - wd.stem.length)).map (slD 1 za0)) zhd (BO.no _) (BO.yes (k:=.i64) (i:=(zbx wd 1 - wd.stem.length)) _ (d4 31 _)) (by first | omega | (simp at *;omega)) (by first | omega | (simp only [bA];omega) | (simp at *;omega)) (by simp [cW]))),(12,.g (Op.buildD (d:=33) (len:=2) (rows:=[(wd.cycle.drop (zbx wd 1 - wd.stem.length)),(wd.cycle.take (zbx wd 1 - wd.stem.length))].map (slD 1 (slD 1 za0))) (rs:=[(26,vS 1 ((wd.cycle.drop (zbx wd 1 - wd.stem.length)).map (slD 1 za0))),(32,vS 1 ((wd.cycle.take (zbx wd 1 - wd.stem.length)).map (slD 1 za0)))]) va8_10 (.cons (i:=0) (d4 26 _) (.cons (i:=1) (d4 32 _) (.nil))) (by kernel_rfl) rfl (by simp [slD]) (by decide) (by decide))),(13,.call (SWletters [(wd.cycle.drop (zbx wd 1 - wd.stem.length)),(wd.cycle.take (zbx wd 1 - wd.stem.length))] (by simp;omega) (by simp) (fun l h_=>hlb l (by simp only [cH,cQ,cA,cC] at h_;first | exact .inr (h_.elim cK dC) | exact .inl (cK h_) | exact .inr h_))))] [6,20] [] [] [(6,.box [nCl,.d (.sl 1 ((bH [(wd.cycle.drop (zbx wd 1 - wd.stem.length)),(wd.cycle.take (zbx wd 1 - wd.stem.length))]).map (slD 1 za0)))])] h fun a w h=>qV (za5 ?_);replace h:=zdm 6 0 1 [nCl,.d (.sl 1 ((bH [(wd.cycle.drop (zbx wd 1 - wd.stem.length)),(wd.cycle.take (zbx wd 1 - wd.stem.length))]).map (slD 1 za0)))] h;refine rA 6 [.d (.sl 1 ([].map (slD 1 za0))),.d (.sl 1 ((bH [(wd.cycle.drop (zbx wd 1 - wd.stem.length)),(wd.cycle.take (zbx wd 1 - wd.stem.length))]).map (slD 1 za0)))] h kn_18 rfl ?_
  have hz:shfT wd=(zaf.mk [] (bH [(wd.cycle.drop (zbx wd 1 - wd.stem.length)),(wd.cycle.take (zbx wd 1 - wd.stem.length))])):=by
   have c9:=dT hc1;unfold shfT zbx at *
   by_cases h0:wd.stem.length=0
   ·have hs0:wd.stem=[]:=List.length_eq_zero_iff.1 h0;simp [hs0]
   by_cases h1:1<wd.stem.length
   ·rw [if_pos h1] at c9;omega
   rw [if_neg h0,if_neg h1,if_neg h1];rw [show wd.stem.length=1 by omega];simp
  rw [hz];try rfl
 refine qU (za1 (Jq 7 [(3,.g (Op.sliceD (d:=39) (t:=37) (l:=(zbx wd 1)) (h:=wd.stem.length) (rows:=wd.stem.map (slD 1 za0)) (rows':=(wd.stem.drop (zbx wd 1)).map (slD 1 za0)) zhd (BO.yes (k:=.i64) (i:=(zbx wd 1)) _ (d4 38 _)) (by rw [bA];exact BO.no _) (by first | omega | (simp at *;omega)) (by first | omega | (simp only [bA];omega) | (simp at *;omega)) (by first | (simp [cJ];done) | (rw [b7 (by simp <;> omega)];simp [cJ])))),(4,.g (bD 40 ([(wd.stem.drop (zbx wd 1))].map (slD 1 (slD 1 za0))) [(39,vS 1 ((wd.stem.drop (zbx wd 1)).map (slD 1 za0)))] va8_10 (.cons (i:=0) (d4 39 _) (.nil)) (by kernel_rfl) (by simp [slD]))),(5,.call (SWletters [(wd.stem.drop (zbx wd 1))] (by simp;omega) (by simp) (fun l h_=>hlb l (by simp only [cH,cQ,cA,cC] at h_;first | exact .inr (h_.elim cK dC) | exact .inl (cK h_) | exact .inr h_)))),(8,.g (bD 44 ([wd.cycle].map (slD 1 (slD 1 za0))) [(43,vS 1 (wd.cycle.map (slD 1 za0)))] va8_10 (.cons (i:=0) (d4 43 _) (.nil)) (by kernel_rfl) (by simp [slD]))),(9,.call (SWletters [wd.cycle] (by simp;omega) (by simp) (fun l h_=>hlb l (by simp only [cH,cQ,cA,cC] at h_;first | exact .inr (h_.elim cK dC) | exact .inl (cK h_) | exact .inr h_))))] [(4,vp 6 0)] [(6,.box [.d (.sl 1 ((bH [(wd.stem.drop (zbx wd 1))]).map (slD 1 za0))),.d (.sl 1 ((bH [wd.cycle]).map (slD 1 za0)))])] h fun a w h=>qV (rA 6 [.d (.sl 1 ((bH [(wd.stem.drop (zbx wd 1))]).map (slD 1 za0))),.d (.sl 1 ((bH [wd.cycle]).map (slD 1 za0)))] h kn_18 rfl ?_)))
 have hz:shfT wd=(zaf.mk (bH [(wd.stem.drop (zbx wd 1))]) (bH [wd.cycle])):=by
  have c9:=dF hc2
  have h1:1<wd.stem.length:=by
   unfold zbx at c9;by_cases h1:1<wd.stem.length
   ·exact h1
   rw [if_neg h1] at c9;omega
  unfold shfT zbx;rw [if_neg (by omega),if_pos h1,if_pos h1];simp
 rw [hz];try rfl
section
open Go.RowKit Go.Sort Go.Shelf
attribute [local go_sem] Oper.semAt_some
theorem lenS9 (n:Nat) (w:World) (hn:n<4611686018427387904):Calls dY 89 #[.int .u64 n] w fun e w'=>e = .returned (.int .i64 (bitsLen n))/\w'=w :=
 calls_of_every_depth fun D=>(Any.lenWalkInAll { Tryz.lays189 with } D) n w hn
theorem pdqS9 (blk off cap:Nat) (d:Array Int) (w:World) (hH:Holds (Value.int .i64) w blk off d) (hblk:blk<w.heap.size) (hsz:d.size<4611686018427387904) :
  Calls dY 88 #[.slice (some ⟨blk,off,none⟩) d.size cap,.int .i64 (0:Nat),.int .i64 d.size,.int .i64 (bitsLen d.size)] w fun e w'=>e = .returned (.tuple #[])/\∃ n os,w'=grow (putRow (Value.int .i64) (Sort.ahead w n) blk off (Sort.sort ltInt d)) os:=by
 have hk:bitsLen d.size<=62:=(bitsLen_le_iff d.size 62).2 (by omega)
 have hdp:=pdqDepth_le_59 ltInt d 0 d.size (bitsLen d.size) true true (by omega)
 exact calls_of_every_depth fun D=>(Any.pdqWalkInInt { Tryz.lays189 with } D) 65 blk off cap 0 d.size (bitsLen d.size) d w (by omega) hH hblk (bP _) (bK _) hsz (by omega) (Or.inl rfl)
theorem sortS_calls (blk off cap:Nat) (zs:List Int) (w:World) (hH:Holds (Value.int .i64) w blk off zs.toArray) (hblk:blk<w.heap.size) (hsz:zs.length<4611686018427387904) :
  Calls dY 85 #[.slice (some ⟨blk,off,none⟩) zs.length cap] w fun e w'=>e = .returned (.tuple #[])/\∃ n os,w'=grow (putRow (Value.int .i64) (Sort.ahead w n) blk off (zs.mergeSort fun x y=>decide (x<=y)).toArray) os:=by
 have h1:=fun w=>lenS9 zs.length w hsz
 have h2:=pdqS9 blk off cap zs.toArray w hH hblk (by simpa using hsz)
 rw [Any.sort_int_eqD] at h2
 simp only [cX] at h2
 clear hH hblk
 have hsz2:(zs.length:Int)<4611686018427387904:=by omega
 refine (callsIn_wide (n:=9)).1 (callsIn_of_wp Tryz.func85 rfl trivial ?_ rfl)
 simp only [Tryz.ntmps85,cX,bF,bE,Nat.reduceAdd,Nat.reduceSub,dR,dS,List.push_toArray,List.append_toArray,dD,dE]
 gi_wp2_with (first
  | (refine ⟨trivial,(callsIn_wide.2 (h1 _)).mono ?_⟩;rintro e w' ⟨rfl,rfl⟩)
  | (refine ⟨trivial,(callsIn_wide.2 h2).mono ?_⟩;rintro e w' ⟨rfl,n,os,rfl⟩))
 go_end0
 exact ⟨rfl,n,os,rfl⟩
theorem sortS_none (p:Option Addr) (cap:Nat) (w:World) :
  Calls dY 85 #[.slice p 0 cap] w fun e w'=>e = .returned (.tuple #[])/\w'=w:=by
 have h1:=fun w=>lenS9 0 w (by decide)
 rw [show bitsLen 0=0 from rfl] at h1
 have h2:Calls dY 88 #[.slice p 0 cap,.int .i64 0,.int .i64 0,.int .i64 0] w fun e w'=>e = .returned (.tuple #[])/\w'=w:=calls_of_every_depth fun D=>AnyS.pdqsort_int_none_in { Tryz.lays189 with } D p cap w
 refine (callsIn_wide (n:=9)).1 (callsIn_of_wp Tryz.func85 rfl trivial ?_ rfl)
 simp only [Tryz.ntmps85,cX,bF,bE,Nat.reduceAdd,Nat.reduceSub,dR,dS,List.push_toArray,List.append_toArray,dD,dE]
 gi_wp2_with (first
  | (refine ⟨trivial,(callsIn_wide.2 (h1 _)).mono ?_⟩;rintro e w' ⟨rfl,rfl⟩)
  | (refine ⟨trivial,(callsIn_wide.2 h2).mono ?_⟩;rintro e w' ⟨rfl,rfl⟩))
 go_end0
 exact ⟨rfl,rfl⟩
theorem SSortS (xs:List Int) (hl:xs.length<=1000000):Fn dY 85 [(0,.row 3 1 (xs.map za3))] [vO 0 xs.length] (.tup []) [(0,.row 3 1 ((zb2 xs).map za3))]:=by
 intro w H B vals pre
 obtain ⟨v,rfl,hv⟩:=arg1 pre.arg
 have hloc:=pre.loc _ (bT.2 rfl)
 have hv:CR H B (.own 0 xs.length) v:=hv
 cases hB:B 0 with
 | none =>
  have hx:=none_rows hloc hB
  subst hx
  simp only [CR,hB] at hv
  obtain ⟨_,ao,rfl⟩:=hv
  refine (sortS_none ao 0 w).mono ?_
  rintro e w' ⟨rfl,rfl⟩
  rw [show zb2 []=[] by unfold zb2;simp]
  exact ⟨_,H,B,rfl,same_post pre (show VR H B (.tup []) (.tuple #[]) from ⟨[],rfl,trivial⟩)⟩
 | some p =>
  obtain ⟨b,c⟩:=p
  simp only [CR,hB] at hv
  subst hv
  obtain ⟨h1,h2,h3⟩:=row_holds hloc hB
  have hpr:=pre.priv _ (bT.2 rfl) b c hB
  refine (sortS_calls b 0 c xs w h1 hpr.1 (by omega)).mono ?_
  rintro e w' ⟨rfl,n,os,rfl⟩
  exact ⟨_,H,B,rfl,put_post pre hB (zbs xs) (show VR H B (.tup []) (.tuple #[]) from ⟨[],rfl,trivial⟩)⟩
end
theorem zcz:SlT dY 69 3 1:=SlT.mk' Tryz.underlying69 (by kernel_rfl)
def dd (xs:List Int) (j:Nat):List Int:=Lib.compactUpTo xs.toArray j
theorem dd_step {x y:Int} (h:xs[j+1]?=some x) (h':xs[j]?=some y):dd xs (j+1+1)=dd xs (j+1)++(if (x == y)=true then [] else [x]):=by
 have e1:(xs.toArray[j+1]!)=x:=by simp [getElem!_def,h]
 have e2:(xs.toArray[j]!)=y:=by simp [getElem!_def,h']
 unfold dd
 rw [Lib.compactUpTo_succ,e1]
 congr 1
 unfold Lib.keeps
 rw [cR,e1,e2]
 by_cases e:x=y <;> simp [e]
theorem dd_yes {x y:Int} (hk:1<=k) (h:xs[k]?=some x) (h':xs[k - 1]?=some y) (e:(x == y)=false):dd xs (k+1)=dd xs k++[x]:=by
 obtain ⟨j,rfl⟩:∃ j,k=j+1:=⟨k - 1,by omega⟩
 rw [dd_step h h', if_neg (by rw [e];exact Bool.noConfusion)]
theorem dd_no {x y:Int} (hk:1<=k) (h:xs[k]?=some x) (h':xs[k - 1]?=some y) (e:(x == y)=true):dd xs (k+1)=dd xs k:=by
 obtain ⟨j,rfl⟩:∃ j,k=j+1:=⟨k - 1,by omega⟩
 rw [dd_step h h', if_pos e,cA]
theorem dd_one (h:0<xs.length):dd xs 1=xs.take 1:=by
 cases xs with
 | nil=>cases h
 | cons x xs=>unfold dd;rw [Lib.compactUpTo_succ];simp [Lib.compactUpTo,Lib.keeps]
theorem dd_all (xs:List Int):dd xs xs.length=zdu xs:=rfl
theorem com_lt2 (h:xs.length<2):zdu xs=xs:=by
 cases xs with
 | nil=>rfl
 | cons x t=>cases t with
  | nil=>exact dd_one (xs:=[x]) (by simp)
  | cons y t=>simp at h;omega
theorem SCompactS (xs:List Int) (hl:xs.length<=1000000):Fn dY 86 [(0,.row 3 1 (xs.map za3))] [vO 0 xs.length] (vO 0 (zdu xs).length) [(0,.row 3 1 ((zdu xs).map za3))]:=by
 refine fB Tryz.func86 rfl 61 fun w H B a h=>Jq 5 [] [(0,vO 0 xs.length),(2,vW za6)] [(0,.row 3 1 (xs.map za3))] h fun a w h=>qW (Je 5 [] [] [(8,vb (decide ((xs.length:Int)<2)))] h fun a w h=>zav ((xs.length:Int)<2) h (fun hc1 hc1'=>?_) (fun hc2 hc2'=>?_))
 ·refine Je 5 [] [8] [(2,vO 0 xs.length)] h fun a w h=>qV (za5 ?_);have hcz:zdu xs=xs:=com_lt2 (by omega);replace h:=h.conv (f':=F.of [(0,vO 0 (zdu xs).length),(2,vO 0 (zdu xs).length)] [(0,.row 3 1 ((zdu xs).map za3))]) (by rw [hcz];try kernel_rfl);refine rT (.c (.own 0 (zdu xs).length)) h rfl ?_;rfl
 refine qU (za1 (qW (Je 5 [] [8] [(3,vI 1)] h fun a w h=>qZ ?_)))
 refine zdp (ι:=(Nat)) (fun k=>1<=k/\k<=xs.length/\dd xs k=xs.take k)
   [2] (fun k=>[(3,vN k)])
   [] (fun k=>[])
   (fun k=>xs.length - k) 1 ?_ h ?_
 ·exact ⟨bK _,by omega,dd_one (by omega)⟩
 clear h;rintro k a w hI h;obtain ⟨hI1,hI2,hI3⟩:=hI;refine qW (Je 5 [] [] [(13,vb (decide ((k:Int)<(xs.length:Int))))] h fun a w h=>zav ((k:Int)<(xs.length:Int)) h (fun hc3 hc3'=>?_) (fun hc10 hc10'=>?_))
 ·refine qU (za1 (qW (qZ ?_)));obtain ⟨x1,hx1⟩:=gl xs k;obtain ⟨x2,hx2⟩:=gl xs (k - 1);refine Je 5 [(2,.g (xO 18 16 0 xs.length k zcz (d4 17 _))),(3,.g (Op.loadR_c (d:=19) (t:=18) (n:=0) (i:=k) (fo:=0) (rty:=3) (es:=1) (x:=(.raw (.int .i64 x1))) tl_7 rfl (zab hx1 (f:=za3)) rfl)),(6,.g (Op.arith (op:=.sub) (d:=22) (xt:=3) (yt:=3) (k:=.i64) (m:=(k:Int)) (n:=1) (r:=((k - 1:Nat):Int)) (d4 21 _) (dZ (.int .i64 1) rfl) (.inr (.inl ⟨rfl,(by omega)⟩)) i6)),(7,.g (xO 23 20 0 xs.length (k - 1) zcz (d4 22 _))),(8,.g (Op.loadR_c (d:=24) (t:=23) (n:=0) (i:=(k - 1)) (fo:=0) (rty:=3) (es:=1) (x:=(.raw (.int .i64 x2))) tl_7 rfl (zab hx2 (f:=za3)) rfl))] [13] [(25,vb (x1 == x2))] h fun a w h=>cS (x1 == x2) h (fun hc4=>?_) (fun hc9=>?_)
  ·refine Je 5 [(2,.g (Op.sliceLo (d:=28) (t:=26) (k:=.i64) (n:=0) (len:=xs.length) (l:=k) (rows:=xs.map za3) (rty:=3) zcz (by first | omega | (rw [bA];omega) | (simp at *;omega)) (d4 27 _) (by first | omega | (simp at *;omega)) rfl))] [25] [(4,.t (.c (.sub 0 (k*1) (xs.length - k))))] h fun a w h=>qW (Je 5 [] [] [(5,vI 1)] h fun a w h=>qZ ?_);have hkx:=zal hx1;have hd1:dd xs (k+1)=xs.take k:=(dd_no hI1 hx1 hx2 hc4).trans hI3;have hdl:(dd xs (k+1)).length=k:=by rw [hd1,cP];omega
   replace h:=cvM [] [(3,vI (((dd xs (k+1)).length:Nat):Int))] [] [] (by rw [hdl]; try kernel_rfl) h
   refine zdp (ι:=(Nat) × (List Int)) (fun (j,R)=>k+j<=xs.length/\1<=j/\R.length=xs.length/\(dd xs (k+j)).length<k+j/\R.take (dd xs (k+j)).length=dd xs (k+j)/\∀ m,k+j<=m+1->R[m]?=xs[m]?)
     [] (fun (j,R)=>[(3,vI (((dd xs (k+j)).length:Nat):Int)),(5,vN j)])
     [] (fun (j,R)=>[(0,.row 3 1 (R.map za3))])
     (fun (j,R)=>xs.length - k - j) (1,xs) ?_ h ?_
   ·exact ⟨by omega,bK _,rfl,by omega,by rw [hdl,hd1],fun _ _=>rfl⟩
   clear h;rintro ⟨j,R⟩ a w hI h;dsimp only at h;obtain ⟨hJ1,hJ2,hJ3,hJ4,hJ5,hJ6⟩:=hI;refine qW (Je 5 [(2,.g (Op.lenSub (d:=31) (n:=0) (o:=(k*1)) (m:=(xs.length - k)) zcz.hu (d4 30 _)))] [] [(32,vb (decide ((j:Int)<(((xs.length - k):Nat):Int))))] h fun a w h=>zav ((j:Int)<(((xs.length - k):Nat):Int)) h (fun hc5 hc5'=>?_) (fun hc8 hc8'=>?_))
   ·refine qU (za1 (qW (qZ ?_)));obtain ⟨x3,hx3⟩:=gl R (k+j);obtain ⟨x4,hx4⟩:=gl R (k+(j - 1));refine Je 5 [(2,.g (Op.idxSub (d:=37) (t:=35) (k:=.i64) (n:=0) (o:=k*1) (len:=(xs.length - k)) (i:=j) zcz (by omega) ((k+j)*1) (by omega) (d4 36 _))),(3,.g (Op.loadR_c (d:=38) (t:=37) (n:=0) (i:=(k+j)) (fo:=0) (rty:=3) (es:=1) (x:=(.raw (.int .i64 x3))) tl_7 rfl (zab hx3 (f:=za3)) rfl)),(6,.g (Op.arith (op:=.sub) (d:=41) (xt:=3) (yt:=3) (k:=.i64) (m:=(j:Int)) (n:=1) (r:=((j - 1:Nat):Int)) (d4 40 _) (dZ (.int .i64 1) rfl) (.inr (.inl ⟨rfl,(by omega)⟩)) i6)),(7,.g (Op.idxSub (d:=42) (t:=39) (k:=.i64) (n:=0) (o:=k*1) (len:=(xs.length - k)) (i:=(j - 1)) zcz (by omega) ((k+(j - 1))*1) (by omega) (d4 41 _))),(8,.g (Op.loadR_c (d:=43) (t:=42) (n:=0) (i:=(k+(j - 1))) (fo:=0) (rty:=3) (es:=1) (x:=(.raw (.int .i64 x4))) tl_7 rfl (zab hx4 (f:=za3)) rfl))] [32] [(44,vb (x3 != x4))] h fun a w h=>cS (x3 != x4) h (fun hc6=>?_) (fun hc7=>?_)
    ·obtain ⟨x5,hx5⟩:=gl R ((dd xs (k+j)).length);refine Jg 5 [(4,.g (Op.idxSub (d:=49) (t:=47) (k:=.i64) (n:=0) (o:=k*1) (len:=(xs.length - k)) (i:=j) zcz (by omega) ((k+j)*1) (by omega) (d4 48 _))),(5,.g (Op.loadR_c (d:=50) (t:=49) (n:=0) (i:=(k+j)) (fo:=0) (rty:=3) (es:=1) (x:=(.raw (.int .i64 x3))) tl_7 rfl (zab hx3 (f:=za3)) rfl)),(6,.g (xO 51 45 0 xs.length (dd xs (k+j)).length zcz (d4 46 _))),(7,.g (Op.storeR (t:=51) (n:=0) (i:=(dd xs (k+j)).length) (fo:=0) (rty:=3) (es:=1) (r:=za3 x5) (ds:=[.raw (.int .i64 x3)]) (rs:=[(50,vI x3)]) (rows:=R.map za3) (rows':=(R.set (dd xs (k+j)).length x3).map za3) tl_7 (d4 50 _) rfl rfl rfl (zab hx5 (f:=za3)) (by simp [za3]) (zfg (xs:=R) (F:=za3) (dd xs (k+j)).length _ _ rfl)))] [44] [] [] [(0,.row 3 1 ((R.set (dd xs (k+j)).length x3).map za3))] h fun a w h=>Jf 5 [(1,.add .i64 (m:=(((dd xs (k+j)).length:Nat):Int)) (n:=1) i6)] [] [(3,vI ((((dd xs (k+j)).length:Nat):Int)+1))] h fun a w h=>za7 (za1 (Jf 5 [(1,.j1 j)] [] [(5,vI ((j:Int)+1))] h fun a w h=>za1 ?_));have hd9:dd xs (k+(j+1))=dd xs (k+j)++[x3]:=dd_yes (k:=k+j) (by omega) ((hJ6 _ (by omega)).symm.trans hx3) (show xs[k+j - 1]?=some x4 from by have:=(hJ6 (k+(j - 1)) (by omega)).symm.trans hx4;rwa [show k+(j - 1)=k+j - 1 by omega] at this) (by have:=hc6;simpa using this);replace h:=cvM [] [(3,vI (((dd xs (k+(j+1))).length:Nat):Int))] [] [] (by rw [hd9,bB]; try kernel_rfl) h;refine zaj (x:=(j,R)) (y:=((j+1),(R.set (dd xs (k+j)).length x3))) h ?_ ?_
     ·have hx9:=zal hx3;exact ⟨by omega,by omega,by rw [dG];exact hJ3,by rw [hd9,bB];show _+1<_;omega,by rw [hd9,bB];show List.take (_+1) _=_;rw [bZ,cL (by omega),List.take_set_of_le (bK _),hJ5];rfl,fun m hm=>by rw [cD (by omega)];exact hJ6 m (by omega)⟩
     have hx9:=zal hx3;show xs.length - k - (j+1)<xs.length - k - j;omega
    refine qU (za7 (za1 (Jf 5 [(1,.j1 j)] [44] [(5,vI ((j:Int)+1))] h fun a w h=>za1 ?_)));have hd9:dd xs (k+(j+1))=dd xs (k+j):=dd_no (k:=k+j) (by omega) ((hJ6 _ (by omega)).symm.trans hx3) (show xs[k+j - 1]?=some x4 from by have:=(hJ6 (k+(j - 1)) (by omega)).symm.trans hx4;rwa [show k+(j - 1)=k+j - 1 by omega] at this) (by have:=hc7;simpa using this);replace h:=cvM [] [(3,vI (((dd xs (k+(j+1))).length:Nat):Int))] [] [] (by rw [hd9]; try kernel_rfl) h;refine zaj (x:=(j,R)) (y:=((j+1),R)) h ?_ ?_
    ·have hx9:=zal hx3;exact ⟨by omega,by omega,hJ3,by rw [hd9];omega,by rw [hd9];exact hJ5,fun m hm=>hJ6 m (by omega)⟩
    have hx9:=zal hx3;show xs.length - k - (j+1)<xs.length - k - j;omega
   refine exA ?_;have hRt:(R.take (dd xs (k+j)).length).length=(dd xs (k+j)).length:=by rw [hJ5]
   refine Jg 5 [(2,.g (Op.sliceLo (d:=56) (t:=54) (k:=.i64) (n:=0) (len:=xs.length) (l:=(dd xs (k+j)).length) (rows:=R.map za3) (rty:=3) zcz (by first | omega | (rw [bA];omega) | (simp at *;omega)) (d4 55 _) (by first | omega | (simp at *;omega)) rfl)),(3,.g (Op.clearCut' (rows':=(R.take (dd xs (k+j)).length).map za3) (o:=none) (t:=56) (n:=0) (off:=(dd xs (k+j)).length*1) (len:=(xs.length - (dd xs (k+j)).length)) (l:=(dd xs (k+j)).length) (es:=1) (rows:=R.map za3) (rty:=3) (zs:=[cI 0]) zcz.hu od1_4 rfl rfl (by first | omega | (rw [bA];omega) | (simp at *;omega)) _ rfl (by simp [cW])))] [4,5,32] [] [] [(0,.row 3 1 ((R.take (dd xs (k+j)).length).map za3))] h fun a w h=>Je 5 [(2,.g (Op.sliceHi (d:=59) (t:=57) (k:=.i64) (n:=0) (len:=xs.length) (h:=(dd xs (k+j)).length) (rows:=(R.take (dd xs (k+j)).length).map za3) (rty:=3) zcz (by first | omega | (rw [bA];omega) | (simp at *;omega)) (d4 58 _)))] [] [(2,vO 0 (dd xs (k+j)).length)] h fun a w h=>qV (zaa (za5 (za5 (zaa (za5 ?_)))));have hcz:dd xs (k+j)=zdu xs:=by rw [show k+j=xs.length by omega];rfl
   replace h:=h.conv (f':=F.of [(0,vO 0 xs.length),(2,vO 0 (zdu xs).length),(3,vI (((dd xs (k+j)).length:Nat):Int))] [(0,.row 3 1 ((zdu xs).map za3))]) (by rw [hJ5,hcz];try kernel_rfl);refine rT (.c (.own 0 (zdu xs).length)) h rfl ?_;rfl
  refine qU (za7 (za1 (Jf 5 [(1,.add .i64 (m:=(k:Int)) (n:=1) i6)] [25] [(3,vI ((k:Int)+1))] h fun a w h=>za1 (zaj (x:=k) (y:=k+1) h ?_ ?_))))
  ·have:=zal hx1;exact ⟨by omega,by omega,by rw [dd_yes hI1 hx1 hx2 hc9,hI3,bZ,hx1];rfl⟩
  have:=zal hx1;show xs.length - (k+1)<xs.length - k;omega
 refine exA (Jp 5 [] [(2,vO 0 xs.length)] h fun a w h=>qV ?_);have hcz:zdu xs=xs:=by rw [<- dd_all,<- show k=xs.length by omega,hI3,b7 (by omega)]
 replace h:=h.conv (f':=F.of [(2,vO 0 (zdu xs).length)] [(0,.row 3 1 ((zdu xs).map za3))]) (by rw [hcz];try kernel_rfl);refine rT (.c (.own 0 (zdu xs).length)) h rfl ?_;rfl
theorem vb0_1:ElT dY 69 3 1 8:=ElT.mk' Tryz.underlying69 _ _ rfl rfl
theorem vb0_2:SlT dY 140 69 1:=SlT.mk' Tryz.underlying140 (by kernel_rfl)
theorem vb0_4:ElZ dY 140 69 1:=ElZ.mk' Tryz.underlying140 _ _ rfl rfl
theorem comZ_le (xs:List Int):(zdu xs).length<=xs.length:=by
 show (Lib.compactUpTo _ _).length<=_
 unfold Lib.compactUpTo
 rw [bA];exact Nat.le_trans (List.length_filter_le _ _) (by simp)
theorem SGrowS (n:Nat) (hn:n<=1000000):Fn dY 96 [] [vW za6,vN n] (vO 0 0) [(0,.row 3 1 ([].map za3))]:=by
 refine fB Tryz.func96 rfl 27 fun w H B a h=>Jq 1 [] [(0,vW za6),(1,vN n),(4,vW za6)] [] h fun a w h=>qW (Jg 1 [(1,.cmp (op:=.lss) (m:=(n:Int)) (n:=0) (b:=false) .i64 (show decide ((n:Int)<0)=false from decide_eq_false (by omega)))] [] [(6,vb false)] [] [] h fun a w h=>zd1 h (qU (za1 (qW (Jg 1 [(2,.g (Op.capR (d:=10) (ao:=none) (n:=0) (c:=0) zcz.hu (d4 9 _))),(5,.g (Op.arith (op:=.sub) (d:=13) (xt:=3) (yt:=3) (k:=.i64) (m:=0) (n:=0) (r:=0) (d4 10 _) (d4 12 _) (.inr (.inl ⟨rfl,rfl⟩)) i6)),(6,.g (Op.arith (op:=.sub) (d:=14) (xt:=3) (yt:=3) (k:=.i64) (m:=(n:Int)) (n:=0) (r:=(n:Int)) (d4 8 _) (d4 13 _) (.inr (.inl ⟨rfl,(Int.sub_zero _).symm⟩)) i6))] [6] [] [] [] h fun a w h=>Jg 1 [] [] [(16,vb (decide ((n:Int)>0)))] [] [] h fun a w h=>zav ((n:Int)>0) h (fun hc1 hc1'=>?_) (fun hc2 hc2'=>?_))))))
 ·refine Jh 1 [(2,.g (Op.capR (d:=19) (ao:=none) (n:=0) (c:=0) zcz.hu (d4 18 _))),(3,.g (Op.sliceR0 (d:=20) (k:=.i64) zcz (d4 17 _) (d4 19 _))),(5,.g (Op.appNM (d:=22) (t:=20) (u:=21) (n:=1) (L:=n) vb0_1 Tryz.underlying3 (by omega) (by omega) (by omega))),(8,.g (Op.sliceHi (d:=25) (t:=22) (k:=.i64) (n:=1) (len:=n) (h:=0) (rows:=[].map za3) (rty:=3) zcz (by first | omega | (simp at *;omega)) (d4 24 _)))] [1,16] [(0,vO 1 0)] [] [(1,.row 3 1 ([].map za3))] h fun a w h=>za1 (Jp 2 [] [(4,vO 1 0)] h fun a w h=>qV ?_);replace h:=zb7 1 0 h;refine rT (.c (.own 0 0)) h rfl ?_;rfl
 refine qU (za1 (Jg 2 [] [0,1,16] [] [] [] h fun a w h=>qV ?_));replace h:=zdb 4 0 2 1 3 (vW za6) h;replace h:=zb7 2 0 h;refine rT (.c (.own 0 0)) h rfl ?_;rfl
theorem SConcatS (xss:List (List Int)) (hl:(xss.map bI).sum<=1000000) (hn:xss.length<=1000):Fn dY 84 [] [vS 1 (xss.map (slD 1 za3))] (vO 0 xss.flatten.length) [(0,.row 3 1 (xss.flatten.map za3))]:=by
 refine fB Tryz.func84 rfl 36 fun w H B a h=>Jq 5 [] [(0,vS 1 (xss.map (slD 1 za3))),(2,vW za6)] [] h fun a w h=>Jg 5 [] [] [(3,vI 0)] [] [] h fun a w h=>qW (Jg 5 [(1,.len (c:=(.d (.sl 1 (xss.map (slD 1 za3))))) (n:=xss.length) (za9 _ _ _))] [] [(9,vS 1 (xss.map (slD 1 za3))),(10,vN xss.length),(11,vI 0)] [] [] h fun a w h=>qZ ?_)
 refine zdp (ι:=(Nat)) (fun j=>j<=xss.length)
   [] (fun j=>[(3,vI ((((xss.map bI).take j).sum:Nat):Int)),(11,vN j)])
   [] (fun j=>[])
   (fun j=>xss.length - j) 0 ?_ h ?_
 ·exact bP _
 clear h;rintro j a w hI h;have hs1:=zea (xss.map bI) j;have hs2:=zea (xss.map bI) (j+1);refine Jg 5 [] [] [(12,vb (decide ((j:Int)<(xss.length:Int))))] [] [] h fun a w h=>qW (zav ((j:Int)<(xss.length:Int)) h (fun hc1 hc1'=>?_) (fun hc2 hc2'=>?_))
 ·refine qU (za1 (qW (qZ ?_)));obtain ⟨x1,hx1⟩:=gl xss j
  have hsx:x1.length<=(xss.map bI).sum:=by
   have:=sum_mem (List.mem_map_of_mem (f:=bI) (lM hx1));omega
  refine Jg 5 [(0,.g (xD 13 9 vb0_2 (zab hx1 (f:=(slD 1 za3))) (d4 11 _)))] [12] [(5,(vIs x1))] [] [] h fun a w h=>Jg 5 [(2,.len (za9 1 za3 x1)),(3,.g (Op.arith (op:=.add) (d:=18) (xt:=3) (yt:=3) (k:=.i64) (m:=((((xss.map bI).take j).sum:Nat):Int)) (n:=(x1.length:Int)) (r:=((((xss.map bI).take (j+1)).sum:Nat):Int)) (d4 15 _) (d4 17 _) (.inl ⟨rfl,(by rw [bZ,bN,hx1];simp)⟩) i6))] [5] [(3,vI ((((xss.map bI).take (j+1)).sum:Nat):Int))] [] [] h fun a w h=>?_;refine Jg 5 [(1,.cmp (op:=.lss) (m:=((((xss.map bI).take (j+1)).sum:Nat):Int)) (n:=0) (b:=false) .i64 (show decide (((((xss.map bI).take (j+1)).sum:Nat):Int)<0)=false from decide_eq_false (by omega)))] [] [(20,vb false)] [] [] h fun a w h=>zd1 h (qU (za7 (za1 (Jh 5 [(0,.j1 j)] [20] [(11,vI ((j:Int)+1))] [] [] h fun a w h=>za1 (zaj (x:=j) (y:=(j+1)) h ?_ ?_)))))
  ·have:=zal hx1;omega
  show xss.length - (j+1)<xss.length - j;have:=zal hx1;omega
 refine exA ?_;have hj:j=xss.length:=by omega
 refine Jg 5 [(1,.call (SGrowS ((xss.map bI).take j).sum (by omega)))] [3,9,10,11,12] [(6,vO 0 0)] [] [(0,.row 3 1 ([].map za3))] h fun a w h=>qW (Je 5 [(1,.len (c:=(.d (.sl 1 (xss.map (slD 1 za3))))) (n:=xss.length) (za9 _ _ _))] [0] [(25,vS 1 (xss.map (slD 1 za3))),(26,vN xss.length),(27,vI 0)] h fun a w h=>qZ ?_)
 refine zdp (ι:=(Nat)) (fun i=>i<=xss.length)
   [] (fun i=>[(6,vO 0 ((xss.take i).flatten).length),(27,vN i)])
   [] (fun i=>[(0,.row 3 1 (((xss.take i).flatten).map za3))])
   (fun i=>xss.length - i) 0 ?_ h ?_
 ·exact bP _
 clear h;rintro i a w hI h;have hs1:=zea (xss.map bI) i;have hs2:=zea (xss.map bI) (i+1);have hf1:((xss.take i).flatten).length=((xss.map bI).take i).sum:=by rw [flat_sum,cW]
 have hf2:((xss.take (i+1)).flatten).length=((xss.map bI).take (i+1)).sum:=by rw [flat_sum,cW]
 refine Je 5 [] [] [(28,vb (decide ((i:Int)<(xss.length:Int))))] h fun a w h=>qW (zav ((i:Int)<(xss.length:Int)) h (fun hc3 hc3'=>?_) (fun hc4 hc4'=>?_))
 ·refine qU (za1 (qW (qZ ?_)));obtain ⟨x3,hx3⟩:=gl xss i
  have hsx:x3.length<=(xss.map bI).sum:=by
   have:=sum_mem (List.mem_map_of_mem (f:=bI) (lM hx3));omega
  refine Je 5 [(0,.g (xD 29 25 vb0_2 (zab hx3 (f:=(slD 1 za3))) (d4 27 _)))] [28] [(8,(vIs x3))] h fun a w h=>Jh 5 [(2,.g (Op.appOD (d:=33) (t:=31) (u:=32) (n:=0) (n':=5) (len:=((xss.take i).flatten).length) (len':=(((xss.take i).flatten)++x3).length) (rows:=((xss.take i).flatten).map za3) (rows2:=x3.map za3) (rows':=(((xss.take i).flatten)++x3).map za3) vb0_1 (by first | exact (bA _).symm | simp) (by first | (rw [bB,bA];done) | (simp;done) | (simp;omega)) (by simp) (by simp [za3]) (by first | omega | (simp at *;done) | (simp at *;omega))))] [8] [(6,vO 5 (((xss.take i).flatten)++x3).length)] [0] [(5,.row 3 1 ((((xss.take i).flatten)++x3).map za3))] h fun a w h=>za7 (za1 (Jf 6 [(0,.j1 i)] [] [(27,vI ((i:Int)+1))] h fun a w h=>za1 ?_));rw [show ((((xss.take i).flatten)++x3):List Int)=((xss.take (i+1)).flatten) from (by rw [bZ,hx3];simp)] at h;replace h:=zb7 5 0 h;refine zaj (x:=i) (y:=(i+1)) h ?_ ?_
  ·have:=zal hx3;omega
  show xss.length - (i+1)<xss.length - i;have:=zal hx3;omega
 refine exA (Jp 6 [] [(2,vO 0 ((xss.take i).flatten).length)] h fun a w h=>qV ?_);rw [show (((xss.take i).flatten):List Int)=xss.flatten from (by rw [show i=xss.length by omega,List.take_length])] at h;refine rT (.c (.own 0 xss.flatten.length)) h rfl ?_;rfl
theorem SWith (s ns:List Int) (hl:s.length+ns.length<=1000000):Fn dY 64 [] [(vIs s),(vIs ns)] (vIs (zad (s++ns))) []:=by
 refine fB Tryz.func64 rfl 14 fun w H B a h=>Jq 5 [] [(0,(vIs s)),(1,(vIs ns)),(4,vW za6)] [] h fun a w h=>Jg 5 [(2,.g (Op.buildD (d:=8) (len:=2) (rows:=[s,ns].map (slD 1 za3)) (rs:=[(6,(vIs s)),(7,(vIs ns))]) vb0_4 (.cons (i:=0) (d4 6 _) (.cons (i:=1) (d4 7 _) (.nil))) (by kernel_rfl) rfl (by simp [slD]) (by decide) (by decide))),(3,.call (SConcatS [s,ns] (by simp only [bU,cM,List.sum_cons,List.sum_nil];omega) (by simp)))] [0,1] [(5,vO 0 (bH [s,ns]).length)] [] [(0,.row 3 1 ((bH [s,ns]).map za3))] h fun a w h=>Jg 5 [(1,.call (SSortS (bH [s,ns]) (by simp;omega)))] [] [] [] [(0,.row 3 1 ((zb2 (bH [s,ns])).map za3))] h fun a w h=>?_
 replace h:=cvM [] [(5,vO 0 (zb2 (bH [s,ns])).length)] [] [] (by rw [zbs]; try kernel_rfl) h;refine Jq 5 [(1,.call (SCompactS (zb2 (bH [s,ns])) (by rw [zbs];simp;omega)))] [(4,vO 0 (zdu (zb2 (bH [s,ns]))).length)] [(0,.row 3 1 ((zdu (zb2 (bH [s,ns]))).map za3))] h fun a w h=>qV ?_;have hcl9:=comZ_le (zb2 (bH [s,ns]));have hsl9:=zbs (bH [s,ns]);have hfl9:(bH [s,ns]).length=s.length+ns.length:=by simp
 replace h:=zg6 0 1 3 ((zdu (zb2 (bH [s,ns]))).map za3) h [(zdu (zb2 (bH [s,ns]))).length] ⟨by first | exact (bA _).symm | (simp;done) | (simp;omega),trivial⟩;refine rT (.c (cIs (zdu (zb2 (bH [s,ns]))))) h rfl ?_;have hz:zad (s++ns)=zdu (zb2 (bH [s,ns])):=by unfold zad;simp
 rw [hz];try rfl
theorem sri_lt (h:SRi xs) {x y:Int} (hi:xs[i]?=some x) (hj:xs[j]?=some y) (hij:i<j):x<y:=by
 obtain ⟨h1,rfl⟩:=bJ.1 hi
 obtain ⟨h2,rfl⟩:=bJ.1 hj
 exact List.pairwise_iff_getElem.1 h i j h1 h2 hij
def lowA (xs:List Int) (v:Int) (i:Nat):Prop:=∀ m x,m<i->xs[m]?=some x->x<v
def highA (xs:List Int) (v:Int) (j:Nat):Prop:=∀ m x,j<=m->xs[m]?=some x->v<=x
theorem lowA_step (hs:SRi xs) {x:Int} (h:xs[k]?=some x) (hx:x<v):lowA xs v (k+1):=fun m y hm hy=>by
 by_cases e:m=k
 ·subst e;rw [h] at hy;cases hy;exact hx
 ·have:=sri_lt hs hy h (by omega);omega
theorem highA_step (hs:SRi xs) {x:Int} (h:xs[k]?=some x) (hx:¬ x<v):highA xs v k:=fun m y hm hy=>by
 by_cases e:m=k
 ·subst e;rw [h] at hy;cases hy;omega
 ·have:=sri_lt hs h hy (by omega);omega
theorem bs_in (hs:SRi xs) {x:Int} (hl:lowA xs v i) (hh:highA xs v i) (h:xs[i]?=some x):decide (v ∈ xs)=(x == v):=by
 by_cases e:x=v
 ·subst e;simp [cE h]
 ·rw [decide_eq_false,beq_eq_false_iff_ne.2 e]
  intro hm
  obtain ⟨m,hm1,hm2⟩:=dU.1 hm
  have hm3:xs[m]?=some v:=by rw [bO hm1,hm2]
  by_cases h1:m<i
  ·have:=hl m v h1 hm3;omega
  ·by_cases h2:m=i
   ·subst h2;rw [h] at hm3;cases hm3;exact e rfl
   ·have:=sri_lt hs h hm3 (by omega);have:=hh i x (bK _) h;omega
theorem bs_out (hl:lowA xs v i) (h:xs.length<=i):decide (v ∈ xs)=false:=by
 rw [decide_eq_false]
 intro hm
 obtain ⟨m,hm1,hm2⟩:=dU.1 hm
 have:=hl m v (by omega) (by rw [bO hm1,hm2]);omega
def posZ (xs:List Int) (v:Int):Nat:=(xs.filter fun x=>decide (x<v)).length
theorem pos_eq (hl:lowA xs v i) (hh:highA xs v i) (hi:i<=xs.length):posZ xs v=i:=by
 unfold posZ
 conv=>lhs;rw [<- dQ i xs]
 rw [List.filter_append,List.filter_eq_self.2,List.filter_eq_nil_iff.2,cA,cP]
 ·omega
 ·intro x hx
  obtain ⟨m,hm⟩:=cF.1 hx
  rw [dH] at hm
  have:=hh _ _ (by omega) hm
  simp;omega
 ·intro x hx
  obtain ⟨m,hm⟩:=cF.1 hx
  have hm1:=(bJ.1 hm).1
  rw [cP] at hm1
  rw [dI,if_pos (by omega)] at hm
  have:=hl _ _ (by omega) hm
  simp;omega
theorem SNaNc (x:Int) :Fn dY 116 [] [vI x] (vb false) []:=by
 refine fB Tryz.func116 rfl 6 fun w H B a h=>Jq 0 [] [(0,vI x),(2,vb false)] [] h fun a w h=>Jq 0 [] [(2,vb (x != x))] [] h fun a w h=>qV (rT (.c (cB (x != x))) h rfl ?_)
 rw [show (x != x)=false by simp];try rfl
theorem SNaNs (x:Int) :Fn dY 110 [] [vI x] (vb false) []:=by
 refine fB Tryz.func110 rfl 6 fun w H B a h=>Jq 0 [] [(0,vI x),(2,vb false)] [] h fun a w h=>Jq 0 [] [(2,vb (x != x))] [] h fun a w h=>qV (rT (.c (cB (x != x))) h rfl ?_)
 rw [show (x != x)=false by simp];try rfl
theorem SLessI (x y:Int) :Fn dY 103 [] [vI x,vI y] (vb (decide (x<y))) []:=by
 refine fB Tryz.func103 rfl 17 fun w H B a h=>Jq 0 [] [(0,vI x),(1,vI y),(4,vb false)] [] h fun a w h=>Jq 0 [(1,.call (SNaNc x))] [(4,vb (decide (x<y)))] [] h fun a w h=>qV (rT (.c (cB (decide (x<y)))) h rfl ?_)
 rfl
theorem SBSearch (xs:List Int) (v:Int) (hs:SRi xs) (hl:xs.length<=1000000):Fn dY 94 [] [(vIs xs),vI v] (.tup [.c (cI ((posZ xs v:Nat):Int)),.c (cB (decide (v ∈ xs)))]) []:=by
 refine fB Tryz.func94 rfl 54 fun w H B a h=>Jq 0 [] [(0,(vIs xs)),(1,vI v),(4,vI 0),(5,vb false)] [] h fun a w h=>Jg 0 [(1,.len (za9 1 za3 xs))] [] [(6,vN xs.length)] [] [] h fun a w h=>Jg 0 [] [] [(7,vI 0),(8,vN xs.length)] [] [] h fun a w h=>qW (qZ ?_)
 refine zdp (ι:=(Nat) × (Nat)) (fun (i,j)=>i<=j/\j<=xs.length/\lowA xs v i/\highA xs v j)
   [] (fun (i,j)=>[(7,vN i),(8,vN j)])
   [] (fun (i,j)=>[])
   (fun (i,j)=>j - i) (0,xs.length) ?_ h ?_
 ·exact ⟨bP _,bK _,fun m x hm=>absurd hm (Nat.not_lt_zero _),fun m x hm hx=>by have:=(bJ.1 hx).1;omega⟩
 clear h;rintro ⟨i,j⟩ a w hI h;dsimp only at h;obtain ⟨hI1,hI2,hI3,hI4⟩:=hI;refine qW (Jg 0 [] [] [(15,vb (decide ((i:Int)<(j:Int))))] [] [] h fun a w h=>zav ((i:Int)<(j:Int)) h (fun hc1 hc1'=>?_) (fun hc4 hc4'=>?_))
 ·refine qU (za1 (qZ (Jg 0 [(2,.g (Op.arith (op:=.add) (d:=18) (xt:=3) (yt:=3) (k:=.i64) (m:=(i:Int)) (n:=(j:Int)) (r:=((i+j:Nat):Int)) (d4 16 _) (d4 17 _) (.inl ⟨rfl,(by omega)⟩) i6)),(3,.conv .i64 .u64 (m:=((i+j:Nat):Int)) (u64_id (by omega) (by omega))),(4,.g (Op.shr (d:=20) (xt:=134) (yt:=134) (k:=.u64) (k' := .u64) (m:=((i+j:Nat):Int)) (n:=1) (r:=(((i+j) / 2:Nat):Int)) (d4 19 _) (dZ (.int .u64 1) rfl) (by decide) (half _))),(5,.conv .u64 .i64 (m:=(((i+j) / 2:Nat):Int)) i6)] [15] [(9,vI (((i+j) / 2:Nat):Int))] [] [] h fun a w h=>?_)));obtain ⟨x1,hx1⟩:=gl xs ((i+j) / 2);refine Jg 0 [(2,.g (xD 24 22 zcz (zab hx1 (f:=za3)) (d4 23 _))),(5,.call (SLessI x1 v))] [] [(27,vb (decide (x1<v)))] [] [] h fun a w h=>zav (x1<v) h (fun hc2 hc2'=>?_) (fun hc3 hc3'=>?_)
  ·refine Jh 0 [(1,.g (Op.arith (op:=.add) (d:=29) (xt:=3) (yt:=3) (k:=.i64) (m:=(((i+j) / 2:Nat):Int)) (n:=1) (r:=(((i+j) / 2+1:Nat):Int)) (d4 28 _) (dZ (.int .i64 1) rfl) (.inl ⟨rfl,(by omega)⟩) i6))] [9,27] [(7,vI (((i+j) / 2+1:Nat):Int))] [] [] h fun a w h=>za7 (za1 (zaj (x:=(i,j)) (y:=(((i+j) / 2+1),j)) h ?_ ?_))
   ·exact ⟨by omega,hI2,lowA_step hs hx1 (dT hc2),hI4⟩
   show j - ((i+j) / 2+1)<j - i;omega
  refine Jh 0 [] [9,27] [(8,vI (((i+j) / 2:Nat):Int))] [] [] h fun a w h=>za7 (za1 (zaj (x:=(i,j)) (y:=(i,((i+j) / 2))) h ?_ ?_))
  ·exact ⟨by omega,by omega,hI3,highA_step hs hx1 (dF hc3)⟩
  show (i+j) / 2 - i<j - i;omega
 refine exA ?_
 rcases cV (decide ((i:Int)<(xs.length:Int))) with hc5 | hc8
 ·have hc5':=dT hc5;obtain ⟨x3,hx3⟩:=gl xs i
  rcases cV (x3 == v) with hc6 | hc7
  ·refine Jq 0 [(3,.cmp (op:=.lss) (m:=(i:Int)) (n:=(xs.length:Int)) (b:=true) .i64 hc5),(7,.g (xD 38 36 zcz (zab hx3 (f:=za3)) (d4 37 _))),(10,.cmp (op:=.eql) (m:=x3) (n:=v) (b:=true) .i64 hc6)] [(4,vN i),(5,vb true)] [] h fun a w h=>qV (zgx [.c (cI (i:Int)),.c (cB true)] h Exit.ret (.inl rfl)  rfl ⟨vT9,vT9,trivial⟩ ?_);have hij:i=j:=by omega
   subst hij;have hz:decide (v ∈ xs)=(x3 == v):=bs_in hs hI3 hI4 hx3;rw [pos_eq hI3 hI4 hI2,hz,hc6];try rfl
  refine Jq 0 [(3,.cmp (op:=.lss) (m:=(i:Int)) (n:=(xs.length:Int)) (b:=true) .i64 hc5),(7,.g (xD 38 36 zcz (zab hx3 (f:=za3)) (d4 37 _))),(10,.cmp (op:=.eql) (m:=x3) (n:=v) (b:=false) .i64 hc7),(14,.g (xD 45 43 zcz (zab hx3 (f:=za3)) (d4 44 _))),(16,.call (SNaNs x3))] [(4,vN i),(5,vb false)] [] h fun a w h=>qV (zgx [.c (cI (i:Int)),.c (cB false)] h Exit.ret (.inl rfl)  rfl ⟨vT9,vT9,trivial⟩ ?_);have hij:i=j:=by omega
  subst hij;have hz:decide (v ∈ xs)=(x3 == v):=bs_in hs hI3 hI4 hx3;rw [pos_eq hI3 hI4 hI2,hz,hc7];try rfl
 have hc8':=dF hc8;refine Jq 0 [(3,.cmp (op:=.lss) (m:=(i:Int)) (n:=(xs.length:Int)) (b:=false) .i64 hc8)] [(4,vN i),(5,vb false)] [] h fun a w h=>qV (zgx [.c (cI (i:Int)),.c (cB false)] h Exit.ret (.inl rfl)  rfl ⟨vT9,vT9,trivial⟩ ?_);have hij:i=j:=by omega
 subst hij;have hz:decide (v ∈ xs)=false:=bs_out hI3 (by have:=dF hc8;omega);rw [pos_eq hI3 hI4 hI2,hz];try rfl
theorem SHas (xs:List Int) (v:Int) (hs:SRi xs) (hl:xs.length<=1000000):Fn dY 79 [] [(vIs xs),vI v] (vb (decide (v ∈ xs))) []:=by
 refine fB Tryz.func79 rfl 14 fun w H B a h=>Jq 0 [] [(0,(vIs xs)),(1,vI v),(4,vb false)] [] h fun a w h=>Jd 0 [(2,.call (SBSearch xs v hs hl))] [0,1] [(6,vb (decide (v ∈ xs)))] [] h fun a w h=>Jq 0 [] [(4,vb (decide (v ∈ xs)))] [] h fun a w h=>qV (rT (.c (cB (decide (v ∈ xs)))) h rfl ?_)
 rfl
theorem vb2_1:ElZ dY 69 3 1:=ElZ.mk' Tryz.underlying69 _ _ rfl rfl
theorem vb2_7:Sz dY 71 4 true:=Sz.mk' (by kernel_rfl) Tryz.underlying71 _ rfl
def TkD.d (x:TkD):List D:=[.sl 1 (x.look.map za3),.sl 1 (x.seen.map za3),.sl 1 (x.next.map za3),.raw (.int .i64 x.frm)]
theorem SEqualS (xs ys:List Int) (hl:xs.length<=1000000) (hl2:ys.length<=1000000):Fn dY 83 [] [(vIs xs),(vIs ys)] (vb (decide (xs=ys))) []:=by
 refine fB Tryz.func83 rfl 26 fun w H B a h=>Jq 0 [] [(0,(vIs xs)),(1,(vIs ys)),(4,vb false)] [] h fun a w h=>qW (Jg 0 [(1,.len (za9 1 za3 xs)),(3,.len (za9 1 za3 ys))] [] [(10,vb ((xs.length:Int) != (ys.length:Int)))] [] [] h fun a w h=>cS ((xs.length:Int) != (ys.length:Int)) h (fun hc1=>?_) (fun hc2=>?_))
 ·refine Jg 0 [] [10] [] [] [] h fun a w h=>qV (za5 (rT (.c (cB false)) h rfl ?_));have hz:decide (xs=ys)=false:=decide_eq_false (by have:=hc1;simp at this;intro e;rw [e] at this;exact this rfl);rw [hz];try rfl
 refine qU (za1 (qW (Jg 0 [(1,.len (za9 1 za3 xs))] [10] [(12,vN xs.length),(13,vI 0)] [] [] h fun a w h=>qZ ?_)))
 refine zdp (ι:=(Nat)) (fun j=>j<=xs.length/\xs.take j=ys.take j)
   [4] (fun j=>[(13,vN j)])
   [] (fun j=>[])
   (fun j=>xs.length - j) 0 ?_ h ?_
 ·exact ⟨bP _,rfl⟩
 clear h;rintro j a w hI h;obtain ⟨hI1,hI2⟩:=hI;refine Jg 0 [] [] [(14,vb (decide ((j:Int)<(xs.length:Int))))] [] [] h fun a w h=>qW (zav ((j:Int)<(xs.length:Int)) h (fun hc3 hc3'=>?_) (fun hc6 hc6'=>?_))
 ·refine qU (za1 (qW (qZ (Jg 0 [] [14] [(5,vN j)] [] [] h fun a w h=>?_))));obtain ⟨x1,hx1⟩:=gl xs j;obtain ⟨x2,hx2⟩:=gl ys j;refine Jg 0 [(2,.g (xD 18 16 zcz (zab hx1 (f:=za3)) (d4 17 _))),(6,.g (xD 22 20 zcz (zab hx2 (f:=za3)) (d4 21 _)))] [5] [(24,vb (x1 != x2))] [] [] h fun a w h=>cS (x1 != x2) h (fun hc4=>?_) (fun hc5=>?_)
  ·refine Jg 0 [] [24] [(4,vb false)] [] [] h fun a w h=>qV (zaa (za5 (za5 (zaa (za5 (rT (.c (cB false)) h rfl ?_))))));have hz:decide (xs=ys)=false:=decide_eq_false (by have:=hc4;simp at this;intro e;apply this;have h1:=hx1;rw [e,hx2] at h1;exact (Option.some.inj h1).symm);rw [hz];try rfl
  refine qU (za7 (za1 (Jh 0 [(0,.j1 j)] [24] [(13,vI ((j:Int)+1))] [] [] h fun a w h=>za1 (zaj (x:=j) (y:=j+1) h ?_ ?_))))
  ·have:=zal hx1;exact ⟨by omega,by rw [bZ,bZ,hx1,hx2,hI2];have:=hc5;simp at this;rw [this]⟩
  have:=zal hx1;show xs.length - (j+1)<xs.length - j;omega
 refine exA (Jq 0 [] [(4,vb true)] [] h fun a w h=>qV (rT (.c (cB true)) h rfl ?_));have hz:decide (xs=ys)=true:=decide_eq_true (by have h1:=hc2;simp at h1;rw [b7 (by omega),b7 (by omega)] at hI2;exact hI2);rw [hz];try rfl
theorem SClS1 (xs:List Int) (hn:0<xs.length) (hl:xs.length<=1000000):Fn dY 78 [] [(vIs xs)] (vIs xs) []:=by
 refine fB Tryz.func78 rfl 8 fun w H B a h=>Jq 0 [] [(0,(vIs xs)),(2,vW za6)] [] h fun a w h=>qW (Jg 0 [(1,.g (Op.eqNilD (d:=4) (t:=3) (es:=1) (xt:=69) (yt:=69) (rows:=xs.map za3) zcz.hu ((by rw [bA];exact hn)) (dZ za6 rfl)))] [] [(4,vb false)] [] [] h fun a w h=>zd1 h (qU (za1 (Jq 0 [(0,.g (Op.buildE (d:=5) (n:=0) vb2_1)),(2,.g (Op.appOD (d:=7) (t:=5) (u:=6) (n:=0) (n':=1) (len:=0) (len':=xs.length) (rows:=[].map za3) (rows2:=xs.map za3) (rows':=xs.map za3) vb0_1 (by first | exact (bA _).symm | simp) (by first | (rw [bB,bA];done) | (simp;done) | (simp;omega)) (by simp) (by simp [za3]) (by first | omega | (simp at *;done) | (simp at *;omega))))] [(2,vO 1 xs.length)] [(1,.row 3 1 (xs.map za3))] h fun a w h=>qV ?_))))
 replace h:=zg6 1 1 3 (xs.map za3) h [xs.length] ⟨by first | exact (bA _).symm | (simp;done) | (simp;omega),trivial⟩;refine rT (.c (cIs xs)) h rfl ?_;rfl
theorem SClS2 :Fn dY 78 [] [vW za6] (vIs []) []:=by
 refine fB Tryz.func78 rfl 8 fun w H B a h=>Jq 0 [] [(0,vW za6),(2,vW za6)] [] h fun a w h=>qW (Jg 0 [(1,.g (Op.eqNilR (d:=4) (xt:=69) (yt:=69) (ao:=none) (n:=0) (c:=0) zcz.hu (d4 3 _) (dZ za6 rfl)))] [] [(4,vb true)] [] [] h fun a w h=>cS true h (fun _=>?_) nofun)
 refine Jg 0 [] [4] [] [] [] h fun a w h=>qV (za5 ?_);replace h:=nilDSx 2 0 1 (vW za6) h;refine rT (.c (cIs [])) h rfl ?_;rfl
theorem SClS3 (ao:Addr) (c:Nat) (hc:c<=maxLen):Fn dY 78 [] [vW (.slice (some ao) 0 c)] (vIs []) []:=by
 refine fB Tryz.func78 rfl 8 fun w H B a h=>Jq 0 [] [(0,vW (.slice (some ao) 0 c)),(2,vW za6)] [] h fun a w h=>qW (Jg 0 [(1,.g (Op.eqNilR (d:=4) (xt:=69) (yt:=69) (ao:=some ao) (n:=0) (c:=c) zcz.hu (d4 3 _) (dZ za6 rfl)))] [] [(4,vb false)] [] [] h fun a w h=>zd1 h (qU (za1 ?_)))
 replace h:=nilDSr 0 0 1 (vW (.slice (some ao) 0 c)) (some ao) c (fun e=>by cases e) hc [(0,(vIs [])),(2,vW za6),(4,vb false)] [] h rfl rfl;refine Jq 0 [(0,.g (Op.buildE (d:=5) (n:=0) vb2_1)),(2,.g (Op.appOD (d:=7) (t:=5) (u:=6) (n:=0) (n':=1) (len:=0) (len':=0) (rows:=[].map za3) (rows2:=[].map za3) (rows':=[].map za3) vb0_1 (by first | exact (bA _).symm | simp) (by first | (rw [bB,bA];done) | (simp;done) | (simp;omega)) (by simp) (by simp [za3]) (by first | omega | (simp at *;done) | (simp at *;omega))))] [(2,vO 1 0)] [(1,.row 3 1 ([].map za3))] h fun a w h=>qV ?_;replace h:=zg6 1 1 3 ([].map za3) h [0] ⟨by first | exact (bA _).symm | (simp;done) | (simp;omega),trivial⟩;refine rT (.c (cIs [])) h rfl ?_;rfl
theorem SClS (xs:List Int) (hl:xs.length<=1000000):Fn dY 78 [] [(vIs xs)] (vIs xs) []:=by
 cases xs with
 | nil =>
  refine Fn.rawE fun ao c h1 h2=>?_
  cases ao with
  | none=>obtain rfl:=h1 rfl;exact SClS2
  | some ao=>exact SClS3 ao c h2
 | cons x xs=>exact SClS1 (x :: xs) (by simp) hl
theorem SClI1 (xs:List Int) (hn:0<xs.length) (hl:xs.length<=1000000):Fn dY 38 [] [(vIs xs)] (vIs xs) []:=by
 refine fB Tryz.func38 rfl 8 fun w H B a h=>Jq 0 [] [(0,(vIs xs)),(2,vW za6)] [] h fun a w h=>qW (Jg 0 [(1,.g (Op.eqNilD (d:=4) (t:=3) (es:=1) (xt:=34) (yt:=34) (rows:=xs.map za3) tb_1.hu ((by rw [bA];exact hn)) (dZ za6 rfl)))] [] [(4,vb false)] [] [] h fun a w h=>zd1 h (qU (za1 (Jq 0 [(0,.g (Op.buildE (d:=5) (n:=0) zgv)),(2,.g (Op.appOD (d:=7) (t:=5) (u:=6) (n:=0) (n':=1) (len:=0) (len':=xs.length) (rows:=[].map za3) (rows2:=xs.map za3) (rows':=xs.map za3) tb_2 (by first | exact (bA _).symm | simp) (by first | (rw [bB,bA];done) | (simp;done) | (simp;omega)) (by simp) (by simp [za3]) (by first | omega | (simp at *;done) | (simp at *;omega))))] [(2,vO 1 xs.length)] [(1,.row 3 1 (xs.map za3))] h fun a w h=>qV ?_))))
 replace h:=zg6 1 1 3 (xs.map za3) h [xs.length] ⟨by first | exact (bA _).symm | (simp;done) | (simp;omega),trivial⟩;refine rT (.c (cIs xs)) h rfl ?_;rfl
theorem SClI2 :Fn dY 38 [] [vW za6] (vIs []) []:=by
 refine fB Tryz.func38 rfl 8 fun w H B a h=>Jq 0 [] [(0,vW za6),(2,vW za6)] [] h fun a w h=>qW (Jg 0 [(1,.g (Op.eqNilR (d:=4) (xt:=34) (yt:=34) (ao:=none) (n:=0) (c:=0) tb_1.hu (d4 3 _) (dZ za6 rfl)))] [] [(4,vb true)] [] [] h fun a w h=>cS true h (fun _=>?_) nofun)
 refine Jg 0 [] [4] [] [] [] h fun a w h=>qV (za5 ?_);replace h:=nilDSx 2 0 1 (vW za6) h;refine rT (.c (cIs [])) h rfl ?_;rfl
theorem SClI3 (ao:Addr) (c:Nat) (hc:c<=maxLen):Fn dY 38 [] [vW (.slice (some ao) 0 c)] (vIs []) []:=by
 refine fB Tryz.func38 rfl 8 fun w H B a h=>Jq 0 [] [(0,vW (.slice (some ao) 0 c)),(2,vW za6)] [] h fun a w h=>qW (Jg 0 [(1,.g (Op.eqNilR (d:=4) (xt:=34) (yt:=34) (ao:=some ao) (n:=0) (c:=c) tb_1.hu (d4 3 _) (dZ za6 rfl)))] [] [(4,vb false)] [] [] h fun a w h=>zd1 h (qU (za1 ?_)))
 replace h:=nilDSr 0 0 1 (vW (.slice (some ao) 0 c)) (some ao) c (fun e=>by cases e) hc [(0,(vIs [])),(2,vW za6),(4,vb false)] [] h rfl rfl;refine Jq 0 [(0,.g (Op.buildE (d:=5) (n:=0) zgv)),(2,.g (Op.appOD (d:=7) (t:=5) (u:=6) (n:=0) (n':=1) (len:=0) (len':=0) (rows:=[].map za3) (rows2:=[].map za3) (rows':=[].map za3) tb_2 (by first | exact (bA _).symm | simp) (by first | (rw [bB,bA];done) | (simp;done) | (simp;omega)) (by simp) (by simp [za3]) (by first | omega | (simp at *;done) | (simp at *;omega))))] [(2,vO 1 0)] [(1,.row 3 1 ([].map za3))] h fun a w h=>qV ?_;replace h:=zg6 1 1 3 ([].map za3) h [0] ⟨by first | exact (bA _).symm | (simp;done) | (simp;omega),trivial⟩;refine rT (.c (cIs [])) h rfl ?_;rfl
theorem SClI (xs:List Int) (hl:xs.length<=1000000):Fn dY 38 [] [(vIs xs)] (vIs xs) []:=by
 cases xs with
 | nil =>
  refine Fn.rawE fun ao c h1 h2=>?_
  cases ao with
  | none=>obtain rfl:=h1 rfl;exact SClI2
  | some ao=>exact SClI3 ao c h2
 | cons x xs=>exact SClI1 (x :: xs) (by simp) hl
theorem SMore (x:TkD) (ns:List Int) (hl:x.look.length+ns.length<=1000000):Fn dY 81 [] [vG [cIs x.look,cIs x.seen,cIs x.next,cI x.frm],(vIs ns)] (vG [cIs (x.more ns).look,cIs (x.more ns).seen,cIs (x.more ns).next,cI (x.more ns).frm]) []:=by
 refine fB Tryz.func81 rfl 11 fun w H B a h=>Jq 5 [] [(1,(vIs ns)),(2,vp 5 0),(4,vp 6 0)] [(5,.box [cIs x.look,cIs x.seen,cIs x.next,cI x.frm]),(6,.box [nCl,nCl,nCl,cI 0])] h fun a w h=>Jg 7 [(3,.call (SWith x.look ns (by omega)))] [1] [] [] [(5,.box ([cIs (zad (x.look++ns)),cIs x.seen,cIs x.next,cI x.frm]))] h fun a w h=>Jd 7 [] [2] [] [(6,.box ([cIs (zad (x.look++ns)),cIs x.seen,cIs x.next,cI x.frm]))] h fun a w h=>qV (rA 6 ([cIs (zad (x.look++ns)),cIs x.seen,cIs x.next,cI x.frm]) h vb2_7 rfl ?_)
 rfl
theorem SLater (x:TkD) (n:Int) (hl:x.next.length<=999999):Fn dY 82 [] [vG [cIs x.look,cIs x.seen,cIs x.next,cI x.frm],vI n] (vG [cIs (x.later n).look,cIs (x.later n).seen,cIs (x.later n).next,cI (x.later n).frm]) []:=by
 refine fB Tryz.func82 rfl 12 fun w H B a h=>Jq 5 [] [(1,vI n),(2,vp 5 0),(4,vp 6 0)] [(5,.box [cIs x.look,cIs x.seen,cIs x.next,cI x.frm]),(6,.box [nCl,nCl,nCl,cI 0])] h fun a w h=>Jg 7 [(3,.g (bD 8 ([n].map za3) [(7,vI n)] zgv (.cons (i:=0) (d4 7 _) (.nil)) (by kernel_rfl) (by simp [za3]))),(4,.call (SWith x.next [n] (by simp;omega)))] [1] [] [] [(5,.box ([cIs x.look,cIs x.seen,cIs (zad (x.next++[n])),cI x.frm]))] h fun a w h=>Jd 7 [] [2] [] [(6,.box ([cIs x.look,cIs x.seen,cIs (zad (x.next++[n])),cI x.frm]))] h fun a w h=>qV (rA 6 ([cIs x.look,cIs x.seen,cIs (zad (x.next++[n])),cI x.frm]) h vb2_7 rfl ?_)
 rfl
section
variable {P:Program}
theorem Op.loadC_agg {d es:Nat} {rows:List (List C)} {r xs:List C} {rty:TypeId} {pos af gd} (hs:Sz P xt m true) (ho:o=i*es) (hr:rows[i]?=some r) (hm:xs.length=m) (hx:∀ (j:Nat) (c:C),xs[j]?=some c->∃ c':C,r[j]?=some c'/\(c=c'\/c=C.any)) :
  zar P ⟨some d,.load xt (.tmp t),ty,pos,af,gd⟩ { rs:=[(t,vp n o)],rl:=[(n,.rowc rty es rows)],ws:=[(d,some (.t (.agg xs)))] } :=
 zar.value d _ rfl rfl rfl fun e f H B a w hok hr2=>by
  obtain ⟨b,c,hb,hu⟩:=(hok.slot t _ (hr2.1 (t,vp n o) (by simp))).ptrI
  obtain ⟨arr,h1,h2,h3,h4,h5,h6⟩:=hok.rowc (hr2.2 (n,.rowc rty es rows) (by simp)) hb
  have hfill:∀ j x,xs[j]?=some x->∃ u,arr[o+j]?=some u/\CR H B x u:=by
   intro j x hj
   obtain ⟨c', g1,g2⟩:=hx j x hj
   obtain ⟨u,g3,g4⟩:=h6 i r hr j c' g1
   rcases g2 with rfl | rfl
   ·exact ⟨u,by rw [ho];exact g3,g4⟩
   ·exact ⟨u,by rw [ho];exact g3,CR.flat g4⟩
  have hlen:((arr.drop o).take m).length=m:=by
   rw [cP,List.length_drop]
   cases m with
   | zero=>omega
   | succ m =>
    obtain ⟨u,g1,_⟩:=hfill m _ (bO (by omega))
    have:=(bJ.1 g1).1
    omega
  refine ⟨.agg ((arr.drop o).take m).toArray,?_,⟨_,rfl,?_⟩⟩
  ·have h7:a.eval (.tmp t) = .pointer (some ⟨b,o,none⟩):=hu
   generalize a.eval=ρ at h7 ⊢
   have h8:=zd5 (P:=P) hs (w:=w) (b:=b) (o:=o) (cs:=(arr.drop o).take m) hlen (fun j v hv=>by
    refine zc8 h1 ?_
    rw [dI] at hv
    split at hv
    ·rw [dH] at hv;exact hv
    ·cases hv)
   simp only [execOp,h7,Instr.loadAt,Instr.sureAddr,Sem.run_bind,Sem.run_pure,Result.andThen_ok,h8]
  ·refine zat.iff.2 ⟨by simp [hlen,hm],fun j x u hx2 hu2=>?_⟩
   obtain ⟨u', g1,g2⟩:=hfill j x hx2
   have:=(bJ.1 hx2).1
   rw [dI,if_pos (by omega),dH,g1] at hu2
   injection hu2 with hu2
   rwa [<- hu2]
theorem Op.storeC {fo es:Nat} {rows rows':List (List C)} {r:List C} {c:C} {x:Operand} {rty:TypeId} {pos af gd} (hs:Sz P xt 1 false) (h:OV x (.t (.c c)) rs)
  (ho:o=i*es+fo) (hr:rows[i]?=some r) (hf:fo<r.length) (hn:rows.set i (r.set fo c)=rows') :
  zar P ⟨none,.store xt (.tmp t) x,ty,pos,af,gd⟩ { rs:=(t,vp n o) :: rs,rl:=[(n,.rowc rty es rows)],wl:=[(n,some (.rowc rty es rows'))] }:=by
 rintro e f a w Q ⟨H,B,hok⟩ hr2 hnw hb0
 obtain ⟨b,k,hb,hu⟩:=(hok.slot t _ (hr2.1 (t,vp n o) (by simp))).ptrI
 have hfl:=hr2.2 (n,.rowc rty es rows) (by simp)
 obtain ⟨arr,hcl,h2,h3,h4,h5,h6⟩:=hok.rowc hfl hb
 have hev:CR H B c (a.eval x):=h.eval hok (fun p hp=>hr2.1 p (by simp [hp]))
 have hfl1:=CR.flat hev
 have hre:r.length=es:=h5 r (cE hr)
 have hi:i<rows.length:=(bJ.1 hr).1
 have hie:(i+1)*es<=k*es:=dJ _ (by omega)
 rw [Nat.add_mul] at hie
 have ho':o<arr.length:=by rw [h2,ho];omega
 have hrun:(storeVar xt ⟨b,o,none⟩ (a.eval x)).run P w = .ok () (w.setCells b o [a.eval x]):=by
  have hst:=run_storeCells_cells (P:=P) b o [a.eval x] 0 w (fun j hj=>by
    have:j=0:=by simpa using hj
    subst this
    rw [zc8 hcl (o:=o+0+0) (v:=arr[o]'ho') (bO _)];rfl) (fun j hj=>by simp [World.frozen?, hcl]) (fun v hv=>by
    rw [bT.1 hv];exact zf3 hfl1)
  unfold storeVar
  simp only [Sem.run_bind,hs.sizeOf,Result.andThen_ok,flat_cells hfl1,cX,bV,ne_eq,not_true_eq_false,if_false]
  simpa using hst
 obtain ⟨k1,k2,k3,k4,k5,k6⟩:=zcr [a.eval x] o w arr hcl
 have hg:a.eval (.tmp t) = .pointer (some ⟨b,o,none⟩):=hu
 unfold Oper.wp
 have hexec:(execOp a.eval ⟨none,.store xt (.tmp t) x,ty,pos,af,gd⟩).run P w = .ok .skip (w.setCells b o [a.eval x]):=by
  generalize hq:a.eval x=q at hrun
  generalize a.eval=ρ at hg hq ⊢
  simp only [execOp,hg,hq,Instr.storeAt,Instr.sureAddr,Sem.run_bind,Sem.run_pure,Result.andThen_ok,hrun]
 rw [hexec,Oper.upon_skip]
 subst hn
 have hrows:∀ r' ∈ rows.set i (r.set fo c),r'.length=es:=by
  intro r' hr'
  rcases List.mem_or_eq_of_mem_set hr' with h' | rfl
  ·exact h5 r' h'
  ·rw [dG];exact hre
 have hlr:LR H B (w.setCells b o [a.eval x]) n (.rowc rty es (rows.set i (r.set fo c))):=by
  simp only [LR,hb]
  refine ⟨zg5 arr o [a.eval x],k1,by rw [zbz];exact h2,by simpa using h3,h4,hrows,?_⟩
  refine (zbc (by rw [zbz];exact h2) (by simpa using h3) hrows).2 ?_
  intro i' r' hr' f' x' hx'
  rw [zfq [a.eval x] arr o _ (by simp;omega)]
  have hf':f'<es:=by rw [<- hrows r' (cE hr')];exact (bJ.1 hx').1
  by_cases hii:i'=i
  ·subst hii
   rw [cL hi] at hr'
   injection hr' with hr'
   subst hr'
   by_cases hff:f'=fo
   ·subst hff
    rw [cL (by omega)] at hx'
    injection hx' with hx'
    subst hx'
    refine ⟨a.eval x,?_,hev⟩
    rw [if_pos (by simp;omega),ho,cT];rfl
   ·rw [cD (fun e=>hff e.symm)] at hx'
    obtain ⟨u,g1,g2⟩:=h6 i' r hr f' x' hx'
    exact ⟨u,by rw [if_neg (by simp;omega)];exact g1,g2⟩
  ·rw [cD (fun e=>hii e.symm)] at hr'
   obtain ⟨u,g1,g2⟩:=h6 i' r' hr' f' x' hx'
   refine ⟨u,?_,g2⟩
   rw [if_neg ?_];exact g1
   simp only [bV]
   intro hc
   have hlt:f'<es:=hf'
   have hfo:fo<es:=by omega
   rcases Nat.lt_or_gt_of_ne hii with hlt2 | hlt2
   ·have:(i'+1)*es<=i*es:=dJ _ (by omega)
    rw [Nat.add_mul] at this;omega
   ·have:(i+1)*es<=i'*es:=dJ _ (by omega)
    rw [Nat.add_mul] at this;omega
 exact St.put0 ⟨H,B,hok.write (g:=⟨f.s,fun m=>if m=n then some (.rowc rty es (rows.set i (r.set fo c))) else f.l m⟩) (l' := .rowc rty es (rows.set i (r.set fo c))) hfl hb (fun _=>rfl) (fun _=>rfl) k2 k3 k4 k5 k6 hlr⟩ rfl (app0_s _ _ rfl) (fun m=>zh3 f n _ _ rfl m)
end
abbrev zgq:=List (List D × List (List D))
def nmP (i p:Nat):Nat->Nat:=nmU nm0 i p
theorem zc3 (i p:Nat):nmP i p i=p:=if_pos rfl
theorem zcd (h:j≠i):nmP i p j=j+1000:=if_neg h
section
variable (hty ty:TypeId) (wd es:Nat)
def nsR (nm:Nat->Nat) (j:Nat) (r:List D × List (List D)):List C:=r.1.map C.d++[C.own (nm j) r.2.length]
def nsH (nm:Nat->Nat) (M:zgq):List (List C):=M.mapIdx (nsR nm)
def nsN (hd:Option (List (List C))) (nm:Nat->Nat) (M:zgq):Nat->Option L:=fun x=>if x=999 then hd.map (L.rowc hty wd) else if 1000<=x/\nm (x - 1000)=x then (M[x - 1000]?).map (fun r=>L.row ty es r.2) else none
def nsT (M:zgq):Nat->Option L:=nsN hty ty wd es (some (nsH nm0 M)) nm0 M
end
def lowM (lc:List (Nat × L)):Bool:=lc.all fun p=>lo9 p.1 && p.2.tags.all lo10
theorem zcw (h:lowM lc=true) {l:L} (hv:lc.lookup m=some l):m<999/\∀ n ∈ l.tags,n<1000:=by
 have:=bM.1 h _ (zae hv)
 rw [bW] at this
 exact ⟨zd3 this.1,fun n hn=>by have:=bM.1 this.2 n hn;simpa [lo10,bX] using this⟩
theorem zaw (h:lowM lc=true) (hn:999<=n):lc.lookup n=none:=by
 cases e:lc.lookup n with
 | none=>rfl
 | some l=>have:=(zcw h e).1;omega
theorem lo9_of (h:n<999):lo9 n=true:=by simp [lo9,bX,h]
theorem nsR_tags {r:List D × List (List D)}:n ∈ (nsR nm j r).flatMap C.tags ↔ n=nm j:=by
 unfold nsR
 rw [List.flatMap_append,cC]
 constructor
 ·rintro (h | h)
  ·obtain ⟨c,hc,hn⟩:=cG.1 h
   obtain ⟨d,_,rfl⟩:=bG.1 hc
   cases hn
  ·simpa [C.tags] using h
 ·intro h;right;simp [C.tags,h]
variable {M:zgq}
section
variable {hty ty:TypeId} {wd es:Nat}
theorem zfd {r:List D × List (List D)} (h:M[i]?=some r):(nsH nm M)[i]?=some (nsR nm i r):=by
 unfold nsH;rw [bR,h];rfl
theorem nsH_len:(nsH nm M).length=M.length:=by unfold nsH;simp
theorem nsH_mem (h:n ∈ (nsH nm M).flatten.flatMap C.tags):∃ j,j<M.length/\n=nm j:=by
 obtain ⟨c,hc,hn⟩:=cG.1 h
 obtain ⟨r,hr,hc⟩:=dB.1 hc
 obtain ⟨j,hj⟩:=cF.1 hr
 unfold nsH at hj
 rw [bR] at hj
 cases e:M[j]? with
 | none=>rw [e] at hj;cases hj
 | some q =>
  rw [e] at hj
  have hj:=Option.some.inj hj
  rw [<- hj] at hc
  exact ⟨j,(bJ.1 e).1,nsR_tags.1 (cG.2 ⟨c,hc,hn⟩)⟩
theorem nsR_ren {nm':Nat->Nat} {r:List D × List (List D)} (h:(if Nat.beq (nm j) n then m else nm j)=nm' j):(nsR nm j r).map (C.ren n m)=nsR nm' j r:=by
 unfold nsR
 rw [dL,cU]
 congr 1
 simp only [bU,cM,C.ren]
 rw [h]
theorem nsH_ren {nm':Nat->Nat} (h:∀ j,j<M.length->(if Nat.beq (nm j) n then m else nm j)=nm' j):(nsH nm M).map (List.map (C.ren n m))=nsH nm' M:=by
 refine cN fun j=>?_
 unfold nsH
 rw [bN,bR,bR]
 cases e:M[j]? with
 | none=>rfl
 | some q=>exact congrArg some (nsR_ren (h j (bJ.1 e).1))
theorem nsH_upd {q:Nat} {x:List D × List (List D)} (hx:M[i]?=some x) (r':List (List D)):(nsH (nmP i p) M).set i (x.1.map C.d++[C.own q r'.length])=nsH (nmP i q) (M.set i (x.1,r')):=by
 refine cN fun j=>?_
 have hlt:=(bJ.1 hx).1
 by_cases e:i=j
 ·subst e
  rw [cL (by rw [nsH_len];exact hlt),zfd (cL hlt)]
  unfold nsR;rw [zc3]
 ·rw [cD e]
  unfold nsH
  rw [bR,bR,cD e]
  cases M[j]? with
  | none=>rfl
  | some y=>simp only [bS];unfold nsR;rw [zcd (fun h=>e h.symm),zcd (fun h=>e h.symm)]
theorem nsH_app {pre:List D} {r:List (List D)}:nsH nm0 M++[pre.map C.d++[C.own p r.length]]=nsH (nmP M.length p) (M++[(pre,r)]):=by
 unfold nsH
 rw [List.mapIdx_append]
 congr 1
 ·refine cN fun j=>?_
  rw [bR,bR]
  cases e:M[j]? with
  | none=>rfl
  | some y=>simp only [bS];unfold nsR;rw [zcd (by have:=(bJ.1 e).1;omega)];rfl
 ·simp only [dM,List.mapIdx_nil,dN];unfold nsR;rw [zc3]
theorem zfc (h:nm i=i+1000):nsN hty ty wd es hd nm M (i+1000)=(M[i]?).map fun r=>L.row ty es r.2:=by
 unfold nsN;rw [if_neg (by omega),if_pos (by rw [cR];exact ⟨by omega,h⟩),cR]
theorem zbe {l:L} (h:nsN hty ty wd es hd nm M n=some l):(n=999/\hd.map (L.rowc hty wd)=some l)\/∃ i r,n=i+1000/\nm i=i+1000/\M[i]?=some r/\l = .row ty es r.2:=by
 unfold nsN at h
 split at h
 ·rename_i e;exact .inl ⟨e,h⟩
 ·split at h
  ·rename_i e
   obtain ⟨r,h1,rfl⟩:=b8.1 h
   exact .inr ⟨n - 1000,r,by omega,by rw [e.2];omega,h1,rfl⟩
  ·cases h
theorem nsN_low (h:n<999):nsN hty ty wd es hd nm M n=none:=by
 unfold nsN;rw [if_neg (by omega),if_neg (by omega)]
theorem nsN_no:nsN hty ty wd es none nm M 999=none:=by unfold nsN;rw [if_pos rfl];rfl
theorem zdl (nm:Nat->Nat) (M:zgq):Tl (nsN hty ty wd es none nm M) lo10 :=
  ⟨fun n hn=>by
    have hn:n<1000:=by simpa [lo10,bX] using hn
    by_cases e:n=999
    · subst e;exact nsN_no
    · exact nsN_low (by omega),
   fun n l hl k hk=>by
    rcases zbe hl with ⟨_,h3⟩ | ⟨_,_,_,_,_,rfl⟩
    · cases h3
    · cases hk⟩
theorem zap (M:zgq):Tl (nsT hty ty wd es M) lo9 :=
  ⟨fun n hn=>nsN_low (zd3 hn),
   fun n l hl k hk=>by
    rcases zbe hl with ⟨_,h3⟩ | ⟨_,_,_,_,_,rfl⟩
    · have h3:=Option.some.inj h3
      subst h3
      obtain ⟨j,_,rfl⟩:=nsH_mem hk
      cases e:lo9 (nm0 j) with
      | true=>have:=zd3 e;unfold nm0 at this;omega
      | false=>rfl
    · cases hk⟩
variable {w0:World} {H0:Im} {B0:Bl} {K:List Nat} {N:Nat} {a:Act} {w:World} {sl:List (Nat × V)} {lc:List (Nat × L)} {M:zgq}
theorem newB_nil (hK:n ∉ K) (h:New [] f n):New K f n:=⟨hK,h.2.1,h.2.2.1,h.2.2.2⟩
theorem ns_new0 (hK:n ∉ K) (hn:lo9 n=true) (h:zhn [] sl lc n=true):New K (F.oft sl lc (nsT hty ty wd es M)) n :=
 newB_nil hK (newT_spec (zap M) (by unfold newT;rw [hn,h];rfl))
theorem ns_open (i p:Nat) (hr:M[i]?=some q) (hp:lo9 p=true) (hK:p ∉ K) (h:St ⟨w0,H0,B0,K,N⟩ (F.oft sl lc (nsT hty ty wd es M)) a w) (hnew:zhn [] sl lc p=true) (hS:lowS9 sl=true) (hL:lowM lc=true) :
  St ⟨w0,H0,B0,K,N⟩ (F.oft sl ((999,.rowc hty wd (nsH (nmP i p) M)) :: (p,.row ty es q.2) :: lc) (nsN hty ty wd es none (nmP i p) M)) a w:=by
 have hp9:=zd3 hp
 obtain ⟨_,hw2,hw3,hw4⟩:=zb9 hnew
 have hw2:lc.lookup p=none:=hw2
 have hne:=ns_new0 (hty:=hty) (ty:=ty) (wd:=wd) (es:=es) (M:=M) hK hp hnew
 refine (h.ren (i+1000) p hne).weaken ⟨fun t v hv=>?_,fun n l hn=>?_⟩
 ·have hv:sl.lookup t=some v:=hv
  show (sl.lookup t).map (V.ren (i+1000) p)=some v
  rw [hv]
  exact congrArg some (V.ren_id fun hk=>by have:=zhp hS hv hk;omega)
 ·simp only [F.ren]
  rcases zaz hn with h1 | ⟨h1,h2⟩
  ·rw [bC] at h1
   cases e:(n == 999) with
   | true =>
    rw [e] at h1
    have e:n=999:=by simpa using e
    subst e
    have h1:=Option.some.inj h1
    rw [zck (show 999≠p by omega),if_neg (by simp),zck (show 999≠i+1000 by omega),if_neg (by simp)]
    rw [zba (zaw hL (bK _)),<- h1]
    show Option.map _ (some (L.rowc hty wd (nsH nm0 M)))=_
    simp only [bS,L.ren]
    rw [nsH_ren (nm':=nmP i p) fun j _=>?_]
    by_cases ej:j=i
    ·subst ej;rw [zc3];unfold nm0;rw [bL,if_pos rfl]
    ·rw [zcd ej];unfold nm0;rw [zck (show j+1000≠i+1000 by omega),if_neg (by simp)]
   | false =>
    rw [e] at h1
    have h1:((p,L.row ty es q.2) :: lc).lookup n=some l:=h1
    cases e2:(n == p) with
    | true =>
     have e2:n=p:=by simpa using e2
     subst e2
     rw [bC,show (n == n)=true by simp] at h1
     have h1:=Option.some.inj h1
     rw [bL,if_pos rfl,zba (zaw hL (by omega))]
     show Option.map _ (nsN hty ty wd es _ nm0 M _)=_
     rw [zfc (nm:=nm0) rfl,hr,<- h1];rfl
    | false =>
     rw [bC,e2] at h1
     have h1:lc.lookup n=some l:=h1
     have e2:n≠p:=by simpa using e2
     obtain ⟨q1,q2⟩:=zcw hL h1
     rw [zck e2,zck (show n≠i+1000 by omega),if_neg (by simp),if_neg (by simp),zbn h1]
     exact congrArg some (L.ren_id fun hk=>by have:=q2 _ hk;omega)
  ·rcases zbe h2 with ⟨_,h3⟩ | ⟨j,r2,rfl,h3,h4,rfl⟩
   ·cases h3
   ·have hji:j≠i:=fun e=>by subst e;rw [zc3] at h3;omega
    rw [zck (show j+1000≠p by omega),zck (show j+1000≠i+1000 by omega),if_neg (by simp),if_neg (by simp),zba (zaw hL (by omega))]
    show Option.map _ (nsN hty ty wd es _ nm0 M _)=_
    rw [zfc (nm:=nm0) rfl,h4];rfl
theorem ns_show (h:St ⟨w0,H0,B0,K,N⟩ (F.oft sl lc (nsT hty ty wd es M)) a w) (hL:lowM lc=true):St ⟨w0,H0,B0,K,N⟩ (F.oft sl ((999,.rowc hty wd (nsH nm0 M)) :: lc) (nsN hty ty wd es none nm0 M)) a w :=
 h.weaken ⟨fun _ _ hv=>hv,fun n l hn=>by
  rcases zaz hn with h1 | ⟨h1,h2⟩
  ·rw [bC] at h1
   cases e:(n == 999) with
   | true =>
    rw [e] at h1
    have e:n=999:=by simpa using e
    subst e
    rw [zba (zaw hL (bK _))]
    exact h1
   | false=>rw [e] at h1;exact zbn h1
  ·rcases zbe h2 with ⟨_,h3⟩ | ⟨i,r,rfl,h3,h4,rfl⟩
   ·cases h3
   ·rw [zba (zaw hL (by omega))]
    show nsN hty ty wd es _ nm0 M _=_
    rw [zfc (nm:=nm0) rfl,h4];rfl⟩
theorem lk3 {A B:L} (h1:n≠x) (h2:n≠p):((x,A) :: (p,B) :: lc).lookup n=lc.lookup n:=by
 rw [bC,show (n == x)=false by simpa using h1]
 show ((p,B) :: lc).lookup n=_
 rw [bC,show (n == p)=false by simpa using h2]
theorem ns_new {r:List (List D)} {A:List (List C)} (hA:∀ n ∈ A.flatten.flatMap C.tags,n=p\/1000<=n) (hK:n ∉ K) (hn:lo9 n=true) (hx:n≠x) (hp:n≠p) (h:zhn [] sl lc n=true) :
  New K (F.oft sl ((x,.rowc hty wd A) :: (p,.row ty es r) :: lc) (nsN hty ty wd es none (nmP i p) M)) n:=by
 have hn9:=zd3 hn
 obtain ⟨_,hw2,hw3,hw4⟩:=zb9 h
 have hw2:lc.lookup n=none:=hw2
 refine ⟨hK,?_,hw3,fun m l hm hk=>?_⟩
 ·rw [zba (by rw [lk3 hx hp];exact hw2)];exact nsN_low hn9
 ·rcases zaz hm with h1 | ⟨_,h2⟩
  ·by_cases e:m=x
   ·subst e
    rw [bC,show (m == m)=true by simp] at h1
    have h1:=Option.some.inj h1
    rw [<- h1] at hk
    rcases hA n hk with h' | h'
    ·exact hp h'
    ·omega
   ·by_cases e3:m=p
    ·subst e3
     rw [bC,show (m == x)=false by simpa using e] at h1
     have h1:((m,L.row ty es r) :: lc).lookup m=some l:=h1
     rw [bC,show (m == m)=true by simp] at h1
     have h1:=Option.some.inj h1
     rw [<- h1] at hk;cases hk
    ·rw [lk3 e e3] at h1;exact hw4 m l h1 hk
  ·rcases zbe h2 with ⟨_,h3⟩ | ⟨_,r2,_,_,_,rfl⟩
   ·cases h3
   ·cases hk
theorem zf1:∀ n ∈ (nsH (nmP i p) M).flatten.flatMap C.tags,n=p\/1000<=n:=fun n hn=>by
 obtain ⟨j,_,rfl⟩:=nsH_mem hn
 by_cases e:j=i
 ·subst e;left;rw [zc3]
 ·right;rw [zcd e];omega
theorem ns_shut (i p:Nat) (hr:M[i]?=some q) (hp:lo9 p=true) (hK:(i+1000) ∉ K) (h:St ⟨w0,H0,B0,K,N⟩ (F.oft sl ((999,.rowc hty wd (nsH (nmP i p) M)) :: (p,.row ty es q.2) :: lc) (nsN hty ty wd es none (nmP i p) M)) a w) (hnew:zhn [] sl lc p=true) (hS:lowS9 sl=true) (hL:lowM lc=true) :
  St ⟨w0,H0,B0,K,N⟩ (F.oft sl lc (nsT hty ty wd es M)) a w:=by
 have hp9:=zd3 hp
 obtain ⟨_,hw2,hw3,hw4⟩:=zb9 hnew
 have hw2:lc.lookup p=none:=hw2
 have hne:New K (F.oft sl ((999,.rowc hty wd (nsH (nmP i p) M)) :: (p,.row ty es q.2) :: lc) (nsN hty ty wd es none (nmP i p) M)) (i+1000):=by
  refine ⟨hK,?_,fun t v hv hk=>?_,fun m l hm hk=>?_⟩
  ·rw [zba (by rw [lk3 (by omega) (by omega)];exact zaw hL (by omega))]
   unfold nsN
   rw [if_neg (by omega),if_neg (by rw [cR,zc3];omega)]
  ·have:=zhp hS hv hk;omega
  ·rcases zaz hm with h1 | ⟨_,h2⟩
   ·by_cases e:m=999
    ·subst e
     rw [bC] at h1
     have h1:=Option.some.inj h1
     rw [<- h1] at hk
     obtain ⟨j,_,e2⟩:=nsH_mem hk
     by_cases ej:j=i
     ·subst ej;rw [zc3] at e2;omega
     ·rw [zcd ej] at e2;omega
    ·by_cases e3:m=p
     ·subst e3
      rw [bC,show (m == 999)=false by simpa using e] at h1
      have h1:((m,L.row ty es q.2) :: lc).lookup m=some l:=h1
      rw [bC,show (m == m)=true by simp] at h1
      have h1:=Option.some.inj h1
      rw [<- h1] at hk;cases hk
     ·rw [lk3 e e3] at h1
      have:=(zcw hL h1).2 _ hk;omega
   ·rcases zbe h2 with ⟨_,h3⟩ | ⟨_,r2,_,_,_,rfl⟩
    ·cases h3
    ·cases hk
 refine (h.ren p (i+1000) hne).weaken ⟨fun t v hv=>?_,fun n l hn=>?_⟩
 ·have hv:sl.lookup t=some v:=hv
  show (sl.lookup t).map (V.ren p (i+1000))=some v
  rw [hv]
  exact congrArg some (V.ren_id fun hk=>hw3 t v hv hk)
 ·simp only [F.ren]
  rcases zaz hn with h1 | ⟨h1,h2⟩
  ·obtain ⟨q1,q2⟩:=zcw hL h1
   have e2:n≠p:=fun e=>by rw [e,hw2] at h1;cases h1
   rw [zck (show n≠i+1000 by omega),zck e2,if_neg (by simp),if_neg (by simp),zbn (l:=l) (by rw [lk3 (by omega) e2];exact h1)]
   exact congrArg some (L.ren_id fun hk=>hw4 n l h1 hk)
  ·rcases zbe h2 with ⟨rfl,h3⟩ | ⟨j,r2,rfl,h3,h4,rfl⟩
   ·have h3:=Option.some.inj h3
    rw [zck (show 999≠i+1000 by omega),if_neg (by simp),zck (show 999≠p by omega),if_neg (by simp)]
    rw [zbn (l:=.rowc hty wd (nsH (nmP i p) M)) (by rw [bC];rfl),<- h3]
    simp only [bS,L.ren]
    rw [nsH_ren (nm':=nm0) fun j _=>?_]
    by_cases ej:j=i
    ·subst ej;rw [zc3,bL,if_pos rfl];rfl
    ·rw [zcd ej,zck (show j+1000≠p by omega),if_neg (by simp)];rfl
   ·by_cases ej:j=i
    ·subst ej
     rw [hr] at h4
     have h4:=Option.some.inj h4
     subst h4
     rw [bL,if_pos rfl,zbn (l:=.row ty es q.2) (by rw [bC,show (p == 999)=false by simp;omega];show ((p,L.row ty es q.2) :: lc).lookup p=_;rw [bC,show (p == p)=true by simp])];rfl
    ·rw [zck (show j+1000≠i+1000 by omega),zck (show j+1000≠p by omega),if_neg (by simp),if_neg (by simp),zba (by rw [lk3 (by omega) (by omega)];exact zaw hL (by omega)),zfc (zcd ej),h4];rfl
theorem ns_head (n m:Nat) {r:List (List D)} (hn:lo10 n=true) (hm:lo10 m=true) (hnm:n≠m) (hnp:n≠p) (hmp:m≠p) (hK:m ∉ K) (h:St ⟨w0,H0,B0,K,N⟩ (F.oft sl ((n,.rowc hty wd (nsH (nmP i p) M)) :: (p,.row ty es r) :: lc) (nsN hty ty wd es none (nmP i p) M)) a w)
  (hnew:zhn [] sl lc m=true) (hln:lc.lookup n=none) (sl':List (Nat × V)) (lc':List (Nat × L)) (hsl:sl.map (fun q=>(q.1,q.2.ren n m))=sl') (hlc:lc.map (fun q=>(q.1,q.2.ren n m))=lc') (hL:lowM lc=true) :
  St ⟨w0,H0,B0,K,N⟩ (F.oft sl' ((m,.rowc hty wd (nsH (nmP i p) M)) :: (p,.row ty es r) :: lc') (nsN hty ty wd es none (nmP i p) M)) a w:=by
 have hn9:n<1000:=by simpa [lo10,bX] using hn
 have hm9:m<1000:=by simpa [lo10,bX] using hm
 obtain ⟨_,hw2,hw3,hw4⟩:=zb9 hnew
 have hw2:lc.lookup m=none:=hw2
 have hne:New K (F.oft sl ((n,.rowc hty wd (nsH (nmP i p) M)) :: (p,.row ty es r) :: lc) (nsN hty ty wd es none (nmP i p) M)) m:=by
  refine ⟨hK,?_,hw3,fun k l hk hk2=>?_⟩
  ·rw [zba (by rw [lk3 (fun e=>hnm e.symm) hmp];exact hw2)];exact (zdl _ _).z m hm
  ·rcases zaz hk with h1 | ⟨_,h2⟩
   ·by_cases e:k=n
    ·subst e
     rw [bC,show (k == k)=true by simp] at h1
     have h1:=Option.some.inj h1
     rw [<- h1] at hk2
     rcases zf1 m hk2 with h' | h'
     ·exact hmp h'
     ·omega
    ·by_cases e3:k=p
     ·subst e3
      rw [bC,show (k == n)=false by simpa using e] at h1
      have h1:((k,L.row ty es r) :: lc).lookup k=some l:=h1
      rw [bC,show (k == k)=true by simp] at h1
      have h1:=Option.some.inj h1
      rw [<- h1] at hk2;cases hk2
     ·rw [lk3 e e3] at h1;exact hw4 k l h1 hk2
   ·rcases zbe h2 with ⟨_,h3⟩ | ⟨_,r2,_,_,_,rfl⟩
    ·cases h3
    ·cases hk2
 refine (h.ren n m hne).weaken ⟨fun t v hv=>?_,fun k l hk=>?_⟩
 ·have hv:sl'.lookup t=some v:=hv
  show (sl.lookup t).map (V.ren n m)=some v
  rw [<- hsl] at hv
  exact lk_map _ _ _ _ hv
 ·simp only [F.ren]
  rcases zaz hk with h1 | ⟨h1,h2⟩
  ·by_cases e:k=m
   ·subst e
    rw [bC,show (k == k)=true by simp] at h1
    have h1:=Option.some.inj h1
    rw [bL,if_pos rfl,zbn (l:=.rowc hty wd (nsH (nmP i p) M)) (by rw [bC,show (n == n)=true by simp]),<- h1]
    simp only [bS,L.ren]
    rw [nsH_ren (nm':=nmP i p) fun j _=>?_]
    by_cases ej:j=i
    ·subst ej;rw [zc3,zck (fun e=>hnp e.symm),if_neg (by simp)]
    ·rw [zcd ej,zck (show j+1000≠n by omega),if_neg (by simp)]
   ·rw [zck e,if_neg (by simp)]
    by_cases e3:k=p
    ·subst e3
     rw [bC,show (k == m)=false by simpa using e] at h1
     have h1:((k,L.row ty es r) :: lc').lookup k=some l:=h1
     rw [bC,show (k == k)=true by simp] at h1
     have h1:=Option.some.inj h1
     rw [zck (fun e=>hnp e.symm),if_neg (by simp),zbn (l:=.row ty es r) (by rw [bC,show (k == n)=false by simpa using fun e=>hnp e.symm];show ((k,L.row ty es r) :: lc).lookup k=_;rw [bC,show (k == k)=true by simp]),<- h1];rfl
    ·rw [lk3 e e3,<- hlc] at h1
     have h1:=lk_map (L.ren n m) k l lc h1
     have e4:k≠n:=fun e=>by rw [e,hln] at h1;cases h1
     obtain ⟨l0,h5,h6⟩:=b8.1 h1
     rw [zck e4,if_neg (by simp),zbn (l:=l0) (by rw [lk3 e4 e3];exact h5),<- h6];rfl
  ·rcases zbe h2 with ⟨_,h3⟩ | ⟨j,r2,rfl,h3,h4,rfl⟩
   ·cases h3
   ·have hjp:j+1000≠p:=fun e=>by
     rw [<- e,bC,show (j+1000 == m)=false from beq_eq_false_iff_ne.2 (by omega)] at h1
     have h1:((j+1000,L.row ty es r) :: lc').lookup (j+1000)=none:=h1
     rw [bC,show (j+1000 == j+1000)=true by simp] at h1
     cases h1
    rw [zck (show j+1000≠m by omega),zck (show j+1000≠n by omega),if_neg (by simp),if_neg (by simp),zba (by rw [lk3 (by omega) hjp];exact zaw hL (by omega)),zfc h3,h4];rfl
def nsHP (es k:Nat) (M:zgq):List (List C):=M.mapIdx fun j r=>r.1.map C.d++[if j<k then C.d (.sl es r.2) else C.own (j+1000) r.2.length]
def nsP (hty ty:TypeId) (wd es k:Nat) (M:zgq):Nat->Option L:=fun x=>if x=999 then some (.rowc hty wd (nsHP es k M)) else if k+1000<=x then (M[x - 1000]?).map (fun r=>L.row ty es r.2) else none
theorem nsP_some {l:L} (h:nsP hty ty wd es k M n=some l):(n=999/\l = .rowc hty wd (nsHP es k M))\/∃ i r,n=i+1000/\k<=i/\M[i]?=some r/\l = .row ty es r.2:=by
 unfold nsP at h
 split at h
 ·rename_i e;have h:=Option.some.inj h;exact .inl ⟨e,h.symm⟩
 ·split at h
  ·obtain ⟨r,h1,rfl⟩:=b8.1 h
   exact .inr ⟨n - 1000,r,by omega,by omega,h1,rfl⟩
  ·cases h
theorem nsP_at (h:k<=i):nsP hty ty wd es k M (i+1000)=(M[i]?).map fun r=>L.row ty es r.2:=by
 unfold nsP;rw [if_neg (by omega),if_pos (by omega),cR]
theorem nsHP_at (h:M[j]?=some q):(nsHP es k M)[j]?=some (q.1.map C.d++[if j<k then C.d (.sl es q.2) else C.own (j+1000) q.2.length]):=by
 unfold nsHP;rw [bR,h];rfl
theorem ns_pub1 (k:Nat) (hk:k<M.length) (hKL:(K.all fun x=>(lc.lookup x).isSome)=true) (h:St ⟨w0,H0,B0,K,N⟩ (F.oft sl lc (nsP hty ty wd es k M)) a w) (hL:lowM lc=true) (hS:lowS9 sl=true):St ⟨w0,H0,B0,K,N⟩ (F.oft sl lc (nsP hty ty wd es (k+1) M)) a w:=by
 have hr:M[k]?=some M[k]:=bO hk
 have hsl:∀ t v,sl.lookup t=some v->(k+1000) ∉ v.tags:=fun t v hv hm=>by have:=zhp hS hv hm;omega
 have hlc:∀ m l,lc.lookup m=some l->(k+1000) ∉ l.tags:=fun m l hm hk2=>by have:=(zcw hL hm).2 _ hk2;omega
 refine (h.pubK (k+1000) es ty M[k].2 (by rw [zba (zaw hL (by omega)),nsP_at (bK _),hr];rfl) (fun x hx=>?_) (fun t v hv k' hk'=>absurd (V.owns_tags hk') (hsl t v hv)) (fun m l hm k' hk'=>?_)).weaken ⟨fun t v hv=>?_,fun n l hn=>?_⟩
 ·obtain ⟨l,hl⟩:=Option.isSome_iff_exists.1 (bM.1 hKL x hx)
  exact ⟨by have:=(zcw hL hl).1;omega,l,zbn hl⟩
 ·rcases zaz hm with h1 | ⟨h1,h2⟩
  ·exact absurd (L.owns_tags hk') (hlc m l h1)
  ·rcases nsP_some h2 with ⟨_,rfl⟩ | ⟨i,r,_,_,_,rfl⟩
   ·simp only [L.owns,cG] at hk'
    obtain ⟨c,hc,hk'⟩:=hk'
    obtain ⟨r,hr2,hc⟩:=dB.1 hc
    obtain ⟨j,hj⟩:=cF.1 hr2
    cases e:M[j]? with
    | none =>
     have:=(bJ.1 hj).1
     unfold nsHP at this
     rw [cY] at this
     rw [bO this] at e;cases e
    | some q =>
     rw [nsHP_at e] at hj
     have hj:=Option.some.inj hj
     rw [<- hj,cC] at hc
     rcases hc with hc | hc
     ·obtain ⟨d,_,rfl⟩:=bG.1 hc;cases hk'
     ·rw [bT.1 hc] at hk'
      split at hk'
      ·cases hk'
      ·simp only [C.owns] at hk'
       split at hk'
       ·rename_i e3
        have e3:=dV e3
        have:j=k:=by omega
        subst this
        rw [hr] at e;have e:=Option.some.inj e
        rw [bT.1 hk', e]
       ·cases hk'
   ·cases hk'
 ·have hv:sl.lookup t=some v:=hv
  show (sl.lookup t).map (V.pub (k+1000) es M[k].2)=some v
  rw [hv]
  exact congrArg some (V.pub_id (hsl t v hv))
 ·simp only [F.pub]
  rcases zaz hn with h1 | ⟨h1,h2⟩
  ·have:=(zcw hL h1).1
   rw [zck (show n≠k+1000 by omega),if_neg (by simp),zbn h1]
   exact congrArg some (L.pub_id (hlc n l h1))
  ·rcases nsP_some h2 with ⟨rfl,rfl⟩ | ⟨i,r,rfl,h3,h4,rfl⟩
   ·rw [zck (show 999≠k+1000 by omega),if_neg (by simp),zba h1]
    show some (L.rowc hty wd ((nsHP es k M).map (List.map (C.pub (k+1000) es M[k].2))))=_
    refine congrArg (fun z=>some (L.rowc hty wd z)) (cN fun j=>?_)
    rw [bN]
    cases e:M[j]? with
    | none =>
     have e':M.length<=j:=dW.1 e
     rw [cO (by unfold nsHP;rw [cY];exact e'),cO (by unfold nsHP;rw [cY];exact e')];rfl
    | some q =>
     rw [nsHP_at e,nsHP_at e]
     simp only [bS,dL,cU,bU,cM]
     congr 2
     by_cases h5:j<k
     ·rw [if_pos h5,if_pos (show j<k+1 by omega)];rfl
     ·by_cases h6:j=k
      ·subst h6
       rw [hr] at e;have e:=Option.some.inj e
       rw [if_neg (by omega),if_pos (by omega)]
       simp only [C.pub]
       rw [bL,if_pos rfl,e]
      ·rw [if_neg h5,if_neg (show ¬ j<k+1 by omega)]
       simp only [C.pub]
       rw [zck (show j+1000≠k+1000 by omega)];rfl
   ·rw [zck (show i+1000≠k+1000 by omega),if_neg (by simp),zba h1,nsP_at (show k<=i by omega),h4];rfl
theorem ns_pubs (hKL:(K.all fun x=>(lc.lookup x).isSome)=true) (hL:lowM lc=true) (hS:lowS9 sl=true) (h:St ⟨w0,H0,B0,K,N⟩ (F.oft sl lc (nsP hty ty wd es 0 M)) a w):∀ k,k<=M.length->St ⟨w0,H0,B0,K,N⟩ (F.oft sl lc (nsP hty ty wd es k M)) a w
 | 0,_=>h
 | k+1,hk=>ns_pub1 k (by omega) hKL (ns_pubs hKL hL hS h k (by omega)) hL hS
theorem ns_pub (h:St ⟨w0,H0,B0,K,N⟩ (F.oft sl lc (nsT hty ty wd es M)) a w) (hKL:(K.all fun x=>(lc.lookup x).isSome)=true) (hL:lowM lc=true) (hS:lowS9 sl=true):St ⟨w0,H0,B0,K,N⟩ (F.of sl ((999,.row hty wd (M.map fun r=>r.1++[D.sl es r.2])) :: lc)) a w:=by
 have e0:nsT hty ty wd es M=nsP hty ty wd es 0 M:=by
  funext x
  unfold nsT nsN nsP
  by_cases h1:x=999
  ·rw [if_pos h1,if_pos h1];rfl
  ·rw [if_neg h1,if_neg h1]
   by_cases h2:1000<=x
   ·rw [if_pos ⟨h2,by unfold nm0;omega⟩,if_pos (show 0+1000<=x by omega)]
   ·rw [if_neg (fun h=>h2 h.1),if_neg (show ¬ 0+1000<=x by omega)]
 rw [e0] at h
 obtain ⟨H,B,hok⟩:=ns_pubs hKL hL hS h M.length (bK _)
 have hat:(F.oft sl lc (nsP hty ty wd es M.length M)).l 999=some (.rowc hty wd ((M.map fun r=>r.1++[D.sl es r.2]).map (List.map C.d))):=by
  rw [zba (zaw hL (bK _))]
  show some (L.rowc hty wd (nsHP es M.length M))=_
  refine congrArg (fun z=>some (L.rowc hty wd z)) (cN fun j=>?_)
  rw [bN,bN]
  cases e:M[j]? with
  | none =>
   have e':M.length<=j:=dW.1 e
   rw [cO (by unfold nsHP;rw [cY];exact e')];rfl
  | some q=>rw [nsHP_at e,if_pos (bJ.1 e).1];simp only [bS,dL,bU,cM]
 have h2:St ⟨w0,H0,B0,K,N⟩ ((F.oft sl lc (nsP hty ty wd es M.length M)).setL 999 (.row hty wd (M.map fun r=>r.1++[D.sl es r.2]))) a w:=⟨H,B,hok.setL 999 _ _ hat fun h3=>by
  simp only [LR] at h3 ⊢
  cases hB:B 999 with
  | none=>rw [hB] at h3;simpa using h3
  | some q =>
   rw [hB] at h3
   obtain ⟨arr,g1,g2,g3,g4,g5,g6⟩:=h3
   rw [bA] at g3 g6
   refine ⟨arr,g1,g2,g3,g4,fun r hr=>?_,?_⟩
   ·have:=g5 _ (bG.2 ⟨r,hr,rfl⟩)
    rwa [bA] at this
   ·rw [<- List.map_flatten] at g6
    refine zat.iff.2 ⟨by have:=g6.length;rw [bA] at this;exact this,fun j x u hx hu=>?_⟩
    exact (zat.iff.1 g6).2 j (.d x) u (by rw [bN,hx];rfl) hu⟩
 refine h2.weaken ⟨fun t v hv=>hv,fun n l hn=>?_⟩
 simp only [F.setL]
 have hn:((999,L.row hty wd (M.map fun r=>r.1++[D.sl es r.2])) :: lc).lookup n=some l:=hn
 by_cases e:n=999
 ·subst e
  rw [bL,if_pos rfl]
  rw [bC] at hn
  exact hn
 ·rw [bC,show (n == 999)=false by simpa using e] at hn
  rw [zck e,if_neg (by simp)]
  exact zbn hn
theorem ns_begin (X:List (List D)) (h:St ⟨w0,H0,B0,K,N⟩ (F.of sl ((999,.row hty wd (X.map fun p=>p++[.raw za6])) :: lc)) a w) (hK:K.all lo10=true) (hL:lowM lc=true) (hS:lowS9 sl=true) :
  St ⟨w0,H0,B0,K,N⟩ (F.oft sl lc (nsT hty ty wd es (X.map fun p=>(p,[])))) a w:=by
 obtain ⟨H,B,hok⟩:=h
 have hB':∀ m,m<1000->(fun m=>if 1000<=m then none else B m) m=B m:=fun m hm=>by simp;omega
 have hin:∀ {n:Nat} {l:L}, lc.lookup n=some l->(F.of sl ((999,.row hty wd (X.map fun p=>p++[.raw za6])) :: lc)).l n=some l:=fun {n l} h1=>by
  show List.lookup n _=_
  rw [bC,show (n == 999)=false by have:=(zcw hL h1).1;simp;omega];exact h1
 have h99:(F.of sl ((999,.row hty wd (X.map fun p=>p++[.raw za6])) :: lc)).l 999=some (.row hty wd (X.map fun p=>p++[.raw za6])):=by show List.lookup 999 _=_;rw [bC];rfl
 refine ⟨H,fun m=>if 1000<=m then none else B m,hok.df,hok.n,hok.ext,hok.sat,fun t v hv=>?_,fun n l hn=>?_,fun n l b c hn hb=>?_,fun n m l l' b c c' hn hm hb hb2=>?_,hok.low,hok.le,fun n hn=>?_,hok.tab⟩
 ·exact VR.mono (Le.refl _) (fun n hn=>hB' n (zhp hS (show sl.lookup t=some v from hv) hn)) (hok.slot t v hv)
 ·rcases zaz hn with h1 | ⟨h1,h2⟩
  ·obtain ⟨q1,q2⟩:=zcw hL h1
   exact LR.mono (Le.refl _) (hB' n (by omega)) (fun k hk=>hB' k (q2 k hk)) (fun _ _ _=>rfl) (hok.loc n l (hin h1))
  ·rcases zbe h2 with ⟨rfl,h3⟩ | ⟨i,r,rfl,_,h4,rfl⟩
   ·have h3:=Option.some.inj h3
    subst h3
    have h5:=hok.loc 999 _ h99
    simp only [LR] at h5 ⊢
    rw [if_neg (show ¬ 1000<=999 by decide)]
    cases hB:B 999 with
    | none =>
     rw [hB] at h5
     have:X=[]:=by simpa using h5
     subst this;rfl
    | some q =>
     rw [hB] at h5
     obtain ⟨arr,g1,g2,g3,g4,g5,g6⟩:=h5
     rw [bA] at g3
     have hlen:(nsH nm0 (X.map fun p=>(p,([]:List (List D))))).length=X.length:=by rw [nsH_len,bA]
     have hes:∀ r ∈ nsH nm0 (X.map fun p=>(p,([]:List (List D)))),r.length=wd:=fun r hr=>by
      obtain ⟨j,hj⟩:=cF.1 hr
      have hjl:=(bJ.1 hj).1
      rw [hlen] at hjl
      rw [zfd (r:=(X[j],[])) (by rw [bN,bO hjl];rfl)] at hj
      have hj:=Option.some.inj hj
      have:=g5 (X[j]++[.raw za6]) (bG.2 ⟨X[j],List.getElem_mem hjl,rfl⟩)
      rw [<- hj];unfold nsR;simp at this ⊢;exact this
     refine ⟨arr,g1,g2,by rw [hlen];exact g3,g4,hes,?_⟩
     rw [hlen]
     have g7:=(zbc g2 (by rw [bA];exact g3) g5).1 g6
     rw [<- hlen]
     refine (zbc g2 (by rw [hlen];exact g3) hes).2 fun i r hri f x hx=>?_
     have hil:=(bJ.1 hri).1
     rw [hlen] at hil
     rw [zfd (r:=(X[i],[])) (by rw [bN,bO hil];rfl)] at hri
     have hri:=Option.some.inj hri
     have hX:(X.map fun p=>p++[D.raw za6])[i]?=some (X[i]++[.raw za6]):=by rw [bN,bO hil];rfl
     rw [<- hri] at hx
     unfold nsR at hx
     by_cases hf:f<X[i].length
     ·rw [dO (by rw [bA];exact hf),bN,bO hf] at hx
      obtain ⟨u,k1,k2⟩:=g7 i _ hX f _ (by rw [dO hf];exact bO hf)
      have hx:=Option.some.inj hx
      subst hx
      exact ⟨u,k1,k2⟩
     ·have hf2:f=X[i].length:=by
       have:=(bJ.1 hx).1
       rw [bB,bA] at this;simp at this;omega
      subst hf2
      rw [dP (by rw [bA];exact bK _),bA,cT] at hx
      have hx:C.own (nm0 i) 0=x:=by simpa using hx
      subst hx
      obtain ⟨u,k1,k2⟩:=g7 i _ hX X[i].length (.raw za6) (by rw [dP (bK _),cT];rfl)
      refine ⟨u,k1,?_⟩
      cases k2
      simp only [CR]
      unfold nm0
      rw [if_pos (by omega)]
      exact ⟨trivial,none,rfl⟩
   ·simp only [LR]
    rw [if_pos (by omega)]
    rw [bN] at h4
    cases e:X[i]? with
    | none=>rw [e] at h4;cases h4
    | some p=>rw [e] at h4;have h4:=Option.some.inj h4;rw [<- h4]
 ·rcases zaz hn with h1 | ⟨h1,h2⟩
  ·have hb:(if 1000<=n then none else B n)=some (b,c):=hb
   rw [if_neg (by have:=(zcw hL h1).1;omega)] at hb
   exact hok.priv n l b c (hin h1) hb
  ·rcases zbe h2 with ⟨rfl,_⟩ | ⟨i,r,rfl,_,_,_⟩
   ·exact hok.priv 999 _ b c h99 (by simpa using hb)
   ·have hb:(if 1000<=i+1000 then none else B (i+1000))=some (b,c):=hb
    rw [if_pos (by omega)] at hb;cases hb
 ·have key:∀ {n:Nat} {l:L} {c:Nat}, (F.oft sl lc (nsT hty ty wd es (X.map fun p=>(p,[])))).l n=some l->(if 1000<=n then none else B n)=some (b,c)->(∃ l,(F.of sl ((999,.row hty wd (X.map fun p=>p++[.raw za6])) :: lc)).l n=some l)/\B n=some (b,c):=fun {n l c} hn hb=>by
   rcases zaz hn with h1 | ⟨h1,h2⟩
   ·rw [if_neg (by have:=(zcw hL h1).1;omega)] at hb
    exact ⟨⟨_,hin h1⟩,hb⟩
   ·rcases zbe h2 with ⟨rfl,_⟩ | ⟨i,r,rfl,_,_,_⟩
    ·exact ⟨⟨_,h99⟩,by simpa using hb⟩
    ·rw [if_pos (by omega)] at hb;cases hb
  obtain ⟨⟨x,hx⟩,k1⟩:=key hn hb
  obtain ⟨⟨y,hy⟩,k2⟩:=key hm hb2
  exact hok.inj n m x y b c c' hx hy k1 k2
 ·have:=bM.1 hK n hn
  have h9:n<1000:=by simpa [lo10,bX] using this
  exact (hB' n h9).trans (hok.keep n hn)
theorem nsN_upd {q:Nat} {x:List D × List (List D)} (_hx:M[i]?=some x) (hp:p<999) (hq:q<999) (r':List (List D)):nsN hty ty wd es none (nmP i p) M=nsN hty ty wd es none (nmP i q) (M.set i (x.1,r')):=by
 funext n
 unfold nsN
 by_cases h1:n=999
 ·rw [if_pos h1,if_pos h1]
 ·rw [if_neg h1,if_neg h1]
  by_cases h2:1000<=n
  ·by_cases h3:n - 1000=i
   ·rw [h3,zc3,zc3,if_neg (by omega),if_neg (by omega)]
   ·rw [zcd h3,zcd h3,cD (fun e=>h3 e.symm)]
  ·rw [if_neg (fun h=>h2 h.1),if_neg (fun h=>h2 h.1)]
theorem nsN_app (hp:p<999) (y:List D × List (List D)):nsN hty ty wd es none nm0 M=nsN hty ty wd es none (nmP M.length p) (M++[y]):=by
 funext n
 unfold nsN
 by_cases h1:n=999
 ·rw [if_pos h1,if_pos h1]
 ·rw [if_neg h1,if_neg h1]
  by_cases h2:1000<=n
  ·by_cases h3:n - 1000=M.length
   ·rw [h3,zc3,if_neg (show ¬ (1000<=n/\p=n) by omega),cO (bK _)]
    split <;> rfl
   ·rw [zcd h3]
    by_cases h4:n - 1000<M.length
    ·rw [dO h4];rfl
    ·rw [cO (by omega),cO (by rw [bB,bV];omega)];rfl
  ·rw [if_neg (fun h=>h2 h.1),if_neg (fun h=>h2 h.1)]
theorem lk_ren {n m:Nat}:∀ (l:List (Nat × L)),l.lookup m=none->∀ k,(l.map fun q=>(if Nat.beq q.1 n then m else q.1,q.2.ren n m)).lookup k=if k=m then (l.lookup n).map (L.ren n m) else if k=n then none else (l.lookup k).map (L.ren n m)
 | [],_,k=>by simp
 | (a,x) :: l,h,k=>by
  have ham:a≠m:=fun e=>by rw [e,bC,show (m == m)=true by simp] at h;cases h
  have hl:l.lookup m=none:=by rw [bC,show (m == a)=false by simpa using fun e=>ham e.symm] at h;exact h
  have ih:=lk_ren (n:=n) l hl k
  rw [bU,bC,bC,bC,ih]
  by_cases e:a=n
  ·subst e
   dsimp only
   rw [bL]
   by_cases e2:k=m
   ·subst e2;simp
   ·have e4:(k == m)=false:=by simpa using e2
    by_cases e3:k=a
    ·subst e3;simp [e2,e4]
    ·have e5:(k == a)=false:=by simpa using e3
     simp [e2,e3,e4,e5]
  ·have e6:(n == a)=false:=by simpa using fun h=>e h.symm
   dsimp only
   rw [zck e,e6]
   by_cases e2:k=m
   ·subst e2
    have e7:(k == a)=false:=by simpa using fun h=>ham h.symm
    simp [e7]
   ·by_cases e3:k=n
    ·subst e3;simp [e2,e6]
    ·by_cases e4:k=a
     ·subst e4;simp [e2,e3]
     ·have e7:(k == a)=false:=by simpa using e4
      simp [e2,e3,e7]
theorem ns_ren (n m:Nat) {r:List (List D)} (hn:lo9 n=true) (hm:lo9 m=true) (hnx:n≠x) (hnp:n≠p) (hmx:m≠x) (hmp:m≠p) (hK:m ∉ K) (h:St ⟨w0,H0,B0,K,N⟩ (F.oft sl ((x,.rowc hty wd (nsH (nmP i p) M)) :: (p,.row ty es r) :: lc) (nsN hty ty wd es none (nmP i p) M)) a w)
  (hnew:zhn [] sl lc m=true) (sl':List (Nat × V)) (lc':List (Nat × L)) (hsl:sl.map (fun q=>(q.1,q.2.ren n m))=sl') (hlc:lc.map (fun q=>(if Nat.beq q.1 n then m else q.1,q.2.ren n m))=lc') (hL:lowM lc=true) :
  St ⟨w0,H0,B0,K,N⟩ (F.oft sl' ((x,.rowc hty wd (nsH (nmP i p) M)) :: (p,.row ty es r) :: lc') (nsN hty ty wd es none (nmP i p) M)) a w:=by
 have hn9:=zd3 hn
 have hm9:=zd3 hm
 have hml:lc.lookup m=none:=(zb9 hnew).2.1
 have hne:=ns_new (hty:=hty) (ty:=ty) (wd:=wd) (es:=es) (M:=M) (i:=i) (r:=r) (x:=x) (zf1 (M:=M) (i:=i)) hK hm hmx hmp hnew
 refine (h.ren n m hne).weaken ⟨fun t v hv=>?_,fun k l hk=>?_⟩
 ·have hv:sl'.lookup t=some v:=hv
  show (sl.lookup t).map (V.ren n m)=some v
  rw [<- hsl] at hv
  exact lk_map _ _ _ _ hv
 ·simp only [F.ren]
  rcases zaz hk with h1 | ⟨h1,h2⟩
  ·by_cases e:k=x
   ·subst e
    rw [bC,show (k == k)=true by simp] at h1
    have h1:=Option.some.inj h1
    rw [zck (fun e=>hmx e.symm),zck (fun e=>hnx e.symm),if_neg (by simp),if_neg (by simp),zbn (l:=.rowc hty wd (nsH (nmP i p) M)) (by rw [bC,show (k == k)=true by simp]),<- h1]
    simp only [bS,L.ren]
    rw [nsH_ren (nm':=nmP i p) fun j _=>?_]
    by_cases ej:j=i
    ·subst ej;rw [zc3,zck (fun e=>hnp e.symm),if_neg (by simp)]
    ·rw [zcd ej,zck (show j+1000≠n by omega),if_neg (by simp)]
   ·by_cases e3:k=p
    ·subst e3
     rw [bC,show (k == x)=false by simpa using e] at h1
     have h1:((k,L.row ty es r) :: lc').lookup k=some l:=h1
     rw [bC,show (k == k)=true by simp] at h1
     have h1:=Option.some.inj h1
     rw [zck (fun e=>hmp e.symm),zck (fun e=>hnp e.symm),if_neg (by simp),if_neg (by simp),zbn (l:=.row ty es r) (by rw [bC,show (k == x)=false by simpa using e];show ((k,L.row ty es r) :: lc).lookup k=_;rw [bC,show (k == k)=true by simp]),<- h1];rfl
    ·rw [lk3 e e3,<- hlc,lk_ren lc hml k] at h1
     by_cases e4:k=m
     ·subst e4
      rw [if_pos rfl] at h1
      rw [bL,if_pos rfl]
      obtain ⟨l0,h5,h6⟩:=b8.1 h1
      rw [zbn (l:=l0) (by rw [lk3 hnx hnp];exact h5),<- h6];rfl
     ·rw [if_neg e4] at h1
      by_cases e5:k=n
      ·rw [if_pos e5] at h1;cases h1
      ·rw [if_neg e5] at h1
       obtain ⟨l0,h5,h6⟩:=b8.1 h1
       rw [zck e4,zck e5,if_neg (by simp),if_neg (by simp),zbn (l:=l0) (by rw [lk3 e e3];exact h5),<- h6];rfl
  ·rcases zbe h2 with ⟨_,h3⟩ | ⟨j,r2,rfl,h3,h4,rfl⟩
   ·cases h3
   ·have hjp:j+1000≠p:=fun e9=>by
     by_cases e8:j+1000=x
     ·rw [e8,bC,show (x == x)=true by simp] at h1;cases h1
     ·rw [bC,show (j+1000 == x)=false from beq_eq_false_iff_ne.2 e8] at h1
      have h1:((p,L.row ty es r) :: lc').lookup (j+1000)=none:=h1
      rw [e9,bC,show (p == p)=true by simp] at h1;cases h1
    have hjx:j+1000≠x:=fun e8=>by rw [e8,bC,show (x == x)=true by simp] at h1;cases h1
    rw [zck (show j+1000≠m by omega),zck (show j+1000≠n by omega),if_neg (by simp),if_neg (by simp),zba (by rw [lk3 hjx hjp];exact zaw hL (by omega)),zfc h3,h4];rfl
theorem zdf (K0:List Nat) (hK:∀ n,lo9 n=true->n ∈ K->n ∈ K0) (h:(ns.all fun n=>lo9 n && zhn K0 sl lc n)=true):∀ n ∈ ns,New K (F.oft sl lc (nsT hty ty wd es M)) n:=fun n hn=>by
 have h1:=bM.1 h n hn
 rw [bW] at h1
 have h2:=zb9 h1.2
 exact newB_nil (fun hk=>h2.1 (hK n h1.1 hk)) (newT_spec (zap M) (by unfold newT zhn zcm;have:=h1.2;unfold zhn at this;simp only [bW] at this ⊢;exact ⟨h1.1,⟨rfl,this.1.2⟩,this.2⟩))
theorem zhm (K0:List Nat) (hK:∀ n,lo9 n=true->n ∈ K->n ∈ K0) {r:List (List D)} {A:List (List C)} (hA:∀ n ∈ A.flatten.flatMap C.tags,n=p\/1000<=n) (h:(ns.all fun n=>lo9 n && zhn K0 sl lc n && (!Nat.beq n x && !Nat.beq n p))=true) :
  ∀ n ∈ ns,New K (F.oft sl ((x,.rowc hty wd A) :: (p,.row ty es r) :: lc) (nsN hty ty wd es none (nmP i p) M)) n:=fun n hn=>by
 have h1:=bM.1 h n hn
 simp only [bW,b9] at h1
 have h2:=zb9 h1.1.2
 refine ns_new hA (fun hk=>h2.1 (hK n h1.1.1 hk)) h1.1.1 (fun e=>?_) (fun e=>?_) ?_
 ·rw [e,bL] at h1;exact absurd h1.2.1 (by decide)
 ·rw [e,bL] at h1;exact absurd h1.2.2 (by decide)
 ·have:=h1.1.2;unfold zhn zcm at this ⊢;simp only [bW] at this ⊢;exact ⟨⟨rfl,this.1.2⟩,this.2⟩
theorem ns_newsH (K0:List Nat) (hK:∀ n,lo9 n=true->n ∈ K->n ∈ K0) (h:(ns.all fun n=>lo9 n && zhn K0 sl lc n)=true) :
  ∀ n ∈ ns,New K (F.oft sl ((999,.rowc hty wd (nsH nm0 M)) :: lc) (nsN hty ty wd es none nm0 M)) n:=fun n hn=>by
 have h1:=bM.1 h n hn
 rw [bW] at h1
 have hn9:=zd3 h1.1
 obtain ⟨g1,g2,g3,g4⟩:=zb9 h1.2
 have g2:lc.lookup n=none:=g2
 refine ⟨fun hk=>g1 (hK n h1.1 hk),?_,g3,fun m l hm hk=>?_⟩
 ·rw [zba (by rw [bC,show (n == 999)=false by simp;omega];exact g2)];exact nsN_low hn9
 ·rcases zaz hm with h3 | ⟨_,h3⟩
  ·rw [bC] at h3
   cases e:(m == 999) with
   | true =>
    rw [e] at h3
    have h3:=Option.some.inj h3
    rw [<- h3] at hk
    obtain ⟨j,_,e2⟩:=nsH_mem hk
    unfold nm0 at e2;omega
   | false=>rw [e] at h3;exact g4 m l h3 hk
  ·rcases zbe h3 with ⟨_,h3⟩ | ⟨_,r2,_,_,_,rfl⟩
   ·cases h3
   ·cases hk
end
def chkN (low:Nat->Bool) (draw:Bool) (ops:List Oper) (is:List I) (N:Nat) (K:List Nat) (lc:List (Nat × L)):Bool :=
  zg7 draw ops is && (is.all fun i=>i.ws.all fun p=>Nat.blt p.1 N) && (is.all fun i=>!i.k0 || K.isEmpty) && ((lc.map (·.1)).all low && (is.flatMap fun i=>i.wl.map (·.1)).all low)
section
variable {P:Program} {Q:Exit->Act->World->Prop} {w0:World} {H0:Im} {B0:Bl} {K:List Nat} {N:Nat} {tl:Nat->Option L} {low:Nat->Bool}
theorem regionN {id:Nat} {ops:Array Oper} (hT:Tl tl low) (is:List I) (sl':List (Nat × V)) (lc':List (Nat × L)) (hm:P.follows .mixedOrders=true)
  (hdo:AllDo P ops ops.toList is) (hc:chkN low draw ops.toList is N K lc=true) (hnew:∀ n ∈ is.flatMap (·.nw),New K (F.oft sl lc tl) n) (h1:runS (F.oft sl lc tl) is=wantS is) (h2:runN (F.oft sl lc tl) is=wantN is)
  (h3:leS (zhb (F.oft sl lc tl) is) sl'=sl'.map fun p=>some p.2) (h4:leN (zhb (F.oft sl lc tl) is) lc'=lc'.map fun p=>some p.2)
  (h:St ⟨w0,H0,B0,K,N⟩ (F.oft sl lc tl) a w) (hQ:∀ a w,St ⟨w0,H0,B0,K,N⟩ (F.oft sl' lc' tl) a w->Q .normal a w):(Code.region id ops draw).wp P Q a w:=by
 simp only [chkN,bW] at hc
 obtain ⟨⟨⟨c1,c2⟩,c4⟩,c5,c6⟩:=hc
 have hmem:∀ k,at_ is k ∈ is\/at_ is k={}:=by
  intro k
  unfold at_
  rw [List.getD_eq_getElem?_getD]
  cases hk:is[k]? with
  | none=>exact .inr rfl
  | some x=>exact .inl (cE hk)
 refine wp_region_S is (F.oft sl' lc' tl) hm c1 (fun k o ho=>hdo.get k o (by simpa using ho)) ?_ ?_ ?_ h hQ
 ·intro k
  refine ⟨fun p hp=>?_,fun h0=>?_⟩
  ·rcases hmem k with hk | hk
   ·have:=bM.1 (bM.1 c2 _ hk) p hp
    simpa [bX] using this
   ·rw [hk] at hp;cases hp
  ·rcases hmem k with hk | hk
   ·have:=bM.1 c4 _ hk
    rw [h0] at this
    simpa using this
   ·rw [hk] at h0;cases h0
 ·intro k n hn
  rcases hmem k with hk | hk
  ·exact hnew n (cG.2 ⟨_,hk,hn⟩)
  ·rw [hk] at hn;cases hn
 ·have:=RunL.of (g:=F.oft sl' lc' tl) [] is (F.oft sl lc tl) h1 h2 (le_ofT h3 h4 fun n l hn _=>by
   rw [runF_out (lowIn hT c6 hn),oft_l (lowIn hT c5 hn)];exact hn)
  have hl:=hdo.length
  simp only [dD,bE] at this
  rw [List.range_eq_range', <- Array.length_toList,hl]
  exact this
theorem rSTn {tb:Tb} (htb:zh4 dY tb) (hT:Tl tl low) {id:Nat} {ops:Array Oper} (nx:Nat) (cs:List (Nat × Orc dY)) (ns:List Nat) (sl':List (Nat × V)) (lc':List (Nat × L))
  (hc:((gens ops.toList cs).map (·.1),(zd0 tb ops (F.oft sl lc tl) nx 0 ops.toList cs).isSome,(zd0 tb ops (F.oft sl lc tl) nx 0 ops.toList cs).map fun is=>(Seen.mk (chkN low draw ops.toList is N K lc) (runS (F.oft sl lc tl) is) (runN (F.oft sl lc tl) is) (leS (zhb (F.oft sl lc tl) is) sl') (leN (zhb (F.oft sl lc tl) is) lc'),is.flatMap (·.nw))) =
   ((gens ops.toList cs).map (·.2),true,(zd0 tb ops (F.oft sl lc tl) nx 0 ops.toList cs).map fun is=>(Seen.mk true (wantS is) (wantN is) (sl'.map fun p=>some p.2) (lc'.map fun p=>some p.2),ns)))
  (hnew:∀ n ∈ ns,New K (F.oft sl lc tl) n) (h:St ⟨w0,H0,B0,K,N⟩ (F.oft sl lc tl) a w) (hQ:∀ a w,St ⟨w0,H0,B0,K,N⟩ (F.oft sl' lc' tl) a w->Q .normal a w):(Code.region id ops draw).wp dY Q a w:=by
 simp only [Prod.mk.injEq] at hc
 obtain ⟨hg,hs,hm⟩:=hc
 cases hi:zd0 tb ops (F.oft sl lc tl) nx 0 ops.toList cs with
 | none=>rw [hi] at hs;cases hs
 | some is =>
  rw [hi] at hm
  simp only [bS,Option.some.injEq,Seen.mk.injEq,Prod.mk.injEq] at hm
  obtain ⟨hm,hm2⟩:=hm
  exact regionN hT is sl' lc' mixed (zht htb hg _ _ _ _ _ rfl hi) hm.1 (hm2 ▸ hnew) hm.2.1 hm.2.2.1 hm.2.2.2.1 hm.2.2.2.2 h hQ
theorem cvT (ds:List Nat) (nw:List (Nat × V)) (md:List Nat) (mn:List (Nat × L)) (tl':Nat->Option L) (p:(sl,lc,tl)=(uK ds nw sl,uL md mn lc,tl')) (h:St e (F.oft sl lc tl) a w):St e (F.oft (uK ds nw sl) (uL md mn lc) tl') a w :=
  h.conv (congr (congr (congrArg F.oft (congrArg Prod.fst p)) (congrArg (fun q=>q.2.1) p)) (congrArg (fun q=>q.2.2) p))
theorem zb8 {tb:Tb} (htb:zh4 dY tb) (hT:Tl tl low) {id:Nat} {ops:Array Oper} {y:Code} (nx:Nat) (cs:List (Nat × Orc dY)) (ns:List Nat) (sl':List (Nat × V)) (lc':List (Nat × L))
  (hc:((gens ops.toList cs).map (·.1),(zd0 tb ops (F.oft sl lc tl) nx 0 ops.toList cs).isSome,(zd0 tb ops (F.oft sl lc tl) nx 0 ops.toList cs).map fun is=>(Seen.mk (chkN low draw ops.toList is N K lc) (runS (F.oft sl lc tl) is) (runN (F.oft sl lc tl) is) (leS (zhb (F.oft sl lc tl) is) sl') (leN (zhb (F.oft sl lc tl) is) lc'),is.flatMap (·.nw))) =
   ((gens ops.toList cs).map (·.2),true,(zd0 tb ops (F.oft sl lc tl) nx 0 ops.toList cs).map fun is=>(Seen.mk true (wantS is) (wantN is) (sl'.map fun p=>some p.2) (lc'.map fun p=>some p.2),ns)))
  (hnew:∀ n ∈ ns,New K (F.oft sl lc tl) n) (h:St ⟨w0,H0,B0,K,N⟩ (F.oft sl lc tl) a w) (hQ:∀ a w,St ⟨w0,H0,B0,K,N⟩ (F.oft sl' lc' tl) a w->y.wp dY Q a w):(Code.seq (Code.region id ops draw) y).wp dY Q a w :=
 qW (rSTn htb hT nx cs ns sl' lc' hc hnew h hQ)
end
def nsL (hty ty:TypeId) (wd es x:Nat) (nm:Nat->Nat) (M:zgq) (ps:List (Nat × L)):List (Nat × L):=ps++(x,.rowc hty wd (nsH nm M)) :: M.mapIdx fun j r=>(nm j,.row ty es r.2)
theorem lk_inj1 (g:β->L):∀ (l:List β) (nm:Nat->Nat),(∀ j k,nm j=nm k->j=k)->∀ (j:Nat) (r:β),l[j]?=some r->(l.mapIdx fun j r=>(nm j,g r)).lookup (nm j)=some (g r)
 | [],_,_,_,_,h=>by cases h
 | x :: l,nm,hi,j,r,h=>by
  rw [dM,bC]
  cases j with
  | zero=>rw [show (nm 0 == nm 0)=true by simp];simp at h;rw [h]
  | succ j =>
   rw [show (nm (j+1) == nm 0)=false from beq_eq_false_iff_ne.2 (fun e=>by have:=hi _ _ e;omega)]
   exact lk_inj1 g l (fun j=>nm (j+1)) (fun a b e=>by have:=hi _ _ e;omega) j r (by simpa using h)
theorem lk_inj2 (g:β->L):∀ (l:List β) (nm:Nat->Nat) (n:Nat),(∀ j,j<l.length->nm j≠n)->(l.mapIdx fun j r=>(nm j,g r)).lookup n=none
 | [],_,_,_=>rfl
 | x :: l,nm,n,h=>by
  rw [dM,bC,show (n == nm 0)=false from beq_eq_false_iff_ne.2 (fun e=>h 0 (by simp) e.symm)]
  exact lk_inj2 g l (fun j=>nm (j+1)) n fun j hj=>h (j+1) (by simp;omega)
theorem nmP_inj (h:p<999) (j k:Nat) (e:nmP i p j=nmP i p k):j=k:=by
 by_cases h1:j=i
 ·subst h1
  by_cases h2:k=j
  ·exact h2.symm
  ·rw [zc3,zcd h2] at e;omega
 ·by_cases h2:k=i
  ·subst h2;rw [zc3,zcd h1] at e;omega
  ·rw [zcd h1,zcd h2] at e;omega
theorem nm0_inj (j k:Nat) (e:nm0 j=nm0 k):j=k:=by unfold nm0 at e;omega
variable {M':zgq}
section
variable {hty ty:TypeId} {wd es:Nat} {M:zgq} {ps:List (Nat × L)}
theorem zec {q:Nat × L}:q ∈ nsL hty ty wd es x nm M ps ↔ q ∈ ps\/q=(x,.rowc hty wd (nsH nm M))\/∃ j r,M[j]?=some r/\q=(nm j,.row ty es r.2):=by
 unfold nsL
 rw [cC,bQ]
 refine or_congr Iff.rfl (or_congr Iff.rfl ?_)
 constructor
 ·intro h
  obtain ⟨j,hj⟩:=cF.1 h
  rw [bR] at hj
  cases e:M[j]? with
  | none=>rw [e] at hj;cases hj
  | some r=>rw [e] at hj;exact ⟨j,r,e,(Option.some.inj hj).symm⟩
 ·rintro ⟨j,r,h,rfl⟩
  refine cF.2 ⟨j,?_⟩
  rw [bR,h];rfl
theorem zcc:n ∈ (nsL hty ty wd es x nm M ps).map (·.1) ↔ n ∈ ps.map (·.1)\/n=x\/∃ j,j<M.length/\n=nm j:=by
 rw [bG]
 constructor
 ·rintro ⟨q,hq,rfl⟩
  rcases zec.1 hq with h | rfl | ⟨j,r,h,rfl⟩
  ·exact .inl (bG.2 ⟨q,h,rfl⟩)
  ·exact .inr (.inl rfl)
  ·exact .inr (.inr ⟨j,(bJ.1 h).1,rfl⟩)
 ·rintro (h | rfl | ⟨j,h,rfl⟩)
  ·obtain ⟨q,hq,rfl⟩:=bG.1 h;exact ⟨q,zec.2 (.inl hq),rfl⟩
  ·exact ⟨_,zec.2 (.inr (.inl rfl)),rfl⟩
  ·exact ⟨_,zec.2 (.inr (.inr ⟨j,_,bO h,rfl⟩)),rfl⟩
theorem nsL_low (hn:lo9 n=true) (h:n ∈ (nsL hty ty wd es 999 nm0 M ps).map (·.1)):n ∈ ps.map (·.1):=by
 have hn9:=zd3 hn
 rcases zcc.1 h with h | rfl | ⟨j,_,rfl⟩
 ·exact h
 ·omega
 ·unfold nm0 at hn9;omega
variable {P:Program} {Q:Exit->Act->World->Prop} {w0:World} {H0:Im} {B0:Bl} {K:List Nat} {N:Nat} {a:Act} {w:World} {sl:List (Nat × V)} {lc:List (Nat × L)}
theorem Fn.bodyN {k:FuncId} {c:Code} (hf:P.funcs[k]?=some fn) (hb:fn.body=some c) (N:Nat) (hN:args.length+(fn.ntmps - args.length)=N)
  (h:∀ (w:World) (H:Im) (B:Bl) (a:Act),St ⟨w,H,B,(nsL hty ty wd es 999 nm0 M ps).map (·.1),N⟩ (F.oft (argS 0 args) ps (nsT hty ty wd es M)) a w->c.wp P (bodyPost P fn (RetQ ⟨w,H,B,(nsL hty ty wd es 999 nm0 M ps).map (·.1),N⟩ (nsL hty ty wd es 999 nm0 M ps) res qs)) a w):Fn P k (nsL hty ty wd es 999 nm0 M ps) args res qs :=
 Fn.of hf hb (F.oft (argS 0 args) ps (nsT hty ty wd es M)) N hN (fun t v hv=>by have:=(zhz args 0 t v hv).2;simpa using this) (fun n l hl=>by
  rcases zaz hl with h1 | ⟨_,h2⟩
  ·exact zec.2 (.inl (zae h1))
  ·rcases zbe h2 with ⟨rfl,h3⟩ | ⟨i,r,rfl,_,h4,rfl⟩
   ·exact zec.2 (.inr (.inl (by rw [<- Option.some.inj h3])))
   ·exact zec.2 (.inr (.inr ⟨i,r,h4,rfl⟩))) h
theorem nsL_known (h1:∀ q ∈ qs,f.l q.1=some q.2) (h2:f.l x=some (.rowc hty wd (nsH nm M))) (h3:∀ j r,M[j]?=some r->f.l (nm j)=some (.row ty es r.2)):∀ q ∈ nsL hty ty wd es x nm M qs,f.l q.1=some q.2:=fun q hq=>by
 rcases zec.1 hq with h | rfl | ⟨j,r,h,rfl⟩
 ·exact h1 q h
 ·exact h2
 ·exact h3 j r h
theorem nsL_tags (ht:(res.tags++qs.flatMap fun q=>q.2.tags).all (zcm (x :: qs.map (·.1)))=true):(res.tags++(nsL hty ty wd es x nm M qs).flatMap fun q=>q.2.tags).all (zcm ((nsL hty ty wd es x nm M qs).map (·.1)))=true:=by
 have key:∀ n,n ∈ x :: qs.map (·.1)->zcm ((nsL hty ty wd es x nm M qs).map (·.1)) n=true:=fun n hn=>by
  refine zb5.2 (zcc.2 ?_)
  rcases bQ.1 hn with rfl | h
  ·exact .inr (.inl rfl)
  ·exact .inl h
 have hall:∀ n ∈ res.tags++qs.flatMap fun q=>q.2.tags,n ∈ x :: qs.map (·.1):=fun n hn=>zb5.1 (bM.1 ht n hn)
 refine bM.2 fun n hn=>?_
 rcases cC.1 hn with h | h
 ·exact key n (hall n (List.mem_append_left _ h))
 ·obtain ⟨q,hq,hn⟩:=cG.1 h
  rcases zec.1 hq with h | rfl | ⟨j,r,h,rfl⟩
  ·exact key n (hall n (List.mem_append_right _ (cG.2 ⟨q,h,hn⟩)))
  ·obtain ⟨j,hj,rfl⟩:=nsH_mem hn
   exact zb5.2 (zcc.2 (.inr (.inr ⟨j,hj,rfl⟩)))
  ·cases hn
theorem ns_ret {rs:List ResultVar} {ps:List (Nat × L)} (xs:List T) (hp:lo9 p=true) (hx10:lo10 x=true) (hxp:x≠p) (hr:M[i]?=some q)
  (h:St ⟨w0,H0,B0,ps.map (·.1),N⟩ (F.oft sl ((x,.rowc hty wd (nsH (nmP i p) M)) :: (p,.row ty es q.2) :: lc) (nsN hty ty wd es none (nmP i p) M)) a w) (hlx:lc.lookup x=none) (hlp:lc.lookup p=none) (hL:lowM lc=true) (n:Exit) (hn:n = .ret\/n = .normal) (hf:fn.results=⟨rs⟩)
  (hx:zat (RV P (F.oft sl ((x,.rowc hty wd (nsH (nmP i p) M)) :: (p,.row ty es q.2) :: lc) (nsN hty ty wd es none (nmP i p) M))) rs xs) (hres:resOf xs=res)
  (hq:(qs.map fun q=>lc.lookup q.1)=qs.map fun q=>some q.2) (ht:(res.tags++qs.flatMap fun q=>q.2.tags).all (zcm (x :: qs.map (·.1)))=true):bodyPost P fn (RetQ ⟨w0,H0,B0,ps.map (·.1),N⟩ ps res (nsL hty ty wd es x (nmP i p) M qs)) n a w:=by
 have hp9:=zd3 hp
 have hx9:x<1000:=by simpa [lo10,bX] using hx10
 refine St.ret h rfl hf hx hres (nsL_known (fun q hq1=>?_) (zbn (by rw [bC,show (x == x)=true by simp])) fun j r hj=>?_) (nsL_tags ht) n hn
 ·have h1:lc.lookup q.1=some q.2:=zam hq q hq1
  exact zbn (by rw [lk3 (fun e=>by rw [e,hlx] at h1;cases h1) (fun e=>by rw [e,hlp] at h1;cases h1)];exact h1)
 ·by_cases e:j=i
  ·subst e
   rw [hr] at hj
   have hj:=Option.some.inj hj
   subst hj
   rw [zc3]
   exact zbn (by rw [bC,show (p == x)=false by simpa using fun e=>hxp e.symm];show ((p,L.row ty es q.2) :: lc).lookup p=_;rw [bC,show (p == p)=true by simp])
  ·rw [zcd e,zba (by rw [lk3 (by omega) (by omega)];exact zaw hL (by omega)),zfc (zcd e),hj];rfl
theorem ns_ret0 {rs:List ResultVar} {ps:List (Nat × L)} (xs:List T)
  (h:St ⟨w0,H0,B0,ps.map (·.1),N⟩ (F.oft sl lc (nsT hty ty wd es M)) a w) (hL:lowM lc=true) (n:Exit) (hn:n = .ret\/n = .normal) (hf:fn.results=⟨rs⟩)
  (hx:zat (RV P (F.oft sl lc (nsT hty ty wd es M))) rs xs) (hres:resOf xs=res)
  (hq:(qs.map fun q=>lc.lookup q.1)=qs.map fun q=>some q.2) (ht:(res.tags++qs.flatMap fun q=>q.2.tags).all (zcm (999 :: qs.map (·.1)))=true):bodyPost P fn (RetQ ⟨w0,H0,B0,ps.map (·.1),N⟩ ps res (nsL hty ty wd es 999 nm0 M qs)) n a w :=
 St.ret h rfl hf hx hres (nsL_known (fun q hq1=>zbn (zam hq q hq1)) (by rw [zba (zaw hL (bK _))];rfl) fun j r hj=>by
  rw [zba (zaw hL (by unfold nm0;omega))]
  show nsN hty ty wd es _ nm0 M (j+1000)=_
  rw [zfc (nm:=nm0) rfl,hj];rfl) (nsL_tags ht) n hn
theorem ns_retN {rs:List ResultVar} {ps:List (Nat × L)} (xs:List T)
  (h:St ⟨w0,H0,B0,ps.map (·.1),N⟩ (F.oft sl lc tl) a w) (n:Exit) (hn:n = .ret\/n = .normal) (hf:fn.results=⟨rs⟩) (hx:zat (RV P (F.oft sl lc tl)) rs xs) (hres:resOf xs=res)
  (hq:(qs.map fun q=>lc.lookup q.1)=qs.map fun q=>some q.2) (ht:(res.tags++qs.flatMap fun q=>q.2.tags).all (zcm (qs.map (·.1)))=true):bodyPost P fn (RetQ ⟨w0,H0,B0,ps.map (·.1),N⟩ ps res qs) n a w :=
 St.ret h rfl hf hx hres (fun q hq1=>zbn (zam hq q hq1)) ht n hn
theorem ns_reads (hf:∀ n,f.l n=(F.oft sl lc (nsT hty ty wd es M)).l n) (hL:lowM lc=true) (hq:(ps.map fun q=>lc.lookup q.1)=ps.map fun q=>some q.2):∀ q ∈ nsL hty ty wd es 999 nm0 M ps,f.l q.1=some q.2 :=
 nsL_known (fun q hq1=>by rw [hf];exact zbn (zam hq q hq1)) (by rw [hf,zba (zaw hL (bK _))];rfl) fun j r hj=>by
  rw [hf,zba (zaw hL (by unfold nm0;omega))]
  show nsN hty ty wd es _ nm0 M (j+1000)=_
  rw [zfc (nm:=nm0) rfl,hj];rfl
theorem ns_nw {d:Nat} (hM:∀ j,j<M'.length->j≠i->j<M.length) (h:∀ n ∈ x :: p :: qs.map (·.1),n ∉ ps.map (·.1)->n≠999->New K f n) :
  ∀ n ∈ (zcn rs (nsL hty ty wd es 999 nm0 M ps) (nsL hty ty wd es x (nmP i p) M' qs) d res).nw,New K f n:=fun n hn=>by
 simp only [zcn,List.mem_filter,b9] at hn
 obtain ⟨h1,h2⟩:=hn
 have h2:n ∉ (nsL hty ty wd es 999 nm0 M ps).map (·.1):=fun h3=>by rw [zb5.2 h3] at h2;cases h2
 rw [zcc] at h2
 simp only [not_or,not_exists,not_and] at h2
 obtain ⟨h2,h3,h4⟩:=h2
 rcases zcc.1 h1 with h5 | rfl | ⟨j,hj,rfl⟩
 ·exact h n (bY _ (bY _ h5)) h2 h3
 ·exact h n (cZ ..) h2 h3
 ·by_cases e:j=i
  ·subst e;rw [zc3] at h2 h3 ⊢;exact h p (bY _ (cZ ..)) h2 h3
  ·rw [zcd e] at h4;exact absurd rfl (h4 j (hM j hj e))
theorem callI_l {ps:List (Nat × L)} {d:Nat} (n:Nat):(f.app (zcn rs ps qs d res)).l n=match qs.lookup n with | some l=>some l | none=>if n ∈ ps.map (·.1) then none else f.l n:=by
 simp only [F.app,zcn,lookup_wl]
 cases qs.lookup n with
 | some l=>rfl
 | none=>by_cases hm:n ∈ ps.map (·.1) <;> simp [hm]
theorem lk_app:∀ (xs ys:List (Nat × α)),(xs++ys).lookup n=match xs.lookup n with | some v=>some v | none=>ys.lookup n
 | [],_=>rfl
 | (m,v) :: xs,ys=>by
  rw [dE,bC,bC]
  cases (n == m) with
  | true=>rfl
  | false=>exact lk_app xs ys
theorem nsL_lk (hp:lo9 p=true) (hx10:lo10 x=true) (hr:M[i]?=some q) {l:L}
  (h:(F.oft sl ((x,.rowc hty wd (nsH (nmP i p) M)) :: (p,.row ty es q.2) :: (qs++lc)) (nsN hty ty wd es none (nmP i p) M)).l n=some l) (hqx:qs.lookup x=none) (hqp:qs.lookup p=none) (hxp:x≠p) (hL:lowM qs=true) (hL':lowM lc=true):(nsL hty ty wd es x (nmP i p) M qs).lookup n=some l\/((nsL hty ty wd es x (nmP i p) M qs).lookup n=none/\lc.lookup n=some l/\n≠x/\n≠p):=by
 have hp9:=zd3 hp
 have hx9:x<1000:=by simpa [lo10,bX] using hx10
 unfold nsL
 rw [lk_app,bC]
 rcases zaz h with h1 | ⟨h1,h2⟩
 ·by_cases e:n=x
  ·subst e
   left
   rw [bC,show (n == n)=true by simp] at h1
   rw [hqx,show (n == n)=true by simp]
   exact h1
  ·by_cases e2:n=p
   ·subst e2
    left
    rw [bC,show (n == x)=false by simpa using e] at h1
    have h1:((n,L.row ty es q.2) :: (qs++lc)).lookup n=some l:=h1
    rw [bC,show (n == n)=true by simp] at h1
    rw [hqp,show (n == x)=false by simpa using e]
    have h3:=lk_inj1 (fun r:List D × List (List D)=>L.row ty es r.2) M (nmP i n) (nmP_inj hp9) i q hr
    rw [zc3] at h3
    exact h3.trans h1
   ·rw [lk3 e e2,lk_app] at h1
    cases e3:qs.lookup n with
    | some v=>rw [e3] at h1;left;exact h1
    | none =>
     rw [e3] at h1
     have h1:lc.lookup n=some l:=h1
     rw [show (n == x)=false by simpa using e]
     right
     refine ⟨lk_inj2 _ M _ n fun j hj e5=>?_,h1,e,e2⟩
     by_cases e6:j=i
     ·subst e6;rw [zc3] at e5;exact absurd e5.symm e2
     ·rw [zcd e6] at e5
      have:=(zcw hL' h1).1;omega
 ·left
  rcases zbe h2 with ⟨_,h3⟩ | ⟨j,r,rfl,h3,h4,rfl⟩
  ·cases h3
  ·have hq:qs.lookup (j+1000)=none:=zaw hL (by omega)
   rw [hq,show (j+1000 == x)=false from beq_eq_false_iff_ne.2 (by omega)]
   have h5:=lk_inj1 (fun r:List D × List (List D)=>L.row ty es r.2) M (nmP i p) (nmP_inj hp9) j r h4
   rw [h3] at h5;exact h5
theorem ns_after {lc1:List (Nat × L)} {d:Nat} {sl':List (Nat × V)} (hp:lo9 p=true) (hx10:lo10 x=true) (hr:M'[i]?=some q) (hqx:qs.lookup x=none) (hqp:qs.lookup p=none) (hxp:x≠p) (hL:lowM qs=true) (hL':lowM lc1=true)
  (hf:∀ n l,lc1.lookup n=some l->f.l n=some l) (hlp:(lc1.all fun q=>!zcm (ps.map (·.1)) q.1)=true) {l:L} (h:(F.oft sl' ((x,.rowc hty wd (nsH (nmP i p) M')) :: (p,.row ty es q.2) :: (qs++lc1)) (nsN hty ty wd es none (nmP i p) M')).l n=some l) :
  (f.app (zcn rs (nsL hty ty wd es 999 nm0 M ps) (nsL hty ty wd es x (nmP i p) M' qs) d res)).l n=some l:=by
 rw [callI_l]
 rcases nsL_lk hp hx10 hr h hqx hqp hxp hL hL' with h1 | ⟨h1,h2,_,_⟩
 ·rw [h1]
 ·rw [h1]
  have hn:=(zcw hL' h2).1
  rw [if_neg fun h3=>?_]
  ·exact hf n l h2
  ·have h3:=nsL_low (lo9_of hn) h3
   have:=bM.1 hlp _ (zae h2)
   simp only [b9] at this
   rw [zb5.2 h3] at this;cases this
theorem ns_after0 {lc1:List (Nat × L)} {d:Nat} {sl':List (Nat × V)} (hL:lowM qs=true) (hL':lowM lc1=true)
  (hf:∀ n l,lc1.lookup n=some l->f.l n=some l) (hlp:(lc1.all fun q=>!zcm (ps.map (·.1)) q.1)=true) {l:L} (h:(F.oft sl' (qs++lc1) (nsT hty ty wd es M')).l n=some l) :
  (f.app (zcn rs ps (nsL hty ty wd es 999 nm0 M' qs) d res)).l n=some l:=by
 rw [callI_l]
 unfold nsL
 rw [lk_app,bC]
 rcases zaz h with h1 | ⟨h1,h2⟩
 ·rw [lk_app] at h1
  cases e3:qs.lookup n with
  | some v=>rw [e3] at h1;exact h1
  | none =>
   rw [e3] at h1
   have h1:lc1.lookup n=some l:=h1
   have hn:=(zcw hL' h1).1
   rw [show (n == 999)=false from beq_eq_false_iff_ne.2 (by omega),lk_inj2 _ M' _ n fun j hj e5=>by unfold nm0 at e5;omega]
   show (if n ∈ ps.map (·.1) then none else f.l n)=_
   rw [if_neg fun h3=>?_]
   ·exact hf n l h1
   ·have:=bM.1 hlp _ (zae h1)
    simp only [b9] at this
    rw [zb5.2 h3] at this;cases this
 ·rcases zbe h2 with ⟨rfl,h3⟩ | ⟨j,r,rfl,h3,h4,rfl⟩
  ·rw [zaw hL (bK _)]
   exact h3
  ·rw [zaw hL (by omega),show (j+1000 == 999)=false from beq_eq_false_iff_ne.2 (by omega)]
   have h5:=lk_inj1 (fun r:List D × List (List D)=>L.row ty es r.2) M' nm0 nm0_inj j r h4
   rw [h3] at h5
   show (match (M'.mapIdx fun j r=>(nm0 j,L.row ty es r.2)).lookup (j+1000) with | some l=>some l | none=>_)=_
   rw [h5]
theorem ns_nw0 {d:Nat} (hq:((qs.map (·.1)).all (zcm (ps.map (·.1))))=true) (h:∀ n,999<=n->New K f n) :
  ∀ n ∈ (zcn rs ps (nsL hty ty wd es 999 nm0 M' qs) d res).nw,New K f n:=fun n hn=>by
 simp only [zcn,List.mem_filter,b9] at hn
 obtain ⟨h1,h2⟩:=hn
 rcases zcc.1 h1 with h5 | rfl | ⟨j,hj,rfl⟩
 ·rw [bM.1 hq n h5] at h2;cases h2
 ·exact h 999 (bK _)
 ·exact h _ (by unfold nm0;omega)
theorem new_high (hK:K.all lo9=true) (hS:lowS sl=true) (hL:lowL lc=true) (n:Nat) (hn:999<=n):New K (F.of sl lc) n :=
 ⟨fun hk=>by have:=zd3 (bM.1 hK n hk);omega,lowL_none hL hn,fun _ _ hv hk=>by have:=lowS_lt hS hv hk;omega,fun _ _ hl hk=>by have:=(lowL_lt hL hl).2 n hk;omega⟩
end
section
variable {P:Program}
theorem Fn.idle {k:FuncId} {x:C} {cs ds:List C} {ps:List (Nat × L)} (h:∀ v:Value,flat v=true->Fn P k ((n,.box (cs.set j (.d (.raw v)))) :: ps) args res ((n,.box (ds.set j (.d (.raw v)))) :: qs))
  (hc:cs[j]?=some x) (hd:ds[j]?=some x) (hm:(x.tags.all fun m=>!zcm (n :: qs.map (·.1)) m)=true):Fn P k ((n,.box cs) :: ps) args res ((n,.box ds) :: qs):=fun w H B vals pre=>by
 obtain ⟨b,c,arr,ty,hB,hb,hcs⟩:=pre.loc (n,.box cs) (by simp)
 have hjl:=(bJ.1 hc).1
 have hdl:=(bJ.1 hd).1
 obtain ⟨v,hv,hv2⟩:=hcs.get j hjl
 rw [(bJ.1 hc).2] at hv2
 have hfl:=CR.flat hv2
 have pre':Pre ((n,.box (cs.set j (.d (.raw v)))) :: ps) args w H B vals:=by
  refine ⟨pre.sat,fun p hp=>?_,fun p hp=>?_,fun p hp q hq=>?_,pre.arg,pre.tab⟩
  ·rcases bQ.1 hp with rfl | hp
   ·refine ⟨b,c,arr,ty,hB,hb,?_⟩
    have:=hcs.set j (a:=C.d (.raw v)) (b:=v) (show CR H B (.d (.raw v)) v from DR.raw v hfl)
    rwa [zhj hv] at this
   ·exact pre.loc p (bY _ hp)
  ·rcases bQ.1 hp with rfl | hp
   ·exact pre.priv (n,.box cs) (by simp)
   ·exact pre.priv p (bY _ hp)
  ·have key:∀ p ∈ (n,L.box (cs.set j (.d (.raw v)))) :: ps,∃ p' ∈ (n,L.box cs) :: ps,p'.1=p.1:=fun p hp=>by
    rcases bQ.1 hp with rfl | hp
    ·exact ⟨_,cZ .., rfl⟩
    ·exact ⟨p,bY _ hp,rfl⟩
   obtain ⟨p', hp', e1⟩:=key p hp
   obtain ⟨q', hq', e2⟩:=key q hq
   rw [<- e1,<- e2]
   exact pre.inj p' hp' q' hq'
 have hmay:mayP ((n,L.box (cs.set j (.d (.raw v)))) :: ps) B=mayP ((n,L.box cs) :: ps) B:=by
  funext b
  simp only [mayP,bQ,exists_eq_or_imp]
 refine (h v hfl w H B vals pre').mono ?_
 rintro en w' ⟨u,H', B', rfl,post⟩
 refine ⟨u,H', B', rfl,post.le,post.low,post.sat,fun p hp=>?_,fun p hp=>?_,fun p hp q hq=>?_,post.keep,post.res,hmay ▸ post.ext⟩
 ·rcases bQ.1 hp with rfl | hp
  ·obtain ⟨b', c', arr', ty', hB', hb', hds⟩:=post.loc (n,.box (ds.set j (.d (.raw v)))) (by simp)
   refine ⟨b', c', arr', ty', hB', hb', ?_⟩
   obtain ⟨u', hu,hu2⟩:=hds.get j (by rw [dG];exact hdl)
   rw [List.getElem_set_self] at hu2
   cases hu2
   have h3:CR H' B' x v:=CR.mono post.le (fun m hx=>post.keep m (.inr fun h9=>by
    have:=bM.1 hm m hx
    simp only [b9] at this
    rw [zb5.2 (show m ∈ n :: qs.map (·.1) from h9)] at this;cases this)) hv2
   have:=hds.set j h3
   rw [List.set_set,zhj hu,zhj hd] at this
   exact this
  ·exact post.loc p (bY _ hp)
 ·rcases bQ.1 hp with rfl | hp
  ·rw [<- hmay];exact post.priv (n,.box (ds.set j (.d (.raw v)))) (by simp)
  ·rw [<- hmay];exact post.priv p (bY _ hp)
 ·have key:∀ p ∈ (n,L.box ds) :: qs,∃ p' ∈ (n,L.box (ds.set j (.d (.raw v)))) :: qs,p'.1=p.1:=fun p hp=>by
   rcases bQ.1 hp with rfl | hp
   ·exact ⟨_,cZ .., rfl⟩
   ·exact ⟨p,bY _ hp,rfl⟩
  obtain ⟨p', hp', e1⟩:=key p hp
  obtain ⟨q', hq', e2⟩:=key q hq
  rw [<- e1,<- e2]
  exact post.inj p' hp' q' hq'
theorem Fn.renP {k:FuncId} {ps ps':List (Nat × L)} {args':List V} (n m:Nat) (h:Fn P k ps args res qs) (_hnm:n≠m) (hp:ps'.map (fun p=>(if Nat.beq p.1 m then n else p.1,p.2.ren m n))=ps) (ha:args'.map (V.ren m n)=args)
  (h1:((n :: []).all fun n=>(ps'.all fun p=>!Nat.beq p.1 n && !zcm p.2.tags n) && args'.all fun v=>!zcm v.tags n)=true) (h2:((n :: m :: []).all fun n=>(qs.all fun p=>!Nat.beq p.1 n && !zcm p.2.tags n) && !zcm res.tags n)=true):Fn P k ps' args' res qs:=fun w H B vals pre=>by
 simp only [List.all_cons,List.all_nil,Bool.and_true,bW,bM,b9] at h1 h2
 have nb:∀ {a b:Nat}, Nat.beq a b=false->a≠b:=fun h e=>by rw [e,bL] at h;cases h
 have nt:∀ {l:List Nat} {a:Nat}, zcm l a=false->a ∉ l:=fun h e=>by rw [zb5.2 e] at h;cases h
 have hsw:∀ x,x≠n->swB B m n (if Nat.beq x m then n else x)=B x:=fun x hx=>zcq x hx
 have hps:∀ p ∈ ps,∃ p' ∈ ps', p=(if Nat.beq p'.1 m then n else p'.1,p'.2.ren m n):=fun p hp2=>by
  rw [<- hp] at hp2
  obtain ⟨p', hp3,rfl⟩:=bG.1 hp2
  exact ⟨p', hp3,rfl⟩
 have hn1:∀ p ∈ ps', p.1≠n:=fun p hp2=>nb (h1.1 p hp2).1
 have pre':Pre ps args w H (swB B m n) vals:=by
  refine ⟨pre.sat,fun p hp2=>?_,fun p hp2 b c hb=>?_,fun p hp2 q hq b c c' hb hb2=>?_,?_,pre.tab⟩
  ·obtain ⟨p', hp3,rfl⟩:=hps p hp2
   exact LR.ren (hn1 p' hp3) (nt (h1.1 p' hp3).2) (pre.loc p' hp3)
  ·obtain ⟨p', hp3,rfl⟩:=hps p hp2
   rw [hsw _ (hn1 p' hp3)] at hb
   exact pre.priv p' hp3 b c hb
  ·obtain ⟨p', hp3,rfl⟩:=hps p hp2
   obtain ⟨q', hq3,rfl⟩:=hps q hq
   rw [hsw _ (hn1 p' hp3)] at hb
   rw [hsw _ (hn1 q' hq3)] at hb2
   dsimp only
   rw [pre.inj p' hp3 q' hq3 b c c' hb hb2]
  ·rw [<- ha]
   exact pre.arg.mapL _ fun v hv u hu=>VR.ren (nt (h1.2 v hv)) hu
 have hmay:∀ b,mayP ps (swB B m n) b ↔ mayP ps' B b:=fun b=>by
  constructor
  ·rintro ⟨p,hp2,c,hb⟩
   obtain ⟨p', hp3,rfl⟩:=hps p hp2
   exact ⟨p', hp3,c,by rw [<- hsw _ (hn1 p' hp3)];exact hb⟩
  ·rintro ⟨p,hp2,c,hb⟩
   refine ⟨(if Nat.beq p.1 m then n else p.1,p.2.ren m n),by rw [<- hp];exact bG.2 ⟨p,hp2,rfl⟩,c,?_⟩
   rw [<- hb];exact hsw _ (hn1 p hp2)
 have hq1:∀ q ∈ qs,q.1≠n/\q.1≠m:=fun q hq=>⟨nb (h2.1.1 q hq).1,nb (h2.2.1 q hq).1⟩
 have hqn:∀ x,x ∈ qs.map (·.1)->x≠n/\x≠m:=fun x hx=>by obtain ⟨q,hq,rfl⟩:=bG.1 hx;exact hq1 q hq
 refine (h w H _ vals pre').mono ?_
 rintro en w' ⟨u,H', B', rfl,post⟩
 have hBx:∀ x,x≠n->(fun x=>if x ∈ qs.map (·.1) then B' x else B x) x=B' x:=fun x hx=>by
  by_cases h4:x ∈ qs.map (·.1)
  ·simp only [h4,if_true]
  ·simp only [h4,if_false]
   rw [post.keep x (.inr h4)]
   unfold swB;rw [if_neg hx]
 refine ⟨u,H', fun x=>if x ∈ qs.map (·.1) then B' x else B x,rfl,post.le,post.low,post.sat,fun q hq=>?_,fun q hq b c hb=>?_,fun q hq q' hq' b c c' hb hb2=>?_,fun x hx=>?_,?_,?_⟩
 ·exact LR.mono (Le.refl _) (hBx _ (hq1 q hq).1) (fun x hx=>hBx x fun e=>nt (h2.1.1 q hq).2 (e ▸ hx)) (fun _ _ _=>rfl) (post.loc q hq)
 ·have hb:=(hBx _ (hq1 q hq).1).symm.trans hb
  obtain ⟨k1,k2,k3⟩:=post.priv q hq b c hb
  exact ⟨k1,k2,k3.imp (hmay b).1 id⟩
 ·have hb:=(hBx _ (hq1 q hq).1).symm.trans hb
  have hb2:=(hBx _ (hq1 q' hq').1).symm.trans hb2
  exact post.inj q hq q' hq' b c c' hb hb2
 ·by_cases h4:x ∈ qs.map (·.1)
  ·simp only [h4,if_true]
   rcases hx with h5 | h5
   ·obtain ⟨p,hp2,rfl⟩:=bG.1 h5
    have h6:=post.keep (if Nat.beq p.1 m then n else p.1) (.inl (by rw [<- hp,cU];exact bG.2 ⟨p,hp2,rfl⟩))
    rw [hsw _ (hn1 p hp2)] at h6
    rw [zck (hqn _ h4).2] at h6
    exact h6
   ·exact absurd h4 h5
  ·simp only [h4,if_false]
 ·exact VR.mono (Le.refl _) (fun x hx=>hBx x fun e=>nt h2.1.2 (e ▸ hx)) post.res
 ·have e:=post.ext
  exact ⟨e.os,e.tape,e.output,e.size,fun b hb hb2=>e.block b hb fun h4=>hb2 ((hmay b).1 h4)⟩
theorem Op.buildDK {d es:Nat} {r:List D} {t el:TypeId} {pos af gd} (hT:ElZ P t el es) (hz:∀ H B,TR H B (.agg (r.map C.d)) z) (hr:r.length=es) (hf:zfk (plS 1 0 es) (List.replicate (1*es) .any) [(0,.agg (r.map C.d))]=some (r.map C.d)) (hsm:1*es<=16777216) :
  zar P ⟨some d,.buildSlice t 1 #[(0,.const z)],ty,pos,af,gd⟩ { ws:=[(d,some (.t (.c (.d (.sl es [r])))))] }:=by
 rintro e f a w Q ⟨H,B,hok⟩ hr2 hnw hb0
 have hp:zat (fun (p:Nat × T) (u:Nat × Value)=>p.1=u.1/\TR H B p.2 u.2) [(0,.agg (r.map C.d))] [(0,a.eval (.const z))]:=⟨⟨rfl,hz H B⟩,trivial⟩
 obtain ⟨l,h1,h2⟩:=zf5 (P:=P) hT (by decide) hsm hp hf w
 obtain ⟨hok', hle⟩:=hok.newData (.cells ⟨l⟩ el)
 have hes:∀ x ∈ [r],x.length=es:=fun x hx=>by rw [bT.1 hx];exact hr
 have hrow:DR (fun b=>if b=w.heap.size then some (.cells ⟨l⟩ el (0,0)) else H b) (.sl es [r]) (.slice (some ⟨w.heap.size,0,none⟩) 1 1) :=
  zhk (H:=fun b=>if b=w.heap.size then some (.cells ⟨l⟩ el (0,0)) else H b) (es:=es) (b:=w.heap.size) (c:=1) (arr:=l) (ty:=el) (rows:=[r]) (if_pos rfl) (bK _) (by decide) hes (fun i x hx f y hy=>by
    obtain ⟨u,k1,k2⟩:=rowAt_of (rows:=[r]) hes (by simpa using h2) i x hx f y hy
    exact ⟨u,k1,k2.mono hle⟩)
 refine zdx (d:=d) rfl ?_ ⟨_,B,hok'.put (x:=some (.t (.c (.d (.sl es [r]))))) (hb0.1 (d,some (.t (.c (.d (.sl es [r]))))) (by simp)) (zek f d _ _ rfl) (app0_l f _ rfl) (fun y hy=>by injection hy with hy;subst hy;exact hrow)⟩
 have e1:((#[(0,Operand.const z)]:Array (Nat × Operand)).map fun x=>(x.1,a.eval x.2))=⟨[(0,a.eval (.const z))]⟩:=by simp
 simp only [execOp,e1,Sem.run_bind,h1,Result.andThen_ok,Sem.run_pure]
theorem Op.buildA0 {d len es:Nat} {el:TypeId} {zs:List C} {pos af gd} (hA:ArT P xt el len es) (hz:Zero P xt zs):zar P ⟨some d,.build xt #[],ty,pos,af,gd⟩ { ws:=[(d,some (.t (.agg zs)))] } :=
 zar.value d _ rfl rfl rfl fun e f H B a w hok hr=>by
  obtain ⟨z,l,z1,z2,z3⟩:=hz.ex
  refine ⟨.agg ⟨l⟩,?_,l,rfl,z3 H B⟩
  simp only [execOp,Instr.build,Sem.run_bind,Zero.run z1,Result.andThen_ok,run_underlying hA.hu,zhi hA.hs,z2]
  simp [Instr.fill,Sem.run_pure,Result.andThen_ok]
theorem three_any {a b c:C}:∀ (j:Nat) (y:C),[a,b,C.any][j]?=some y->∃ c':C,[a,b,c][j]?=some c'/\(y=c'\/y=C.any)
 | 0,y,h=>⟨a,rfl,.inl (Option.some.inj h).symm⟩
 | 1,y,h=>⟨b,rfl,.inl (Option.some.inj h).symm⟩
 | 2,y,h=>⟨c,rfl,.inr (Option.some.inj h).symm⟩
 | j+3,y,h=>by simp at h
end
theorem ns_forget2 {c0 c1 c2 c3:C} (h:St e (F.oft sl lc tl) a w) (hv:lc.lookup m=some (.box [c0,c1,c2,c3])):St e (F.oft sl [(m,.box [c0,c1,.any,.any])] (fun _=>none)) a w:=by
 have h1:=h.anyL m 2 (cs:=[c0,c1,c2,c3]) (c:=c2) (zbn hv) rfl
 have h2:=h1.anyL m 3 (cs:=[c0,c1,.any,c3]) (c:=c3) (by simp only [F.setL];rw [bL,if_pos rfl];rfl) rfl
 refine h2.weaken ⟨fun _ _ hv=>hv,fun n l hn=>?_⟩
 simp only [F.setL]
 rcases zaz hn with h3 | ⟨_,h3⟩
 ·rw [bC] at h3
  cases e9:(n == m) with
  | true =>
   rw [e9] at h3
   have e9:n=m:=by simpa using e9
   subst e9
   rw [bL,if_pos rfl];exact h3
  | false=>rw [e9] at h3;cases h3
 ·cases h3
section
variable {w0:World} {H0:Im} {B0:Bl} {K:List Nat} {N:Nat} {a:Act} {w:World} {sl:List (Nat × V)} {lc:List (Nat × L)} {M:zgq} {hty ty:TypeId} {wd es:Nat} {tl:Nat->Option L} {low:Nat->Bool}
theorem ns_ren0 (n m:Nat) (hn:lo9 n=true) (hm:lo9 m=true) (hK:m ∉ K) (h:St ⟨w0,H0,B0,K,N⟩ (F.oft sl lc (nsT hty ty wd es M)) a w)
  (hnew:zhn [] sl lc m=true) (sl':List (Nat × V)) (lc':List (Nat × L)) (hsl:sl.map (fun q=>(q.1,q.2.ren n m))=sl') (hlc:lc.map (fun q=>(if Nat.beq q.1 n then m else q.1,q.2.ren n m))=lc') (hL:lowM lc=true) :
  St ⟨w0,H0,B0,K,N⟩ (F.oft sl' lc' (nsT hty ty wd es M)) a w:=by
 have hn9:=zd3 hn
 have hm9:=zd3 hm
 have hml:lc.lookup m=none:=(zb9 hnew).2.1
 have hne:=ns_new0 (hty:=hty) (ty:=ty) (wd:=wd) (es:=es) (M:=M) hK hm hnew
 refine (h.ren n m hne).weaken ⟨fun t v hv=>?_,fun k l hk=>?_⟩
 ·have hv:sl'.lookup t=some v:=hv
  show (sl.lookup t).map (V.ren n m)=some v
  rw [<- hsl] at hv
  exact lk_map _ _ _ _ hv
 ·simp only [F.ren]
  rcases zaz hk with h1 | ⟨h1,h2⟩
  ·rw [<- hlc,lk_ren lc hml k] at h1
   by_cases e4:k=m
   ·subst e4
    rw [if_pos rfl] at h1
    rw [bL,if_pos rfl]
    obtain ⟨l0,h5,h6⟩:=b8.1 h1
    rw [zbn h5,<- h6];rfl
   ·rw [if_neg e4] at h1
    by_cases e5:k=n
    ·rw [if_pos e5] at h1;cases h1
    ·rw [if_neg e5] at h1
     obtain ⟨l0,h5,h6⟩:=b8.1 h1
     rw [zck e4,zck e5,if_neg (by simp),if_neg (by simp),zbn h5,<- h6];rfl
  ·rcases zbe h2 with ⟨rfl,h3⟩ | ⟨j,r2,rfl,h3,h4,rfl⟩
   ·have h3:=Option.some.inj h3
    rw [zck (show 999≠m by omega),zck (show 999≠n by omega),if_neg (by simp),if_neg (by simp),zba (zaw hL (bK _)),<- h3]
    show Option.map _ (some (L.rowc hty wd (nsH nm0 M)))=_
    simp only [bS,L.ren]
    rw [nsH_ren (nm':=nm0) fun j _=>by unfold nm0;rw [zck (show j+1000≠n by omega),if_neg (by simp)]]
   ·rw [zck (show j+1000≠m by omega),zck (show j+1000≠n by omega),if_neg (by simp),if_neg (by simp),zba (zaw hL (by omega))]
    show Option.map _ (nsN hty ty wd es _ nm0 M _)=_
    rw [zfc (nm:=nm0) rfl,h4];rfl
theorem lk_set {n:Nat} {l':L}:∀ (lc:List (Nat × L)) (k:Nat),(lc.map fun q=>if Nat.beq q.1 n then (q.1,l') else q).lookup k=if k=n then (lc.lookup k).map (fun _=>l') else lc.lookup k
 | [],k=>by simp
 | (b,x) :: lc,k=>by
  have ih:=lk_set (n:=n) (l':=l') lc k
  rw [bU]
  by_cases e:b=n
  ·subst e
   dsimp only
   rw [bL,if_pos rfl,bC,bC,ih]
   by_cases e2:k=b
   ·subst e2;simp
   ·have e3:(k == b)=false:=by simpa using e2
    simp [e2,e3]
  ·dsimp only
   rw [zck e,if_neg (by simp),bC,bC,ih]
   by_cases e2:k=b
   ·subst e2;simp [e]
   ·have e3:(k == b)=false:=by simpa using e2
    simp [e3]
theorem oft_setL {l':L} {lc':List (Nat × L)} (hT:Tl tl low) (hn:low n=true) (h:St e ((F.oft sl lc tl).setL n l') a w) (hl:lc.map (fun q=>if Nat.beq q.1 n then (q.1,l') else q)=lc'):St e (F.oft sl lc' tl) a w :=
 h.weaken ⟨fun _ _ hv=>hv,fun k l hk=>by
  simp only [F.setL]
  rcases zaz hk with h1 | ⟨h1,h2⟩
  ·rw [<- hl,lk_set] at h1
   by_cases e:k=n
   ·subst e
    rw [if_pos rfl] at h1
    rw [bL,if_pos rfl]
    obtain ⟨_,_,h6⟩:=b8.1 h1
    rw [h6]
   ·rw [if_neg e] at h1
    rw [zck e,if_neg (by simp)]
    exact zbn h1
  ·have e:k≠n:=fun e=>by rw [e,hT.z n hn] at h2;cases h2
   rw [<- hl,lk_set,if_neg e] at h1
   rw [zck e,if_neg (by simp)]
   rw [zba h1];exact h2⟩
theorem cutST (n k es:Nat) {rows:List (List D)} (lc':List (Nat × L)) (hT:Tl tl low) (hn:low n=true) (h:St e (F.oft sl lc tl) a w) (hv:lc.lookup n=some (.row ty es rows)) (hl:lc.map (fun q=>if Nat.beq q.1 n then (q.1,L.row ty es (rows.take k)) else q)=lc'):St e (F.oft sl lc' tl) a w :=
 oft_setL hT hn (h.cutR n k es ty (zbn hv)) hl
theorem anyST (n j:Nat) {cs:List C} {c:C} (lc':List (Nat × L)) (hT:Tl tl low) (hn:low n=true) (h:St e (F.oft sl lc tl) a w) (hv:lc.lookup n=some (.box cs)) (hg:cs[j]?=some c) (hl:lc.map (fun q=>if Nat.beq q.1 n then (q.1,L.box (cs.set j .any)) else q)=lc'):St e (F.oft sl lc' tl) a w :=
 oft_setL hT hn (h.anyL n j (zbn hv) hg) hl
end
theorem Fn.renA {k:FuncId} {ps ps' qs':List (Nat × L)} {args':List V} {res':V} (n m:Nat) (h:Fn P k ps args res qs) (hp:ps'.map (fun p=>(if Nat.beq p.1 m then n else p.1,p.2.ren m n))=ps) (ha:args'.map (V.ren m n)=args)
  (hq:qs.map (fun p=>(if Nat.beq p.1 n then m else p.1,p.2.ren n m))=qs') (hr:res.ren n m=res')
  (h1:((ps'.all fun p=>!Nat.beq p.1 n && !zcm p.2.tags n) && args'.all fun v=>!zcm v.tags n)=true) (h2:((qs.all fun p=>!Nat.beq p.1 m && !zcm p.2.tags m) && !zcm res.tags m)=true) (h3:((qs'.all fun p=>!Nat.beq p.1 n && !zcm p.2.tags n) && !zcm res'.tags n)=true):Fn P k ps' args' res' qs':=fun w H B vals pre=>by
 simp only [bW,bM,b9] at h1 h2 h3
 have nb:∀ {a b:Nat}, Nat.beq a b=false->a≠b:=fun h e=>by rw [e,bL] at h;cases h
 have nt:∀ {l:List Nat} {a:Nat}, zcm l a=false->a ∉ l:=fun h e=>by rw [zb5.2 e] at h;cases h
 have hsw:∀ x,x≠n->swB B m n (if Nat.beq x m then n else x)=B x:=fun x hx=>zcq x hx
 have hps:∀ p ∈ ps,∃ p' ∈ ps', p=(if Nat.beq p'.1 m then n else p'.1,p'.2.ren m n):=fun p hp2=>by
  rw [<- hp] at hp2
  obtain ⟨p', hp3,rfl⟩:=bG.1 hp2
  exact ⟨p', hp3,rfl⟩
 have hqs:∀ q ∈ qs', ∃ q' ∈ qs,q=(if Nat.beq q'.1 n then m else q'.1,q'.2.ren n m):=fun q hq2=>by
  rw [<- hq] at hq2
  obtain ⟨q', hq3,rfl⟩:=bG.1 hq2
  exact ⟨q', hq3,rfl⟩
 have hn1:∀ p ∈ ps', p.1≠n:=fun p hp2=>nb (h1.1 p hp2).1
 have hm1:∀ q ∈ qs,q.1≠m:=fun q hq2=>nb (h2.1 q hq2).1
 have pre':Pre ps args w H (swB B m n) vals:=by
  refine ⟨pre.sat,fun p hp2=>?_,fun p hp2 b c hb=>?_,fun p hp2 q hq b c c' hb hb2=>?_,?_,pre.tab⟩
  ·obtain ⟨p', hp3,rfl⟩:=hps p hp2
   exact LR.ren (hn1 p' hp3) (nt (h1.1 p' hp3).2) (pre.loc p' hp3)
  ·obtain ⟨p', hp3,rfl⟩:=hps p hp2
   rw [hsw _ (hn1 p' hp3)] at hb
   exact pre.priv p' hp3 b c hb
  ·obtain ⟨p', hp3,rfl⟩:=hps p hp2
   obtain ⟨q', hq3,rfl⟩:=hps q hq
   rw [hsw _ (hn1 p' hp3)] at hb
   rw [hsw _ (hn1 q' hq3)] at hb2
   dsimp only
   rw [pre.inj p' hp3 q' hq3 b c c' hb hb2]
  ·rw [<- ha]
   exact pre.arg.mapL _ fun v hv u hu=>VR.ren (nt (h1.2 v hv)) hu
 have hmay:∀ b,mayP ps (swB B m n) b ↔ mayP ps' B b:=fun b=>by
  constructor
  ·rintro ⟨p,hp2,c,hb⟩
   obtain ⟨p', hp3,rfl⟩:=hps p hp2
   exact ⟨p', hp3,c,by rw [<- hsw _ (hn1 p' hp3)];exact hb⟩
  ·rintro ⟨p,hp2,c,hb⟩
   refine ⟨(if Nat.beq p.1 m then n else p.1,p.2.ren m n),by rw [<- hp];exact bG.2 ⟨p,hp2,rfl⟩,c,?_⟩
   rw [<- hb];exact hsw _ (hn1 p hp2)
 refine (h w H _ vals pre').mono ?_
 rintro en w' ⟨u,H', B', rfl,post⟩
 have hqn:∀ x,x≠n->x≠m->(x ∈ qs'.map (·.1) ↔ x ∈ qs.map (·.1)):=fun x hx hxm=>by
  constructor
  ·intro hx2
   obtain ⟨q,hq2,rfl⟩:=bG.1 hx2
   obtain ⟨q', hq3,rfl⟩:=hqs q hq2
   dsimp only at hxm ⊢
   split at hxm
   ·exact absurd rfl hxm
   ·rename_i e;rw [if_neg e];exact bG.2 ⟨q', hq3,rfl⟩
  ·intro hx2
   obtain ⟨q,hq2,rfl⟩:=bG.1 hx2
   exact bG.2 ⟨_,by rw [<- hq];exact bG.2 ⟨q,hq2,rfl⟩,by dsimp only;rw [zck hx,if_neg (by simp)]⟩
 have hmq:m ∈ qs'.map (·.1) ↔ n ∈ qs.map (·.1):=by
  constructor
  ·intro hx2
   obtain ⟨q,hq2,e⟩:=bG.1 hx2
   obtain ⟨q', hq3,rfl⟩:=hqs q hq2
   dsimp only at e
   split at e
   ·rename_i e2;exact bG.2 ⟨q', hq3,dV e2⟩
   ·exact absurd e (hm1 q' hq3)
  ·intro hx2
   obtain ⟨q,hq2,e⟩:=bG.1 hx2
   exact bG.2 ⟨_,by rw [<- hq];exact bG.2 ⟨q,hq2,rfl⟩,by dsimp only;rw [e,bL,if_pos rfl]⟩
 have hBx:∀ x,x≠n->(fun x=>if x=m then B' n else if x ∈ qs'.map (·.1) then B' x else B x) x=swB B' n m x:=fun x hx=>by
  unfold swB
  by_cases e:x=m
  ·simp only [e,if_true]
  ·simp only [e,if_false]
   by_cases h4:x ∈ qs'.map (·.1)
   ·simp only [h4,if_true]
   ·simp only [h4,if_false]
    rw [post.keep x (.inr fun h5=>h4 ((hqn x hx e).2 h5))]
    unfold swB;rw [if_neg hx]
 have hBq:∀ q ∈ qs,(fun x=>if x=m then B' n else if x ∈ qs'.map (·.1) then B' x else B x) (if Nat.beq q.1 n then m else q.1)=B' q.1:=fun q hq2=>by
  have hqm:(if Nat.beq q.1 n then m else q.1) ∈ qs'.map (·.1):=bG.2 ⟨_,by rw [<- hq];exact bG.2 ⟨q,hq2,rfl⟩,rfl⟩
  have hqn9:(if Nat.beq q.1 n then m else q.1)≠n:=fun e=>by
   obtain ⟨q', hq3,e2⟩:=bG.1 hqm
   exact nb (h3.1 q' hq3).1 (e2.trans e)
  rw [hBx _ hqn9]
  exact zcq q.1 (hm1 q hq2)
 refine ⟨u,H', fun x=>if x=m then B' n else if x ∈ qs'.map (·.1) then B' x else B x,rfl,post.le,post.low,post.sat,fun q hq2=>?_,fun q hq2 b c hb=>?_,fun q hq2 q' hq2' b c c' hb hb2=>?_,fun x hx=>?_,?_,?_⟩
 ·obtain ⟨q', hq3,rfl⟩:=hqs q hq2
  have h4:=LR.ren (n:=n) (m:=m) (hm1 q' hq3) (nt (h2.1 q' hq3).2) (post.loc q' hq3)
  have h5:=h3.1 _ hq2
  exact LR.mono (Le.refl _) (hBx _ (nb h5.1)) (fun x hx=>hBx x fun e=>nt h5.2 (by rw [e] at hx;exact hx)) (fun _ _ _=>rfl) h4
 ·obtain ⟨q', hq3,rfl⟩:=hqs q hq2
  have hb:=(hBq q' hq3).symm.trans hb
  obtain ⟨k1,k2,k3⟩:=post.priv q' hq3 b c hb
  exact ⟨k1,k2,k3.imp (hmay b).1 id⟩
 ·obtain ⟨q1,hq3,rfl⟩:=hqs q hq2
  obtain ⟨q2,hq4,rfl⟩:=hqs q' hq2'
  have hb:=(hBq q1 hq3).symm.trans hb
  have hb2:=(hBq q2 hq4).symm.trans hb2
  dsimp only
  rw [post.inj q1 hq3 q2 hq4 b c c' hb hb2]
 ·by_cases e:x=m
  ·subst e
   simp only [if_true]
   have h6:B' n=swB B x n n:=post.keep n (by
    rcases hx with h7 | h7
    ·left
     obtain ⟨p,hp2,e2⟩:=bG.1 h7
     rw [<- hp,cU]
     exact bG.2 ⟨p,hp2,by simp only [Function.comp];rw [e2,bL,if_pos rfl]⟩
    ·right;exact fun h8=>h7 (hmq.2 h8))
   rw [h6];unfold swB;rw [if_pos rfl]
  ·simp only [e,if_false]
   by_cases h4:x ∈ qs'.map (·.1)
   ·simp only [h4,if_true]
    rcases hx with h7 | h7
    ·obtain ⟨p,hp2,e2⟩:=bG.1 h7
     have hxn:x≠n:=e2 ▸ hn1 p hp2
     have h8:=post.keep x (.inl (by rw [<- hp,cU];exact bG.2 ⟨p,hp2,by simp only [Function.comp];rw [e2,zck e,if_neg (by simp)]⟩))
     rw [h8];unfold swB;rw [if_neg hxn]
    ·exact absurd h4 h7
   ·simp only [h4,if_false]
 ·rw [<- hr] at h3 ⊢
  exact VR.mono (Le.refl _) (fun x hx=>hBx x fun e=>nt h3.2 (by rw [e] at hx;exact hx)) (VR.ren (nt h2.2) post.res)
 ·have e:=post.ext
  exact ⟨e.os,e.tape,e.output,e.size,fun b hb hb2=>e.block b hb fun h4=>hb2 ((hmay b).1 h4)⟩
section
variable {ops:Array Oper} {fuel t k m:Nat} {listed:Array Bool} {acc:List Nat}
theorem lin1 (h:Region.ready .any ops listed=[k]):Region.linearise.go .any ops (fuel+1) t listed acc=Region.linearise.go .any ops fuel (t / 1) (listed.setIfInBounds k true) (k :: acc):=by
 simp only [Region.linearise.go]
 change (match (Region.ready .any ops listed)[t % (Region.ready .any ops listed).length]? with
  | some i=>Region.linearise.go .any ops fuel (t / (Region.ready .any ops listed).length) (listed.setIfInBounds i true) (i :: acc)
  | none=>acc.reverse)=_
 rw [h]
 simp only [bV,Nat.mod_one,c7]
theorem lin2 (h:Region.ready .any ops listed=[k,m]) (ht:t % 2=0):Region.linearise.go .any ops (fuel+1) t listed acc=Region.linearise.go .any ops fuel (t / 2) (listed.setIfInBounds k true) (k :: acc):=by
 simp only [Region.linearise.go]
 change (match (Region.ready .any ops listed)[t % (Region.ready .any ops listed).length]? with
  | some i=>Region.linearise.go .any ops fuel (t / (Region.ready .any ops listed).length) (listed.setIfInBounds i true) (i :: acc)
  | none=>acc.reverse)=_
 rw [h]
 simp only [bF,bE,dN,Nat.reduceAdd,ht,c7]
theorem lin3 (h:Region.ready .any ops listed=[k,m]) (ht:t % 2=1):Region.linearise.go .any ops (fuel+1) t listed acc=Region.linearise.go .any ops fuel (t / 2) (listed.setIfInBounds m true) (m :: acc):=by
 simp only [Region.linearise.go]
 change (match (Region.ready .any ops listed)[t % (Region.ready .any ops listed).length]? with
  | some i=>Region.linearise.go .any ops fuel (t / (Region.ready .any ops listed).length) (listed.setIfInBounds i true) (i :: acc)
  | none=>acc.reverse)=_
 rw [h]
 simp only [bF,bE,dN,Nat.reduceAdd,ht,List.getElem?_cons_succ,c7]
end
theorem coinC {Q:Exit->Act->World->Prop} {id:Nat} {ops:Array Oper} {g1 g2:F} (hm:P.follows .mixedOrders=true) (hs:ops.size=4)
  (r0:Region.ready .any ops #[false,false,false,false]=[0]) (r1:Region.ready .any ops #[true,false,false,false]=[1,2]) (r2:Region.ready .any ops #[true,true,false,false]=[2])
  (r3:Region.ready .any ops #[true,false,true,false]=[1]) (r4:Region.ready .any ops #[true,true,true,false]=[3])
  (c1:Chn P ops e g1 f [0,1,2,3]) (c2:Chn P ops e g2 f [0,2,1,3]) (h:St e f a w) (h1:∀ a w,St e g1 a w->Q .normal a w) (h2:∀ a w,St e g2 a w->Q .normal a w):(Code.region id ops true).wp P Q a w :=
 wp_region_draw fun t=>by
  simp only [Region.schedule,hm,Bool.true_or,if_true,Region.linearise]
  rw [hs]
  have hl:Region.linearise.go .any ops 4 t (Array.replicate 4 false) []=[0,1,2,3]\/Region.linearise.go .any ops 4 t (Array.replicate 4 false) []=[0,2,1,3]:=by
   have e0:(Array.replicate 4 false:Array Bool)=#[false,false,false,false]:=rfl
   rw [e0]
   rcases (show t / 1 % 2=0\/t / 1 % 2=1 by omega) with ht | ht
   ·left
    refine (lin1 (fuel:=3) r0).trans ((show _=_ from lin2 (fuel:=2) (listed:=#[true,false,false,false]) r1 ht).trans ((show _=_ from lin1 (fuel:=1) (listed:=#[true,true,false,false]) r2).trans ?_))
    exact (show _=_ from lin1 (fuel:=0) (listed:=#[true,true,true,false]) r4).trans rfl
   ·right
    refine (lin1 (fuel:=3) r0).trans ((show _=_ from lin3 (fuel:=2) (listed:=#[true,false,false,false]) r1 ht).trans ((show _=_ from lin1 (fuel:=1) (listed:=#[true,false,true,false]) r3).trans ?_))
    exact (show _=_ from lin1 (fuel:=0) (listed:=#[true,true,true,false]) r4).trans rfl
  rcases hl with hl | hl
  ·rw [hl];exact Chn.ops h1 _ _ _ _ c1 h.drew
  ·rw [hl];exact Chn.ops h2 _ _ _ _ c2 h.drew
theorem coinS {Q:Exit->Act->World->Prop} {id:Nat} {ops:Array Oper} {w0:World} {H0:Im} {B0:Bl} {K:List Nat} {N:Nat} {o0 o1 o2 o3:Oper} (d e n:Nat) (hm:P.follows .mixedOrders=true) (hs:ops.size=4)
  (r0:Region.ready .any ops #[false,false,false,false]=[0]) (r1:Region.ready .any ops #[true,false,false,false]=[1,2]) (r2:Region.ready .any ops #[true,true,false,false]=[2])
  (r3:Region.ready .any ops #[true,false,true,false]=[1]) (r4:Region.ready .any ops #[true,true,true,false]=[3])
  (h0:ops[0]?=some o0) (h1:ops[1]?=some o1) (h2:ops[2]?=some o2) (h3:ops[3]?=some o3)
  (d0:Does P ops o0 { ws:=[(d,some (vp n 0))],wl:=[(n,some (.box [.d (.raw (.bool false))]))],nw:=[n] })
  (d1:∀ c,Does P ops o1 { rs:=[(d,vp n 0)],rl:=[(n,.box [c])],wl:=[(n,some (.box [.d (.raw (.bool true))]))] })
  (d2:∀ c,Does P ops o2 { rs:=[(d,vp n 0)],rl:=[(n,.box [c])],wl:=[(n,some (.box [.d (.raw (.bool false))]))] })
  (d3:∀ c,Does P ops o3 { rs:=[(d,vp n 0)],rl:=[(n,.box [c])],ws:=[(e,some (.t (.c c)))] })
  (hde:d≠e) (hd:d<N) (he:e<N) (hn:zhn K sl lc n=true) (sl':List (Nat × V)) (hsl:∀ b:Bool,leS (F.of ((e,vb b) :: (d,vp n 0) :: sl) lc) ((e,vb b) :: sl')=((e,vb b) :: sl').map fun p=>some p.2)
  (h:St ⟨w0,H0,B0,K,N⟩ (F.of sl lc) a w) (hQ:∀ (b:Bool) a w,St ⟨w0,H0,B0,K,N⟩ (F.of ((e,vb b) :: sl') lc) a w->Q .normal a w):(Code.region id ops true).wp P Q a w:=by
 have hN:=zb9 hn
 have hnl:lc.lookup n=none:=hN.2.1
 have fin:∀ (b:Bool) (f:F),(∀ t,f.s t=if t=e then some (vb b) else if t=d then some (vp n 0) else sl.lookup t)->(∀ m,m≠n->f.l m=lc.lookup m)->f.le (F.of ((e,vb b) :: sl') lc):=fun b f hf1 hf2=>by
  refine ⟨fun t v hv=>?_,fun m l hml=>?_⟩
  ·have h5:=zam (hsl b) (t,v) (zae hv)
   have h6:(F.of ((e,vb b) :: (d,vp n 0) :: sl) lc).s t=f.s t:=by
    rw [hf1]
    show List.lookup t _=_
    rw [bC]
    by_cases e1:t=e
    ·subst e1;simp
    ·rw [beq_eq_false_iff_ne.2 e1,if_neg e1]
     dsimp only
     rw [bC]
     by_cases e2:t=d
     ·subst e2;simp
     ·rw [beq_eq_false_iff_ne.2 e2,if_neg e2]
   rw [<- h6];exact h5
  ·have hml:lc.lookup m=some l:=hml
   rw [hf2 m (fun e1=>by subst e1;rw [hnl] at hml;cases hml)];exact hml
 have lk:∀ {α:Type} (k:Nat) (v:α),List.lookup k [(k,v)]=some v:=fun k v=>by simp
 have ln:∀ {α:Type} {k j:Nat} (v:α),k≠j->List.lookup k [(j,v)]=none:=fun {_ k j} v hkj=>by simp [List.lookup,beq_eq_false_iff_ne.2 hkj]
 refine coinC hm hs r0 r1 r2 r3 r4
  (.cons _ h0 d0 ⟨fun p hp=>?_,fun hk=>by cases hk⟩ ⟨fun p hp=>(by cases hp),fun p hp=>(by cases hp)⟩ (fun m hm=>by rw [bT.1 hm];exact hN)
   (.cons _ h1 (d1 (.d (.raw (.bool false)))) ⟨fun p hp=>(by cases hp),fun hk=>by cases hk⟩ ⟨fun p hp=>?_,fun p hp=>?_⟩ (fun m hm=>by cases hm)
    (.cons _ h2 (d2 (.d (.raw (.bool true)))) ⟨fun p hp=>(by cases hp),fun hk=>by cases hk⟩ ⟨fun p hp=>?_,fun p hp=>?_⟩ (fun m hm=>by cases hm)
     (.cons _ h3 (d3 (.d (.raw (.bool false)))) ⟨fun p hp=>?_,fun hk=>by cases hk⟩ ⟨fun p hp=>?_,fun p hp=>?_⟩ (fun m hm=>by cases hm) (.nil (fin false _ ?_ ?_))))))
  (.cons _ h0 d0 ⟨fun p hp=>?_,fun hk=>by cases hk⟩ ⟨fun p hp=>(by cases hp),fun p hp=>(by cases hp)⟩ (fun m hm=>by rw [bT.1 hm];exact hN)
   (.cons _ h2 (d2 (.d (.raw (.bool false)))) ⟨fun p hp=>(by cases hp),fun hk=>by cases hk⟩ ⟨fun p hp=>?_,fun p hp=>?_⟩ (fun m hm=>by cases hm)
    (.cons _ h1 (d1 (.d (.raw (.bool false)))) ⟨fun p hp=>(by cases hp),fun hk=>by cases hk⟩ ⟨fun p hp=>?_,fun p hp=>?_⟩ (fun m hm=>by cases hm)
     (.cons _ h3 (d3 (.d (.raw (.bool true)))) ⟨fun p hp=>?_,fun hk=>by cases hk⟩ ⟨fun p hp=>?_,fun p hp=>?_⟩ (fun m hm=>by cases hm) (.nil (fin true _ ?_ ?_))))))
  h (hQ false) (hQ true)
 all_goals first
  | (obtain rfl:=bT.1 hp;first | exact hd | exact he | (simp [F.app,F.of];done))
  | (intro t;simp only [F.app,F.of,List.lookup_nil];by_cases e1:t=e <;> by_cases e2:t=d <;> simp_all [List.lookup] <;> rfl)
  | (intro m hmn;simp [F.app,F.of,List.lookup,beq_eq_false_iff_ne.2 hmn])
structure SwOk (iy iy' ix:I) (n:Nat) (A':L):Prop where
  wl:iy.wl=[]
  wl':iy'.wl=[]
  nw':iy'.nw=[]
  ws:iy.ws=iy'.ws
  rs:iy.rs=iy'.rs
  rl':iy'.rl=[(n,A')]
  xw:ix.wl.lookup n=some (some A')
  a1:∀ t ∈ ix.ws.map (·.1),t ∉ iy.ws.map (·.1)
  a2:∀ t ∈ ix.rs.map (·.1),t ∉ iy.ws.map (·.1)
  a3:∀ t ∈ iy.rs.map (·.1),t ∉ ix.ws.map (·.1)
def swpB (iy iy' ix:I):Bool:=iy.wl.isEmpty && (iy'.wl.isEmpty && (iy'.nw.isEmpty && (ze7 (ix.ws.map (·.1)) (iy.ws.map (·.1)) && (ze7 (ix.rs.map (·.1)) (iy.ws.map (·.1)) && ze7 (iy.rs.map (·.1)) (ix.ws.map (·.1))))))
theorem SwOk.of {iy iy' ix:I} {A':L} (h:swpB iy iy' ix=true) (h1:iy.ws=iy'.ws) (h2:iy.rs=iy'.rs) (h3:ix.wl.lookup n=some (some A')) (h4:iy'.rl=[(n,A')]):SwOk iy iy' ix n A':=by
 simp only [swpB,bW] at h
 obtain ⟨b1,b2,b3,b4,b5,b6⟩:=h
 exact ⟨by simpa using b1,by simpa using b2,by simpa using b3,h1,h2,h4,h3,fun t ht=>zbj b4 ht,fun t ht=>zbj b5 ht,fun t ht=>zbj b6 ht⟩
theorem SwOk.swap {iy iy' ix:I} {A':L} (h:SwOk iy iy' ix n A') (hy:zfl f iy) (hx:zfl (f.app iy) ix):zfl f ix/\zfl (f.app ix) iy'/\(f.app iy).app ix=(f.app ix).app iy':=by
 have hl:∀ m,(f.app iy).l m=f.l m:=app0_l f iy h.wl
 refine ⟨⟨fun p hp=>?_,fun p hp=>?_⟩,⟨fun p hp=>?_,fun p hp=>?_⟩,?_⟩
 ·rw [<- hx.1 p hp,zfx (h.a2 _ (bG.2 ⟨p,hp,rfl⟩))]
 ·rw [<- hx.2 p hp,hl]
 ·rw [<- h.rs] at hp
  rw [zfx (h.a3 _ (bG.2 ⟨p,hp,rfl⟩))];exact hy.1 p hp
 ·rw [h.rl'] at hp
  rw [bT.1 hp]
  simp only [F.app,h.xw]
 ·simp only [F.app,F.mk.injEq]
  constructor
  ·funext t
   rw [<- h.ws]
   by_cases ht:t ∈ iy.ws.map (·.1)
   ·have:t ∉ ix.ws.map (·.1):=fun hx=>h.a1 t hx ht
    rw [zci this]
   ·rw [zci ht]
  ·funext m
   rw [h.wl,h.wl']
   rfl
section
variable {P:Program}
def mpv (n:Nat):V:=.t (.c (.mp n))
inductive KV:T->Value->Prop
  | c (v:Value):KV (.c (.d (.raw v))) v
  | agg2 (u v:Value):KV (.agg [.d (.raw u),.d (.raw v)]) (.agg #[u,v])
theorem KV.eq {x:T} {v:Value} (h:KV x key) (hv:TR H B x v):v=key:=by
 cases h with
 | c u=>cases hv;rfl
 | agg2 u1 u2 =>
  obtain ⟨vs,rfl,h2⟩:=hv
  match vs,h2 with
  | [_,_],h2 =>
   obtain ⟨h3,h4,_⟩:=h2
   cases h3;cases h4;rfl
  | [],h2=>exact h2.elim
  | [_],h2=>exact h2.2.elim
  | _ :: _ :: _ :: _,h2=>exact h2.2.2.elim
structure MpT (P:Program) (mt kt et:TypeId) (z:Value):Prop where
  key:Maps.Keyed P kt
  ty:P.underlying mt=some (.map kt et)
  zero:∀ w,(zeroValue et).run P w = .ok z w
def KeysOk (P:Program) (kt:TypeId) (es:List (Value × D)):Prop:=∀ p ∈ es,∃ l,keyOf P kt p.1=some l
theorem zhq:∀ {es:List (Value × D)} {arr:List MapEntry}, zat (fun (p:Value × D) (e:MapEntry)=>e.key=p.1/\DR H p.2 e.val) es arr->KeysOk P kt es->∀ e ∈ arr,∃ l,keyOf P kt e.key=some l
 | [],[],_,_,e,he=>by cases he
 | p :: es,x :: arr,h,hk,e,he=>by
  rcases bQ.1 he with rfl | he
  ·rw [h.1.1];exact hk p (by simp)
  ·exact zhq h.2 (fun q hq=>hk q (by simp [hq])) e he
theorem mem_arr:∀ {es:List (Value × D)} {arr:List MapEntry}, zat (fun (p:Value × D) (e:MapEntry)=>e.key=p.1/\DR H p.2 e.val) es arr->∀ e ∈ arr,∃ p ∈ es,e.key=p.1/\DR H p.2 e.val
 | [],[],_,e,he=>by cases he
 | p :: es,x :: arr,h,e,he=>by
  rcases bQ.1 he with rfl | he
  ·exact ⟨p,by simp,h.1⟩
  ·obtain ⟨q,hq,h2⟩:=mem_arr h.2 e he
   exact ⟨q,by simp [hq],h2⟩
theorem arr_mem:∀ {es:List (Value × D)} {arr:List MapEntry}, zat (fun (p:Value × D) (e:MapEntry)=>e.key=p.1/\DR H p.2 e.val) es arr->∀ p ∈ es,∃ e ∈ arr,e.key=p.1
 | [],[],_,p,hp=>by cases hp
 | q :: es,x :: arr,h,p,hp=>by
  rcases bQ.1 hp with rfl | hp
  ·exact ⟨x,by simp,h.1.1⟩
  ·obtain ⟨e,he,h2⟩:=arr_mem h.2 p hp
   exact ⟨e,by simp [he],h2⟩
theorem Op.mkMap {d:Nat} {t:TypeId} {pos af gd}:zar P ⟨some d,.makeMap t none,ty,pos,af,gd⟩ { ws:=[(d,some (mpv n))],wl:=[(n,some (.mp []))],nw:=[n] }:=by
 refine zar.news d n _ _ rfl rfl rfl (by simp) fun e f H B a w hok hr hn=>⟨.map (some w.heap.size),0,.map #[] 0,?_,⟨w.heap.size,0,[],0,by simp,heap_alloc_new w _,trivial,Brn.nil 0⟩,⟨w.heap.size,0,by simp,rfl⟩⟩
 simp only [execOp,Instr.makeMap,newObj,Sem.run_bind,Sem.run_pure,Result.andThen_ok]
 rfl
theorem mp_at (hok:Ok e f H B a w) (ht:f.s t=some (mpv n)) (hl:f.l n=some (.mp es)) :
  ∃ b c arr cl,B n=some (b,c)/\a.eval (.tmp t) = .map (some b)/\w.heap[b]?=some (.map ⟨arr⟩ cl)/\zat (fun (p:Value × D) (e:MapEntry)=>e.key=p.1/\DR H p.2 e.val) es arr:=by
 obtain ⟨b,c,hb,hv⟩:=hok.slot t _ ht
 obtain ⟨b', c', arr,cl,hb', hc,h2,_⟩:=hok.loc n _ hl
 rw [hb] at hb'
 cases hb'
 exact ⟨b,c,arr,cl,hb,hv,hc,h2⟩
theorem mp_at2 (hok:Ok e f H B a w) (ht:f.s t=some (mpv n)) (hl:f.l n=some (.mp es)) :
  ∃ b c arr cl,B n=some (b,c)/\a.eval (.tmp t) = .map (some b)/\w.heap[b]?=some (.map ⟨arr⟩ cl)/\zat (fun (p:Value × D) (e:MapEntry)=>e.key=p.1/\DR H p.2 e.val) es arr/\Brn arr cl:=by
 obtain ⟨b,c,hb,hv⟩:=hok.slot t _ ht
 obtain ⟨b', c', arr,cl,hb', hc,h2,h3⟩:=hok.loc n _ hl
 rw [hb] at hb'
 cases hb'
 exact ⟨b,c,arr,cl,hb,hv,hc,h2,h3⟩
def lkV:Bool->D->Bool->V
  | true,x,b => .tup [.c (.d x),.c (.d (.raw (.bool b)))]
  | false,x,_ => .t (.c (.d x))
theorem lkV_of {c b:Bool} {x:D} {v:Value} (h:DR H x v):VR H B (lkV c x b) (if c then .tuple #[v,.bool b] else v):=by
 cases c with
 | true=>exact ⟨[v,.bool b],rfl,h,DR.raw _ rfl,trivial⟩
 | false=>exact h
theorem Op.lookF {d:Nat} {c:Bool} {x:Operand} {zd:D} {l:Lit} {pos af gd} (M:MpT P mt kt et z) (hx:OV x (.t kv) rs) (hkv:KV kv key) (hk:keyOf P kt key=some l) (hes:KeysOk P kt es)
  (hz:∀ H,DR H zd z) (hn:∀ p ∈ es,p.1≠key):zar P ⟨some d,.lookup mt (.tmp t) x c,ty,pos,af,gd⟩ { rs:=(t,mpv n) :: rs,rl:=[(n,.mp es)],ws:=[(d,some (lkV c zd false))] } :=
 zar.value d _ rfl rfl rfl fun e f H B a w hok hr=>by
  obtain ⟨b,c', arr,cl,hb,hm,hc,h2⟩:=mp_at hok (hr.1 (t,mpv n) (by simp)) (hr.2 (n,.mp es) (by simp))
  have hxv:a.eval x=key:=hkv.eq (hx.eval hok fun p hp=>hr.1 p (by simp [hp]))
  refine ⟨_,?_,lkV_of (hz H)⟩
  rcases M.key.find w hk arr (zhq h2 hes) with ⟨h3,_⟩ | ⟨j,e0,_,h4,h5⟩
  ·have hlk:(Instr.lookup mt (.map (some b)) key c).run P w = .ok (if c then .tuple #[z,.bool false] else z) w:=by
    simp [Instr.lookup,run_underlying M.ty,MapKept.run_getObj_map hc,M.key.check w _ hk,h3,M.zero w,Result.andThen]
   generalize a.eval=ρ at hm hxv ⊢
   simp only [execOp,hm,hxv,Sem.run_bind,hlk,Result.andThen_ok,Sem.run_pure]
  ·obtain ⟨p,hp,h6,_⟩:=mem_arr h2 e0 (cE h4)
   exact absurd (h6.symm.trans h5) (hn p hp)
theorem Op.lookT {d:Nat} {c:Bool} {x:Operand} {xd:D} {l:Lit} {pos af gd} (M:MpT P mt kt et z) (hx:OV x (.t kv) rs) (hkv:KV kv key) (hk:keyOf P kt key=some l) (hes:KeysOk P kt es)
  (hn:∃ p ∈ es,p.1=key) (ha:∀ p ∈ es,p.1=key->p.2=xd):zar P ⟨some d,.lookup mt (.tmp t) x c,ty,pos,af,gd⟩ { rs:=(t,mpv n) :: rs,rl:=[(n,.mp es)],ws:=[(d,some (lkV c xd true))] } :=
 zar.value d _ rfl rfl rfl fun e f H B a w hok hr=>by
  obtain ⟨b,c', arr,cl,hb,hm,hc,h2⟩:=mp_at hok (hr.1 (t,mpv n) (by simp)) (hr.2 (n,.mp es) (by simp))
  have hxv:a.eval x=key:=hkv.eq (hx.eval hok fun p hp=>hr.1 p (by simp [hp]))
  rcases M.key.find w hk arr (zhq h2 hes) with ⟨_,h3⟩ | ⟨j,e0,h3,h4,h5⟩
  ·obtain ⟨p,hp,h4⟩:=hn
   obtain ⟨e0,he0,h5⟩:=arr_mem h2 p hp
   exact absurd (h5.trans h4) (h3 e0 he0)
  ·obtain ⟨p,hp,h6,h7⟩:=mem_arr h2 e0 (cE h4)
   rw [ha p hp (h6.symm.trans h5)] at h7
   refine ⟨_,?_,lkV_of h7⟩
   have hlk:(Instr.lookup mt (.map (some b)) key c).run P w = .ok (if c then .tuple #[e0.val,.bool true] else e0.val) w:=by
    simp [Instr.lookup,run_underlying M.ty,MapKept.run_getObj_map hc,M.key.check w _ hk,h3,Result.andThen]
   generalize a.eval=ρ at hm hxv ⊢
   simp only [execOp,hm,hxv,Sem.run_bind,hlk,Result.andThen_ok,Sem.run_pure]
def putM (w:World) (b:Nat) (o:Obj):World:={ w with heap:=w.heap.setIfInBounds b o }
theorem putM_same {b:Nat} {ob ob':Obj} (h:w.heap[b]?=some ob):(putM w b ob').heap[b]?=some ob':=Array.getElem?_setIfInBounds_self_of_lt (Array.getElem?_eq_some_iff.1 h).1
theorem putM_other {b:Nat} {ob:Obj} (h:k≠b):(putM w b ob).heap[k]?=w.heap[k]?:=Array.getElem?_setIfInBounds_ne (fun e=>h e.symm)
theorem zat.snoc {R:α->β->Prop} {xs:List α} {ys:List β} {a:α} {b:β} (h:zat R xs ys) (k:R a b):zat R (xs++[a]) (ys++[b]):=h.append ⟨k,trivial⟩
theorem Op.mapNew {x y:Operand} {xd:D} {es':List (Value × D)} {rs':List (Nat × V)} {l:Lit} {pos af gd} (M:MpT P mt kt et z) (hx:OV x (.t kv) rs) (hkv:KV kv key) (hk:keyOf P kt key=some l) (hes:KeysOk P kt es)
  (hy:OV y (.t (.c (.d xd))) rs') (hn:∀ p ∈ es,p.1≠key) (he:es++[(key,xd)]=es'):zar P ⟨none,.mapUpdate mt (.tmp t) x y,ty,pos,af,gd⟩ { rs:=(t,mpv n) :: (rs++rs'),rl:=[(n,.mp es)],wl:=[(n,some (.mp es'))] }:=by
 subst he
 rintro e f a w Q ⟨H,B,hok⟩ hr hnw hb0
 have hfl:=hr.2 (n,.mp es) (by simp)
 obtain ⟨b,c', arr,cl,hb,hm,hc,h2,hbr⟩:=mp_at2 hok (hr.1 (t,mpv n) (by simp)) hfl
 have hxv:a.eval x=key:=hkv.eq (hx.eval hok fun p hp=>hr.1 p (by simp [hp]))
 have hyv:=hy.eval hok fun p hp=>hr.1 p (by simp [hp])
 rcases M.key.find w hk arr (zhq h2 hes) with ⟨h3,_⟩ | ⟨j,e0,_,h4,h5⟩
 ·have hup:(Instr.mapUpdate mt (.map (some b)) key (a.eval y)).run P w = .ok () (putM w b (.map ⟨arr++[⟨key,a.eval y,cl⟩]⟩ (cl+1))):=by
   simp [Instr.mapUpdate,run_underlying M.ty,MapKept.run_getObj_map hc,M.key.check w _ hk,h3,MapKept.run_setObj_map _ hc,Result.andThen,putM]
  have hexec:(execOp a.eval ⟨none,.mapUpdate mt (.tmp t) x y,ty,pos,af,gd⟩).run P w = .ok .skip (putM w b (.map ⟨arr++[⟨key,a.eval y,cl⟩]⟩ (cl+1))):=by
   generalize hq:a.eval y=q at hup
   generalize a.eval=ρ at hm hxv hq ⊢
   simp only [execOp,hm,hxv,hq,Sem.run_bind,hup,Result.andThen_ok,Sem.run_pure]
  unfold Oper.wp
  rw [hexec,Oper.upon_skip]
  refine St.put0 ⟨H,B,hok.write (g:=⟨f.s,fun m=>if m=n then some (.mp (es++[(key,xd)])) else f.l m⟩) (l' := .mp (es++[(key,xd)])) hfl hb (fun _=>rfl) (fun _=>rfl) (fun k hk=>putM_other hk) (by simp [putM]) rfl rfl rfl
   ⟨b,c', _,_,hb,putM_same hc,h2.snoc ⟨rfl,(show DR H xd (a.eval y) from hyv)⟩,hbr.snoc _ _⟩⟩ rfl (app0_s _ _ rfl) (fun m=>zh3 f n _ _ rfl m)
 ·obtain ⟨p,hp,h6,_⟩:=mem_arr h2 e0 (cE h4)
  exact absurd (h6.symm.trans h5) (hn p hp)
theorem F.eq_of {g:F} (h1:∀ t,f.s t=g.s t) (h2:∀ n,f.l n=g.l n):f=g:=by
 cases f;cases g
 simp only [F.mk.injEq]
 exact ⟨funext h1,funext h2⟩
theorem zfu (ids:List Nat) (n:Nat):∀ (l:List (Nat × β)),(l.filter fun p=>!zcm ids p.1).lookup n=if zcm ids n=true then none else l.lookup n
 | []=>by simp
 | (m,b) :: l=>by
  have ih:=zfu ids n l
  rw [List.filter_cons]
  by_cases hm:zcm ids m=true
  ·simp only [hm,Bool.not_true,Bool.false_eq_true,if_false]
   rw [ih]
   by_cases hn:zcm ids n=true
   ·rw [if_pos hn,if_pos hn]
   ·rw [if_neg hn,if_neg hn,bC]
    have:(n == m)=false:=by
     cases e:(n == m) with
     | false=>rfl
     | true=>have:=eq_of_beq e;subst this;exact absurd hm hn
    rw [this]
  ·have hm':(!zcm ids m)=true:=by simpa using hm
   simp only [hm', if_true]
   rw [bC,bC]
   cases e:(n == m) with
   | true=>have:=eq_of_beq e;subst this;dsimp only;rw [if_neg hm]
   | false=>dsimp only;exact ih
theorem zar.idle {o:Oper} {i:I} (h:zar P o i) (ids:List Nat) (hi:(ids.map fun n=>i.wl.lookup n)=ids.map fun n=>(i.rl.lookup n).map some):zar P o { i with wl:=i.wl.filter fun p=>!zcm ids p.1 }:=by
 intro e f a w Q hst hr hn hf
 have h1:=h e f a w Q hst hr hn hf
 have e1:f.app { i with wl:=i.wl.filter fun p=>!zcm ids p.1 }=f.app i:=by
  refine F.eq_of (fun t=>rfl) fun n=>?_
  simp only [F.app,zfu]
  by_cases hn2:zcm ids n=true
  ·rw [if_pos hn2]
   have h2:i.wl.lookup n=(i.rl.lookup n).map some:=by
    have hmem:=zb5.1 hn2
    obtain ⟨j,hj⟩:=List.getElem?_of_mem hmem
    have h3:=congrArg (fun (l:List (Option (Option L)))=>l[j]?) hi
    simp only [bN,hj,bS,Option.some.injEq] at h3
    exact h3
   rw [h2]
   cases hl:i.rl.lookup n with
   | none=>rfl
   | some l=>exact hr.2 (n,l) (zae hl)
  ·rw [if_neg hn2]
 rw [e1];exact h1
theorem Op.nilQ {d:Nat} {pos af gd}:zar P ⟨some d,.nilCheck (.tmp t),ty,pos,af,gd⟩ { rs:=[(t,vp n o)],ws:=[(d,some (vp n o))] } :=
 zar.value d _ rfl rfl rfl fun e f H B a w hok hr=>by
  obtain ⟨b,c,hb,hu⟩:=(hok.slot t _ (hr.1 (t,vp n o) (by simp))).ptrI
  refine ⟨.pointer (some ⟨b,o,none⟩),?_,⟨b,c,hb,rfl⟩⟩
  have h5:a.eval (.tmp t) = .pointer (some ⟨b,o,none⟩):=hu
  generalize a.eval=ρ at h5 ⊢
  simp only [execOp,h5,Sem.run_pure]
end
theorem vb3_3:zax dY 59:=zax.mk' (by kernel_rfl)
theorem vb3_8:ElT dY 22 24 3 40:=ElT.mk' Tryz.underlying22 _ _ rfl rfl
theorem vb3_9:ArT dY 110 3 2 1:=ArT.mk' Tryz.underlying110 (by kernel_rfl)
theorem vb3_10:Zero dY 110 [.d (.raw (.int .i64 0)),.d (.raw (.int .i64 0))]:=⟨(Value.agg #[.int .i64 0,.int .i64 0]),[.int .i64 0,.int .i64 0],by kernel_rfl,rfl,(fun _ _=>⟨DR.raw _ rfl,DR.raw _ rfl,trivial⟩)⟩
theorem vb3_11:ElZ dY 62 110 2:=ElZ.mk' Tryz.underlying62 _ _ rfl rfl
theorem vb3_12:ElT dY 62 110 2 16:=ElT.mk' Tryz.underlying62 _ _ rfl rfl
theorem vb3_14:SlT dY 62 110 2:=SlT.mk' Tryz.underlying62 (by kernel_rfl)
def prI (x:Int × Int):List D:=[.raw (.int .i64 x.1),.raw (.int .i64 x.2)]
theorem zcu:∀ (f:PF) (s:zdo),(zb0 f s).1.al.length<=s.al.length+psz f
 | .tt,s=>by unfold zb0;split <;> simp [psh,psz]
 | .ff,s=>by unfold zb0;split <;> simp [psh,psz]
 | .pa p,s=>by unfold zb0;split <;> simp [psh,psz]
 | .na p,s=>by
  unfold zb0
  split
  ·simp
  ·simp only
   split <;> simp [psh,psz]
 | .nx p,s=>by
  unfold zb0
  split
  ·simp
  ·have:=zcu p (psh s (.nx p));simp only [psh,bB,bV,psz] at *;omega
 | .and p q,s=>by
  unfold zb0
  split
  ·simp
  ·have h1:=zcu p (psh s (.and p q))
   have h2:=zcu q ⟨(zb0 p (psh s (.and p q))).1.al,zeq (zb0 p (psh s (.and p q))).1.kids s.al.length 0 (zb0 p (psh s (.and p q))).2⟩
   simp only [psh,bB,bV,psz] at *;omega
 | .or p q,s=>by
  unfold zb0
  split
  ·simp
  ·have h1:=zcu p (psh s (.or p q))
   have h2:=zcu q ⟨(zb0 p (psh s (.or p q))).1.al,zeq (zb0 p (psh s (.or p q))).1.kids s.al.length 0 (zb0 p (psh s (.or p q))).2⟩
   simp only [psh,bB,bV,psz] at *;omega
 | .un p q,s=>by
  unfold zb0
  split
  ·simp
  ·have h1:=zcu p (psh s (.un p q))
   have h2:=zcu q ⟨(zb0 p (psh s (.un p q))).1.al,zeq (zb0 p (psh s (.un p q))).1.kids s.al.length 0 (zb0 p (psh s (.un p q))).2⟩
   simp only [psh,bB,bV,psz] at *;omega
 | .fr p q,s=>by
  unfold zb0
  split
  ·simp
  ·have h1:=zcu p (psh s (.fr p q))
   have h2:=zcu q ⟨(zb0 p (psh s (.fr p q))).1.al,zeq (zb0 p (psh s (.fr p q))).1.kids s.al.length 0 (zb0 p (psh s (.fr p q))).2⟩
   simp only [psh,bB,bV,psz] at *;omega
def zda:PF->List PF
  | .na p=>[.pa p]
  | .and p q=>[p,q]
  | .or p q=>[p,q]
  | .nx p=>[p]
  | .un p q=>[p,q]
  | .fr p q=>[p,q]
  | _=>[]
theorem kids_l (p:PF):p.l.kids=(zda p).map d5:=by cases p <;> rfl
theorem zef (p:PF):p.l.kids.length=(zda p).length:=by rw [kids_l,bA]
theorem kids_le (p:PF):(zda p).length<=2:=by cases p <;> simp [zda]
def kdP (p:PF) (j:Nat):PF:=((zda p)[j]?).getD .ff
theorem kd_at {p:PF} (h:j<(zda p).length):p.l.kids[j]?=some (kdP p j).l:=by
 rw [kids_l,bN];unfold kdP;rw [bO h];rfl
def zch (s:zdo) (p:PF):Nat->zdo
  | 0=>psh s p
  | j+1=>⟨(zb0 (kdP p j) (zch s p j)).1.al,zeq (zb0 (kdP p j) (zch s p j)).1.kids s.al.length j (zb0 (kdP p j) (zch s p j)).2⟩
theorem numF_pa (s:zdo) (p:Int):zb0 (.pa p) s=if 0<=ze9 s (.pa p) then (s,ze9 s (.pa p)) else (psh s (.pa p),(s.al.length:Int)):=by rw [zb0]
theorem numF_eq (p:PF) (s:zdo):zb0 p s=if 0<=ze9 s p then (s,ze9 s p) else (zch s p (zda p).length,(s.al.length:Int)):=by
 cases p with
 | na p =>
  conv=>lhs;unfold zb0
  simp only [zda,bV,zch,kdP,c7,Option.getD_some]
  rw [numF_pa]
 | _=>rw [zb0];rfl
theorem numJ_bd (s:zdo) (hs:s.kids.length=s.al.length) (p:PF):∀ j,j<=(zda p).length->(zch s p j).kids.length=(zch s p j).al.length/\s.al.length<(zch s p j).al.length/\(zch s p j).al.length+(if j<(zda p).length then psz (kdP p j) else 0)<=s.al.length+psz p/\(j<(zda p).length->psz (kdP p j)<psz p)
 | 0,_=>by
  refine ⟨by simp [zch,psh,hs],by simp [zch,psh],?_,fun h=>?_⟩
  ·cases p <;> simp [zch,psh,zda,kdP,psz] <;> omega
  ·cases p <;> simp [zda] at h <;> simp [zda,kdP,psz] <;> omega
 | j+1,hj=>by
  obtain ⟨h1,h2,h3,h4⟩:=numJ_bd s hs p j (by omega)
  rw [if_pos (by omega)] at h3
  have h5:=zbq (kdP p j) (zch s p j) h1
  have h6:=zcu (kdP p j) (zch s p j)
  obtain ⟨e,he⟩:=h5.ext
  have h7:(zch s p j).al.length<=(zb0 (kdP p j) (zch s p j)).1.al.length:=by rw [he];simp
  refine ⟨by simp only [zch];rw [zdr];exact h5.len,by simp only [zch];omega,?_,fun h=>?_⟩
  ·simp only [zch]
   by_cases hk:j+1<(zda p).length
   ·rw [if_pos hk]
    have h8:=kids_le p
    have hj0:j=0:=by omega
    subst hj0
    have h9:(zb0 (kdP p 0) (zch s p 0)).1.al.length<=s.al.length+1+psz (kdP p 0):=by simpa [zch,psh] using h6
    have h10:psz p=1+psz (kdP p 0)+psz (kdP p 1):=by cases p <;> simp [zda] at hk <;> simp [zda,kdP,psz]
    show _+psz (kdP p 1)<=_
    omega
   ·rw [if_neg hk];omega
  ·have h8:=kids_le p
   have hj0:j=0:=by omega
   subst hj0
   cases p <;> simp [zda] at h <;> simp [zda,kdP,psz] <;> omega
theorem fnd_map (s:zdo) (p:PF):zbf (zb3 p.l) (s.al.map d5) 0=ze9 s p:=by
 unfold ze9
 have:∀ (xs:List PF) (n:Nat),zbf (zb3 p.l) (xs.map d5) n=zbf (fun g=>PF.beq p g) xs n:=by
  intro xs
  induction xs with
  | nil=>intro n;rfl
  | cons x xs ih=>intro n;simp only [bU,zbf];rw [same_pf,ih]
 exact this _ _
theorem push_set (xs:List α) (z x:α) (n:Nat) (h:n=xs.length):(xs++[z]).set n x=xs++[x]:=by subst h;rw [List.set_append_right _ _ (bK _),cT];rfl
theorem psh_al (s:zdo) (p:PF):s.al.map d5++[p.l]=(psh s p).al.map d5:=by simp [psh]
theorem setK_row {K:List (Int × Int)} {x:Int × Int} (h:K[i]?=some x) (hj:j<2) (n:Int):(K.map prI).set i (zg5 (prI x) j [.raw (.int .i64 n)])=(zeq K i j n).map prI:=by
 refine cN fun m=>?_
 rw [bN,zes]
 by_cases e:i=m
 ·subst e
  rw [if_pos rfl,cL (by rw [bA];exact (bJ.1 h).1),h]
  rcases (show j=0\/j=1 by omega) with rfl | rfl <;> rfl
 ·rw [if_neg e,cD e,bN]
theorem zero_ltl:∀ H B,TR H B (.agg ((d6 (za2.mk 0 0 [])).map C.d)) (.agg #[.int .i64 0,.int .i64 0,.slice none 0 0]):=fun H B=>by rw [d7];exact ⟨_,rfl,DR.raw _ rfl,DR.raw _ rfl,DR.nil 3 none 0 (fun _=>rfl) (bP _),trivial⟩
theorem SNum1 (g f:za2) :Fn dY 59 [(20,.box [cI f.kind,cI f.prop,.d (.sl 3 (f.kids.map d6))])] [vG [cI g.kind,cI g.prop,.d (.sl 3 (g.kids.map d6))],vp 20 0] (vb (zb3 f g)) [(20,.box [cI f.kind,cI f.prop,.d (.sl 3 (f.kids.map d6))])]:=by
 refine fB Tryz.func59 rfl 7 fun w H B a h=>Jq 22 [] [(1,vp 20 0),(2,vp 22 0),(3,vb false)] [(20,.box [cI f.kind,cI f.prop,.d (.sl 3 (f.kids.map d6))]),(22,.box [cI g.kind,cI g.prop,.d (.sl 3 (g.kids.map d6))])] h fun a w h=>Jg 23 [(2,.call (SWSame f g))] [1,2] [(3,vb (zb3 f g))] [22] [] h fun a w h=>qV (rT (.c (cB (zb3 f g))) h rfl ?_)
 rfl
theorem SNumIdx (xs:List za2) (f:za2) (hl:xs.length<=1000000):Fn dY 58 [(8,.row 24 3 (xs.map d6)),(20,.box [cI f.kind,cI f.prop,.d (.sl 3 (f.kids.map d6))])] [vO 8 xs.length,.t (.c (.fn (.func 59) [] [.ptr 20 0]))] (vI (zbf (zb3 f) xs 0)) [(8,.row 24 3 (xs.map d6)),(20,.box [cI f.kind,cI f.prop,.d (.sl 3 (f.kids.map d6))])]:=by
 refine fB Tryz.func58 rfl 19 fun w H B a h=>Jq 22 [] [(0,vO 8 xs.length),(1,.t (.c (.fn (.func 59) [] [.ptr 20 0]))),(4,vI 0)] [(8,.row 24 3 (xs.map d6)),(20,.box [cI f.kind,cI f.prop,.d (.sl 3 (f.kids.map d6))])] h fun a w h=>qW (Je 22 [] [] [(7,vN xs.length),(8,vI 0)] h fun a w h=>qZ ?_)
 refine zdp (ι:=(Nat)) (fun j=>j<=xs.length/\zbf (zb3 f) xs 0=zbf (zb3 f) (xs.drop j) j)
   [4] (fun j=>[(8,vN j)])
   [] (fun j=>[])
   (fun j=>xs.length - j) 0 ?_ h ?_
 ·exact ⟨bP _,rfl⟩
 clear h;rintro j a w hI h;obtain ⟨hI1,hI2⟩:=hI;refine Je 22 [] [] [(9,vb (decide ((j:Int)<(xs.length:Int))))] h fun a w h=>qW (zav ((j:Int)<(xs.length:Int)) h (fun hc1 hc1'=>?_) (fun hc4 hc4'=>?_))
 ·refine qU (za1 (qW (qZ (Je 22 [] [9] [(5,vN j)] h fun a w h=>?_))));obtain ⟨x1,hx1⟩:=gl xs j;refine Je 22 [(3,.g (xO 14 12 8 xs.length j zha (d4 13 _))),(4,.g (Op.loadR_agg (d:=15) (t:=14) (n:=8) (i:=j) (fo:=0) (rty:=24) (es:=3) (xs:=[.raw (.int .i64 x1.kind),.raw (.int .i64 x1.prop),.sl 3 (x1.kids.map d6)]) zdy rfl ((zab hx1 (f:=d6)).trans (congrArg some (d7 x1))) rfl rfl)),(5,.g (Op.callV (d:=16) (t:=11) (cap:=[.ptr 20 0]) (args:=[vG [cI x1.kind,cI x1.prop,.d (.sl 3 (x1.kids.map d6))]]) (rs:=[(15,vG [cI x1.kind,cI x1.prop,.d (.sl 3 (x1.kids.map d6))])]) (tys:=#[24]) (SNum1 x1 f) vb3_3 (OVs.cons (d4 15 _) (OVs.nil))))] [] [(16,vb (zb3 f x1))] h fun a w h=>cS (zb3 f x1) h (fun hc2=>?_) (fun hc3=>?_)
  ·refine Je 22 [] [5,16] [(4,vN j)] h fun a w h=>qV (zaa (za5 (za5 (zaa (za5 (rT (.c (cI (j:Int))) h rfl ?_))))));have hz:zbf (zb3 f) xs 0=(j:Int):=by rw [hI2,zcj hx1,if_pos hc2]
   rw [hz];try rfl
  refine qU (za7 (za1 (Jf 22 [(0,.j1 j)] [5,16] [(8,vI ((j:Int)+1))] h fun a w h=>za1 (zaj (x:=j) (y:=j+1) h ?_ ?_))))
  ·exact ⟨by have:=zal hx1;omega,by rw [hI2,zcj hx1,if_neg (by rw [hc3];exact Bool.noConfusion)]⟩
  show xs.length - (j+1)<xs.length - j;have:=zal hx1;omega
 refine exA (Jp 22 [] [(4,vI (-1))] h fun a w h=>qV (rT (.c (cI (-1))) h rfl ?_));have hz:zbf (zb3 f) xs 0=-1:=by rw [hI2,dX (by omega)];rfl
 rw [hz];try rfl
theorem num_idx (s:zdo) (p:PF) (hl:s.al.length<=1000000):Fn dY 58 [(8,.row 24 3 ((s.al.map d5).map d6)),(20,.box [cI p.l.kind,cI p.l.prop,.d (.sl 3 (p.l.kids.map d6))])] [vO 8 s.al.length,.t (.c (.fn (.func 59) [] [.ptr 20 0]))] (vi .i64 (ze9 s p)) [(8,.row 24 3 ((s.al.map d5).map d6)),(20,.box [cI p.l.kind,cI p.l.prop,.d (.sl 3 (p.l.kids.map d6))])]:=by
 have h:=SNumIdx (s.al.map d5) p.l (by rw [bA];exact hl)
 rw [bA,fnd_map] at h
 exact h
theorem num_ren {v2 v3:Value} {q:PF} {t:zdo} (h:Fn dY 27 [(0,.box [.own 8 t.al.length,.own 9 t.kids.length,.d (.raw v2),.d (.raw v3)]),(8,.row 24 3 ((t.al.map d5).map d6)),(9,.row 110 2 (t.kids.map prI))] [vp 0 0,vG [cI q.l.kind,cI q.l.prop,.d (.sl 3 (q.l.kids.map d6))]] (vi .i64 (zb0 q t).2) [(0,.box [.own 18 (zb0 q t).1.al.length,.own 19 (zb0 q t).1.kids.length,.d (.raw v2),.d (.raw v3)]),(18,.row 24 3 (((zb0 q t).1.al.map d5).map d6)),(19,.row 110 2 ((zb0 q t).1.kids.map prI))]):Fn dY 27 [(0,.box [.own 28 t.al.length,.own 29 t.kids.length,.d (.raw v2),.d (.raw v3)]),(28,.row 24 3 ((t.al.map d5).map d6)),(29,.row 110 2 (t.kids.map prI))] [vp 0 0,vG [cI q.l.kind,cI q.l.prop,.d (.sl 3 (q.l.kids.map d6))]] (vi .i64 (zb0 q t).2) [(0,.box [.own 18 (zb0 q t).1.al.length,.own 19 (zb0 q t).1.kids.length,.d (.raw v2),.d (.raw v3)]),(18,.row 24 3 (((zb0 q t).1.al.map d5).map d6)),(19,.row 110 2 ((zb0 q t).1.kids.map prI))]:=by
 refine Fn.renP 9 29 (Fn.renP (ps':=[(0,.box [.own 28 t.al.length,.own 9 t.kids.length,.d (.raw v2),.d (.raw v3)]),(28,.row 24 3 ((t.al.map d5).map d6)),(9,.row 110 2 (t.kids.map prI))]) (args':=[vp 0 0,vG [cI q.l.kind,cI q.l.prop,.d (.sl 3 (q.l.kids.map d6))]]) 8 28 h (by decide) rfl rfl ?_ ?_) (by decide) rfl rfl ?_ ?_ <;> kernel_rfl
theorem SNumber0 (v2 v3:Value) (p:PF) (s:zdo) (ih:∀ (q:PF) (t:zdo),psz q<psz p->t.kids.length=t.al.length->t.al.length+psz q<=100000->Fn dY 27 [(0,.box [.own 8 t.al.length,.own 9 t.kids.length,.d (.raw v2),.d (.raw v3)]),(8,.row 24 3 ((t.al.map d5).map d6)),(9,.row 110 2 (t.kids.map prI))] [vp 0 0,vG [cI q.l.kind,cI q.l.prop,.d (.sl 3 (q.l.kids.map d6))]] (vI (zb0 q t).2) [(0,.box [.own 18 (zb0 q t).1.al.length,.own 19 (zb0 q t).1.kids.length,.d (.raw v2),.d (.raw v3)]),(18,.row 24 3 (((zb0 q t).1.al.map d5).map d6)),(19,.row 110 2 ((zb0 q t).1.kids.map prI))]) (hs:s.kids.length=s.al.length) (hb:s.al.length+psz p<=100000):Fn dY 27 [(0,.box [.own 8 s.al.length,.own 9 s.kids.length,.d (.raw v2),.d (.raw v3)]),(8,.row 24 3 ((s.al.map d5).map d6)),(9,.row 110 2 (s.kids.map prI))] [vp 0 0,vG [cI p.l.kind,cI p.l.prop,.d (.sl 3 (p.l.kids.map d6))]] (vI (zb0 p s).2) [(0,.box [.own 18 (zb0 p s).1.al.length,.own 19 (zb0 p s).1.kids.length,.d (.raw v2),.d (.raw v3)]),(18,.row 24 3 (((zb0 p s).1.al.map d5).map d6)),(19,.row 110 2 ((zb0 p s).1.kids.map prI))]:=by
 have hpz:1<=psz p:=by cases p <;> simp [psz] <;> omega
 refine fB Tryz.func27 rfl 78 fun w H B a h=>Jq 20 [] [(0,vp 0 0),(3,vp 20 0),(4,vI 0)] [(0,.box [.own 8 s.al.length,.own 9 s.kids.length,.d (.raw v2),.d (.raw v3)]),(8,.row 24 3 ((s.al.map d5).map d6)),(9,.row 110 2 (s.kids.map prI)),(20,.box [cI p.l.kind,cI p.l.prop,.d (.sl 3 (p.l.kids.map d6))])] h fun a w h=>Je 21 [(1,.g (Op.nilQ (d:=10) (t:=9) (n:=0) (o:=0))),(4,.g (Op.makeFs (d:=13) (fn:=.func 59) [(3,20,0)])),(5,.call (num_idx s p (by omega)))] [] [(5,vI (ze9 s p))] h fun a w h=>qW (Je 21 [] [] [(16,vb (decide (ze9 s p>=0)))] h fun a w h=>zav (ze9 s p>=0) h (fun hc1 hc1'=>?_) (fun hc2 hc2'=>?_))
 ·refine Je 21 [] [16] [(4,vI (ze9 s p))] h fun a w h=>qV (za5 ?_);have hnz:(zb0 p s)=(s,ze9 s p):=by rw [numF_eq,if_pos (by have:=dT hc1;omega)]
  have hnz1:s=(zb0 p s).1:=by rw [hnz]
  replace h:=atS (sl':=[(4,vI (ze9 s p))]) (lc':=[(0,.box [.own 8 s.al.length,.own 9 s.kids.length,.d (.raw v2),.d (.raw v3)]),(8,.row 24 3 ((s.al.map d5).map d6)),(9,.row 110 2 (s.kids.map prI))]) h;replace h:=cv (fun z_:zdo=>F.of [(4,vI (ze9 s p))] [(0,.box [.own 8 z_.al.length,.own 9 z_.kids.length,.d (.raw v2),.d (.raw v3)]),(8,.row 24 3 ((z_.al.map d5).map d6)),(9,.row 110 2 (z_.kids.map prI))]) hnz1 h;replace h:=zb7 8 18 h;replace h:=zb7 9 19 h;refine rT (.c (cI (ze9 s p))) h rfl ?_;rw [hnz];try rfl
 refine qU (za1 (Je 21 [(1,.g (Op.nilQ (d:=19) (t:=18) (n:=0) (o:=0)))] [16] [(5,vN s.al.length)] h fun a w h=>midH h [(0,vp 0 0),(3,vp 20 0),(4,vI 0),(5,vN s.al.length)] [(0,.box [.own 30 (psh s p).al.length,.own 9 s.kids.length,.d (.raw v2),.d (.raw v3)]),(9,.row 110 2 (s.kids.map prI)),(20,.box [cI p.l.kind,cI p.l.prop,.d (.sl 3 (p.l.kids.map d6))]),(30,.row 24 3 (((psh s p).al.map d5).map d6))] ?_ (fun a w h=>?_)))
 ·refine qW (coinS 23 24 21 mixed rfl (by kernel_rfl) (by kernel_rfl) (by kernel_rfl) (by kernel_rfl) (by kernel_rfl) rfl rfl rfl rfl (.run rfl (Op.allocZ va6_3)) (fun c => .run rfl (Op.store zh9 (dZ _ rfl) rfl rfl rfl)) (fun c => .run rfl (Op.store zh9 (dZ _ rfl) rfl rfl rfl)) (fun c => .run rfl (Op.load_c zh9 rfl)) (by decide) (by decide) (by decide) (by kernel_rfl) [(0,vp 0 0),(3,vp 20 0),(4,vI 0),(5,vN s.al.length)] (fun b=>by kernel_rfl) h ?_);clear h;intro b a w h;refine cS b h (fun hc3=>?_) (fun hc4=>?_)
  ·refine Jg 21 [(1,.g (Op.nilQ (d:=26) (t:=25) (n:=0) (o:=0))),(5,.g (Op.buildDK (d:=30) (r:=d6 (za2.mk 0 0 [])) va1_4 zero_ltl (d8 _) (by rw [d7]; try kernel_rfl) (by decide))),(6,.g (Op.appOD (d:=31) (t:=28) (u:=30) (n:=8) (n':=21) (len:=s.al.length) (len':=((s.al.map d5)++[za2.mk 0 0 []]).length) (rows:=(s.al.map d5).map d6) (rows2:=[za2.mk 0 0 []].map d6) (rows':=((s.al.map d5)++[za2.mk 0 0 []]).map d6) vb3_8 (by first | exact (bA _).symm | simp) (by first | (rw [bB,bA];done) | (simp;done) | (simp;omega)) (by simp) (by simp [d8]) (by first | omega | (simp at *;done) | (simp at *;omega)))),(7,.g (Op.nilQ (d:=32) (t:=25) (n:=0) (o:=0)))] [] [(29,vN s.al.length),(31,vO 21 ((s.al.map d5)++[za2.mk 0 0 []]).length)] [8] [(0,.box ([.own 21 ((s.al.map d5)++[za2.mk 0 0 []]).length,.own 9 s.kids.length,.d (.raw v2),.d (.raw v3)])),(21,.row 24 3 (((s.al.map d5)++[za2.mk 0 0 []]).map d6))] h fun a w h=>Jh 22 [(1,.g (Op.idxO (d:=35) (t:=31) (k:=.i64) (n:=21) (len:=((s.al.map d5)++[za2.mk 0 0 []]).length) (i:=s.al.length) zha (by first | omega | (simp;done) | (simp at *;omega)) (d4 29 _))),(2,.g (Op.storeR (t:=35) (n:=21) (i:=s.al.length) (fo:=0) (rty:=24) (es:=3) (r:=d6 (za2.mk 0 0 [])) (ds:=[.raw (.int .i64 p.l.kind),.raw (.int .i64 p.l.prop),.sl 3 (p.l.kids.map d6)]) (rs:=[(34,vG [cI p.l.kind,cI p.l.prop,.d (.sl 3 (p.l.kids.map d6))])]) (rows:=((s.al.map d5)++[za2.mk 0 0 []]).map d6) (rows':=(((s.al.map d5)++[za2.mk 0 0 []]).set s.al.length p.l).map d6) zdy (d4 34 _) rfl rfl rfl (zab (by rw [dP (by simp),bA,cT];rfl) (f:=d6)) (by rw [d8];decide) (zfg (xs:=((s.al.map d5)++[za2.mk 0 0 []])) (F:=d6) s.al.length _ _ (by rw [d7 (za2.mk 0 0 []),d7 p.l];rfl))))] [29,31] [] [] [(21,.row 24 3 ((((s.al.map d5)++[za2.mk 0 0 []]).set s.al.length p.l).map d6))] h fun a w h=>?_;refine za1 ?_;have hra:(((s.al.map d5)++[za2.mk 0 0 []]).set s.al.length p.l)=(psh s p).al.map d5:=by rw [push_set _ _ _ _ (bA _).symm,psh_al]
   have hrl:((s.al.map d5)++[za2.mk 0 0 []]).length=(psh s p).al.length:=by simp [psh]
   replace h:=cvM [] [] [] [(0,.box [.own 21 (psh s p).al.length,.own 9 s.kids.length,.d (.raw v2),.d (.raw v3)]),(21,.row 24 3 (((psh s p).al.map d5).map d6))] (by rw [hrl,hra]; try kernel_rfl) h;replace h:=zb7 21 30 h;exact atS h
  refine Jh 22 [(2,.g (Op.nilQ (d:=38) (t:=37) (n:=0) (o:=0))),(6,.g (bD 42 ([p.l].map d6) [(41,vG [cI p.l.kind,cI p.l.prop,.d (.sl 3 (p.l.kids.map d6))])] va1_4 (.cons (i:=0) (d4 41 _) (.nil)) (by simp only [bU,cM,cH,cQ,cA,d7]; try kernel_rfl) (by simp [d8]))),(7,.g (Op.appOD (d:=43) (t:=40) (u:=42) (n:=8) (n':=22) (len:=s.al.length) (len':=((s.al.map d5)++[p.l]).length) (rows:=(s.al.map d5).map d6) (rows2:=[p.l].map d6) (rows':=((s.al.map d5)++[p.l]).map d6) vb3_8 (by first | exact (bA _).symm | simp) (by first | (rw [bB,bA];done) | (simp;done) | (simp;omega)) (by simp) (by simp [d8]) (by first | omega | (simp at *;done) | (simp at *;omega)))),(8,.g (Op.nilQ (d:=44) (t:=36) (n:=0) (o:=0)))] [] [] [8] [(0,.box ([.own 22 ((s.al.map d5)++[p.l]).length,.own 9 s.kids.length,.d (.raw v2),.d (.raw v3)])),(22,.row 24 3 (((s.al.map d5)++[p.l]).map d6))] h fun a w h=>za1 ?_;have hra:((s.al.map d5)++[p.l])=(psh s p).al.map d5:=by rw [psh_al]
  have hrl:((s.al.map d5)++[p.l]).length=(psh s p).al.length:=by simp [psh]
  replace h:=cvM [] [] [] [(0,.box [.own 22 (psh s p).al.length,.own 9 s.kids.length,.d (.raw v2),.d (.raw v3)]),(22,.row 24 3 (((psh s p).al.map d5).map d6))] (by rw [hrl,hra]; try kernel_rfl) h;replace h:=zb7 22 30 h;exact atS h
 refine Jg 23 [(2,.g (Op.nilQ (d:=48) (t:=47) (n:=0) (o:=0))),(5,.g (Op.buildA0 (d:=51) vb3_9 vb3_10)),(6,.g (bD 52 ([(0,0)].map prI) [(51,vG [cI 0,cI 0])] vb3_11 (.cons (i:=0) (d4 51 _) (.nil)) (by kernel_rfl) (by simp [prI]))),(7,.g (Op.appOD (d:=53) (t:=50) (u:=52) (n:=9) (n':=23) (len:=s.kids.length) (len':=(s.kids++[(0,0)]).length) (rows:=s.kids.map prI) (rows2:=[(0,0)].map prI) (rows':=(s.kids++[(0,0)]).map prI) vb3_12 (by first | exact (bA _).symm | simp) (by first | (rw [bB,bA];done) | (simp;done) | (simp;omega)) (by simp) (by simp [prI]) (by first | omega | (simp at *;done) | (simp at *;omega)))),(8,.g (Op.nilQ (d:=54) (t:=46) (n:=0) (o:=0)))] [] [] [9] [(0,.box ([.own 30 (psh s p).al.length,.own 23 (s.kids++[(0,0)]).length,.d (.raw v2),.d (.raw v3)])),(23,.row 110 2 ((s.kids++[(0,0)]).map prI))] h fun a w h=>qW (Jg 24 [(2,.len (za9 3 d6 p.l.kids))] [3] [(57,vS 3 (p.l.kids.map d6)),(58,vN p.l.kids.length),(59,vI 0)] [20] [] h fun a w h=>qZ ?_);have hkl:(s.kids++[(0,0)]).length=(zch s p 0).kids.length:=by simp [zch,psh]
 replace h:=cvM [] [] [] [(0,.box [.own 30 (zch s p 0).al.length,.own 23 (zch s p 0).kids.length,.d (.raw v2),.d (.raw v3)]),(30,.row 24 3 (((zch s p 0).al.map d5).map d6)),(23,.row 110 2 ((zch s p 0).kids.map prI))] (by rw [hkl]; try kernel_rfl) h;replace h:=zb7 30 28 h;replace h:=zb7 23 29 h
 refine zdp (ι:=(Nat)) (fun j=>j<=(zda p).length)
   [] (fun j=>[(59,vN j)])
   [] (fun j=>[(0,.box [.own 28 (zch s p j).al.length,.own 29 (zch s p j).kids.length,.d (.raw v2),.d (.raw v3)]),(28,.row 24 3 (((zch s p j).al.map d5).map d6)),(29,.row 110 2 ((zch s p j).kids.map prI))])
   (fun j=>(zda p).length - j) 0 ?_ h ?_
 ·exact bP _
 clear h;rintro j a w hI h;have hnb:=numJ_bd s hs p j hI;have hk2:=kids_le p;refine Je 24 [] [] [(60,vb (decide ((j:Int)<(p.l.kids.length:Int))))] h fun a w h=>qW (zav ((j:Int)<(p.l.kids.length:Int)) h (fun hc5 hc5'=>?_) (fun hc6 hc6'=>?_))
 ·refine qU (za1 (qW (qZ (Jg 24 [(1,.g (xD 62 57 zha ((zab (kd_at (by have:=dT hc5;rw [zef] at this;omega)) (f:=d6)).trans (congrArg some (d7 (kdP p j).l))) (d4 59 _)))] [60] [(6,vN j),(7,vp 24 0)] [] [(24,.box [cI (kdP p j).l.kind,cI (kdP p j).l.prop,.d (.sl 3 ((kdP p j).l.kids.map d6))])] h fun a w h=>?_))));have hnb3:=hnb.2.2.1;rw [if_pos (by have:=dT hc5;rw [zef] at this;omega)] at hnb3;have hnb4:=hnb.2.2.2 (by have:=dT hc5;rw [zef] at this;omega);refine Jg 25 [(2,.call (num_ren (ih _ (zch s p j) hnb4 hnb.1 (by omega))))] [7] [(8,vI (zb0 (kdP p j) (zch s p j)).2)] [28,29,24] [(0,.box [.own 18 (zb0 (kdP p j) (zch s p j)).1.al.length,.own 19 (zb0 (kdP p j) (zch s p j)).1.kids.length,.d (.raw v2),.d (.raw v3)]),(18,.row 24 3 (((zb0 (kdP p j) (zch s p j)).1.al.map d5).map d6)),(19,.row 110 2 ((zb0 (kdP p j) (zch s p j)).1.kids.map prI))] h fun a w h=>?_;have hj9:j<2:=by have:=dT hc5;rw [zef] at this;omega
  have hsp:=zbq (kdP p j) (zch s p j) hnb.1;have hsl:(zb0 (kdP p j) (zch s p j)).1.kids.length=(zb0 (kdP p j) (zch s p j)).1.al.length:=hsp.len;have hsg:s.al.length<(zb0 (kdP p j) (zch s p j)).1.al.length:=by obtain ⟨e_,he_⟩:=hsp.ext;rw [he_,bB];omega
  obtain ⟨x3,hx3⟩:=gl ((zb0 (kdP p j) (zch s p j)).1.kids) s.al.length;refine Jh 25 [(1,.g (Op.nilQ (d:=68) (t:=67) (n:=0) (o:=0))),(7,.g (Op.idxO (d:=74) (t:=70) (k:=.i64) (n:=19) (len:=(zb0 (kdP p j) (zch s p j)).1.kids.length) (i:=s.al.length) vb3_14 (by first | omega | (simp;done) | (simp at *;omega)) (d4 71 _))),(8,.g (Op.idxA (d:=75) (t:=74) (n:=19) (o:=s.al.length*2) (i:=j) (k:=.i64) vb3_9 (by omega) (s.al.length*2+j) (by omega) (d4 72 _))),(9,.g (Op.storeR (t:=75) (n:=19) (i:=s.al.length) (fo:=j) (rty:=110) (es:=2) (r:=prI x3) (ds:=[.raw (.int .i64 (zb0 (kdP p j) (zch s p j)).2)]) (rs:=[(73,vI (zb0 (kdP p j) (zch s p j)).2)]) (rows:=(zb0 (kdP p j) (zch s p j)).1.kids.map prI) (rows':=(zeq (zb0 (kdP p j) (zch s p j)).1.kids s.al.length j (zb0 (kdP p j) (zch s p j)).2).map prI) tl_7 (d4 73 _) rfl rfl rfl (zab hx3 (f:=prI)) (by show j+1<=2;omega) (setK_row hx3 (by omega) _)))] [6,8] [] [] [(19,.row 110 2 ((zeq (zb0 (kdP p j) (zch s p j)).1.kids s.al.length j (zb0 (kdP p j) (zch s p j)).2).map prI))] h fun a w h=>za7 (za1 (Jf 25 [(0,.j1 j)] [] [(59,vI ((j:Int)+1))] h fun a w h=>za1 ?_));replace h:=zb7 18 28 h;replace h:=zb7 19 29 h;have hkl2:(zb0 (kdP p j) (zch s p j)).1.kids.length=(zch s p (j+1)).kids.length:=by simp only [zch];rw [zdr]
  replace h:=cvM [] [] [] [(0,.box [.own 28 (zch s p (j+1)).al.length,.own 29 (zch s p (j+1)).kids.length,.d (.raw v2),.d (.raw v3)]),(28,.row 24 3 (((zch s p (j+1)).al.map d5).map d6)),(29,.row 110 2 ((zch s p (j+1)).kids.map prI))] (by rw [hkl2]; try kernel_rfl) h;refine zaj (x:=j) (y:=j+1) h ?_ ?_
  ·have:=dT hc5;rw [zef] at this;show j+1<=(zda p).length;omega
  have:=dT hc5;rw [zef] at this;show (zda p).length - (j+1)<(zda p).length - j;omega
 refine exA (Jp 25 [] [(4,vN s.al.length)] h fun a w h=>qV ?_);have hnz:(zb0 p s)=((zch s p j),(s.al.length:Int)):=by rw [numF_eq,if_neg (by have:=dF hc2;omega),show (zda p).length=j by have:=dF hc6;rw [zef] at this;omega]
 have hnz1:(zch s p j)=(zb0 p s).1:=by rw [hnz]
 replace h:=atS (sl':=[(4,vN s.al.length)]) (lc':=[(0,.box [.own 28 (zch s p j).al.length,.own 29 (zch s p j).kids.length,.d (.raw v2),.d (.raw v3)]),(28,.row 24 3 (((zch s p j).al.map d5).map d6)),(29,.row 110 2 ((zch s p j).kids.map prI))]) h;replace h:=cv (fun z_:zdo=>F.of [(4,vN s.al.length)] [(0,.box [.own 28 z_.al.length,.own 29 z_.kids.length,.d (.raw v2),.d (.raw v3)]),(28,.row 24 3 ((z_.al.map d5).map d6)),(29,.row 110 2 (z_.kids.map prI))]) hnz1 h;replace h:=zb7 28 18 h;replace h:=zb7 29 19 h;refine rT (.c (cI (s.al.length:Int))) h rfl ?_;rw [hnz];try rfl
theorem SNumber (v2 v3:Value):∀ (n:Nat) (p:PF) (s:zdo),psz p<=n->s.kids.length=s.al.length->s.al.length+psz p<=100000->Fn dY 27 [(0,.box [.own 8 s.al.length,.own 9 s.kids.length,.d (.raw v2),.d (.raw v3)]),(8,.row 24 3 ((s.al.map d5).map d6)),(9,.row 110 2 (s.kids.map prI))] [vp 0 0,vG [cI p.l.kind,cI p.l.prop,.d (.sl 3 (p.l.kids.map d6))]] (vi .i64 (zb0 p s).2) [(0,.box [.own 18 (zb0 p s).1.al.length,.own 19 (zb0 p s).1.kids.length,.d (.raw v2),.d (.raw v3)]),(18,.row 24 3 (((zb0 p s).1.al.map d5).map d6)),(19,.row 110 2 ((zb0 p s).1.kids.map prI))]
 | 0,p,s,h,_,_=>by cases p <;> simp [psz] at h
 | n+1,p,s,h,hs,hb=>SNumber0 v2 v3 p s (fun q t h1 h2 h3=>SNumber v2 v3 n q t (by omega) h2 h3) hs hb
theorem vb4_0:ElZ dY 64 71 4:=ElZ.mk' Tryz.underlying64 _ _ rfl rfl
theorem vb4_1:ElT dY 64 71 4 80:=ElT.mk' Tryz.underlying64 _ _ rfl rfl
theorem vb4_4:zax dY 95:=zax.mk' (by kernel_rfl)
theorem zay (xs:List Int):(zad xs).length<=xs.length:=by unfold zad;have:=comZ_le (zb2 xs);rw [zbs] at this;exact this
theorem zdc {p:PF} (h:al[n]?=some p):zcp al (n:Int)=p:=by unfold zcp;rw [if_pos (by omega),Int.toNat_natCast,h];rfl
theorem zgd {kids:List (Int × Int)} {k:Int × Int} (h:kids[n]?=some k):kdA kids (n:Int)=k:=by unfold kdA;rw [Int.toNat_natCast,h];rfl
theorem oth_pa {p:PF} (h:p.l.kind=2):(za2.mk 3 0 [p.l])=p.other.l:=by cases p <;> first | rfl | (simp [d5,eA] at h)
theorem oth_na {p:PF} (h:p.l.kind=3):p.l.kids[0]?=some p.other.l:=by cases p <;> first | rfl | (simp [d5,eA] at h)
theorem idx_oth (al:List PF) (o:PF):zbf (fun g=>zb3 g o.l) (al.map d5) 0=zbf (fun g=>PF.beq g o) al 0:=by
 have:∀ (xs:List PF) (n:Nat),zbf (fun g=>zb3 g o.l) (xs.map d5) n=zbf (fun g=>PF.beq g o) xs n:=by
  intro xs
  induction xs with
  | nil=>intro n;rfl
  | cons x xs ih=>intro n;simp only [bU,zbf];rw [same_pf,ih]
 exact this _ _
theorem SLay (v0 v1 v2:Value) (x:TkD) (ts:List TkD) (hl:ts.length<=1000000):Fn dY 26 [(0,.box [.d (.raw v0),.d (.raw v1),.d (.raw v2),.own 8 ts.length]),(8,.row 71 4 (ts.map TkD.d))] [vp 0 0,vG [cIs x.look,cIs x.seen,cIs x.next,cI x.frm]] (.tup []) [(0,.box ([.d (.raw v0),.d (.raw v1),.d (.raw v2),.own 18 (ts++[x]).length])),(18,.row 71 4 ((ts++[x]).map TkD.d))]:=by
 refine fB Tryz.func26 rfl 14 fun w H B a h=>Jq 19 [] [(0,vp 0 0),(3,vp 19 0)] [(0,.box [.d (.raw v0),.d (.raw v1),.d (.raw v2),.own 8 ts.length]),(8,.row 71 4 (ts.map TkD.d)),(19,.box [cIs x.look,cIs x.seen,cIs x.next,cI x.frm])] h fun a w h=>Jn 20 [(2,.g (Op.nilQ (d:=6) (t:=5) (n:=0) (o:=0))),(6,.g (bD 10 ([x].map TkD.d) [(9,vG [cIs x.look,cIs x.seen,cIs x.next,cI x.frm])] vb4_0 (.cons (i:=0) (d4 9 _) (.nil)) (by kernel_rfl) (by simp [TkD.d]))),(7,.g (Op.appOD (d:=11) (t:=8) (u:=10) (n:=8) (n':=20) (len:=ts.length) (len':=(ts++[x]).length) (rows:=ts.map TkD.d) (rows2:=[x].map TkD.d) (rows':=(ts++[x]).map TkD.d) vb4_1 (by first | exact (bA _).symm | simp) (by first | (rw [bB,bA];done) | (simp;done) | (simp;omega)) (by simp) (by simp [TkD.d]) (by first | omega | (simp at *;done) | (simp at *;omega)))),(8,.g (Op.nilQ (d:=12) (t:=4) (n:=0) (o:=0)))] [] [(0,.box ([.d (.raw v0),.d (.raw v1),.d (.raw v2),.own 20 (ts++[x]).length])),(20,.row 71 4 ((ts++[x]).map TkD.d))] h fun a w h=>?_
 replace h:=zb7 20 18 h;refine zgx [] h Exit.normal (.inr rfl)  rfl trivial ?_;rfl
theorem SLayD (v2:Value) (al:List PF) (kids:List (Int × Int)) (x:TkD) (ts:List TkD) (hl:ts.length<=1000000):Fn dY 26 [(0,.box [.d (.sl 3 ((al.map d5).map d6)),.d (.sl 2 (kids.map prI)),.d (.raw v2),.own 8 ts.length]),(8,.row 71 4 (ts.map TkD.d))] [vp 0 0,vG [cIs x.look,cIs x.seen,cIs x.next,cI x.frm]] (.tup []) [(0,.box [.d (.sl 3 ((al.map d5).map d6)),.d (.sl 2 (kids.map prI)),.d (.raw v2),.own 18 (ts++[x]).length]),(18,.row 71 4 ((ts++[x]).map TkD.d))] :=
 Fn.idle (j:=0) (fun v0 _=>Fn.idle (j:=1) (fun v1 _=>SLay v0 v1 v2 x ts hl) rfl rfl rfl) rfl rfl rfl
theorem SLayE (v2:Value) (al:List PF) (kids:List (Int × Int)) (x:TkD) (ts:List TkD) (hl:ts.length<=1000000):Fn dY 26 [(0,.box [.d (.sl 3 ((al.map d5).map d6)),.d (.sl 2 (kids.map prI)),.d (.raw v2),.own 38 ts.length]),(38,.row 71 4 (ts.map TkD.d))] [vp 0 0,vG [cIs x.look,cIs x.seen,cIs x.next,cI x.frm]] (.tup []) [(0,.box [.d (.sl 3 ((al.map d5).map d6)),.d (.sl 2 (kids.map prI)),.d (.raw v2),.own 18 (ts++[x]).length]),(18,.row 71 4 ((ts++[x]).map TkD.d))]:=by
 refine Fn.renP (args':=[vp 0 0,vG [cIs x.look,cIs x.seen,cIs x.next,cI x.frm]]) 8 38 (SLayD v2 al kids x ts hl) (by decide) rfl rfl ?_ ?_ <;> kernel_rfl
theorem SAg1 (g o:za2) :Fn dY 95 [(20,.box [cI o.kind,cI o.prop,.d (.sl 3 (o.kids.map d6))])] [vG [cI g.kind,cI g.prop,.d (.sl 3 (g.kids.map d6))],vp 20 0] (vb (zb3 g o)) [(20,.box [cI o.kind,cI o.prop,.d (.sl 3 (o.kids.map d6))])]:=by
 refine fB Tryz.func95 rfl 7 fun w H B a h=>Jq 22 [] [(1,vp 20 0),(2,vp 22 0),(3,vb false)] [(20,.box [cI o.kind,cI o.prop,.d (.sl 3 (o.kids.map d6))]),(22,.box [cI g.kind,cI g.prop,.d (.sl 3 (g.kids.map d6))])] h fun a w h=>Jg 23 [(2,.call (SWSame g o))] [1,2] [(3,vb (zb3 g o))] [22] [] h fun a w h=>qV (rT (.c (cB (zb3 g o))) h rfl ?_)
 rfl
theorem SIdxAG (pr:za2->Bool) (xs:List za2) (o:za2) (hf:∀ x ∈ xs,Fn dY 95 [(20,.box [cI o.kind,cI o.prop,.d (.sl 3 (o.kids.map d6))])] [vG [cI x.kind,cI x.prop,.d (.sl 3 (x.kids.map d6))],vp 20 0] (vb (pr x)) [(20,.box [cI o.kind,cI o.prop,.d (.sl 3 (o.kids.map d6))])]) (hl:xs.length<=9223372036854775807):Fn dY 58 [(20,.box [cI o.kind,cI o.prop,.d (.sl 3 (o.kids.map d6))])] [vS 3 (xs.map d6),.t (.c (.fn (.func 95) [] [.ptr 20 0]))] (vI (zbf pr xs 0)) [(20,.box [cI o.kind,cI o.prop,.d (.sl 3 (o.kids.map d6))])]:=by
 refine fB Tryz.func58 rfl 19 fun w H B a h=>Jq 21 [] [(0,vS 3 (xs.map d6)),(1,.t (.c (.fn (.func 95) [] [.ptr 20 0]))),(4,vI 0)] [(20,.box [cI o.kind,cI o.prop,.d (.sl 3 (o.kids.map d6))])] h fun a w h=>qW (Je 21 [(1,.len (za9 3 d6 xs))] [] [(7,vN xs.length),(8,vI 0)] h fun a w h=>qZ ?_)
 refine zdp (ι:=(Nat)) (fun j=>j<=xs.length/\zbf pr xs 0=zbf pr (xs.drop j) j)
   [4] (fun j=>[(8,vN j)])
   [] (fun j=>[])
   (fun j=>xs.length - j) 0 ?_ h ?_
 ·exact ⟨bP _,rfl⟩
 clear h;rintro j a w hI h;obtain ⟨hI1,hI2⟩:=hI;refine Je 21 [] [] [(9,vb (decide ((j:Int)<(xs.length:Int))))] h fun a w h=>qW (zav ((j:Int)<(xs.length:Int)) h (fun hc1 hc1'=>?_) (fun hc4 hc4'=>?_))
 ·refine qU (za1 (qW (qZ (Je 21 [] [9] [(5,vN j)] h fun a w h=>?_))));obtain ⟨x1,hx1⟩:=gl xs j;refine Je 21 [(3,.g (xD 14 12 zha ((zab hx1 (f:=d6)).trans (congrArg some (d7 x1))) (d4 13 _))),(5,.g (Op.callV (d:=16) (t:=11) (cap:=[.ptr 20 0]) (args:=[vG [cI x1.kind,cI x1.prop,.d (.sl 3 (x1.kids.map d6))]]) (rs:=[(15,vG [cI x1.kind,cI x1.prop,.d (.sl 3 (x1.kids.map d6))])]) (tys:=#[24]) (hf x1 (lM hx1)) vb4_4 (OVs.cons (d4 15 _) (OVs.nil))))] [] [(16,vb (pr x1))] h fun a w h=>cS (pr x1) h (fun hc2=>?_) (fun hc3=>?_)
  ·refine Je 21 [] [5,16] [(4,vN j)] h fun a w h=>qV (zaa (za5 (za5 (zaa (za5 (rT (.c (cI (j:Int))) h rfl ?_))))));have hz:zbf pr xs 0=(j:Int):=by rw [hI2,zcj hx1,if_pos hc2]
   rw [hz];try rfl
  refine qU (za7 (za1 (Jf 21 [(0,.j1 j)] [5,16] [(8,vI ((j:Int)+1))] h fun a w h=>za1 (zaj (x:=j) (y:=j+1) h ?_ ?_))))
  ·exact ⟨by have:=zal hx1;omega,by rw [hI2,zcj hx1,if_neg (by rw [hc3];exact Bool.noConfusion)]⟩
  (try simp);omega
 refine exA (Jp 21 [] [(4,vI (-1))] h fun a w h=>qV (rT (.c (cI (-1))) h rfl ?_));have hz:zbf pr xs 0=-1:=by rw [hI2,dX (by omega)];rfl
 rw [hz];try rfl
theorem SAgainst (v1 v2 v3:Value) (al:List PF) (x:TkD) (n:Nat) (p:PF) (hi:al[n]?=some p) (hp:p.l.kind=2\/p.l.kind=3) (hal:al.length<=1000000) (hs:SRi x.seen) (hsl:x.seen.length<=1000000):Fn dY 80 [(0,.box [.d (.sl 3 ((al.map d5).map d6)),.d (.raw v1),.d (.raw v2),.d (.raw v3)])] [vp 0 0,vG [cIs x.look,cIs x.seen,cIs x.next,cI x.frm],vN n] (vb (agT al x.seen (n:Int))) [(0,.box [.d (.sl 3 ((al.map d5).map d6)),.d (.raw v1),.d (.raw v2),.d (.raw v3)])]:=by
 have hlm:(al.map d5).length=al.length:=bA _;refine fB Tryz.func80 rfl 41 fun w H B a h=>Jq 18 [] [(0,vp 0 0),(2,vN n),(4,vp 18 0),(6,vb false)] [(0,.box [.d (.sl 3 ((al.map d5).map d6)),.d (.raw v1),.d (.raw v2),.d (.raw v3)]),(18,.box [cIs x.look,cIs x.seen,cIs x.next,cI x.frm])] h fun a w h=>Jg 19 [(1,.g (Op.nilQ (d:=11) (t:=10) (n:=0) (o:=0))),(5,.g (xD 15 13 zha ((zab (show (al.map d5)[n]?=some p.l by rw [bN,hi];rfl) (f:=d6)).trans (congrArg some (d7 p.l))) (d4 14 _)))] [2] [(7,vp 19 0)] [] [(19,.box [cI p.l.kind,cI p.l.prop,.d (.sl 3 (p.l.kids.map d6))])] h fun a w h=>?_
 refine Jg 20 [(1,.g (bD 18 ([p.l].map d6) [(17,vG [cI p.l.kind,cI p.l.prop,.d (.sl 3 (p.l.kids.map d6))])] va1_4 (.cons (i:=0) (d4 17 _) (.nil)) (by simp only [bU,cM,cH,cQ,cA,d7]; try kernel_rfl) (by simp [d8])))] [] [(8,vp 20 0)] [] [(20,.box [cI 3,cI 0,.d (.sl 3 ([p.l].map d6))])] h fun a w h=>midH h [(0,vp 0 0),(4,vp 18 0),(6,vb false),(8,vp 20 0)] [(0,.box [.d (.sl 3 ((al.map d5).map d6)),.d (.raw v1),.d (.raw v2),.d (.raw v3)]),(18,.box [cIs x.look,cIs x.seen,cIs x.next,cI x.frm]),(20,.box [cI p.other.l.kind,cI p.other.l.prop,.d (.sl 3 (p.other.l.kids.map d6))])] ?_ (fun a w h=>?_)
 ·refine Je 21 [] [] [(22,vb (p.l.kind == 3))] h fun a w h=>cS (p.l.kind == 3) h (fun hc1=>?_) (fun hc2=>?_)
  ·refine Jh 21 [(2,.g (xD 25 24 zha ((zab (oth_na (by have:=hc1;simpa using this)) (f:=d6)).trans (congrArg some (d7 p.other.l))) (dZ (.int .i64 0) rfl)))] [7,22] [] [19] [(20,.box [cI p.other.l.kind,cI p.other.l.prop,.d (.sl 3 (p.other.l.kids.map d6))])] h fun a w h=>za1 ?_;exact atS h
  refine qU (za1 ?_);have hoe:(za2.mk 3 0 [p.l])=p.other.l:=oth_pa (by have:=hc2;simp at this;rcases hp with h9 | h9 <;> omega);replace h:=cv (fun z_:za2=>F.of [(0,vp 0 0),(4,vp 18 0),(6,vb false),(7,vp 19 0),(8,vp 20 0),(22,vb (p.l.kind == 3))] [(0,.box [.d (.sl 3 ((al.map d5).map d6)),.d (.raw v1),.d (.raw v2),.d (.raw v3)]),(18,.box [cIs x.look,cIs x.seen,cIs x.next,cI x.frm]),(19,.box [cI p.l.kind,cI p.l.prop,.d (.sl 3 (p.l.kids.map d6))]),(20,.box [cI z_.kind,cI z_.prop,.d (.sl 3 (z_.kids.map d6))])]) hoe h;exact atS h
 refine Jg 21 [(1,.g (Op.nilQ (d:=28) (t:=27) (n:=0) (o:=0))),(4,.g (Op.makeFs (d:=31) (fn:=.func 95) [(8,20,0)])),(5,.call (Fn.cast (SIdxAG (fun g=>zb3 g p.other.l) (al.map d5) p.other.l (fun g _=>SAg1 g p.other.l) (by rw [bA];omega)) (congrArg (vi .i64) (idx_oth al p.other))))] [0,8] [(9,vI (zbf (fun g=>PF.beq g p.other) al 0))] [20] [] h fun a w h=>?_
 rcases cV (decide (zbf (fun g=>PF.beq g p.other) al 0>=0)) with hc3 | hc4
 ·have hc3':=dT hc3;refine Jg 21 [(1,.cmp (op:=.geq) (m:=(zbf (fun g=>PF.beq g p.other) al 0)) (n:=0) (b:=true) .i64 hc3),(6,.call (SHas x.seen (zbf (fun g=>PF.beq g p.other) al 0) (by exact hs) (by exact hsl)))] [4,9] [(6,vb (decide (zbf (fun g=>PF.beq g p.other) al 0 ∈ x.seen)))] [18] [] h fun a w h=>qV (rT (.c (cB (decide (zbf (fun g=>PF.beq g p.other) al 0 ∈ x.seen)))) h rfl ?_);have hz:agT al x.seen (n:Int)=decide (zbf (fun g=>PF.beq g p.other) al 0 ∈ x.seen):=by unfold agT;rw [zdc hi,c8];first | (rw [hc3];rfl) | (rw [hc3];simp)
  rw [hz];try rfl
 have hc4':=dF hc4;refine Jg 21 [(1,.cmp (op:=.geq) (m:=(zbf (fun g=>PF.beq g p.other) al 0)) (n:=0) (b:=false) .i64 hc4)] [4,9] [] [18] [] h fun a w h=>qV (rT (.c (cB false)) h rfl ?_);have hz:agT al x.seen (n:Int)=false:=by unfold agT;rw [zdc hi,c8];first | (rw [hc4];rfl) | (rw [hc4];simp)
 rw [hz];try rfl
theorem SAgD (v2:Value) (al:List PF) (kids:List (Int × Int)) (x:TkD) (n m:Nat) (p:PF) (hi:al[n]?=some p) (hp:p.l.kind=2\/p.l.kind=3) (hal:al.length<=1000000) (hs:SRi x.seen) (hsl:x.seen.length<=1000000):Fn dY 80 [(0,.box [.d (.sl 3 ((al.map d5).map d6)),.d (.sl 2 (kids.map prI)),.d (.raw v2),.own 8 m])] [vp 0 0,vG [cIs x.look,cIs x.seen,cIs x.next,cI x.frm],vi .i64 (n:Int)] (vb (agT al x.seen (n:Int))) [(0,.box [.d (.sl 3 ((al.map d5).map d6)),.d (.sl 2 (kids.map prI)),.d (.raw v2),.own 8 m])] :=
 Fn.idle (j:=1) (fun v1 _=>Fn.idle (j:=3) (fun v3 _=>SAgainst v1 v2 v3 al x n p hi hp hal hs hsl) rfl rfl rfl) rfl rfl rfl
theorem vb5_4:ArT dY 110 3 2 1:=ArT.mk' Tryz.underlying110 (by kernel_rfl)
theorem lk1_tt {kids:List (Int × Int)} {p:PF} (hi:al[n]?=some p) (hk:kids[n]?=some kk) (h:p.l.kind=0):lk1 al kids y (n:Int)=[y]:=by
 unfold lk1;rw [zdc hi,zgd hk];cases p <;> first | rfl | (simp [d5,eA] at h)
theorem lk1_ff {kids:List (Int × Int)} {p:PF} (hi:al[n]?=some p) (hk:kids[n]?=some kk) (h:p.l.kind=1):lk1 al kids y (n:Int)=[]:=by
 unfold lk1;rw [zdc hi,zgd hk];cases p <;> first | rfl | (simp [d5,eA] at h)
theorem lk1_at {kids:List (Int × Int)} {p:PF} (hi:al[n]?=some p) (hk:kids[n]?=some kk) (h:p.l.kind=2\/p.l.kind=3):lk1 al kids y (n:Int)=if agT al y.seen n=true then [] else [y]:=by
 unfold lk1;rw [zdc hi,zgd hk];cases p <;> first | rfl | (simp [d5,eA] at h)
theorem lk1_and {kids:List (Int × Int)} {p:PF} (hi:al[n]?=some p) (hk:kids[n]?=some kk) (h:p.l.kind=4):lk1 al kids y (n:Int)=[y.more [kk.1,kk.2]]:=by
 unfold lk1;rw [zdc hi,zgd hk];cases p <;> first | rfl | (simp [d5,eA] at h)
theorem lk1_nx {kids:List (Int × Int)} {p:PF} (hi:al[n]?=some p) (hk:kids[n]?=some kk) (h:p.l.kind=8):lk1 al kids y (n:Int)=[y.later kk.1]:=by
 unfold lk1;rw [zdc hi,zgd hk];cases p <;> first | rfl | (simp [d5,eA] at h)
theorem lk1_or {kids:List (Int × Int)} {p:PF} (hi:al[n]?=some p) (hk:kids[n]?=some kk) (h:p.l.kind=5):lk1 al kids y (n:Int)=[y.more [kk.2],y.more [kk.1]]:=by
 unfold lk1;rw [zdc hi,zgd hk];cases p <;> first | rfl | (simp [d5,eA] at h)
theorem lk1_un {kids:List (Int × Int)} {p:PF} (hi:al[n]?=some p) (hk:kids[n]?=some kk) (h:p.l.kind=11):lk1 al kids y (n:Int)=[(y.more [kk.1]).later n,y.more [kk.2]]:=by
 unfold lk1;rw [zdc hi,zgd hk];cases p <;> first | rfl | (simp [d5,eA] at h)
theorem lk1_fr {kids:List (Int × Int)} {p:PF} (hi:al[n]?=some p) (hk:kids[n]?=some kk) (h:p.l.kind=12):lk1 al kids y (n:Int)=[(y.more [kk.2]).later n,y.more [kk.1,kk.2]]:=by
 unfold lk1;rw [zdc hi,zgd hk];cases p <;> first | rfl | (simp [d5,eA] at h)
theorem lk1_no {kids:List (Int × Int)} {p:PF} (hi:al[n]?=some p) (hk:kids[n]?=some kk) (h:¬ p.l.kind=0/\¬ p.l.kind=1/\¬ p.l.kind=2/\¬ p.l.kind=3/\¬ p.l.kind=4/\¬ p.l.kind=8/\¬ p.l.kind=5/\¬ p.l.kind=11/\¬ p.l.kind=12):lk1 al kids y (n:Int)=[]:=by
 unfold lk1;rw [zdc hi,zgd hk];cases p <;> first | rfl | (simp [d5,eA] at h)
theorem lkT_kn {kids:List (Int × Int)} {i:Int} {rest sn nx:List Int} {fr:Int} (h:decide (i ∈ sn)=true):lkT al kids ⟨i :: rest,sn,nx,fr⟩=[⟨rest,sn,nx,fr⟩]:=by
 show (if sn.contains i=true then _ else _)=_
 rw [c8,h,if_pos rfl]
theorem ze5 {kids:List (Int × Int)} {i:Int} {rest sn nx:List Int} {fr:Int} (h:decide (i ∈ sn)=false):lkT al kids ⟨i :: rest,sn,nx,fr⟩=lk1 al kids ⟨rest,zad (sn++[i]),nx,fr⟩ i:=by
 show (if sn.contains i=true then _ else _)=_
 rw [c8,h,if_neg (by decide)]
theorem SLook (v2:Value) (al:List PF) (kids:List (Int × Int)) (ts:List TkD) (n:Nat) (rest sn nx:List Int) (fr:Int) (p:PF) (kk:Int × Int) (hi:al[n]?=some p) (hk:kids[n]?=some kk) (hal:al.length<=1000000) (hts:ts.length<=999990) (hre:rest.length<=999990) (hsn:SRi sn) (hsl:sn.length<=999990) (hnl:nx.length<=999990):Fn dY 61 [(0,.box [.d (.sl 3 ((al.map d5).map d6)),.d (.sl 2 (kids.map prI)),.d (.raw v2),.own 8 ts.length]),(8,.row 71 4 (ts.map TkD.d))] [vp 0 0,vG [cIs ((n:Int) :: rest),cIs sn,cIs nx,cI fr]] (.tup []) [(0,.box ([.d (.sl 3 ((al.map d5).map d6)),.d (.sl 2 (kids.map prI)),.d (.raw v2),.own 18 (ts++(lkT al kids (TkD.mk ((n:Int) :: rest) sn nx fr))).length])),(18,.row 71 4 ((ts++(lkT al kids (TkD.mk ((n:Int) :: rest) sn nx fr))).map TkD.d))]:=by
 have hlm:(al.map d5).length=al.length:=bA _;refine fB Tryz.func61 rfl 153 fun w H B a h=>Jq 40 [] [(0,vp 0 0),(3,vp 40 0)] [(0,.box [.d (.sl 3 ((al.map d5).map d6)),.d (.sl 2 (kids.map prI)),.d (.raw v2),.own 8 ts.length]),(8,.row 71 4 (ts.map TkD.d)),(40,.box [cIs ((n:Int) :: rest),cIs sn,cIs nx,cI fr])] h fun a w h=>Je 41 [(2,.g (xD 11 10 zcz (zab (show ((n:Int) :: rest)[0]?=some (n:Int) from rfl) (f:=za3)) (dZ (.int .i64 0) rfl)))] [] [(4,vN n)] h fun a w h=>Jg 41 [(2,.g (Op.sliceD (d:=15) (t:=14) (l:=1) (h:=((n:Int) :: rest).length) (rows:=((n:Int) :: rest).map za3) (rows':=rest.map za3) zcz (BO.yes (k:=.i64) (i:=1) _ (dZ (.int .i64 1) rfl)) (by rw [bA];exact BO.no _) (by first | omega | (simp;done) | (simp at *;omega)) (by first | omega | (simp;done) | (simp only [bA];omega) | (simp at *;omega)) (by first | (simp [cJ];done) | (rw [b7 (by simp <;> omega)];simp [cJ])))),(3,.call (SClS rest (by first | assumption | omega | (simp only [bB,bF,bE];omega) | (have h9:=zay (sn++[(n:Int)]);simp only [bB,bF,bE] at h9;omega))))] [] [] [] [(40,.box [cIs rest,cIs sn,cIs nx,cI fr])] h fun a w h=>Jg 41 [(1,.g (Op.nilQ (d:=19) (t:=18) (n:=0) (o:=0))),(5,.g (xD 23 21 zha ((zab (show (al.map d5)[n]?=some p.l by rw [bN,hi];rfl) (f:=d6)).trans (congrArg some (d7 p.l))) (d4 22 _)))] [] [(5,vp 41 0)] [] [(41,.box [cI p.l.kind,cI p.l.prop,.d (.sl 3 (p.l.kids.map d6))])] h fun a w h=>?_
 refine Je 42 [(1,.g (Op.nilQ (d:=26) (t:=25) (n:=0) (o:=0))),(5,.g (xD 30 28 vb3_14 (zab hk (f:=prI)) (d4 29 _))),(6,.g (Op.idxAE (d:=31) (t:=30) (i:=0) (k:=.i64) (xs:=[.raw (.int .i64 kk.1),.raw (.int .i64 kk.2)]) vb5_4 (by decide) (dZ (.int .i64 0) rfl) _ rfl)),(9,.g (Op.nilQ (d:=34) (t:=33) (n:=0) (o:=0))),(13,.g (xD 38 36 vb3_14 (zab hk (f:=prI)) (d4 37 _))),(14,.g (Op.idxAE (d:=39) (t:=38) (i:=1) (k:=.i64) (xs:=[.raw (.int .i64 kk.1),.raw (.int .i64 kk.2)]) vb5_4 (by decide) (dZ (.int .i64 1) rfl) _ rfl))] [] [(6,vI kk.1),(7,vI kk.2)] h fun a w h=>Je 42 [(3,.call (SHas sn n hsn (by omega)))] [] [(8,vb (decide ((n:Int) ∈ sn)))] h fun a w h=>qW (Je 42 [] [] [(46,vb (!(decide ((n:Int) ∈ sn))))] h fun a w h=>cS (!(decide ((n:Int) ∈ sn))) h (fun hc1=>?_) (fun hc24=>?_))
 ·refine Jh 42 [(3,.g (bD 50 ([(n:Int)].map za3) [(49,vN n)] zgv (.cons (i:=0) (d4 49 _) (.nil)) (by kernel_rfl) (by simp [za3]))),(4,.call (SWith sn [(n:Int)] (by first | assumption | omega | (simp only [bB,bF,bE];omega) | (have h9:=zay (sn++[(n:Int)]);simp only [bB,bF,bE] at h9;omega))))] [46] [] [] [(40,.box ([cIs rest,cIs (zad (sn++[(n:Int)])),cIs nx,cI fr]))] h fun a w h=>za1 (qZ (qW (Je 42 [] [8] [(53,vb (decide ((n:Int) ∈ sn)))] h fun a w h=>cS (decide ((n:Int) ∈ sn)) h (fun hc=>?_) (fun hc=>?_))))
  ·rw [(show (decide ((n:Int) ∈ sn))=false from by simpa using hc1)] at hc;cases hc
  clear hc;refine Jf 42 [] [] [(53,vb (p.l.kind == 0))] h fun a w h=>za1 (cS (p.l.kind == 0) h (fun hc2=>?_) (fun hc3=>?_))
  ·refine Jn 42 [(2,.call (SLayD v2 al kids (TkD.mk rest (zad (sn++[(n:Int)])) nx fr) ts (by first | assumption | omega | (simp only [bB,bF,bE];omega) | (have h9:=zay (sn++[(n:Int)]);simp only [bB,bF,bE] at h9;omega))))] [] [(0,.box ([.d (.sl 3 ((al.map d5).map d6)),.d (.sl 2 (kids.map prI)),.d (.raw v2),.own 18 (ts++[(TkD.mk rest (zad (sn++[(n:Int)])) nx fr)]).length])),(18,.row 71 4 ((ts++[(TkD.mk rest (zad (sn++[(n:Int)])) nx fr)]).map TkD.d))] h fun a w h=>za7 ?_;have hz0:(lkT al kids (TkD.mk ((n:Int) :: rest) sn nx fr))=[(TkD.mk rest (zad (sn++[(n:Int)])) nx fr)]:=(ze5 (show (decide ((n:Int) ∈ sn))=false from by simpa using hc1)).trans (lk1_tt hi hk (by have:=hc2;simpa using this));have hz1:(ts++[(TkD.mk rest (zad (sn++[(n:Int)])) nx fr)])=(ts++(lkT al kids (TkD.mk ((n:Int) :: rest) sn nx fr))):=by rw [hz0]
   replace h:=atS (sl':=[]) (lc':=[(0,.box ([.d (.sl 3 ((al.map d5).map d6)),.d (.sl 2 (kids.map prI)),.d (.raw v2),.own 18 (ts++[(TkD.mk rest (zad (sn++[(n:Int)])) nx fr)]).length])),(18,.row 71 4 ((ts++[(TkD.mk rest (zad (sn++[(n:Int)])) nx fr)]).map TkD.d))]) h;replace h:=cv (fun z_:List TkD=>F.of [] [(0,.box [.d (.sl 3 ((al.map d5).map d6)),.d (.sl 2 (kids.map prI)),.d (.raw v2),.own 18 z_.length]),(18,.row 71 4 (z_.map TkD.d))]) hz1 h;refine zgx [] h Exit.normal (.inr rfl)  rfl trivial ?_;rfl
  refine Je 42 [] [53] [(61,vb (p.l.kind == 1))] h fun a w h=>cS (p.l.kind == 1) h (fun hc4=>?_) (fun hc5=>?_)
  ·refine qU (za7 ?_);have hz0:(lkT al kids (TkD.mk ((n:Int) :: rest) sn nx fr))=[]:=(ze5 (show (decide ((n:Int) ∈ sn))=false from by simpa using hc1)).trans (lk1_ff hi hk (by have:=hc4;simpa using this));have hz1:ts=(ts++(lkT al kids (TkD.mk ((n:Int) :: rest) sn nx fr))):=by rw [hz0];simp
   replace h:=atS (sl':=[]) (lc':=[(0,.box [.d (.sl 3 ((al.map d5).map d6)),.d (.sl 2 (kids.map prI)),.d (.raw v2),.own 8 ts.length]),(8,.row 71 4 (ts.map TkD.d))]) h;replace h:=cv (fun z_:List TkD=>F.of [] [(0,.box [.d (.sl 3 ((al.map d5).map d6)),.d (.sl 2 (kids.map prI)),.d (.raw v2),.own 8 z_.length]),(8,.row 71 4 (z_.map TkD.d))]) hz1 h;replace h:=zb7 8 18 h;refine zgx [] h Exit.normal (.inr rfl)  rfl trivial ?_;rfl
  refine qW (Je 42 [] [61] [(65,vb (p.l.kind == 2))] h fun a w h=>cS (p.l.kind == 2) h (fun hc6=>?_) (fun hc9=>?_))
  ·refine qU (za1 (cS (p.l.kind == 2) h (fun hc=>?_) (fun hc=>?_)))
   ·clear hc;refine Jg 42 [(3,.call (SAgD v2 al kids (TkD.mk rest (zad (sn++[(n:Int)])) nx fr) n ts.length p hi (.inl (by have:=hc6;simpa using this)) hal (zex _) (by show (zad _).length<=_;first | assumption | omega | (simp only [bB,bF,bE];omega) | (have h9:=zay (sn++[(n:Int)]);simp only [bB,bF,bE] at h9;omega))))] [4,5,6,7,65] [(76,vb (!(agT al (TkD.mk rest (zad (sn++[(n:Int)])) nx fr).seen (n:Int))))] [41] [] h fun a w h=>cS (!(agT al (TkD.mk rest (zad (sn++[(n:Int)])) nx fr).seen (n:Int))) h (fun hc7=>?_) (fun hc8=>?_)
    ·refine Jn 42 [(2,.call (SLayD v2 al kids (TkD.mk rest (zad (sn++[(n:Int)])) nx fr) ts (by first | assumption | omega | (simp only [bB,bF,bE];omega) | (have h9:=zay (sn++[(n:Int)]);simp only [bB,bF,bE] at h9;omega))))] [] [(0,.box ([.d (.sl 3 ((al.map d5).map d6)),.d (.sl 2 (kids.map prI)),.d (.raw v2),.own 18 (ts++[(TkD.mk rest (zad (sn++[(n:Int)])) nx fr)]).length])),(18,.row 71 4 ((ts++[(TkD.mk rest (zad (sn++[(n:Int)])) nx fr)]).map TkD.d))] h fun a w h=>za7 ?_;have hz0:(lkT al kids (TkD.mk ((n:Int) :: rest) sn nx fr))=[(TkD.mk rest (zad (sn++[(n:Int)])) nx fr)]:=(ze5 (show (decide ((n:Int) ∈ sn))=false from by simpa using hc1)).trans ((lk1_at hi hk (.inl (by have:=hc6;simpa using this))).trans (by rw [if_neg (by rw [show agT al (zad (sn++[(n:Int)])) (n:Int)=false from (show (agT al (TkD.mk rest (zad (sn++[(n:Int)])) nx fr).seen (n:Int))=false from by simpa using hc7)];decide)]));have hz1:(ts++[(TkD.mk rest (zad (sn++[(n:Int)])) nx fr)])=(ts++(lkT al kids (TkD.mk ((n:Int) :: rest) sn nx fr))):=by rw [hz0]
     replace h:=atS (sl':=[]) (lc':=[(0,.box ([.d (.sl 3 ((al.map d5).map d6)),.d (.sl 2 (kids.map prI)),.d (.raw v2),.own 18 (ts++[(TkD.mk rest (zad (sn++[(n:Int)])) nx fr)]).length])),(18,.row 71 4 ((ts++[(TkD.mk rest (zad (sn++[(n:Int)])) nx fr)]).map TkD.d))]) h;replace h:=cv (fun z_:List TkD=>F.of [] [(0,.box [.d (.sl 3 ((al.map d5).map d6)),.d (.sl 2 (kids.map prI)),.d (.raw v2),.own 18 z_.length]),(18,.row 71 4 (z_.map TkD.d))]) hz1 h;refine zgx [] h Exit.normal (.inr rfl)  rfl trivial ?_;rfl
    refine qU (za7 ?_);have hz0:(lkT al kids (TkD.mk ((n:Int) :: rest) sn nx fr))=[]:=(ze5 (show (decide ((n:Int) ∈ sn))=false from by simpa using hc1)).trans ((lk1_at hi hk (.inl (by have:=hc6;simpa using this))).trans (by rw [if_pos (by exact (show (agT al (TkD.mk rest (zad (sn++[(n:Int)])) nx fr).seen (n:Int))=true from by simpa using hc8))]));have hz1:ts=(ts++(lkT al kids (TkD.mk ((n:Int) :: rest) sn nx fr))):=by rw [hz0];simp
    replace h:=atS (sl':=[]) (lc':=[(0,.box [.d (.sl 3 ((al.map d5).map d6)),.d (.sl 2 (kids.map prI)),.d (.raw v2),.own 8 ts.length]),(8,.row 71 4 (ts.map TkD.d))]) h;replace h:=cv (fun z_:List TkD=>F.of [] [(0,.box [.d (.sl 3 ((al.map d5).map d6)),.d (.sl 2 (kids.map prI)),.d (.raw v2),.own 8 z_.length]),(8,.row 71 4 (z_.map TkD.d))]) hz1 h;replace h:=zb7 8 18 h;refine zgx [] h Exit.normal (.inr rfl)  rfl trivial ?_;rfl
   rw [hc6] at hc;cases hc
  refine Jf 42 [] [] [(65,vb (p.l.kind == 3))] h fun a w h=>za1 (cS (p.l.kind == 3) h (fun hc10=>?_) (fun hc13=>?_))
  ·refine Jg 42 [(3,.call (SAgD v2 al kids (TkD.mk rest (zad (sn++[(n:Int)])) nx fr) n ts.length p hi (.inr (by have:=hc10;simpa using this)) hal (zex _) (by show (zad _).length<=_;first | assumption | omega | (simp only [bB,bF,bE];omega) | (have h9:=zay (sn++[(n:Int)]);simp only [bB,bF,bE] at h9;omega))))] [4,5,6,7,65] [(76,vb (!(agT al (TkD.mk rest (zad (sn++[(n:Int)])) nx fr).seen (n:Int))))] [41] [] h fun a w h=>cS (!(agT al (TkD.mk rest (zad (sn++[(n:Int)])) nx fr).seen (n:Int))) h (fun hc11=>?_) (fun hc12=>?_)
   ·refine Jn 42 [(2,.call (SLayD v2 al kids (TkD.mk rest (zad (sn++[(n:Int)])) nx fr) ts (by first | assumption | omega | (simp only [bB,bF,bE];omega) | (have h9:=zay (sn++[(n:Int)]);simp only [bB,bF,bE] at h9;omega))))] [] [(0,.box ([.d (.sl 3 ((al.map d5).map d6)),.d (.sl 2 (kids.map prI)),.d (.raw v2),.own 18 (ts++[(TkD.mk rest (zad (sn++[(n:Int)])) nx fr)]).length])),(18,.row 71 4 ((ts++[(TkD.mk rest (zad (sn++[(n:Int)])) nx fr)]).map TkD.d))] h fun a w h=>za7 ?_;have hz0:(lkT al kids (TkD.mk ((n:Int) :: rest) sn nx fr))=[(TkD.mk rest (zad (sn++[(n:Int)])) nx fr)]:=(ze5 (show (decide ((n:Int) ∈ sn))=false from by simpa using hc1)).trans ((lk1_at hi hk (.inr (by have:=hc10;simpa using this))).trans (by rw [if_neg (by rw [show agT al (zad (sn++[(n:Int)])) (n:Int)=false from (show (agT al (TkD.mk rest (zad (sn++[(n:Int)])) nx fr).seen (n:Int))=false from by simpa using hc11)];decide)]));have hz1:(ts++[(TkD.mk rest (zad (sn++[(n:Int)])) nx fr)])=(ts++(lkT al kids (TkD.mk ((n:Int) :: rest) sn nx fr))):=by rw [hz0]
    replace h:=atS (sl':=[]) (lc':=[(0,.box ([.d (.sl 3 ((al.map d5).map d6)),.d (.sl 2 (kids.map prI)),.d (.raw v2),.own 18 (ts++[(TkD.mk rest (zad (sn++[(n:Int)])) nx fr)]).length])),(18,.row 71 4 ((ts++[(TkD.mk rest (zad (sn++[(n:Int)])) nx fr)]).map TkD.d))]) h;replace h:=cv (fun z_:List TkD=>F.of [] [(0,.box [.d (.sl 3 ((al.map d5).map d6)),.d (.sl 2 (kids.map prI)),.d (.raw v2),.own 18 z_.length]),(18,.row 71 4 (z_.map TkD.d))]) hz1 h;refine zgx [] h Exit.normal (.inr rfl)  rfl trivial ?_;rfl
   refine qU (za7 ?_);have hz0:(lkT al kids (TkD.mk ((n:Int) :: rest) sn nx fr))=[]:=(ze5 (show (decide ((n:Int) ∈ sn))=false from by simpa using hc1)).trans ((lk1_at hi hk (.inr (by have:=hc10;simpa using this))).trans (by rw [if_pos (by exact (show (agT al (TkD.mk rest (zad (sn++[(n:Int)])) nx fr).seen (n:Int))=true from by simpa using hc12))]));have hz1:ts=(ts++(lkT al kids (TkD.mk ((n:Int) :: rest) sn nx fr))):=by rw [hz0];simp
   replace h:=atS (sl':=[]) (lc':=[(0,.box [.d (.sl 3 ((al.map d5).map d6)),.d (.sl 2 (kids.map prI)),.d (.raw v2),.own 8 ts.length]),(8,.row 71 4 (ts.map TkD.d))]) h;replace h:=cv (fun z_:List TkD=>F.of [] [(0,.box [.d (.sl 3 ((al.map d5).map d6)),.d (.sl 2 (kids.map prI)),.d (.raw v2),.own 8 z_.length]),(8,.row 71 4 (z_.map TkD.d))]) hz1 h;replace h:=zb7 8 18 h;refine zgx [] h Exit.normal (.inr rfl)  rfl trivial ?_;rfl
  refine Je 42 [] [65] [(80,vb (p.l.kind == 4))] h fun a w h=>cS (p.l.kind == 4) h (fun hc14=>?_) (fun hc15=>?_)
  ·refine Jn 42 [(4,.g (Op.buildD (d:=88) (len:=2) (rows:=[kk.1,kk.2].map za3) (rs:=[(86,vI kk.1),(87,vI kk.2)]) zgv (.cons (i:=0) (d4 86 _) (.cons (i:=1) (d4 87 _) (.nil))) (by kernel_rfl) rfl (by simp [za3]) (by decide) (by decide))),(5,.call (SMore (TkD.mk rest (zad (sn++[(n:Int)])) nx fr) [kk.1,kk.2] (by show rest.length+bI [kk.1,kk.2]<=_;first | assumption | omega | (simp only [bB,bF,bE];omega) | (have h9:=zay (sn++[(n:Int)]);simp only [bB,bF,bE] at h9;omega)))),(6,.call (SLayD v2 al kids ((TkD.mk rest (zad (sn++[(n:Int)])) nx fr).more [kk.1,kk.2]) ts (by first | assumption | omega | (simp only [bB,bF,bE];omega) | (have h9:=zay (sn++[(n:Int)]);simp only [bB,bF,bE] at h9;omega))))] [] [(0,.box ([.d (.sl 3 ((al.map d5).map d6)),.d (.sl 2 (kids.map prI)),.d (.raw v2),.own 18 (ts++[((TkD.mk rest (zad (sn++[(n:Int)])) nx fr).more [kk.1,kk.2])]).length])),(18,.row 71 4 ((ts++[((TkD.mk rest (zad (sn++[(n:Int)])) nx fr).more [kk.1,kk.2])]).map TkD.d))] h fun a w h=>za7 ?_;have hz0:(lkT al kids (TkD.mk ((n:Int) :: rest) sn nx fr))=[((TkD.mk rest (zad (sn++[(n:Int)])) nx fr).more [kk.1,kk.2])]:=(ze5 (show (decide ((n:Int) ∈ sn))=false from by simpa using hc1)).trans (lk1_and hi hk (by have:=hc14;simpa using this));have hz1:(ts++[((TkD.mk rest (zad (sn++[(n:Int)])) nx fr).more [kk.1,kk.2])])=(ts++(lkT al kids (TkD.mk ((n:Int) :: rest) sn nx fr))):=by rw [hz0]
   replace h:=atS (sl':=[]) (lc':=[(0,.box ([.d (.sl 3 ((al.map d5).map d6)),.d (.sl 2 (kids.map prI)),.d (.raw v2),.own 18 (ts++[((TkD.mk rest (zad (sn++[(n:Int)])) nx fr).more [kk.1,kk.2])]).length])),(18,.row 71 4 ((ts++[((TkD.mk rest (zad (sn++[(n:Int)])) nx fr).more [kk.1,kk.2])]).map TkD.d))]) h;replace h:=cv (fun z_:List TkD=>F.of [] [(0,.box [.d (.sl 3 ((al.map d5).map d6)),.d (.sl 2 (kids.map prI)),.d (.raw v2),.own 18 z_.length]),(18,.row 71 4 (z_.map TkD.d))]) hz1 h;refine zgx [] h Exit.normal (.inr rfl)  rfl trivial ?_;rfl
  refine Je 42 [] [80] [(91,vb (p.l.kind == 8))] h fun a w h=>cS (p.l.kind == 8) h (fun hc16=>?_) (fun hc17=>?_)
  ·refine Jn 42 [(3,.call (SLater (TkD.mk rest (zad (sn++[(n:Int)])) nx fr) kk.1 (by show nx.length<=_;omega))),(4,.call (SLayD v2 al kids ((TkD.mk rest (zad (sn++[(n:Int)])) nx fr).later kk.1) ts (by first | assumption | omega | (simp only [bB,bF,bE];omega) | (have h9:=zay (sn++[(n:Int)]);simp only [bB,bF,bE] at h9;omega))))] [] [(0,.box ([.d (.sl 3 ((al.map d5).map d6)),.d (.sl 2 (kids.map prI)),.d (.raw v2),.own 18 (ts++[((TkD.mk rest (zad (sn++[(n:Int)])) nx fr).later kk.1)]).length])),(18,.row 71 4 ((ts++[((TkD.mk rest (zad (sn++[(n:Int)])) nx fr).later kk.1)]).map TkD.d))] h fun a w h=>za7 ?_;have hz0:(lkT al kids (TkD.mk ((n:Int) :: rest) sn nx fr))=[((TkD.mk rest (zad (sn++[(n:Int)])) nx fr).later kk.1)]:=(ze5 (show (decide ((n:Int) ∈ sn))=false from by simpa using hc1)).trans (lk1_nx hi hk (by have:=hc16;simpa using this));have hz1:(ts++[((TkD.mk rest (zad (sn++[(n:Int)])) nx fr).later kk.1)])=(ts++(lkT al kids (TkD.mk ((n:Int) :: rest) sn nx fr))):=by rw [hz0]
   replace h:=atS (sl':=[]) (lc':=[(0,.box ([.d (.sl 3 ((al.map d5).map d6)),.d (.sl 2 (kids.map prI)),.d (.raw v2),.own 18 (ts++[((TkD.mk rest (zad (sn++[(n:Int)])) nx fr).later kk.1)]).length])),(18,.row 71 4 ((ts++[((TkD.mk rest (zad (sn++[(n:Int)])) nx fr).later kk.1)]).map TkD.d))]) h;replace h:=cv (fun z_:List TkD=>F.of [] [(0,.box [.d (.sl 3 ((al.map d5).map d6)),.d (.sl 2 (kids.map prI)),.d (.raw v2),.own 18 z_.length]),(18,.row 71 4 (z_.map TkD.d))]) hz1 h;refine zgx [] h Exit.normal (.inr rfl)  rfl trivial ?_;rfl
  refine Je 42 [] [91] [(100,vb (p.l.kind == 5))] h fun a w h=>cS (p.l.kind == 5) h (fun hc18=>?_) (fun hc19=>?_)
  ·refine Jg 42 [(3,.g (bD 107 ([kk.2].map za3) [(106,vI kk.2)] zgv (.cons (i:=0) (d4 106 _) (.nil)) (by kernel_rfl) (by simp [za3]))),(4,.call (SMore (TkD.mk rest (zad (sn++[(n:Int)])) nx fr) [kk.2] (by show rest.length+bI [kk.2]<=_;first | assumption | omega | (simp only [bB,bF,bE];omega) | (have h9:=zay (sn++[(n:Int)]);simp only [bB,bF,bE] at h9;omega)))),(5,.call (SLayD v2 al kids ((TkD.mk rest (zad (sn++[(n:Int)])) nx fr).more [kk.2]) ts (by first | assumption | omega | (simp only [bB,bF,bE];omega) | (have h9:=zay (sn++[(n:Int)]);simp only [bB,bF,bE] at h9;omega))))] [4,5,7,100] [] [8,41] [(0,.box ([.d (.sl 3 ((al.map d5).map d6)),.d (.sl 2 (kids.map prI)),.d (.raw v2),.own 18 (ts++[((TkD.mk rest (zad (sn++[(n:Int)])) nx fr).more [kk.2])]).length])),(18,.row 71 4 ((ts++[((TkD.mk rest (zad (sn++[(n:Int)])) nx fr).more [kk.2])]).map TkD.d))] h fun a w h=>?_;replace h:=zb7 18 38 h;refine Jn 42 [(3,.g (bD 113 ([kk.1].map za3) [(112,vI kk.1)] zgv (.cons (i:=0) (d4 112 _) (.nil)) (by kernel_rfl) (by simp [za3]))),(4,.call (SMore (TkD.mk rest (zad (sn++[(n:Int)])) nx fr) [kk.1] (by show rest.length+bI [kk.1]<=_;first | assumption | omega | (simp only [bB,bF,bE];omega) | (have h9:=zay (sn++[(n:Int)]);simp only [bB,bF,bE] at h9;omega)))),(5,.call (SLayE v2 al kids ((TkD.mk rest (zad (sn++[(n:Int)])) nx fr).more [kk.1]) (ts++[((TkD.mk rest (zad (sn++[(n:Int)])) nx fr).more [kk.2])]) (by first | assumption | omega | (simp only [bB,bF,bE];omega) | (have h9:=zay (sn++[(n:Int)]);simp only [bB,bF,bE] at h9;omega))))] [] [(0,.box ([.d (.sl 3 ((al.map d5).map d6)),.d (.sl 2 (kids.map prI)),.d (.raw v2),.own 18 ((ts++[((TkD.mk rest (zad (sn++[(n:Int)])) nx fr).more [kk.2])])++[((TkD.mk rest (zad (sn++[(n:Int)])) nx fr).more [kk.1])]).length])),(18,.row 71 4 (((ts++[((TkD.mk rest (zad (sn++[(n:Int)])) nx fr).more [kk.2])])++[((TkD.mk rest (zad (sn++[(n:Int)])) nx fr).more [kk.1])]).map TkD.d))] h fun a w h=>za7 ?_;have hz0:(lkT al kids (TkD.mk ((n:Int) :: rest) sn nx fr))=[((TkD.mk rest (zad (sn++[(n:Int)])) nx fr).more [kk.2]),((TkD.mk rest (zad (sn++[(n:Int)])) nx fr).more [kk.1])]:=(ze5 (show (decide ((n:Int) ∈ sn))=false from by simpa using hc1)).trans (lk1_or hi hk (by have:=hc18;simpa using this));have hz1:((ts++[((TkD.mk rest (zad (sn++[(n:Int)])) nx fr).more [kk.2])])++[((TkD.mk rest (zad (sn++[(n:Int)])) nx fr).more [kk.1])])=(ts++(lkT al kids (TkD.mk ((n:Int) :: rest) sn nx fr))):=by rw [hz0];simp
   replace h:=atS (sl':=[]) (lc':=[(0,.box ([.d (.sl 3 ((al.map d5).map d6)),.d (.sl 2 (kids.map prI)),.d (.raw v2),.own 18 ((ts++[((TkD.mk rest (zad (sn++[(n:Int)])) nx fr).more [kk.2])])++[((TkD.mk rest (zad (sn++[(n:Int)])) nx fr).more [kk.1])]).length])),(18,.row 71 4 (((ts++[((TkD.mk rest (zad (sn++[(n:Int)])) nx fr).more [kk.2])])++[((TkD.mk rest (zad (sn++[(n:Int)])) nx fr).more [kk.1])]).map TkD.d))]) h;replace h:=cv (fun z_:List TkD=>F.of [] [(0,.box [.d (.sl 3 ((al.map d5).map d6)),.d (.sl 2 (kids.map prI)),.d (.raw v2),.own 18 z_.length]),(18,.row 71 4 (z_.map TkD.d))]) hz1 h;refine zgx [] h Exit.normal (.inr rfl)  rfl trivial ?_;rfl
  refine Je 42 [] [100] [(116,vb (p.l.kind == 11))] h fun a w h=>cS (p.l.kind == 11) h (fun hc20=>?_) (fun hc21=>?_)
  ·refine Jg 42 [(3,.g (bD 123 ([kk.1].map za3) [(122,vI kk.1)] zgv (.cons (i:=0) (d4 122 _) (.nil)) (by kernel_rfl) (by simp [za3]))),(4,.call (SMore (TkD.mk rest (zad (sn++[(n:Int)])) nx fr) [kk.1] (by show rest.length+bI [kk.1]<=_;first | assumption | omega | (simp only [bB,bF,bE];omega) | (have h9:=zay (sn++[(n:Int)]);simp only [bB,bF,bE] at h9;omega)))),(6,.call (SLater ((TkD.mk rest (zad (sn++[(n:Int)])) nx fr).more [kk.1]) (n:Int) (by show nx.length<=_;omega))),(7,.call (SLayD v2 al kids (((TkD.mk rest (zad (sn++[(n:Int)])) nx fr).more [kk.1]).later (n:Int)) ts (by first | assumption | omega | (simp only [bB,bF,bE];omega) | (have h9:=zay (sn++[(n:Int)]);simp only [bB,bF,bE] at h9;omega))))] [4,5,6,116] [] [8,41] [(0,.box ([.d (.sl 3 ((al.map d5).map d6)),.d (.sl 2 (kids.map prI)),.d (.raw v2),.own 18 (ts++[(((TkD.mk rest (zad (sn++[(n:Int)])) nx fr).more [kk.1]).later (n:Int))]).length])),(18,.row 71 4 ((ts++[(((TkD.mk rest (zad (sn++[(n:Int)])) nx fr).more [kk.1]).later (n:Int))]).map TkD.d))] h fun a w h=>?_;replace h:=zb7 18 38 h;refine Jn 42 [(3,.g (bD 131 ([kk.2].map za3) [(130,vI kk.2)] zgv (.cons (i:=0) (d4 130 _) (.nil)) (by kernel_rfl) (by simp [za3]))),(4,.call (SMore (TkD.mk rest (zad (sn++[(n:Int)])) nx fr) [kk.2] (by show rest.length+bI [kk.2]<=_;first | assumption | omega | (simp only [bB,bF,bE];omega) | (have h9:=zay (sn++[(n:Int)]);simp only [bB,bF,bE] at h9;omega)))),(5,.call (SLayE v2 al kids ((TkD.mk rest (zad (sn++[(n:Int)])) nx fr).more [kk.2]) (ts++[(((TkD.mk rest (zad (sn++[(n:Int)])) nx fr).more [kk.1]).later (n:Int))]) (by first | assumption | omega | (simp only [bB,bF,bE];omega) | (have h9:=zay (sn++[(n:Int)]);simp only [bB,bF,bE] at h9;omega))))] [] [(0,.box ([.d (.sl 3 ((al.map d5).map d6)),.d (.sl 2 (kids.map prI)),.d (.raw v2),.own 18 ((ts++[(((TkD.mk rest (zad (sn++[(n:Int)])) nx fr).more [kk.1]).later (n:Int))])++[((TkD.mk rest (zad (sn++[(n:Int)])) nx fr).more [kk.2])]).length])),(18,.row 71 4 (((ts++[(((TkD.mk rest (zad (sn++[(n:Int)])) nx fr).more [kk.1]).later (n:Int))])++[((TkD.mk rest (zad (sn++[(n:Int)])) nx fr).more [kk.2])]).map TkD.d))] h fun a w h=>za7 ?_;have hz0:(lkT al kids (TkD.mk ((n:Int) :: rest) sn nx fr))=[(((TkD.mk rest (zad (sn++[(n:Int)])) nx fr).more [kk.1]).later (n:Int)),((TkD.mk rest (zad (sn++[(n:Int)])) nx fr).more [kk.2])]:=(ze5 (show (decide ((n:Int) ∈ sn))=false from by simpa using hc1)).trans (lk1_un hi hk (by have:=hc20;simpa using this));have hz1:((ts++[(((TkD.mk rest (zad (sn++[(n:Int)])) nx fr).more [kk.1]).later (n:Int))])++[((TkD.mk rest (zad (sn++[(n:Int)])) nx fr).more [kk.2])])=(ts++(lkT al kids (TkD.mk ((n:Int) :: rest) sn nx fr))):=by rw [hz0];simp
   replace h:=atS (sl':=[]) (lc':=[(0,.box ([.d (.sl 3 ((al.map d5).map d6)),.d (.sl 2 (kids.map prI)),.d (.raw v2),.own 18 ((ts++[(((TkD.mk rest (zad (sn++[(n:Int)])) nx fr).more [kk.1]).later (n:Int))])++[((TkD.mk rest (zad (sn++[(n:Int)])) nx fr).more [kk.2])]).length])),(18,.row 71 4 (((ts++[(((TkD.mk rest (zad (sn++[(n:Int)])) nx fr).more [kk.1]).later (n:Int))])++[((TkD.mk rest (zad (sn++[(n:Int)])) nx fr).more [kk.2])]).map TkD.d))]) h;replace h:=cv (fun z_:List TkD=>F.of [] [(0,.box [.d (.sl 3 ((al.map d5).map d6)),.d (.sl 2 (kids.map prI)),.d (.raw v2),.own 18 z_.length]),(18,.row 71 4 (z_.map TkD.d))]) hz1 h;refine zgx [] h Exit.normal (.inr rfl)  rfl trivial ?_;rfl
  refine Jg 42 [] [5,116] [(134,vb (p.l.kind == 12))] [41] [] h fun a w h=>cS (p.l.kind == 12) h (fun hc22=>?_) (fun hc23=>?_)
  ·refine Jg 42 [(3,.g (bD 141 ([kk.2].map za3) [(140,vI kk.2)] zgv (.cons (i:=0) (d4 140 _) (.nil)) (by kernel_rfl) (by simp [za3]))),(4,.call (SMore (TkD.mk rest (zad (sn++[(n:Int)])) nx fr) [kk.2] (by show rest.length+bI [kk.2]<=_;first | assumption | omega | (simp only [bB,bF,bE];omega) | (have h9:=zay (sn++[(n:Int)]);simp only [bB,bF,bE] at h9;omega)))),(6,.call (SLater ((TkD.mk rest (zad (sn++[(n:Int)])) nx fr).more [kk.2]) (n:Int) (by show nx.length<=_;omega))),(7,.call (SLayD v2 al kids (((TkD.mk rest (zad (sn++[(n:Int)])) nx fr).more [kk.2]).later (n:Int)) ts (by first | assumption | omega | (simp only [bB,bF,bE];omega) | (have h9:=zay (sn++[(n:Int)]);simp only [bB,bF,bE] at h9;omega))))] [4,134] [] [8] [(0,.box ([.d (.sl 3 ((al.map d5).map d6)),.d (.sl 2 (kids.map prI)),.d (.raw v2),.own 18 (ts++[(((TkD.mk rest (zad (sn++[(n:Int)])) nx fr).more [kk.2]).later (n:Int))]).length])),(18,.row 71 4 ((ts++[(((TkD.mk rest (zad (sn++[(n:Int)])) nx fr).more [kk.2]).later (n:Int))]).map TkD.d))] h fun a w h=>?_;replace h:=zb7 18 38 h;refine Jn 42 [(4,.g (Op.buildD (d:=150) (len:=2) (rows:=[kk.1,kk.2].map za3) (rs:=[(148,vI kk.1),(149,vI kk.2)]) zgv (.cons (i:=0) (d4 148 _) (.cons (i:=1) (d4 149 _) (.nil))) (by kernel_rfl) rfl (by simp [za3]) (by decide) (by decide))),(5,.call (SMore (TkD.mk rest (zad (sn++[(n:Int)])) nx fr) [kk.1,kk.2] (by show rest.length+bI [kk.1,kk.2]<=_;first | assumption | omega | (simp only [bB,bF,bE];omega) | (have h9:=zay (sn++[(n:Int)]);simp only [bB,bF,bE] at h9;omega)))),(6,.call (SLayE v2 al kids ((TkD.mk rest (zad (sn++[(n:Int)])) nx fr).more [kk.1,kk.2]) (ts++[(((TkD.mk rest (zad (sn++[(n:Int)])) nx fr).more [kk.2]).later (n:Int))]) (by first | assumption | omega | (simp only [bB,bF,bE];omega) | (have h9:=zay (sn++[(n:Int)]);simp only [bB,bF,bE] at h9;omega))))] [] [(0,.box ([.d (.sl 3 ((al.map d5).map d6)),.d (.sl 2 (kids.map prI)),.d (.raw v2),.own 18 ((ts++[(((TkD.mk rest (zad (sn++[(n:Int)])) nx fr).more [kk.2]).later (n:Int))])++[((TkD.mk rest (zad (sn++[(n:Int)])) nx fr).more [kk.1,kk.2])]).length])),(18,.row 71 4 (((ts++[(((TkD.mk rest (zad (sn++[(n:Int)])) nx fr).more [kk.2]).later (n:Int))])++[((TkD.mk rest (zad (sn++[(n:Int)])) nx fr).more [kk.1,kk.2])]).map TkD.d))] h fun a w h=>za7 ?_;have hz0:(lkT al kids (TkD.mk ((n:Int) :: rest) sn nx fr))=[(((TkD.mk rest (zad (sn++[(n:Int)])) nx fr).more [kk.2]).later (n:Int)),((TkD.mk rest (zad (sn++[(n:Int)])) nx fr).more [kk.1,kk.2])]:=(ze5 (show (decide ((n:Int) ∈ sn))=false from by simpa using hc1)).trans (lk1_fr hi hk (by have:=hc22;simpa using this));have hz1:((ts++[(((TkD.mk rest (zad (sn++[(n:Int)])) nx fr).more [kk.2]).later (n:Int))])++[((TkD.mk rest (zad (sn++[(n:Int)])) nx fr).more [kk.1,kk.2])])=(ts++(lkT al kids (TkD.mk ((n:Int) :: rest) sn nx fr))):=by rw [hz0];simp
   replace h:=atS (sl':=[]) (lc':=[(0,.box ([.d (.sl 3 ((al.map d5).map d6)),.d (.sl 2 (kids.map prI)),.d (.raw v2),.own 18 ((ts++[(((TkD.mk rest (zad (sn++[(n:Int)])) nx fr).more [kk.2]).later (n:Int))])++[((TkD.mk rest (zad (sn++[(n:Int)])) nx fr).more [kk.1,kk.2])]).length])),(18,.row 71 4 (((ts++[(((TkD.mk rest (zad (sn++[(n:Int)])) nx fr).more [kk.2]).later (n:Int))])++[((TkD.mk rest (zad (sn++[(n:Int)])) nx fr).more [kk.1,kk.2])]).map TkD.d))]) h;replace h:=cv (fun z_:List TkD=>F.of [] [(0,.box [.d (.sl 3 ((al.map d5).map d6)),.d (.sl 2 (kids.map prI)),.d (.raw v2),.own 18 z_.length]),(18,.row 71 4 (z_.map TkD.d))]) hz1 h;refine zgx [] h Exit.normal (.inr rfl)  rfl trivial ?_;rfl
  refine qU (za7 ?_);have hz0:(lkT al kids (TkD.mk ((n:Int) :: rest) sn nx fr))=[]:=(ze5 (show (decide ((n:Int) ∈ sn))=false from by simpa using hc1)).trans (lk1_no hi hk ⟨(by have:=hc3;simpa using this),(by have:=hc5;simpa using this),(by have:=hc9;simpa using this),(by have:=hc13;simpa using this),(by have:=hc15;simpa using this),(by have:=hc17;simpa using this),(by have:=hc19;simpa using this),(by have:=hc21;simpa using this),(by have:=hc23;simpa using this)⟩);have hz1:ts=(ts++(lkT al kids (TkD.mk ((n:Int) :: rest) sn nx fr))):=by rw [hz0];simp
  replace h:=atS (sl':=[]) (lc':=[(0,.box [.d (.sl 3 ((al.map d5).map d6)),.d (.sl 2 (kids.map prI)),.d (.raw v2),.own 8 ts.length]),(8,.row 71 4 (ts.map TkD.d))]) h;replace h:=cv (fun z_:List TkD=>F.of [] [(0,.box [.d (.sl 3 ((al.map d5).map d6)),.d (.sl 2 (kids.map prI)),.d (.raw v2),.own 8 z_.length]),(8,.row 71 4 (z_.map TkD.d))]) hz1 h;replace h:=zb7 8 18 h;refine zgx [] h Exit.normal (.inr rfl)  rfl trivial ?_;rfl
 refine qU (za1 (qZ (qW (Je 42 [] [8,46] [(53,vb (decide ((n:Int) ∈ sn)))] h fun a w h=>cS (decide ((n:Int) ∈ sn)) h (fun hc=>?_) (fun hc=>?_)))))
 ·clear hc;refine qU (za1 (cS (decide ((n:Int) ∈ sn)) h (fun hc=>?_) (fun hc=>?_)))
  ·clear hc;refine Jn 42 [(2,.call (SLayD v2 al kids (TkD.mk rest sn nx fr) ts (by first | assumption | omega | (simp only [bB,bF,bE];omega) | (have h9:=zay (sn++[(n:Int)]);simp only [bB,bF,bE] at h9;omega))))] [] [(0,.box ([.d (.sl 3 ((al.map d5).map d6)),.d (.sl 2 (kids.map prI)),.d (.raw v2),.own 18 (ts++[(TkD.mk rest sn nx fr)]).length])),(18,.row 71 4 ((ts++[(TkD.mk rest sn nx fr)]).map TkD.d))] h fun a w h=>za7 ?_;have hz0:(lkT al kids (TkD.mk ((n:Int) :: rest) sn nx fr))=[(TkD.mk rest sn nx fr)]:=lkT_kn (show (decide ((n:Int) ∈ sn))=true from by simpa using hc24);have hz1:(ts++[(TkD.mk rest sn nx fr)])=(ts++(lkT al kids (TkD.mk ((n:Int) :: rest) sn nx fr))):=by rw [hz0]
   replace h:=atS (sl':=[]) (lc':=[(0,.box ([.d (.sl 3 ((al.map d5).map d6)),.d (.sl 2 (kids.map prI)),.d (.raw v2),.own 18 (ts++[(TkD.mk rest sn nx fr)]).length])),(18,.row 71 4 ((ts++[(TkD.mk rest sn nx fr)]).map TkD.d))]) h;replace h:=cv (fun z_:List TkD=>F.of [] [(0,.box [.d (.sl 3 ((al.map d5).map d6)),.d (.sl 2 (kids.map prI)),.d (.raw v2),.own 18 z_.length]),(18,.row 71 4 (z_.map TkD.d))]) hz1 h;refine zgx [] h Exit.normal (.inr rfl)  rfl trivial ?_;rfl
  rw [(show (decide ((n:Int) ∈ sn))=true from by simpa using hc24)] at hc;cases hc
 rw [(show (decide ((n:Int) ∈ sn))=true from by simpa using hc24)] at hc;cases hc
end S
end Go.Proofs.YtjnkkdfojfjncaaGreat
