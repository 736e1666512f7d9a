/-
  Part 4 of the proof of the statement ConfineKnows. It holds for every input.
-/
import Derived.Test.YtdnhcneallkljaaGreatCK3
import Derived.Test.YtdnhcneallkljaaGreatCK2
import Derived.OrdersIn
import Derived.RangeFuncFrom
import Derived.RangeFuncLeaves
import Derived.RangeFuncCalls
import Derived.RangeFuncBound
import Derived.Shelf.Abstract
import Derived.Shelf.RegionOpen
import Derived.OwnWalkIn
import Derived.TacticsInMore
import Derived.LoopNIn
import Derived.LoopIn
import Derived.Laws.Strings
import Derived.Laws.MakeOwn
set_option maxRecDepth 100000
set_option maxHeartbeats 20000000
open Go.RowKit
open List renaming range->bC,length_map->bE,replicate->bH,length_append->bJ,getElem?_eq_getElem->bK,all_eq_true->bM,map_append->bP,take_of_length_le->bR,length_range->bS,length_replicate->bU,mem_map->bV,getElem?_map->bW,length_eq_zero_iff->bX,range_succ->bZ,getElem?_eq_none->b9,mem_of_getElem?->cC,length_take->cE,mem_append_left->cG,mem_append_right->cH,take_add_one->cJ,length_drop->cM,mem_range->cW,getElem?_eq_some_iff->cX,append_assoc->cZ,mem_append->c7,filter_append->dC,append_nil->dD,getElem?_range->dE,length_filter_le->dH,nil_append->dI,length_nil->dL,range_eq_range'->dM,cons_append->dQ,mem_flatMap->dR,mem_of_mem_drop->dU,map_take->dW,take_append_of_le_length->dX,take_zero->dY,map_replicate->dZ,drop_of_length_le->d4,getElem?_append_right->d5,drop_eq_getElem_cons->d7,replicate_succ'->d8,set_append_right->d9,filter_cons_of_pos->eA,filter_cons_of_neg->eB
open Bool renaming true_and->bF,eq_false_or_eq_true->bI,and_eq_true->bT,and_false->cD,or_true->cV
open Nat renaming zero_le->bG,le_refl->bL,le_trans->cO,sub_zero->cQ,sub_self->dB,not_lt_zero->dP
open Option renaming map_some->b7,getD_some->dG,isSome_iff_exists->dN
open Array renaming getD_eq_getD_getElem?->b8,getElem?_eq_some_iff->cF,getElem?_setIfInBounds_ne->dO,getElem?_setIfInBounds_self_of_lt->d6
open Int renaming mul_one->cK,ediv_nonneg->cL,toNat_of_nonneg->cP,mul_le_mul->cR,ediv_le_self->cT,emod_lt_of_pos->cU,le_refl->cY,tdiv_eq_ediv_of_nonneg->c8,emod_nonneg->dA,toNat_natCast->dS,mul_le_mul_of_nonneg_left->dV,tmod_eq_emod_of_nonneg->d3,emod_add_mul_ediv->eC,ediv_eq_zero_of_lt->eD
open Go.Proofs.Tryz renaming prog->eE
open Go.Proofs.YtdnhcneallkljaaGreat.S.Fn renaming cast->eF
open Go.Proofs.YtdnhcneallkljaaGreat.S.OV renaming tmp->eG
open Go.Proofs.YtdnhcneallkljaaGreat.S.StD renaming d->eH
namespace Go.Proofs.YtdnhcneallkljaaGreat
namespace S
variable {v M i es N t b m j:Nat} {β:Type} {P:Program} {k:FuncId} {ps qs lc:List (Nat × L)} {res:V} {y:Code} {w0 w:World} {H0 H1 H:Im} {B0 B:Bl} {sl rs rs':List (Nat × V)} {e:E} {K:Act->World->Prop} {draw:Bool} {f:F} {a:Act} {o:Obj} {fn:Func} {args:List V} {x u n:Int} {xt el ty:TypeId} {ns:List Int} {hd:List ZI}
def zkb (x:StD) (c:zb1) (y:StD) (p:Nat):Bool:=(y.locs[p]?).getD 0 == (if (p:Int)=c.proc then c.to_ else (x.locs[p]?).getD 0)
def zj9 (x:StD) (c:zb1) (y:StD) (v:Nat):Bool:=zax c v || decide ((zbx x c v).val=((y.vals[v]?).getD zdi).val)
def zd9 (s:zab) (x:StD) (c:zb1) (y:StD):Bool:=(zad s x c && zbk s y) && (zg7 x.locs.length (zkb x c y) && zg7 x.vals.length (zj9 x c y))
theorem out_loc {s:zab} {x:StD} {c:zb1} {picks:List ZI} (h:zad s x c=true) {p:Nat} (hp:p<x.locs.length):(zcz s x c picks).locs[p]?=some (if (p:Int)=c.proc then c.to_ else (x.locs[p]?).getD 0):=by
 have hpr:=zee h
 by_cases e:(p:Int)=c.proc
 ·rw [if_pos e,show p=c.proc.toNat by omega];simp only [zcz];exact List.getElem?_set_self (by omega)
 ·rw [if_neg e];simp only [zcz];rw [List.getElem?_set_ne (by omega),bK hp];rfl
theorem out_val {s:zab} {x:StD} {c:zb1} {picks:List ZI} (hv:v<s.vars.length):(zcz s x c picks).vals[v]?=some (zca x c picks v):=by simp [zcz,bW,dE hv]
theorem zgj (s:zab) (x:StD) (c:zb1) (y:StD):zd9 s x c y=zh5 s x c y:=by
 unfold zd9 zh5
 cases he:zad s x c with
 | false=>rfl
 | true =>
  cases hy:zbk s y with
  | false=>rfl
  | true =>
   rw [bF,bF,bF]
   have lx:=zcr (zck he);have ly:=zcr hy
   have hn:∀ v,v<s.vars.length->(zca x c (zcg y c s.vars.length) v).val=if zax c v=true then ((y.vals[v]?).getD zdi).val else (zbx x c v).val:=fun v hv=>by
    by_cases hf:zax c v=true
    ·rw [if_pos hf,newV_at hf (by rw [picks_freeL];exact freeL_at _ c hf _ hv),ZI.val_of]
    ·rw [if_neg hf,zhn (by simpa using hf)]
   have key:(zbk s (zcz s x c (zcg y c s.vars.length))=true/\zde y (zcz s x c (zcg y c s.vars.length))=true) ↔ (zg7 x.locs.length (zkb x c y)=true/\zg7 x.vals.length (zj9 x c y)=true):=by
    unfold zde
    simp only [bT,decide_eq_true_eq,zbf]
    constructor
    ·rintro ⟨_,h1,h2⟩
     refine ⟨fun p hp=>?_,fun v hv=>?_⟩
     ·unfold zkb;rw [h1,out_loc he hp];simp
     ·unfold zj9
      have hv':v<s.vars.length:=by omega
      have h3:=congrArg (fun l=>l[v]?) h2
      simp only [bW,out_val hv', b7] at h3
      cases hz:y.vals[v]? with
      | none=>rw [hz] at h3;cases h3
      | some z =>
       rw [hz] at h3
       simp only [b7,Option.some.injEq] at h3
       rw [hn v hv', hz] at h3
       by_cases hf:zax c v=true
       ·rw [hf];rfl
       ·rw [if_neg hf] at h3;rw [dG,decide_eq_true h3.symm,cV]
    ·rintro ⟨h1,h2⟩
     have e1:y.locs=(zcz s x c (zcg y c s.vars.length)).locs:=by
      refine List.ext_getElem? fun p=>?_
      by_cases hp:p<x.locs.length
      ·have:=h1 p hp;unfold zkb at this;rw [out_loc he hp]
       rw [bK (by omega)] at this ⊢
       simp at this;rw [this]
      ·rw [b9 (by omega),b9 (by simp only [zcz,List.length_set];omega)]
     have e2:y.vals.map ZI.val=(zcz s x c (zcg y c s.vars.length)).vals.map ZI.val:=by
      refine List.ext_getElem? fun v=>?_
      simp only [bW]
      by_cases hv:v<s.vars.length
      ·rw [out_val hv]
       have:=h2 v (by omega);unfold zj9 at this
       rw [bK (by omega)] at this ⊢
       simp only [b7,Option.some.injEq,dG] at this ⊢
       rw [hn v hv]
       by_cases hf:zax c v=true
       ·rw [if_pos hf,bK (by omega)];rfl
       ·rw [if_neg hf];rw [show zax c v=false by simpa using hf,Bool.false_or] at this;exact (of_decide_eq_true this).symm
      ·rw [b9 (by omega),b9 (by simp [zcz];omega)]
     refine ⟨?_,e1,e2⟩
     rw [fits_out _ he,zbf]
     intro v hv
     have h3:=vals_in hy (i:=v) (by omega)
     unfold zhr at h3
     rw [<- h3]
     refine within_val ?_
     have h4:=congrArg (fun l=>l[v]?) e2
     simp only [bW,out_val hv] at h4
     rw [bK (by omega)] at h4 ⊢
     simp only [b7,Option.some.injEq,dG] at h4 ⊢
     exact h4.symm
   unfold goC
   by_cases hfo:zbk s (zcz s x c (zcg y c s.vars.length))=true
   ·rw [if_pos ⟨he,hfo⟩,bF]
    rw [Bool.eq_iff_iff,bT]
    exact ⟨fun h=>(key.2 h).2,fun h=>key.1 ⟨hfo,h⟩⟩
   ·rw [if_neg (fun h=>hfo h.2)]
    have:¬ (zg7 x.locs.length (zkb x c y)=true/\zg7 x.vals.length (zj9 x c y)=true):=fun h=>hfo (key.2 h).1
    rw [<- bT] at this
    simpa using this
theorem SRLeads1 (s:zab) (x y:StD) {L:Nat} (hL:L+M<=1900) (hs:zaw L s) (hx:zdh M x) (hy:zdh M y):Fn eE 15 [] [vG (zat s),vG [cIs x.locs,cZs x.vals],vI (-1),vG [cIs y.locs,cZs y.vals]] (vb (zej s x && zde x y)) []:=by
 refine fB Tryz.func15 rfl 110 fun w H B a h=>Jq 0 [] [(2,vI (-1)),(4,vp 0 0),(5,vp 1 0),(7,vp 2 0),(8,vb false)] [(0,.box (zat s)),(1,.box [cIs x.locs,cZs x.vals]),(2,.box [cIs y.locs,cZs y.vals])] h fun a w h=>qW (Je 3 [(1,.cmp (op:=.eql) (m:=(-1)) (n:=(-1)) (b:=true) .i64 rfl)] [] [(16,vb true)] h fun a w h=>cS true h (fun _=>?_) nofun)
 rcases bI (zej s x) with hc1 | hc2
 ·refine Je 3 [(2,.call (eF (SRStuck s x hL hs hx) (congrArg vb hc1))),(6,.call (SRSame18 x y (M:=M) (by omega) hx hy))] [16] [(8,vb (zde x y))] h fun a w h=>qV (za2 (rT (.c (cB (zde x y))) h rfl ?_));rw [hc1];try rfl
 refine Je 3 [(2,.call (eF (SRStuck s x hL hs hx) (congrArg vb hc2)))] [16] [] h fun a w h=>qV (za2 (rT (.c (cB false)) h rfl ?_));rw [hc2];try rfl
theorem SRLeads2 (s:zab) (x:StD) (i:Int) (y:StD) {L:Nat} (hL:L+M<=1900) (hs:zaw L s) (hx:zdh M x) (hy:zdh M y) (hi:zf8 s i=none) (hn:i≠-1):Fn eE 15 [] [vG (zat s),vG [cIs x.locs,cZs x.vals],vI i,vG [cIs y.locs,cZs y.vals]] (vb false) []:=by
 refine fB Tryz.func15 rfl 110 fun w H B a h=>Jq 0 [] [(2,vI i),(4,vp 0 0),(5,vp 1 0),(7,vp 2 0),(8,vb false)] [(0,.box (zat s)),(1,.box [cIs x.locs,cZs x.vals]),(2,.box [cIs y.locs,cZs y.vals])] h fun a w h=>qW (Je 3 [(1,.cmp (op:=.eql) (m:=i) (n:=(-1)) (b:=false) .i64 (beq_eq_false_iff_ne.2 hn))] [] [(16,vb false)] h fun a w h=>zbs h (qU (za0 (qW (Je 3 [(3,.call (SRbeginsN s x i (by omega) hs hx hi))] [16] [(35,vb true)] h fun a w h=>cS true h (fun _=>?_) nofun)))))
 refine Je 3 [] [35] [] h fun a w h=>qV (za2 (rT (.c (cB false)) h rfl ?_));rfl
theorem SRLeads3 (s:zab) (x:StD) (ki:Nat) (y:StD) (c:zb1) {L:Nat} (hL:L+M<=1900) (hs:zaw L s) (hx:zdh M x) (hy:zdh M y) (hka:s.acts[ki]?=some c):Fn eE 15 [] [vG (zat s),vG [cIs x.locs,cZs x.vals],vN ki,vG [cIs y.locs,cZs y.vals]] (vb (zh5 s x c y)) []:=by
 have lx1:=hx.locs;have lx2:=hx.vals;have ls1:=hs.vars;have ls2:=hs.procs;have lki:=zac hka;have hc:zi3 L c:=hs.act c (lM hka);have lmv:=hc.len;have lvv:=hx.vals;refine fB Tryz.func15 rfl 110 fun w H B a h=>Jq 5 [] [(2,vN ki),(4,vp 5 0),(5,vp 6 0),(7,vp 7 0),(8,vb false)] [(5,.box (zat s)),(6,.box [cIs x.locs,cZs x.vals]),(7,.box [cIs y.locs,cZs y.vals])] h fun a w h=>qW (Je 8 [(1,.cmp (op:=.eql) (m:=(ki:Int)) (n:=(-1)) (b:=false) .i64 (beq_eq_false_iff_ne.2 (by omega)))] [] [(16,vb false)] h fun a w h=>zbs h (qU (za0 (qW ?_))))
 rcases bI (zad s x c) with hc1 | hc20
 ·refine Je 8 [(3,.call (eF (zj2 s x ki c (L:=L) (M:=M) (by omega) hs hx hka) (congrArg vb hc1))),(8,.call (SRFits s y (L:=L) (M:=M) (by omega) hs hy))] [16] [(35,vb (!(zbk s y)))] h fun a w h=>cS (!(zbk s y)) h (fun hc2=>?_) (fun hc3=>?_)
  ·refine Je 8 [] [35] [] h fun a w h=>qV (za2 (rT (.c (cB false)) h rfl ?_));have hz:zd9 s x c y=false:=by unfold zd9;rw [hc1,(show (zbk s y)=false from by simpa using hc2)];rfl
   rw [<- zgj,hz];try rfl
  refine qU (za0 (Jg 8 [(3,.g (xD 39 37 ki_1 (za4 hka (f:=zb1.d)) (eG 38 _)))] [2,4,35] [(9,vp 8 0)] [5] [(8,.box (acC c))] h fun a w h=>qW ?_));have hen:=hc1;have hfl:=zcr (zck hen);have hpr:=zee hen;have hfy:=zcr (show (zbk s y)=true from by simpa using hc3);refine Je 9 [] [] [(10,vI 0)] h fun a w h=>qZ ?_
  refine zcc (ι:=(Nat)) (fun j=>j<=x.locs.length/\zg7 j (zkb x c y)=true)
    [8] (fun j=>[(10,vN j)])
    [] (fun j=>[])
    (fun j=>x.locs.length - j) 0 ?_ h ?_
  ·exact ⟨bG _,rfl⟩
  clear h;rintro j a w hI h;obtain ⟨hj1,hj2⟩:=hI;refine qW (Je 9 [(3,.len (za1 1 za8 x.locs))] [] [(45,vb (decide ((j:Int)<(x.locs.length:Int))))] h fun a w h=>zag ((j:Int)<(x.locs.length:Int)) h (fun hc4 hc4'=>?_) (fun hc11 hc11'=>?_))
  ·refine qU (za0 (qW (qZ ?_)));obtain ⟨x4,hx4⟩:=gl x.locs j;refine Je 9 [(3,.g (xD 51 49 zdj (za4 hx4 (f:=za8)) (eG 50 _)))] [45] [(11,vI x4)] h fun a w h=>qW (Je 9 [] [] [(56,vb ((j:Int) == c.proc))] h fun a w h=>cS ((j:Int) == c.proc) h (fun hc5=>?_) (fun hc8=>?_))
   ·refine Jf 9 [] [56] [(11,vI c.to_)] h fun a w h=>za0 ?_;obtain ⟨x5,hx5⟩:=gl y.locs j;refine Je 9 [(3,.g (xD 62 60 zdj (za4 hx5 (f:=za8)) (eG 61 _)))] [11] [(65,vb (x5 != c.to_))] h fun a w h=>cS (x5 != c.to_) h (fun hc6=>?_) (fun hc7=>?_)
    ·refine Je 9 [] [65] [(8,vb false)] h fun a w h=>qV (za6 (za2 (za2 (za6 (za2 (rT (.c (cB false)) h rfl ?_))))));have hz:zd9 s x c y=false:=by unfold zd9;rw [hc1,(show (zbk s y)=true from by simpa using hc3),bF,bF];rw [zba (j:=j) (by have:=dT hc4;omega) (show zkb x c y j=false from (by unfold zkb;rw [if_pos (by have:=hc5;simpa using this),hx5];have:=hc6;simpa using this))];rfl
     rw [<- zgj,hz];try rfl
    refine qU (za5 (za0 (Jf 9 [(1,.j1 j)] [65] [(10,vI ((j:Int)+1))] h fun a w h=>za0 (za9 (x:=j) (y:=j+1) h ?_ ?_))))
    ·exact ⟨by omega,zb9 hj2 (by unfold zkb;rw [if_pos (by have:=hc5;simpa using this),hx5];have:=hc7;simpa using this)⟩
    show x.locs.length - (j+1)<x.locs.length - j;omega
   refine qU (za0 ?_);obtain ⟨x6,hx6⟩:=gl y.locs j;refine Je 9 [(3,.g (xD 62 60 zdj (za4 hx6 (f:=za8)) (eG 61 _)))] [11,56] [(65,vb (x6 != x4))] h fun a w h=>cS (x6 != x4) h (fun hc9=>?_) (fun hc10=>?_)
   ·refine Je 9 [] [65] [(8,vb false)] h fun a w h=>qV (za6 (za2 (za2 (za6 (za2 (rT (.c (cB false)) h rfl ?_))))));have hz:zd9 s x c y=false:=by unfold zd9;rw [hc1,(show (zbk s y)=true from by simpa using hc3),bF,bF];rw [zba (j:=j) (by have:=dT hc4;omega) (show zkb x c y j=false from (by unfold zkb;rw [if_neg (by have:=hc8;simpa using this),hx4,hx6];have:=hc9;simpa using this))];rfl
    rw [<- zgj,hz];try rfl
   refine qU (za5 (za0 (Jf 9 [(1,.j1 j)] [65] [(10,vI ((j:Int)+1))] h fun a w h=>za0 (za9 (x:=j) (y:=j+1) h ?_ ?_))))
   ·exact ⟨by omega,zb9 hj2 (by unfold zkb;rw [if_neg (by have:=hc8;simpa using this),hx4,hx6];have:=hc10;simpa using this)⟩
   show x.locs.length - (j+1)<x.locs.length - j;omega
  refine exA (qW (Je 9 [] [10,45] [(12,vI 0)] h fun a w h=>qZ ?_))
  refine zcc (ι:=(Nat)) (fun i=>i<=x.vals.length/\zg7 i (zj9 x c y)=true)
    [] (fun i=>[(12,vN i)])
    [] (fun i=>[])
    (fun i=>x.vals.length - i) 0 ?_ h ?_
  ·exact ⟨bG _,rfl⟩
  clear h;rintro i a w hI h;obtain ⟨hi1,hi2⟩:=hI;refine qW (Je 9 [(3,.len (za1 2 ziD x.vals))] [] [(70,vb (decide ((i:Int)<(x.vals.length:Int))))] h fun a w h=>zag ((i:Int)<(x.vals.length:Int)) h (fun hc12 hc12'=>?_) (fun hc19 hc19'=>?_))
  ·refine qU (za0 (qW (qZ ?_)))
   rcases zg3 (fun m=>m.v == (i:Int)) c.moves with ⟨hix,hm⟩ | ⟨k,m,hix,hmk,hm⟩
   ·replace hm:zkm c i=none:=hm;refine Jq 9 [(2,.call (eF (SRmove c i lmv) (congrArg (vi .i64) hix)))] [(5,vp 6 0),(7,vp 7 0),(9,vp 8 0),(12,vN i),(13,vI (-1))] [(6,.box [cIs x.locs,cZs x.vals]),(7,.box [cIs y.locs,cZs y.vals]),(8,.box (acC c))] h fun a w h=>?_;obtain ⟨x8,hx8⟩:=gl x.vals i;have gx8:=hx.val x8 (lM hx8);have lgx8:=gx8.2;refine Jg 9 [(3,.g (xD 79 77 zi8 (za4 hx8 (f:=ziD)) (eG 78 _)))] [] [(14,vp 9 0)] [] [(9,.box (zi x8))] h fun a w h=>qW (Je 10 [(1,.cmp (op:=.geq) (m:=(-1)) (n:=0) (b:=false) .i64 rfl)] [] [(90,vb false)] h fun a w h=>zbs h (qU (za0 (qW (Je 10 [(1,.cmp (op:=.geq) (m:=(-1)) (n:=0) (b:=false) .i64 rfl)] [90] [(92,vb false)] h fun a w h=>zbs h (qU (za0 ?_)))))));obtain ⟨x9,hx9⟩:=gl y.vals i;have gx9:=hy.val x9 (lM hx9);have lgx9:=gx9.2;refine Jg 10 [(4,.g (xD 106 104 zi8 (za4 hx9 (f:=ziD)) (eG 105 _))),(6,.call (SRCmp x8 x9 gx8.1 gx9.1 (by omega) (by omega)))] [13,14,92] [(109,vb (zel x8.val x9.val != 0))] [9] [] h fun a w h=>cS (zel x8.val x9.val != 0) h (fun hc13=>?_) (fun hc14=>?_)
    ·refine Je 10 [] [109] [(8,vb false)] h fun a w h=>qV (za6 (za2 (za2 (za6 (za2 (rT (.c (cB false)) h rfl ?_))))));have hz:zd9 s x c y=false:=by unfold zd9;rw [hc1,(show (zbk s y)=true from by simpa using hc3),bF,bF];rw [show x.locs.length=j by have:=dF hc11;omega,hj2,bF];rw [zba (j:=i) (by have:=dT hc12;omega) (show zj9 x c y i=false from (by unfold zj9;rw [zh8 hm,new_none hm hx8,show (clZ x8).val=x8.val from ZI.val_of _,hx9];have:=hc13;rw [zjx] at this;simpa using this))]
     rw [<- zgj,hz];try rfl
    refine qU (za5 (za0 (Jf 10 [(1,.j1 i)] [109] [(12,vI ((i:Int)+1))] h fun a w h=>za0 (za9 (x:=i) (y:=i+1) h ?_ ?_))))
    ·exact ⟨by omega,zb9 hi2 (by unfold zj9;rw [zh8 hm,new_none hm hx8,show (clZ x8).val=x8.val from ZI.val_of _,hx9];have:=hc14;rw [zjx] at this;simpa using this)⟩
    show x.vals.length - (i+1)<x.vals.length - i;omega
   replace hm:zkm c i=some m:=hm;have lmk:=zac hmk;refine Jq 9 [(2,.call (eF (SRmove c i lmv) (congrArg (vi .i64) hix)))] [(5,vp 6 0),(7,vp 7 0),(9,vp 8 0),(12,vN i),(13,vN k)] [(6,.box [cIs x.locs,cZs x.vals]),(7,.box [cIs y.locs,cZs y.vals]),(8,.box (acC c))] h fun a w h=>?_;obtain ⟨x12,hx12⟩:=gl x.vals i;have gx12:=hx.val x12 (lM hx12);have lgx12:=gx12.2;refine Jg 9 [(3,.g (xD 79 77 zi8 (za4 hx12 (f:=ziD)) (eG 78 _)))] [] [(14,vp 9 0)] [] [(9,.box (zi x12))] h fun a w h=>qW (Je 10 [(1,.cmp (op:=.geq) (m:=(k:Int)) (n:=0) (b:=true) .i64 (show (decide ((k:Int)>=0))=true from decide_eq_true (by omega))),(6,.g (xD 87 85 ki_2 (za4 hmk (f:=zan.d)) (eG 86 _)))] [] [(90,vb m.any)] h fun a w h=>cS m.any h (fun hc15=>?_) (fun hc16=>?_))
   ·refine wp_exit (zbq (zao (za0 (Jh 10 [(1,.j1 i)] [13,14,90] [(12,vI ((i:Int)+1))] [9] [] h fun a w h=>za0 (za9 (x:=i) (y:=i+1) h ?_ ?_)))))
    ·exact ⟨by omega,zb9 hi2 (by unfold zj9;rw [zcj hm hc15];rfl)⟩
    show x.vals.length - (i+1)<x.vals.length - i;omega
   refine qU (za0 (qW (Je 10 [(1,.cmp (op:=.geq) (m:=(k:Int)) (n:=0) (b:=true) .i64 (show (decide ((k:Int)>=0))=true from decide_eq_true (by omega)))] [90] [(92,vb true)] h fun a w h=>cS true h (fun _=>?_) nofun)));obtain ⟨r13,er13,vr13,or13,lr13⟩:=mkZ (v:=valT m.t x.vals) (m:=L+M+2) (cO (zgy (hc.mv m (lM hmk)) (by decide) hx.vok (fun p hp=>hp) (bL _)) (by omega));refine Jh 10 [(3,.g (xD 96 94 ki_2 (za4 hmk (f:=zan.d)) (eG 95 _))),(8,.call (eF (SRValue m.t x.vals (hc.mv m (lM hmk)) (by decide) (by omega) hx.vok) (congrArg vz er13.symm)))] [13,92] [] [] [(9,.box (zi r13))] h fun a w h=>za0 ?_;obtain ⟨x14,hx14⟩:=gl y.vals i;have gx14:=hy.val x14 (lM hx14);have lgx14:=gx14.2;refine Jg 10 [(4,.g (xD 106 104 zi8 (za4 hx14 (f:=ziD)) (eG 105 _))),(6,.call (SRCmp r13 x14 or13 gx14.1 (by omega) (by omega)))] [14] [(109,vb (zel r13.val x14.val != 0))] [9] [] h fun a w h=>cS (zel r13.val x14.val != 0) h (fun hc17=>?_) (fun hc18=>?_)
   ·refine Je 10 [] [109] [(8,vb false)] h fun a w h=>qV (za6 (za2 (za2 (za6 (za2 (rT (.c (cB false)) h rfl ?_))))));have hz:zd9 s x c y=false:=by unfold zd9;rw [hc1,(show (zbk s y)=true from by simpa using hc3),bF,bF];rw [show x.locs.length=j by have:=dF hc11;omega,hj2,bF];rw [zba (j:=i) (by have:=dT hc12;omega) (show zj9 x c y i=false from (by unfold zj9;rw [zcj hm hc16,new_some hm hc16,ZI.val_of,<- vr13,hx14];have:=hc17;rw [zjx] at this;simpa using this))]
    rw [<- zgj,hz];try rfl
   refine qU (za5 (za0 (Jf 10 [(1,.j1 i)] [109] [(12,vI ((i:Int)+1))] h fun a w h=>za0 (za9 (x:=i) (y:=i+1) h ?_ ?_))))
   ·exact ⟨by omega,zb9 hi2 (by unfold zj9;rw [zcj hm hc16,new_some hm hc16,ZI.val_of,<- vr13,hx14];have:=hc18;rw [zjx] at this;simpa using this)⟩
   show x.vals.length - (i+1)<x.vals.length - i;omega
  refine exA (Jq 10 [] [(8,vb true)] [] h fun a w h=>qV (rT (.c (cB true)) h rfl ?_));have hz:zd9 s x c y=true:=by unfold zd9;rw [hc1,(show (zbk s y)=true from by simpa using hc3),bF,bF];rw [show x.locs.length=j by have:=dF hc11;omega,hj2,bF];rw [show x.vals.length=i by have:=dF hc19;omega,hi2]
  rw [<- zgj,hz];try rfl
 refine Je 10 [(3,.call (eF (zj2 s x ki c (L:=L) (M:=M) (by omega) hs hx hka) (congrArg vb hc20)))] [16] [(35,vb true)] h fun a w h=>cS true h (fun _=>?_) nofun
 refine Je 10 [] [35] [] h fun a w h=>qV (za2 (rT (.c (cB false)) h rfl ?_));have hz:zd9 s x c y=false:=by unfold zd9;rw [hc20];rfl
 rw [<- zgj,hz];try rfl
theorem SRLeads (s:zab) (x:StD) (i:Int) (y:StD) {L:Nat} (hL:L+M<=1900) (hs:zaw L s) (hx:zdh M x) (hy:zdh M y):Fn eE 15 [] [vG (zat s),vG [cIs x.locs,cZs x.vals],vi .i64 i,vG [cIs y.locs,cZs y.vals]] (vb (zcp s x i y)) []:=by
 by_cases hn:i=-1
 ·subst hn;unfold zcp;rw [if_pos rfl];exact SRLeads1 s x y hL hs hx hy
 ·cases hi:zf8 s i with
  | none=>unfold zcp;rw [if_neg hn,hi];exact SRLeads2 s x i y hL hs hx hy hi hn
  | some c=>unfold zcp;rw [if_neg hn,hi];obtain ⟨ki,rfl,hka⟩:=zg9 hi;exact SRLeads3 s x ki y c hL hs hx hy hka
theorem zek:SlT eE 181 59 1:=SlT.mk' Tryz.underlying181 (by kernel_rfl)
theorem zda:SlT eE 59 4 1:=SlT.mk' Tryz.underlying59 (by kernel_rfl)
def zbm (r:RunD) (i:Nat):StD:=((r.stem++r.cycle)[i]?).getD st0
theorem zgb {r:RunD} (h:RunOk M r) (i:Nat):zdh M (zbm r i):=by
 unfold zbm
 cases hx:(r.stem++r.cycle)[i]? with
 | none=>exact st0_ok
 | some x=>exact h.all x (cC hx)
theorem zgz (s:zab) (r:RunD) (i:Nat):stepOk s r i=zcp s (zbm r i) ((r.acts[i]?).getD 0) (nxt r i):=rfl
theorem nxt_lt {r:RunD} (h:i+1<(r.stem++r.cycle).length):nxt r i=zbm r (i+1):=by unfold nxt;rw [if_pos h];rfl
theorem SRAt0 (r:RunD) (i:Nat) (hl:r.stem.length+r.cycle.length<=20) (hi:i<=1000):Fn eE 23 [] [vG [.d (.sl 2 (r.stem.map eH)),.d (.sl 2 (r.cycle.map eH)),cIs r.acts],vN i] (vG [cIs (zbm r i).locs,cZs (zbm r i).vals]) []:=by
 have lall:(r.stem++r.cycle).length=r.stem.length+r.cycle.length:=bJ;refine fB Tryz.func23 rfl 34 fun w H B a h=>Jq 0 [] [(1,vN i),(2,vp 0 0),(4,vp 1 0)] [(0,.box [.d (.sl 2 (r.stem.map eH)),.d (.sl 2 (r.cycle.map eH)),cIs r.acts]),(1,.box [nCl,nCl])] h fun a w h=>qW (Je 2 [(3,.len (za1 2 eH r.stem))] [] [(9,vb (decide ((i:Int)<(r.stem.length:Int))))] h fun a w h=>zag ((i:Int)<(r.stem.length:Int)) h (fun hc1 hc1'=>?_) (fun hc2 hc2'=>?_))
 ·obtain ⟨x1,hx1⟩:=gl r.stem i;refine Jg 2 [(3,.g (xD 13 11 kn_0 (za4 hx1 (f:=eH)) (eG 12 _)))] [9] [] [] [(1,.box [cIs x1.locs,cZs x1.vals])] h fun a w h=>qV (za2 (rA 1 [cIs x1.locs,cZs x1.vals] h kk_5 rfl ?_));have hz:zbm r i=x1:=by unfold zbm;rw [List.getElem?_append_left (by have:=dT hc1;omega),hx1];rfl
  rw [hz];try rfl
 refine qU (za0 (qW (Je 2 [(3,.len (za1 2 eH r.stem)),(6,.len (za1 2 eH r.cycle)),(7,.g (Op.arith (op:=.add) (d:=22) (xt:=3) (yt:=3) (k:=.i64) (m:=(r.stem.length:Int)) (n:=(r.cycle.length:Int)) (r:=((r.stem++r.cycle).length:Int)) (eG 18 _) (eG 21 _) (.inl ⟨rfl,(by rw [bJ];omega)⟩) i6))] [9] [(23,vb (decide ((i:Int)<((r.stem++r.cycle).length:Int))))] h fun a w h=>zag ((i:Int)<((r.stem++r.cycle).length:Int)) h (fun hc3 hc3'=>?_) (fun hc4 hc4'=>?_))))
 ·obtain ⟨x2,hx2⟩:∃ z_:StD,r.cycle[i - r.stem.length]?=some z_:=⟨_,bK (by have:(r.stem++r.cycle).length=r.stem.length+r.cycle.length:=bJ;omega)⟩;refine Jq 2 [(5,.len (za1 2 eH r.stem)),(6,.g (Op.arith (op:=.sub) (d:=30) (xt:=3) (yt:=3) (k:=.i64) (m:=(i:Int)) (n:=(r.stem.length:Int)) (r:=((i - r.stem.length:Nat):Int)) (eG 26 _) (eG 29 _) (.inr (.inl ⟨rfl,(by omega)⟩)) i6)),(7,.g (xD 31 25 kn_0 (za4 hx2 (f:=eH)) (eG 30 _)))] [(4,vp 1 0)] [(1,.box [cIs x2.locs,cZs x2.vals])] h fun a w h=>qV (za2 (rA 1 [cIs x2.locs,cZs x2.vals] h kk_5 rfl ?_));have hz:zbm r i=x2:=by unfold zbm;rw [d5 (by have:=dF hc2;omega),hx2];rfl
  rw [hz];try rfl
 refine qU (za0 (Jg 2 [] [1,2,23] [] [0] [] h fun a w h=>qV ?_));replace h:=zb7 1 0 1 [nCl,nCl] h;replace h:=zb7 1 1 2 [cIs [],nCl] h;refine rA 1 [cIs [],cZs []] h kk_5 rfl ?_;have hz:zbm r i=st0:=by unfold zbm;rw [b9 (by have:=dF hc4;omega)];rfl
 rw [hz];try rfl
theorem SRAt (r:RunD) (z:Int) (i:Nat) (hz:z=(i:Int)) (hl:r.stem.length+r.cycle.length<=20) (hi:i<=1000):Fn eE 23 [] [vG [.d (.sl 2 (r.stem.map eH)),.d (.sl 2 (r.cycle.map eH)),cIs r.acts],vi .i64 z] (vG [cIs (zbm r i).locs,cZs (zbm r i).vals]) []:=by subst hz;exact SRAt0 r i hl hi
theorem SRRight (s:zab) (r:RunD) {L:Nat} (hL:L+M<=1900) (hs:zaw L s) (hr:RunOk M r):Fn eE 48 [] [vG (zat s),vG [.d (.sl 2 (r.stem.map eH)),.d (.sl 2 (r.cycle.map eH)),cIs r.acts]] (vb (right s r)) []:=by
 have lr:=hr.len;have lall:(r.stem++r.cycle).length=r.stem.length+r.cycle.length:=bJ;refine fB Tryz.func48 rfl 64 fun w H B a h=>Jq 0 [] [(2,vp 0 0),(3,vp 1 0),(4,vb false)] [(0,.box (zat s)),(1,.box [.d (.sl 2 (r.stem.map eH)),.d (.sl 2 (r.cycle.map eH)),cIs r.acts])] h fun a w h=>Je 2 [(2,.len (za1 2 eH r.stem)),(5,.len (za1 2 eH r.cycle)),(6,.g (Op.arith (op:=.add) (d:=14) (xt:=3) (yt:=3) (k:=.i64) (m:=(r.stem.length:Int)) (n:=(r.cycle.length:Int)) (r:=((r.stem++r.cycle).length:Int)) (eG 10 _) (eG 13 _) (.inl ⟨rfl,(by rw [bJ];omega)⟩) i6))] [] [(5,vI ((r.stem++r.cycle).length:Int))] h fun a w h=>qW ?_
 rcases bI ((r.cycle.length:Int) == 0) with hc1 | hc2
 ·refine Je 2 [(2,.len (za1 2 eH r.cycle)),(3,.cmp (op:=.eql) (m:=(r.cycle.length:Int)) (n:=0) (b:=true) .i64 hc1)] [] [(25,vb true)] h fun a w h=>cS true h (fun _=>?_) nofun
  refine Je 2 [] [25] [] h fun a w h=>qV (za2 (rT (.c (cB false)) h rfl ?_));have hz:right s r=false:=by unfold right;rw [decide_eq_false (by have:=hc1;simp at this;intro h;exact h.1 (by simp [this]))];rfl
  rw [hz];try rfl
 have hcl:0<r.cycle.length:=by have:=beq_eq_false_iff_ne.1 hc2;omega
 refine Je 2 [(2,.len (za1 2 eH r.cycle)),(3,.cmp (op:=.eql) (m:=(r.cycle.length:Int)) (n:=0) (b:=false) .i64 hc2),(7,.len (za1 1 za8 r.acts))] [] [(25,vb ((r.acts.length:Int) != ((r.stem++r.cycle).length:Int)))] h fun a w h=>cS ((r.acts.length:Int) != ((r.stem++r.cycle).length:Int)) h (fun hc3=>?_) (fun hc4=>?_)
 ·refine Je 2 [] [25] [] h fun a w h=>qV (za2 (rT (.c (cB false)) h rfl ?_));have hz:right s r=false:=by unfold right;rw [decide_eq_false (by have:=hc3;simp at this;intro h;have:=h.2;simp at this;omega)];rfl
  rw [hz];try rfl
 have hla:r.acts.length=(r.stem++r.cycle).length:=by have:=hc4;simp only [bne_eq_false_iff_eq] at this;omega
 refine qU (za0 (qW (Je 2 [] [25] [(6,vI 0)] h fun a w h=>qZ ?_)))
 refine zcc (ι:=(Nat)) (fun j=>j<=(r.stem++r.cycle).length/\zg7 j (stepOk s r)=true/\(0<j->first s (zbm r 0)=true))
   [4] (fun j=>[(6,vN j)])
   [] (fun j=>[])
   (fun j=>(r.stem++r.cycle).length - j) 0 ?_ h ?_
 ·exact ⟨bG _,rfl,fun h=>absurd h (Nat.lt_irrefl 0)⟩
 clear h;rintro j a w hI h;obtain ⟨hI1,hI2,hI3⟩:=hI;refine qW (Je 2 [] [] [(28,vb (decide ((j:Int)<((r.stem++r.cycle).length:Int))))] h fun a w h=>zag ((j:Int)<((r.stem++r.cycle).length:Int)) h (fun hc5 hc5'=>?_) (fun hc22 hc22'=>?_))
 ·refine qU (za0 (qW (qZ (qW ?_))))
  rcases bI ((j:Int) == 0) with hc6 | hc15
  ·refine Je 2 [(1,.cmp (op:=.eql) (m:=(j:Int)) (n:=0) (b:=true) .i64 hc6),(5,.call (SRAt r 0 0 (by omega) (by omega) (by omega))),(6,.call (SRFirst s (zbm r 0) (L:=L) (M:=M) (by omega) hs (zgb hr _)))] [28] [(39,vb (!(first s (zbm r 0))))] h fun a w h=>cS (!(first s (zbm r 0))) h (fun hc7=>?_) (fun hc8=>?_)
   ·refine Je 2 [] [39] [(4,vb false)] h fun a w h=>qV (za2 (za6 (za2 (za2 (za6 (za2 (rT (.c (cB false)) h rfl ?_)))))));have hz:right s r=false:=by unfold right;rw [decide_eq_true ⟨by have:=hc2;simp at this;intro h;exact this (bX.1 h),by have:=hc4;simp at this;simp;omega⟩,bF];rw [show first s (((r.stem++r.cycle)[0]?).getD st0)=false from (show (first s (zbm r 0))=false from by simpa using hc7)];rfl
    rw [hz];try rfl
   refine qU (za0 (Jg 2 [(2,.j1 j),(3,.call (SRAt r ((j:Int)+1) (j+1) (by omega) (by omega) (by omega)))] [39] [(7,vp 2 0)] [] [(2,.box [cIs (zbm r (j+1)).locs,cZs (zbm r (j+1)).vals])] h fun a w h=>qW (Je 3 [(1,.j1 j)] [] [(47,vb (((j:Int)+1) == ((r.stem++r.cycle).length:Int)))] h fun a w h=>cS (((j:Int)+1) == ((r.stem++r.cycle).length:Int)) h (fun hc9=>?_) (fun hc12=>?_))))
   ·obtain ⟨x4,hx4⟩:=gl r.cycle 0;have gx4:=hr.cycle x4 (lM hx4);refine Jh 3 [(2,.g (xD 50 49 kn_0 (za4 hx4 (f:=eH)) (OV.const (.int .i64 0) rfl)))] [47] [] [] [(2,.box [cIs x4.locs,cZs x4.vals])] h fun a w h=>za0 ?_;obtain ⟨x6,hx6⟩:=gl r.acts j;refine Jg 3 [(3,.call (SRAt r (j:Int) j (by omega) (by omega) (by omega))),(7,.g (xD 59 57 zdj (za4 hx6 (f:=za8)) (eG 58 _))),(10,.call (SRLeads s (zbm r j) x6 x4 hL hs (zgb hr _) gx4))] [7] [(63,vb (!(zcp s (zbm r j) x6 x4)))] [2] [] h fun a w h=>cS (!(zcp s (zbm r j) x6 x4)) h (fun hc10=>?_) (fun hc11=>?_)
    ·refine Je 3 [] [63] [(4,vb false)] h fun a w h=>qV (za6 (za2 (za2 (za6 (za2 (rT (.c (cB false)) h rfl ?_))))));have hz:right s r=false:=by unfold right;rw [decide_eq_true ⟨by have:=hc2;simp at this;intro h;exact this (bX.1 h),by have:=hc4;simp at this;simp;omega⟩,bF];rw [zba (j:=j) (by have:=dT hc5;omega) (show stepOk s r j=false from (by rw [zgz,hx6,show nxt r j=x4 by unfold nxt;rw [if_neg (by have:=hc9;simp only [beq_iff_eq] at this;omega),hx4];rfl];exact (show (zcp s (zbm r j) x6 x4)=false from by simpa using hc10))),cD]
     rw [hz];try rfl
    refine qU (za5 (za0 (Jf 3 [(1,.j1 j)] [63] [(6,vI ((j:Int)+1))] h fun a w h=>za0 (za9 (x:=j) (y:=j+1) h ?_ ?_))))
    ·exact ⟨by omega,zb9 hI2 (by rw [zgz,hx6,show nxt r j=x4 by unfold nxt;rw [if_neg (by have:=hc9;simp only [beq_iff_eq] at this;omega),hx4];rfl];exact (show (zcp s (zbm r j) x6 x4)=true from by simpa using hc11)),(fun _=>(show (first s (zbm r 0))=true from by simpa using hc8))⟩
    show (r.stem++r.cycle).length - (j+1)<(r.stem++r.cycle).length - j;omega
   refine qU (za0 ?_);obtain ⟨x9,hx9⟩:=gl r.acts j;refine Jg 3 [(3,.call (SRAt r (j:Int) j (by omega) (by omega) (by omega))),(7,.g (xD 59 57 zdj (za4 hx9 (f:=za8)) (eG 58 _))),(10,.call (SRLeads s (zbm r j) x9 (zbm r (j+1)) hL hs (zgb hr _) (zgb hr _)))] [7,47] [(63,vb (!(zcp s (zbm r j) x9 (zbm r (j+1)))))] [2] [] h fun a w h=>cS (!(zcp s (zbm r j) x9 (zbm r (j+1)))) h (fun hc13=>?_) (fun hc14=>?_)
   ·refine Je 3 [] [63] [(4,vb false)] h fun a w h=>qV (za6 (za2 (za2 (za6 (za2 (rT (.c (cB false)) h rfl ?_))))));have hz:right s r=false:=by unfold right;rw [decide_eq_true ⟨by have:=hc2;simp at this;intro h;exact this (bX.1 h),by have:=hc4;simp at this;simp;omega⟩,bF];rw [zba (j:=j) (by have:=dT hc5;omega) (show stepOk s r j=false from (by rw [zgz,hx9,nxt_lt (show j+1<(r.stem++r.cycle).length by have:=hc12;simp only [beq_eq_false_iff_ne] at this;omega)];exact (show (zcp s (zbm r j) x9 (zbm r (j+1)))=false from by simpa using hc13))),cD]
    rw [hz];try rfl
   refine qU (za5 (za0 (Jf 3 [(1,.j1 j)] [63] [(6,vI ((j:Int)+1))] h fun a w h=>za0 (za9 (x:=j) (y:=j+1) h ?_ ?_))))
   ·exact ⟨by omega,zb9 hI2 (by rw [zgz,hx9,nxt_lt (show j+1<(r.stem++r.cycle).length by have:=hc12;simp only [beq_eq_false_iff_ne] at this;omega)];exact (show (zcp s (zbm r j) x9 (zbm r (j+1)))=true from by simpa using hc14)),(fun _=>(show (first s (zbm r 0))=true from by simpa using hc8))⟩
   show (r.stem++r.cycle).length - (j+1)<(r.stem++r.cycle).length - j;omega
  refine Je 3 [(1,.cmp (op:=.eql) (m:=(j:Int)) (n:=0) (b:=false) .i64 hc15)] [28] [(39,vb false)] h fun a w h=>zbs h (qU (za0 (Jg 3 [(2,.j1 j),(3,.call (SRAt r ((j:Int)+1) (j+1) (by omega) (by omega) (by omega)))] [39] [(7,vp 3 0)] [] [(3,.box [cIs (zbm r (j+1)).locs,cZs (zbm r (j+1)).vals])] h fun a w h=>qW (Je 4 [(1,.j1 j)] [] [(47,vb (((j:Int)+1) == ((r.stem++r.cycle).length:Int)))] h fun a w h=>cS (((j:Int)+1) == ((r.stem++r.cycle).length:Int)) h (fun hc16=>?_) (fun hc19=>?_)))))
  ·obtain ⟨x12,hx12⟩:=gl r.cycle 0;have gx12:=hr.cycle x12 (lM hx12);refine Jh 4 [(2,.g (xD 50 49 kn_0 (za4 hx12 (f:=eH)) (OV.const (.int .i64 0) rfl)))] [47] [] [] [(3,.box [cIs x12.locs,cZs x12.vals])] h fun a w h=>za0 ?_;obtain ⟨x14,hx14⟩:=gl r.acts j;refine Jg 4 [(3,.call (SRAt r (j:Int) j (by omega) (by omega) (by omega))),(7,.g (xD 59 57 zdj (za4 hx14 (f:=za8)) (eG 58 _))),(10,.call (SRLeads s (zbm r j) x14 x12 hL hs (zgb hr _) gx12))] [7] [(63,vb (!(zcp s (zbm r j) x14 x12)))] [3] [] h fun a w h=>cS (!(zcp s (zbm r j) x14 x12)) h (fun hc17=>?_) (fun hc18=>?_)
   ·refine Je 4 [] [63] [(4,vb false)] h fun a w h=>qV (za6 (za2 (za2 (za6 (za2 (rT (.c (cB false)) h rfl ?_))))));have hz:right s r=false:=by unfold right;rw [decide_eq_true ⟨by have:=hc2;simp at this;intro h;exact this (bX.1 h),by have:=hc4;simp at this;simp;omega⟩,bF];rw [zba (j:=j) (by have:=dT hc5;omega) (show stepOk s r j=false from (by rw [zgz,hx14,show nxt r j=x12 by unfold nxt;rw [if_neg (by have:=hc16;simp only [beq_iff_eq] at this;omega),hx12];rfl];exact (show (zcp s (zbm r j) x14 x12)=false from by simpa using hc17))),cD]
    rw [hz];try rfl
   refine qU (za5 (za0 (Jf 4 [(1,.j1 j)] [63] [(6,vI ((j:Int)+1))] h fun a w h=>za0 (za9 (x:=j) (y:=j+1) h ?_ ?_))))
   ·exact ⟨by omega,zb9 hI2 (by rw [zgz,hx14,show nxt r j=x12 by unfold nxt;rw [if_neg (by have:=hc16;simp only [beq_iff_eq] at this;omega),hx12];rfl];exact (show (zcp s (zbm r j) x14 x12)=true from by simpa using hc18)),(fun _=>hI3 (by have:=hc15;simp only [beq_eq_false_iff_ne] at this;omega))⟩
   show (r.stem++r.cycle).length - (j+1)<(r.stem++r.cycle).length - j;omega
  refine qU (za0 ?_);obtain ⟨x17,hx17⟩:=gl r.acts j;refine Jg 4 [(3,.call (SRAt r (j:Int) j (by omega) (by omega) (by omega))),(7,.g (xD 59 57 zdj (za4 hx17 (f:=za8)) (eG 58 _))),(10,.call (SRLeads s (zbm r j) x17 (zbm r (j+1)) hL hs (zgb hr _) (zgb hr _)))] [7,47] [(63,vb (!(zcp s (zbm r j) x17 (zbm r (j+1)))))] [3] [] h fun a w h=>cS (!(zcp s (zbm r j) x17 (zbm r (j+1)))) h (fun hc20=>?_) (fun hc21=>?_)
  ·refine Je 4 [] [63] [(4,vb false)] h fun a w h=>qV (za6 (za2 (za2 (za6 (za2 (rT (.c (cB false)) h rfl ?_))))));have hz:right s r=false:=by unfold right;rw [decide_eq_true ⟨by have:=hc2;simp at this;intro h;exact this (bX.1 h),by have:=hc4;simp at this;simp;omega⟩,bF];rw [zba (j:=j) (by have:=dT hc5;omega) (show stepOk s r j=false from (by rw [zgz,hx17,nxt_lt (show j+1<(r.stem++r.cycle).length by have:=hc19;simp only [beq_eq_false_iff_ne] at this;omega)];exact (show (zcp s (zbm r j) x17 (zbm r (j+1)))=false from by simpa using hc20))),cD]
   rw [hz];try rfl
  refine qU (za5 (za0 (Jf 4 [(1,.j1 j)] [63] [(6,vI ((j:Int)+1))] h fun a w h=>za0 (za9 (x:=j) (y:=j+1) h ?_ ?_))))
  ·exact ⟨by omega,zb9 hI2 (by rw [zgz,hx17,nxt_lt (show j+1<(r.stem++r.cycle).length by have:=hc19;simp only [beq_eq_false_iff_ne] at this;omega)];exact (show (zcp s (zbm r j) x17 (zbm r (j+1)))=true from by simpa using hc21)),(fun _=>hI3 (by have:=hc15;simp only [beq_eq_false_iff_ne] at this;omega))⟩
  show (r.stem++r.cycle).length - (j+1)<(r.stem++r.cycle).length - j;omega
 refine exA (Jq 4 [] [(4,vb true)] [] h fun a w h=>qV (rT (.c (cB true)) h rfl ?_));have hz:right s r=true:=by unfold right;rw [decide_eq_true ⟨by have:=hc2;simp at this;intro h;exact this (bX.1 h),by have:=hc4;simp at this;simp;omega⟩,bF];rw [show first s (((r.stem++r.cycle)[0]?).getD st0)=true from hI3 (by have:=dF hc22;omega),show (r.stem++r.cycle).length=j by have:=dF hc22;omega,hI2];rfl
 rw [hz];try rfl
theorem SRLetter (ps:List zal) (x:StD) {L:Nat} (hL:L+M<=4000) (hps:∀ p ∈ ps,zfl L p) (hpl:ps.length<=1000) (hx:zdh M x):Fn eE 53 [] [vS 9 (ps.map zal.d),vG [cIs x.locs,cZs x.vals]] (vS 1 ((zai ps x).map za3)) []:=by
 have lx1:=hx.locs;refine fB Tryz.func53 rfl 55 fun w H B a h=>Jq 0 [] [(0,vS 9 (ps.map zal.d)),(3,vp 0 0),(4,vW zaa)] [(0,.box [cIs x.locs,cZs x.vals])] h fun a w h=>Jg 1 [(0,.g (Op.buildE (d:=8) (n:=1) zjk))] [] [(5,vO 1 0)] [] [(1,.row 4 1 ([].map za3))] h fun a w h=>qW (Je 2 [] [] [(6,vI 0)] h fun a w h=>qZ ?_)
 refine zcc (ι:=(Nat)) (fun j=>j<=ps.length)
   [] (fun j=>[(5,vO 1 ((ps.take j).map (fun p=>zak p x)).length),(6,vN j)])
   [] (fun j=>[(1,.row 4 1 (((ps.take j).map (fun p=>zak p x)).map za3))])
   (fun j=>ps.length - j) 0 ?_ h ?_
 ·exact bG _
 clear h;rintro j a w hI h;have hfl:((ps.take j).map (fun p=>zak p x)).length<=j:=by rw [bE,cE];omega
 refine qW (Je 2 [(2,.len (za1 9 zal.d ps))] [] [(12,vb (decide ((j:Int)<(ps.length:Int))))] h fun a w h=>zag ((j:Int)<(ps.length:Int)) h (fun hc1 hc1'=>?_) (fun hc8 hc8'=>?_))
 ·refine qU (za0 (qW (qZ ?_)));obtain ⟨x1,hx1⟩:=gl ps j;refine Jg 2 [(2,.g (xD 17 15 kn_10 (za4 hx1 (f:=zal.d)) (eG 16 _)))] [12] [(7,vp 2 0)] [] [(2,.box ([cB x1.at_,cI x1.proc,cI x1.loc,cI x1.f.kind,cPs x1.f.r.t.parts]++zi x1.f.r.t.k++[cB x1.f.r.eq,cFs x1.f.kids]))] h fun a w h=>Je 3 [] [] [(20,vb x1.at_)] h fun a w h=>cS x1.at_ h (fun hc2=>?_) (fun hc7=>?_)
  ·rcases bI (decide (x1.proc>=0)) with hc3 | hc6
   ·have hc3':=dT hc3
    rcases bI (decide (x1.proc<(x.locs.length:Int))) with hc4 | hc5
    ·have hc4':=dT hc4;obtain ⟨k,hkk⟩:∃ k_:Nat,x1.proc=(k_:Int):=⟨_,(cP (by have:=dT hc3;omega)).symm⟩;replace h:=cvM [] [] [] [(2,.box ([cB x1.at_,cI (k:Int),cI x1.loc,cI x1.f.kind,cPs x1.f.r.t.parts]++zi x1.f.r.t.k++[cB x1.f.r.eq,cFs x1.f.kids]))] (by rw [hkk]; try kernel_rfl) h;obtain ⟨x2,hx2⟩:=gl x.locs k;refine Jh 3 [(3,.cmp (op:=.geq) (m:=(k:Int)) (n:=0) (b:=true) .i64 (show (decide ((k:Int)>=0))=true from by rw [<- hkk];exact hc3)),(9,.len (za1 1 za8 x.locs)),(10,.cmp (op:=.lss) (m:=(k:Int)) (n:=(x.locs.length:Int)) (b:=true) .i64 (show (decide ((k:Int)<(x.locs.length:Int)))=true from by rw [<- hkk];exact hc4)),(17,.g (xD 38 35 zdj (za4 hx2 (f:=za8)) (eG 37 _))),(23,.g (bD 44 ([x2 == x1.loc].map za3) [(43,vb (x2 == x1.loc))] zjk (.cons (i:=0) (eG 43 _) (.nil)) (by kernel_rfl) (by simp [za3]))),(24,.g (aD 45 21 44 1 3 ((ps.take j).map (fun p=>zak p x)) [x2 == x1.loc] za3 kn_13 (by simp [za3])))] [7,20] [(5,vO 3 (((ps.take j).map (fun p=>zak p x))++[x2 == x1.loc]).length)] [1,2] [(3,.row 4 1 ((((ps.take j).map (fun p=>zak p x))++[x2 == x1.loc]).map za3))] h fun a w h=>za5 (za0 (Jf 4 [(1,.j1 j)] [] [(6,vI ((j:Int)+1))] h fun a w h=>za0 ?_));rw [show ((((ps.take j).map (fun p=>zak p x))++[x2 == x1.loc]):List Bool)=((ps.take (j+1)).map (fun p=>zak p x)) from (by rw [<- zgh hx1];show _++[x2 == x1.loc]=_++[zak x1 x];rw [show zak x1 x=(x2 == x1.loc) from by unfold zak;rw [if_pos hc2];rw [decide_eq_true (p:=0<=x1.proc/\x1.proc<(x.locs.length:Int)) (by have:=dT hc3;have:=dT hc4;omega),show x1.proc.toNat=k by omega,hx2];rfl])] at h;replace h:=zd8 3 1 h;refine za9 (x:=j) (y:=j+1) h ?_ ?_
     ·have:=zac hx1;show j+1<=ps.length;omega
     show ps.length - (j+1)<ps.length - j;have:=zac hx1;omega
    have hc5':=dF hc5;refine Jh 4 [(3,.cmp (op:=.geq) (m:=x1.proc) (n:=0) (b:=true) .i64 hc3),(9,.len (za1 1 za8 x.locs)),(10,.cmp (op:=.lss) (m:=x1.proc) (n:=(x.locs.length:Int)) (b:=false) .i64 hc5),(23,.g (bD 44 ([false].map za3) [(43,vb false)] zjk (.cons (i:=0) (eG 43 _) (.nil)) (by kernel_rfl) (by simp [za3]))),(24,.g (aD 45 21 44 1 4 ((ps.take j).map (fun p=>zak p x)) [false] za3 kn_13 (by simp [za3])))] [7,20] [(5,vO 4 (((ps.take j).map (fun p=>zak p x))++[false]).length)] [1,2] [(4,.row 4 1 ((((ps.take j).map (fun p=>zak p x))++[false]).map za3))] h fun a w h=>za5 (za0 (Jf 5 [(1,.j1 j)] [] [(6,vI ((j:Int)+1))] h fun a w h=>za0 ?_));rw [show ((((ps.take j).map (fun p=>zak p x))++[false]):List Bool)=((ps.take (j+1)).map (fun p=>zak p x)) from (by rw [<- zgh hx1];show _++[false]=_++[zak x1 x];rw [show zak x1 x=(false) from by unfold zak;rw [if_pos hc2];rw [decide_eq_false (by have:=dF hc5;omega)];rfl])] at h;replace h:=zd8 4 1 h;refine za9 (x:=j) (y:=j+1) h ?_ ?_
    ·have:=zac hx1;show j+1<=ps.length;omega
    show ps.length - (j+1)<ps.length - j;have:=zac hx1;omega
   have hc6':=dF hc6;refine Jh 5 [(3,.cmp (op:=.geq) (m:=x1.proc) (n:=0) (b:=false) .i64 hc6),(23,.g (bD 44 ([false].map za3) [(43,vb false)] zjk (.cons (i:=0) (eG 43 _) (.nil)) (by kernel_rfl) (by simp [za3]))),(24,.g (aD 45 21 44 1 5 ((ps.take j).map (fun p=>zak p x)) [false] za3 kn_13 (by simp [za3])))] [7,20] [(5,vO 5 (((ps.take j).map (fun p=>zak p x))++[false]).length)] [1,2] [(5,.row 4 1 ((((ps.take j).map (fun p=>zak p x))++[false]).map za3))] h fun a w h=>za5 (za0 (Jf 6 [(1,.j1 j)] [] [(6,vI ((j:Int)+1))] h fun a w h=>za0 ?_));rw [show ((((ps.take j).map (fun p=>zak p x))++[false]):List Bool)=((ps.take (j+1)).map (fun p=>zak p x)) from (by rw [<- zgh hx1];show _++[false]=_++[zak x1 x];rw [show zak x1 x=(false) from by unfold zak;rw [if_pos hc2];rw [decide_eq_false (by have:=dF hc6;omega)];rfl])] at h;replace h:=zd8 5 1 h;refine za9 (x:=j) (y:=j+1) h ?_ ?_
   ·have:=zac hx1;show j+1<=ps.length;omega
   show ps.length - (j+1)<ps.length - j;have:=zac hx1;omega
  refine Jh 6 [(5,.call (SRHolds x.vals (L:=L) (M:=M) (by omega) hx.vok x1.f (hps x1 (lM hx1)).1 (hps x1 (lM hx1)).2)),(6,.g (bD 52 ([za7.holds x.vals x1.f].map za3) [(51,vb (za7.holds x.vals x1.f))] zjk (.cons (i:=0) (eG 51 _) (.nil)) (by kernel_rfl) (by simp [za3]))),(7,.g (aD 53 46 52 1 6 ((ps.take j).map (fun p=>zak p x)) [za7.holds x.vals x1.f] za3 kn_13 (by simp [za3])))] [7,20] [(5,vO 6 (((ps.take j).map (fun p=>zak p x))++[za7.holds x.vals x1.f]).length)] [1,2] [(6,.row 4 1 ((((ps.take j).map (fun p=>zak p x))++[za7.holds x.vals x1.f]).map za3))] h fun a w h=>za5 (za0 (Jf 7 [(1,.j1 j)] [] [(6,vI ((j:Int)+1))] h fun a w h=>za0 ?_));rw [show ((((ps.take j).map (fun p=>zak p x))++[za7.holds x.vals x1.f]):List Bool)=((ps.take (j+1)).map (fun p=>zak p x)) from (by rw [<- zgh hx1];show _++[za7.holds x.vals x1.f]=_++[zak x1 x];rw [show zak x1 x=(za7.holds x.vals x1.f) from by unfold zak;rw [if_neg (by rw [hc7];exact Bool.noConfusion)]])] at h;replace h:=zd8 6 1 h;refine za9 (x:=j) (y:=j+1) h ?_ ?_
  ·have:=zac hx1;show j+1<=ps.length;omega
  show ps.length - (j+1)<ps.length - j;have:=zac hx1;omega
 refine exA (Jg 7 [] [0,3,5,6,12] [(4,vO 1 ((ps.take j).map (fun p=>zak p x)).length)] [0] [] h fun a w h=>qV ?_);rw [show (((ps.take j).map (fun p=>zak p x)):List Bool)=(ps.map (fun p=>zak p x)) from (by rw [bR (by omega)])] at h;replace h:=zhz 1 1 4 ((ps.map (fun p=>zak p x)).map za3) h [(ps.map (fun p=>zak p x)).length] ⟨by first | exact (bE _).symm | (simp;done) | (simp;omega),trivial⟩;refine rT (.c (.d (.sl 1 ((ps.map (fun p=>zak p x)).map za3)))) h rfl ?_;rfl
theorem all2c {α:Type} {R:α->β->Prop} {x:α} {xs:List α} {us:List β} (h:zb4 R (x :: xs) us):∃ u vs,us=u :: vs/\R x u/\zb4 R xs vs:=by
 cases us with
 | nil=>exact h.elim
 | cons u us=>exact ⟨u,us,rfl,h⟩
theorem Fn.agg6 {c1 c2 c3 c4 c5:C} {x y:V} (h:Fn P k ps [vG [c1,c2,c3,c4,c5,.d (.sl es [])],x,y] res qs):Fn P k ps [vG [c1,c2,c3,c4,c5,nCl],x,y] res qs:=by
 intro w H B vals pre
 obtain ⟨h1,h2,h3,h4,h5,h0⟩:=pre
 cases vals with
 | nil=>exact h5.elim
 | cons v vs =>
  obtain ⟨⟨us,rfl,ha⟩,ht⟩:=h5
  obtain ⟨u1,us,rfl,a1,ha⟩:=all2c ha
  obtain ⟨u2,us,rfl,a2,ha⟩:=all2c ha
  obtain ⟨u3,us,rfl,a3,ha⟩:=all2c ha
  obtain ⟨u4,us,rfl,a4,ha⟩:=all2c ha
  obtain ⟨u5,us,rfl,a5,ha⟩:=all2c ha
  obtain ⟨u6,us,rfl,a6,hz⟩:=all2c ha
  have h6:u6=zaa:=VR.rawI (B:=B) a6
  subst h6
  exact h w H B _ ⟨h1,h2,h3,h4,⟨⟨_,rfl,a1,a2,a3,a4,a5,DR.nil _ _ _ (fun _=>rfl) (bG _),hz⟩,ht⟩,h0⟩
def fewB (L:Nat) (b:zaj):Bool:=decide ((b.lo.abs.length:Int)<=(L:Int)) && decide ((b.hi.abs.length:Int)<=(L:Int))
def formT (t:zd6):za7:=⟨2,⟨t,false⟩,[]⟩
def fewM (L:Nat) (m:zan):Bool:=ziv (formT m.t) 5 L
def fewA (L:Nat) (c:zb1):Bool:=(ziv c.guard 30 L && decide ((c.moves.length:Int)<=20)) && c.moves.all (fewM L)
def zbn (L:Nat) (s:zab):Bool:=(decide ((s.vars.length:Int)<=8/\(s.bounds.length:Int)<=20/\(s.procs.length:Int)<=6/\(s.acts.length:Int)<=20) && ziv s.init 30 L) && (s.bounds.all (fewB L) && s.acts.all (fewA L))
structure SysRd (s:zab):Prop where
  init:s.init.lb
  bnd:∀ b ∈ s.bounds,Lb b.lo.abs/\Lb b.hi.abs
  act:∀ c ∈ s.acts,c.guard.lb/\∀ m ∈ c.moves,TLb m.t
  len:s.bounds.length<=9223372036854775807/\s.acts.length<=9223372036854775807
  mlen:∀ c ∈ s.acts,c.moves.length<=9223372036854775807
theorem fewF_ok {f:za7} {most:Int} {L:Nat} (h:ziv f most L=true) (hl:f.lb):f.ok L:=by unfold ziv at h;rw [bT] at h;exact za7.few_ok f h.2 hl
theorem formT_lb {t:zd6} (h:TLb t):(formT t).lb:=(za7.lb_eq _).2 ⟨⟨h,bG _⟩,fun g hg=>(by cases hg)⟩
theorem formT_ok {t:zd6} {L:Nat} (h:(formT t).ok L):TOk 20 L t:=((za7.ok_eq L _).1 h).1 rfl
theorem few_sys {L:Nat} {s:zab} (h:zbn L s=true) (hr:SysRd s):zaw L s:=by
 unfold zbn at h
 simp only [bT,decide_eq_true_eq,bM] at h
 obtain ⟨⟨⟨h1,h2,h3,h4⟩,h5⟩,h6,h7⟩:=h
 refine ⟨by omega,by omega,by omega,by omega,fun b hb=>?_,⟨hr.init,fewF_ok h5 hr.init⟩,fun c hc=>?_⟩
 ·have:=h6 b hb;unfold fewB at this;simp only [bT,decide_eq_true_eq] at this
  exact ⟨⟨(hr.bnd b hb).1,by omega⟩,(hr.bnd b hb).2,by omega⟩
 ·have:=h7 c hc;unfold fewA at this;simp only [bT,decide_eq_true_eq,bM] at this
  exact ⟨⟨(hr.act c hc).1,fewF_ok this.1.1 (hr.act c hc).1⟩,by omega,fun m hm=>formT_ok (fewF_ok (this.2 m hm) (formT_lb ((hr.act c hc).2 m hm)))⟩
theorem SFewSys (s:zab) (L:Nat) (hr:SysRd s):Fn eE 30 [] [vG (zat s),vN L] (vb (zbn L s)) []:=by
 have lb1:=hr.len.1;have lb2:=hr.len.2;refine fB Tryz.func30 rfl 118 fun w H B a h=>Jq 0 [] [(1,vN L),(2,vp 0 0),(4,vb false)] [(0,.box (zat s))] h fun a w h=>qW ?_
 rcases bI (decide ((s.vars.length:Int)>8)) with hc1 | hc2
 ·have hc1':=dT hc1;refine Je 1 [(2,.len (za1 1 zdz s.vars)),(3,.cmp (op:=.gtr) (m:=(s.vars.length:Int)) (n:=8) (b:=true) .i64 hc1)] [] [(36,vb true)] h fun a w h=>cS true h (fun _=>?_) nofun
  refine Je 1 [] [36] [] h fun a w h=>qV (za2 (rT (.c (cB false)) h rfl ?_));have hz:zbn L s=false:=by unfold zbn;rw [decide_eq_false (p:=(s.vars.length:Int)<=8/\(s.bounds.length:Int)<=20/\(s.procs.length:Int)<=6/\(s.acts.length:Int)<=20) (by have:=dT hc1;omega)];rfl
  rw [hz];try rfl
 have hc2':=dF hc2
 rcases bI (decide ((s.bounds.length:Int)>20)) with hc3 | hc4
 ·have hc3':=dT hc3;refine Je 1 [(2,.len (za1 1 zdz s.vars)),(3,.cmp (op:=.gtr) (m:=(s.vars.length:Int)) (n:=8) (b:=false) .i64 hc2),(7,.len (za1 5 zaj.d s.bounds)),(8,.cmp (op:=.gtr) (m:=(s.bounds.length:Int)) (n:=20) (b:=true) .i64 hc3)] [] [(36,vb true)] h fun a w h=>cS true h (fun _=>?_) nofun
  refine Je 1 [] [36] [] h fun a w h=>qV (za2 (rT (.c (cB false)) h rfl ?_));have hz:zbn L s=false:=by unfold zbn;rw [decide_eq_false (p:=(s.vars.length:Int)<=8/\(s.bounds.length:Int)<=20/\(s.procs.length:Int)<=6/\(s.acts.length:Int)<=20) (by have:=dT hc3;omega)];rfl
  rw [hz];try rfl
 have hc4':=dF hc4
 rcases bI (decide ((s.procs.length:Int)>6)) with hc5 | hc6
 ·have hc5':=dT hc5;refine Je 1 [(2,.len (za1 1 zdz s.vars)),(3,.cmp (op:=.gtr) (m:=(s.vars.length:Int)) (n:=8) (b:=false) .i64 hc2),(7,.len (za1 5 zaj.d s.bounds)),(8,.cmp (op:=.gtr) (m:=(s.bounds.length:Int)) (n:=20) (b:=false) .i64 hc4),(13,.len (za1 3 zb2.d s.procs)),(14,.cmp (op:=.gtr) (m:=(s.procs.length:Int)) (n:=6) (b:=true) .i64 hc5)] [] [(36,vb true)] h fun a w h=>cS true h (fun _=>?_) nofun
  refine Je 1 [] [36] [] h fun a w h=>qV (za2 (rT (.c (cB false)) h rfl ?_));have hz:zbn L s=false:=by unfold zbn;rw [decide_eq_false (p:=(s.vars.length:Int)<=8/\(s.bounds.length:Int)<=20/\(s.procs.length:Int)<=6/\(s.acts.length:Int)<=20) (by have:=dT hc5;omega)];rfl
  rw [hz];try rfl
 have hc6':=dF hc6
 rcases bI (decide ((s.acts.length:Int)>20)) with hc7 | hc8
 ·have hc7':=dT hc7;refine Je 1 [(2,.len (za1 1 zdz s.vars)),(3,.cmp (op:=.gtr) (m:=(s.vars.length:Int)) (n:=8) (b:=false) .i64 hc2),(7,.len (za1 5 zaj.d s.bounds)),(8,.cmp (op:=.gtr) (m:=(s.bounds.length:Int)) (n:=20) (b:=false) .i64 hc4),(13,.len (za1 3 zb2.d s.procs)),(14,.cmp (op:=.gtr) (m:=(s.procs.length:Int)) (n:=6) (b:=false) .i64 hc6),(19,.len (za1 10 zb1.d s.acts)),(20,.cmp (op:=.gtr) (m:=(s.acts.length:Int)) (n:=20) (b:=true) .i64 hc7)] [] [(36,vb true)] h fun a w h=>cS true h (fun _=>?_) nofun
  refine Je 1 [] [36] [] h fun a w h=>qV (za2 (rT (.c (cB false)) h rfl ?_));have hz:zbn L s=false:=by unfold zbn;rw [decide_eq_false (p:=(s.vars.length:Int)<=8/\(s.bounds.length:Int)<=20/\(s.procs.length:Int)<=6/\(s.acts.length:Int)<=20) (by have:=dT hc7;omega)];rfl
  rw [hz];try rfl
 have hc8':=dF hc8;refine Je 1 [(2,.len (za1 1 zdz s.vars)),(3,.cmp (op:=.gtr) (m:=(s.vars.length:Int)) (n:=8) (b:=false) .i64 hc2),(7,.len (za1 5 zaj.d s.bounds)),(8,.cmp (op:=.gtr) (m:=(s.bounds.length:Int)) (n:=20) (b:=false) .i64 hc4),(13,.len (za1 3 zb2.d s.procs)),(14,.cmp (op:=.gtr) (m:=(s.procs.length:Int)) (n:=6) (b:=false) .i64 hc6),(19,.len (za1 10 zb1.d s.acts)),(20,.cmp (op:=.gtr) (m:=(s.acts.length:Int)) (n:=20) (b:=false) .i64 hc8),(26,.call (SFewF s.init 30 (L:Int) hr.init (by decide) (by decide)))] [] [(36,vb (!(ziv s.init 30 L)))] h fun a w h=>cS (!(ziv s.init 30 L)) h (fun hc9=>?_) (fun hc10=>?_)
 ·refine Je 1 [] [36] [] h fun a w h=>qV (za2 (rT (.c (cB false)) h rfl ?_));have hz:zbn L s=false:=by unfold zbn;rw [decide_eq_true (p:=(s.vars.length:Int)<=8/\(s.bounds.length:Int)<=20/\(s.procs.length:Int)<=6/\(s.acts.length:Int)<=20) (by have:=dF hc2;have:=dF hc4;have:=dF hc6;have:=dF hc8;omega),bF];rw [(show (ziv s.init 30 L)=false from by simpa using hc9)];rfl
  rw [hz];try rfl
 refine qU (za0 (qW (Je 1 [] [36] [(5,vI 0)] h fun a w h=>qZ ?_)))
 refine zcc (ι:=(Nat)) (fun j=>j<=s.bounds.length/\(s.bounds.take j).all (fewB L)=true)
   [4] (fun j=>[(5,vN j)])
   [] (fun j=>[])
   (fun j=>s.bounds.length - j) 0 ?_ h ?_
 ·exact ⟨bG _,rfl⟩
 clear h;rintro j a w hI h;obtain ⟨hI1,hI2⟩:=hI;refine qW (Je 1 [(3,.len (za1 5 zaj.d s.bounds))] [] [(41,vb (decide ((j:Int)<(s.bounds.length:Int))))] h fun a w h=>zag ((j:Int)<(s.bounds.length:Int)) h (fun hc11 hc11'=>?_) (fun hc16 hc16'=>?_))
 ·refine qU (za0 (qW (qZ ?_)));obtain ⟨x2,hx2⟩:=gl s.bounds j
  rcases bI (decide ((x2.lo.abs.length:Int)>(L:Int))) with hc12 | hc13
  ·have hc12':=dT hc12;refine Je 1 [(3,.g (xD 47 45 kf_0 (za4 hx2 (f:=zaj.d)) (eG 46 _))),(7,.len (zgf x2.lo.abs)),(9,.cmp (op:=.gtr) (m:=(x2.lo.abs.length:Int)) (n:=(L:Int)) (b:=true) .i64 hc12)] [41] [(65,vb true)] h fun a w h=>cS true h (fun _=>?_) nofun
   refine Je 1 [] [65] [(4,vb false)] h fun a w h=>qV (za6 (za2 (za2 (za6 (za2 (rT (.c (cB false)) h rfl ?_))))));have hz:zbn L s=false:=by unfold zbn;rw [decide_eq_true (p:=(s.vars.length:Int)<=8/\(s.bounds.length:Int)<=20/\(s.procs.length:Int)<=6/\(s.acts.length:Int)<=20) (by have:=dF hc2;have:=dF hc4;have:=dF hc6;have:=dF hc8;omega),bF];rw [(show (ziv s.init 30 L)=true from by simpa using hc10)];rw [zd4 hx2 (show fewB L x2=false from (by unfold fewB;rw [decide_eq_false (by have:=dT hc12;omega)];rfl))];rfl
   rw [hz];try rfl
  have hc13':=dF hc13;refine Je 1 [(3,.g (xD 47 45 kf_0 (za4 hx2 (f:=zaj.d)) (eG 46 _))),(7,.len (zgf x2.lo.abs)),(9,.cmp (op:=.gtr) (m:=(x2.lo.abs.length:Int)) (n:=(L:Int)) (b:=false) .i64 hc13),(14,.g (xD 58 56 kf_0 (za4 hx2 (f:=zaj.d)) (eG 57 _))),(18,.len (zgf x2.hi.abs))] [41] [(65,vb (decide ((x2.hi.abs.length:Int)>(L:Int))))] h fun a w h=>zag ((x2.hi.abs.length:Int)>(L:Int)) h (fun hc14 hc14'=>?_) (fun hc15 hc15'=>?_)
  ·refine Je 1 [] [65] [(4,vb false)] h fun a w h=>qV (za6 (za2 (za2 (za6 (za2 (rT (.c (cB false)) h rfl ?_))))));have hz:zbn L s=false:=by unfold zbn;rw [decide_eq_true (p:=(s.vars.length:Int)<=8/\(s.bounds.length:Int)<=20/\(s.procs.length:Int)<=6/\(s.acts.length:Int)<=20) (by have:=dF hc2;have:=dF hc4;have:=dF hc6;have:=dF hc8;omega),bF];rw [(show (ziv s.init 30 L)=true from by simpa using hc10)];rw [zd4 hx2 (show fewB L x2=false from (by unfold fewB;rw [decide_eq_false (p:=(x2.hi.abs.length:Int)<=(L:Int)) (by have:=dT hc14;omega),cD]))];rfl
   rw [hz];try rfl
  refine qU (za5 (za0 (Jf 1 [(1,.j1 j)] [65] [(5,vI ((j:Int)+1))] h fun a w h=>za0 (za9 (x:=j) (y:=j+1) h ?_ ?_))))
  ·exact ⟨by have:=zac hx2;omega,zfj hx2 hI2 (by unfold fewB;rw [decide_eq_true (by have:=dF hc13;omega),decide_eq_true (by have:=dF hc15;omega)];rfl)⟩
  show s.bounds.length - (j+1)<s.bounds.length - j;have:=zac hx2;omega
 refine exA (qW (Je 1 [] [5,41] [(6,vI 0)] h fun a w h=>qZ ?_))
 refine zcc (ι:=(Nat)) (fun q=>q<=s.acts.length/\(s.acts.take q).all (fewA L)=true)
   [] (fun q=>[(6,vN q)])
   [] (fun q=>[])
   (fun q=>s.acts.length - q) 0 ?_ h ?_
 ·exact ⟨bG _,rfl⟩
 clear h;rintro q a w hI h;obtain ⟨hQ1,hQ2⟩:=hI;refine qW (Je 1 [(3,.len (za1 10 zb1.d s.acts))] [] [(70,vb (decide ((q:Int)<(s.acts.length:Int))))] h fun a w h=>zag ((q:Int)<(s.acts.length:Int)) h (fun hc17 hc17'=>?_) (fun hc26 hc26'=>?_))
 ·refine qU (za0 (qW (qZ (qW ?_))));obtain ⟨x3,hx3⟩:=gl s.acts q;have lmx3:=hr.mlen x3 (lM hx3)
  rcases bI (ziv x3.guard 30 L) with hc18 | hc25
  ·refine Je 1 [(3,.g (xD 76 74 ki_1 (za4 hx3 (f:=zb1.d)) (eG 75 _))),(7,.call (eF (SFewF x3.guard 30 (L:Int) (hr.act x3 (lM hx3)).1 (by decide) (by decide)) (congrArg vb hc18))),(13,.g (xD 86 84 ki_1 (za4 hx3 (f:=zb1.d)) (eG 85 _))),(16,.len (za1 5 zan.d x3.moves))] [70] [(91,vb (decide ((x3.moves.length:Int)>20)))] h fun a w h=>zag ((x3.moves.length:Int)>20) h (fun hc19 hc19'=>?_) (fun hc20 hc20'=>?_)
   ·refine Je 1 [] [91] [(4,vb false)] h fun a w h=>qV (za2 (za6 (za2 (za2 (za6 (za2 (rT (.c (cB false)) h rfl ?_)))))));have hz:zbn L s=false:=by unfold zbn;rw [decide_eq_true (p:=(s.vars.length:Int)<=8/\(s.bounds.length:Int)<=20/\(s.procs.length:Int)<=6/\(s.acts.length:Int)<=20) (by have:=dF hc2;have:=dF hc4;have:=dF hc6;have:=dF hc8;omega),bF];rw [(show (ziv s.init 30 L)=true from by simpa using hc10)];rw [zf7 (dF hc16) hI2];rw [zd4 hx3 (show fewA L x3=false from (by unfold fewA;rw [decide_eq_false (p:=(x3.moves.length:Int)<=20) (by have:=dT hc19;omega),cD];rfl))];rfl
    rw [hz];try rfl
   refine qU (za0 (Je 1 [] [91] [(7,vI 0)] h fun a w h=>qZ ?_))
   refine zcc (ι:=(Nat)) (fun i=>i<=x3.moves.length/\(x3.moves.take i).all (fewM L)=true)
     [] (fun i=>[(7,vN i)])
     [] (fun i=>[])
     (fun i=>x3.moves.length - i) 0 ?_ h ?_
   ·exact ⟨bG _,rfl⟩
   clear h;rintro i a w hI h;obtain ⟨hJ1,hJ2⟩:=hI;refine qW (Je 1 [(4,.g (xD 96 94 ki_1 (za4 hx3 (f:=zb1.d)) (eG 95 _))),(7,.len (za1 5 zan.d x3.moves))] [] [(100,vb (decide ((i:Int)<(x3.moves.length:Int))))] h fun a w h=>zag ((i:Int)<(x3.moves.length:Int)) h (fun hc21 hc21'=>?_) (fun hc24 hc24'=>?_))
   ·refine qU (za0 (qW (qZ ?_)));obtain ⟨x6,hx6⟩:=gl x3.moves i;refine Je 1 [(3,.g (xD 106 104 ki_1 (za4 hx3 (f:=zb1.d)) (eG 105 _))),(7,.g (xD 110 108 ki_2 (za4 hx6 (f:=zan.d)) (eG 109 _))),(13,.call (Fn.agg6 (SFewF (formT x6.t) 5 (L:Int) (formT_lb ((hr.act x3 (lM hx3)).2 x6 (lM hx6))) (by decide) (by decide))))] [100] [(117,vb (!(ziv (formT x6.t) 5 L)))] h fun a w h=>cS (!(ziv (formT x6.t) 5 L)) h (fun hc22=>?_) (fun hc23=>?_)
    ·refine Je 1 [] [117] [(4,vb false)] h fun a w h=>qV (za6 (za2 (za2 (za6 (za6 (za2 (za2 (za6 (za2 (rT (.c (cB false)) h rfl ?_))))))))));have hz:zbn L s=false:=by unfold zbn;rw [decide_eq_true (p:=(s.vars.length:Int)<=8/\(s.bounds.length:Int)<=20/\(s.procs.length:Int)<=6/\(s.acts.length:Int)<=20) (by have:=dF hc2;have:=dF hc4;have:=dF hc6;have:=dF hc8;omega),bF];rw [(show (ziv s.init 30 L)=true from by simpa using hc10)];rw [zf7 (dF hc16) hI2];rw [zd4 hx3 (show fewA L x3=false from (by unfold fewA;rw [hc18,decide_eq_true (p:=(x3.moves.length:Int)<=20) (by have:=dF hc20;omega),bF,bF];exact zd4 hx6 (show fewM L x6=false from (show (ziv (formT x6.t) 5 L)=false from by simpa using hc22))))];rfl
     rw [hz];try rfl
    refine qU (za5 (za0 (Jf 1 [(1,.j1 i)] [117] [(7,vI ((i:Int)+1))] h fun a w h=>za0 (za9 (x:=i) (y:=i+1) h ?_ ?_))))
    ·have:=zac hx6;exact ⟨by omega,zfj hx6 hJ2 (show fewM L x6=true from (show (ziv (formT x6.t) 5 L)=true from by simpa using hc23))⟩
    show x3.moves.length - (i+1)<x3.moves.length - i;have:=zac hx6;omega
   refine wp_exit (zbq (zbq (zao (za5 (za0 (Jf 1 [(1,.add .i64 (m:=(q:Int)) (n:=1) i6)] [7,100] [(6,vI ((q:Int)+1))] h fun a w h=>za0 (za9 (x:=q) (y:=q+1) h ?_ ?_)))))))
   ·have:=zac hx3;exact ⟨by omega,zfj hx3 hQ2 (by unfold fewA;rw [hc18,decide_eq_true (p:=(x3.moves.length:Int)<=20) (by have:=dF hc20;omega),bF,bF];exact zf7 (dF hc24) hJ2)⟩
   show s.acts.length - (q+1)<s.acts.length - q;have:=zac hx3;omega
  refine Je 1 [(3,.g (xD 76 74 ki_1 (za4 hx3 (f:=zb1.d)) (eG 75 _))),(7,.call (eF (SFewF x3.guard 30 (L:Int) (hr.act x3 (lM hx3)).1 (by decide) (by decide)) (congrArg vb hc25)))] [70] [(91,vb true)] h fun a w h=>cS true h (fun _=>?_) nofun
  refine Je 1 [] [91] [(4,vb false)] h fun a w h=>qV (za2 (za6 (za2 (za2 (za6 (za2 (rT (.c (cB false)) h rfl ?_)))))));have hz:zbn L s=false:=by unfold zbn;rw [decide_eq_true (p:=(s.vars.length:Int)<=8/\(s.bounds.length:Int)<=20/\(s.procs.length:Int)<=6/\(s.acts.length:Int)<=20) (by have:=dF hc2;have:=dF hc4;have:=dF hc6;have:=dF hc8;omega),bF];rw [(show (ziv s.init 30 L)=true from by simpa using hc10)];rw [zf7 (dF hc16) hI2];rw [zd4 hx3 (show fewA L x3=false from (by unfold fewA;rw [hc25];rfl))];rfl
  rw [hz];try rfl
 refine exA (Jq 1 [] [(4,vb true)] [] h fun a w h=>qV (rT (.c (cB true)) h rfl ?_));have hz:zbn L s=true:=by unfold zbn;rw [decide_eq_true (p:=(s.vars.length:Int)<=8/\(s.bounds.length:Int)<=20/\(s.procs.length:Int)<=6/\(s.acts.length:Int)<=20) (by have:=dF hc2;have:=dF hc4;have:=dF hc6;have:=dF hc8;omega),bF];rw [(show (ziv s.init 30 L)=true from by simpa using hc10)];rw [zf7 (dF hc16) hI2];rw [zf7 (dF hc26) hQ2];rfl
 rw [hz];try rfl
def wpX (r:Option Nat) (ds:List Deferred) (P:Program) (c:Code) (Q:Exit->Act->World->Prop) (a:Act) (w:World):Prop :=
  c.wpIn { Fence.wide with round:=r } 9 P (fun ex a' w'=>a'.defers=ds/\Q ex { a' with defers:=[] } w') { a with defers:=ds } w
section
variable {r:Option Nat} {ds:List Deferred} {P:Program} {Q:Exit->Act->World->Prop} {a:Act} {w:World}
theorem zhp (h:a.defers=ds):{ { a with defers:=[] } with defers:=ds }=a:=by cases a;cases h;rfl
theorem wpX_mono {c:Code} {Q':Exit->Act->World->Prop} (h:wpX r ds P c Q a w) (hq:∀ e a w,Q e a w->Q' e a w):wpX r ds P c Q' a w :=
 wpIn_mono h fun _ _ _ ⟨h1,h2⟩=>⟨h1,hq _ _ _ h2⟩
theorem wpX_seq {x:Code} (h:wpX r ds P x (Exit.then (fun a w=>wpX r ds P y Q a w) Q) a w):wpX r ds P (.seq x y) Q a w:=by
 refine wpIn_seq (wpIn_mono h fun e a' w' hq=>?_)
 obtain ⟨h1,h2⟩:=hq
 cases e with
 | normal =>
  have h2:wpX r ds P y Q { a' with defers:=[] } w':=h2
  unfold wpX at h2
  rw [zhp h1] at h2
  exact h2
 | _=>exact ⟨h1,h2⟩
theorem wpX_block {id:Nat} {c:Code} (h:wpX r ds P c (Exit.inBlock id Q) a w):wpX r ds P (.block id c) Q a w:=by
 refine wpIn_block (wpIn_mono h fun e a' w' hq=>?_)
 obtain ⟨h1,h2⟩:=hq
 cases e with
 | exit id' =>
  simp only [Exit.inBlock] at h2 ⊢
  split
  ·rename_i he;rw [if_pos he] at h2;exact ⟨h1,h2⟩
  ·rename_i he;rw [if_neg he] at h2;exact ⟨h1,h2⟩
 | _=>exact ⟨h1,h2⟩
theorem wpX_skip (hd:a.defers=[]) (h:Q .normal a w):wpX r ds P .skip Q a w:=wpIn_skip ⟨rfl,by cases a;cases hd;exact h⟩
theorem wpX_exit {id:Nat} (hd:a.defers=[]) (h:Q (.exit id) a w):wpX r ds P (.exit id) Q a w:=wpIn_exit ⟨rfl,by cases a;cases hd;exact h⟩
theorem wpX_ret (hd:a.defers=[]) (h:Q .ret a w):wpX r ds P .ret Q a w:=wpIn_ret ⟨rfl,by cases a;cases hd;exact h⟩
theorem condX {K:List Nat} {x:Code} (b:Bool) (h:St ⟨w0,H0,B0,K,N⟩ (F.of sl lc) a w) (ht:(F.of sl lc).s t=some (vb b)) (hx:b=true->wpX r ds P x Q a w) (hy:b=false->wpX r ds P y Q a w):wpX r ds P (.cond (.tmp t) x y) Q a w:=by
 obtain ⟨H,B,hok⟩:=h
 have:=(hok.slot t _ ht).rawI
 exact wpIn_cond_split (t:=b) this hx hy
theorem loopX0 {ι:Type} {c:Code} (fs:ι->F) (μ:ι->Nat) (x:ι) (h:St e (fs x) a w) (round:∀ x a w,St e (fs x) a w->wpX r ds P c (Exit.then (fun a' w'=>∃ y,μ y<μ x/\St e (fs y) a' w') Q) a w):wpX r ds P (.loop c) Q a w:=by
 have key:∀ n x a w,μ x=n->St e (fs x) a w->∀ (b:Frame) (k:List Item) (cs:List Frame),b.roundOf=({ Fence.wide with round:=r }:Fence).round->({ Fence.wide with round:=r }:Fence).fn b.fn->({ Fence.wide with round:=r }:Fence).room (cs.length+1+9) ->
   ∃ en a' w', (a'.defers=ds/\Q en { a' with defers:=[] } w')/\ArrivesIn (Machine.fenced P { Fence.wide with round:=r }) P (lone (b.atR { a with defers:=ds } (.code c :: .inLoop c :: k)) cs w) b k cs en a' w':=by
  intro n
  induction n using Nat.strongRecOn with
  | _ n ih =>
   intro x a w hn hI b k cs hro hb hr
   obtain ⟨en,a₁,w₁,⟨hd,hq⟩,harr⟩:=round x a w hI b (.inLoop c :: k) cs hro hb hr
   cases en with
   | normal =>
    obtain ⟨y,hlt,hI₁⟩:=hq
    obtain ⟨e₂,a₂,w₂,hq₂,harr₂⟩:=ih (μ y) (hn ▸ hlt) y _ w₁ rfl hI₁ b k cs hro hb hr
    rw [zhp hd] at harr₂
    exact ⟨e₂,a₂,w₂,hq₂,.of_steps (StepsIn.trans harr (.one (fenced_calm hb hr rfl) stepR_inLoop)) harr₂⟩
   | exit id=>exact ⟨_,a₁,w₁,⟨hd,hq⟩,.pass (x:=.inLoop c) rfl (fun _ _ => .inl (by simp)) harr⟩
   | goto l=>exact ⟨_,a₁,w₁,⟨hd,hq⟩,.pass (x:=.inLoop c) rfl (fun _ _ => .inl (by simp)) harr⟩
   | ret=>exact ⟨_,a₁,w₁,⟨hd,hq⟩,.pass (x:=.inLoop c) rfl (fun _ _ => .inl (by simp)) harr⟩
   | panic ch=>exact ⟨_,a₁,w₁,⟨hd,hq⟩,.pass (x:=.inLoop c) rfl (fun _ _ => .inl (by simp)) harr⟩
   | outgrown=>exact ⟨_,a₁,w₁,⟨hd,hq⟩,.pass (x:=.inLoop c) rfl (fun _ _ => .inl (by simp)) harr⟩
 intro b k cs hro hb hr
 obtain ⟨en,a', w', hq,harr⟩:=key _ x a w rfl h b k cs hro hb hr
 exact ⟨en,a', w', hq,.of_steps (.one (fenced_calm hb hr rfl) stepR_loop) harr⟩
theorem loopX {K:List Nat} {ι:Type} {c:Code} (I:ι->Prop) (sls:ι->List (Nat × V)) (lcs:ι->List (Nat × L)) (μ:ι->Nat) (x:ι) (hI:I x) (h:St ⟨w0,H0,B0,K,N⟩ (F.of sl lc) a w)
  (h1:leS (F.of sl lc) (sls x)=(sls x).map fun p=>some p.2) (h2:leN (F.of sl lc) (lcs x)=(lcs x).map fun p=>some p.2)
  (round:∀ x a w,I x->St ⟨w0,H0,B0,K,N⟩ (F.of (sls x) (lcs x)) a w->wpX r ds P c (Exit.then (fun a' w'=>∃ y,(I y/\μ y<μ x)/\St ⟨w0,H0,B0,K,N⟩ (F.of (sls y) (lcs y)) a' w') Q) a w):wpX r ds P (.loop c) Q a w:=by
 refine loopX0 (ι:={x // I x}) (fun x=>F.of (sls x.1) (lcs x.1)) (fun x=>μ x.1) ⟨x,hI⟩ (h.weaken (zht h1 h2)) fun x a w hst=>wpX_mono (round x.1 a w x.2 hst) fun en a w hq=>?_
 cases en with
 | normal=>obtain ⟨y,⟨hy,hlt⟩,hst⟩:=hq;exact ⟨⟨y,hy⟩,hlt,hst⟩
 | _=>exact hq
theorem op_nil {o:Oper} (hK:∀ a w,K a w->a.defers=[]) (hQ:∀ e a w,Q e a w->e = .normal) (h:o.wp P a w K Q):a.defers=[]:=by
 unfold Oper.wp at h
 have hput:∀ v w', K (a.put o.dst v) w'->a.defers=[]:=fun v w' hk=>by
  have:=hK _ _ hk
  cases hd:o.dst <;> rw [hd] at this <;> exact this
 cases hr:(execOp a.eval o).run P w with
 | ok x w' =>
  rw [hr] at h
  cases x with
  | value v=>exact hput _ _ h
  | skip=>exact hput _ _ h
  | defer d =>
   have:=hK _ _ h
   cases hd:o.dst <;> rw [hd] at this <;> simp [Act.put] at this
  | enter f args =>
   obtain ⟨e,w'', fr,he,_⟩:=(show Calls P f args w' _ from h) []
   cases e with
   | returned v=>exact hput _ _ he
   | panicked chain=>cases hQ _ _ _ he
   | outgrown=>obtain ⟨_,_,h2⟩:=he;cases hQ _ _ _ h2
  | row row args =>
   obtain ⟨v,w'', he,_⟩:=(show Rows P row args w' _ from h) default []
   exact hput _ _ he
  | _=>exact h.elim
 | halt x w' =>
  rw [hr] at h
  cases x with
  | panic v=>cases hQ _ _ _ h
  | _=>exact h.elim
theorem opI_nil {ops:Array Oper} (hK:∀ a w,K a w->a.defers=[]) (hQ:∀ e a w,Q e a w->e = .normal) (h:wpOp P ops Q i K a w):a.defers=[]:=by
 unfold wpOp at h
 cases ho:ops[i]? with
 | none=>rw [ho] at h;exact hK _ _ h
 | some o =>
  rw [ho] at h
  dsimp only at h
  split at h
  ·exact op_nil hK hQ (h.resolve_right fun ⟨_,h2⟩=>by obtain ⟨a2,w2,h2⟩:=h2;cases hQ _ _ _ h2)
  ·have:=hK _ _ h
   cases hd:o.dst <;> rw [hd] at this <;> exact this
theorem ops_nil {ops:Array Oper} (hQ:∀ e a w,Q e a w->e = .normal/\a.defers=[]):∀ (l:List Nat) (a:Act) (w:World),wpOps P ops Q l a w->a.defers=[]
 | [],a,w,h=>(hQ _ _ _ h).2
 | i :: l,a,w,h=>by rw [wpOps_cons] at h;exact opI_nil (ops_nil hQ l) (fun e a w h=>(hQ e a w h).1) h
theorem any_nil {ops:Array Oper} {md:Region.Mode} (hQ:∀ e a w,Q e a w->e = .normal/\a.defers=[]):∀ (fuel:Nat) (listed:Array Bool) (a:Act) (w:World),wpAny P md ops Q fuel listed a w->a.defers=[]
 | 0,_,a,w,h=>(hQ _ _ _ h.2).2
 | fuel+1,listed,a,w,h=>by
  cases hr:Region.ready md ops listed with
  | nil=>exact (hQ _ _ _ (h.1 hr)).2
  | cons i l=>exact opI_nil (any_nil hQ fuel _) (fun e a w h=>(hQ e a w h).1) (h.2 i (by rw [hr];simp))
theorem opX {o:Oper} {K':Act->World->Prop} (hnd:∀ c,o.op ≠ .defer c) (ha:a.defers=[]) (hK:∀ a w,K a w->a.defers=[]) (hK':∀ a w,a.defers=ds->K { a with defers:=[] } w->K' a w) (hQ:∀ a w,¬ Q .outgrown a w) (h:o.wp P a w K Q) :
  o.wpIn { Fence.wide with round:=r } 9 P { a with defers:=ds } w K' (fun ex a' w'=>a'.defers=ds/\Q ex { a' with defers:=[] } w'):=by
 refine ⟨fun _ _=>trivial,?_⟩
 rw [Oper.semAt_eq _ _ _ hnd]
 unfold Oper.wp at h
 have he:({ a with defers:=ds }:Act).eval=a.eval:=by funext x;cases x <;> rfl
 rw [he]
 have hput:∀ v w', K (a.put o.dst v) w'->K' (({ a with defers:=ds }:Act).put o.dst v) w':=by
  intro v w' hk
  refine hK' _ _ ?_ ?_
  ·cases o.dst <;> rfl
  ·have:({ (({ a with defers:=ds }:Act).put o.dst v) with defers:=[] }:Act)=a.put o.dst v:=by
    cases a;cases ha;cases o.dst <;> rfl
   rw [this];exact hk
 generalize (execOp a.eval o).run P w=res at h
 have hbare:({ ({ a with defers:=ds }:Act) with defers:=[] }:Act)=a:=by cases a;cases ha;rfl
 cases res with
 | ok x w' =>
  cases x with
  | value v=>exact hput _ _ h
  | skip=>exact hput _ _ h
  | defer d =>
   have:=hK _ _ h
   cases hd:o.dst with
   | none=>rw [hd] at this;simp [Act.put] at this
   | some q=>rw [hd] at this;simp [Act.put] at this
  | enter f args =>
   have h:Calls P f args w' _:=h
   refine ⟨fun h=>(by cases h),?_⟩
   refine CallsIn.mono (show CallsIn { Fence.wide with round:=r } (9 - 1) P f args w' _ from callsIn_wide.2 h) ?_
   intro e w'' he
   cases e with
   | returned v=>exact hput _ _ he
   | panicked chain=>exact ⟨rfl,by rw [hbare];exact he⟩
   | outgrown=>obtain ⟨a2,w2,h2⟩:=he;exact absurd h2 (hQ _ _)
  | row row args =>
   have h:Rows P row args w' _:=h
   refine ⟨fun h=>(by cases h),fun c cs _=>?_⟩
   obtain ⟨v,w'', h1,h2⟩:=h c cs
   exact ⟨v,w'', hput _ _ h1,(stepsIn_wide (P:=P)).2 h2⟩
  | _=>exact h.elim
 | halt x w' =>
  cases x with
  | panic v=>exact ⟨rfl,by rw [hbare];exact h⟩
  | _=>exact h.elim
theorem opIX {ops:Array Oper} {K':Act->World->Prop} (hnd:∀ o ∈ ops,∀ c,o.op ≠ .defer c) (hK:∀ a w,K a w->a.defers=[]) (hK':∀ a w,a.defers=ds->K { a with defers:=[] } w->K' a w) (hQ:∀ e a w,Q e a w->e = .normal) (h:wpOp P ops Q i K a w) :
  wpOpIn { Fence.wide with round:=r } 9 P ops (fun ex a' w'=>a'.defers=ds/\Q ex { a' with defers:=[] } w') i K' { a with defers:=ds } w:=by
 have ha:=opI_nil hK hQ h
 unfold wpOp at h
 unfold wpOpIn
 cases ho:ops[i]? with
 | none=>rw [ho] at h;exact hK' _ _ rfl (by cases a;cases ha;exact h)
 | some o =>
  rw [ho] at h
  dsimp only at h ⊢
  by_cases hw:Region.wanted o (yielded ops a.tmps)=true
  ·rw [if_pos hw] at h
   rw [if_pos hw]
   have h:=h.resolve_right fun ⟨_,h2⟩=>by obtain ⟨a2,w2,h2⟩:=h2;cases hQ _ _ _ h2
   exact opX (hnd o (Array.mem_of_getElem? ho)) ha hK hK' (fun a w hq=>by cases hQ _ _ _ hq) h
  ·rw [if_neg hw] at h
   rw [if_neg hw]
   refine ⟨fun _ _=>trivial,hK' _ _ ?_ ?_⟩
   ·cases o.dst <;> rfl
   ·have:({ (({ a with defers:=ds }:Act).put o.dst undef) with defers:=[] }:Act)=a.put o.dst undef:=by
     cases a;cases ha;cases o.dst <;> rfl
    rw [this];exact h
theorem opsX {ops:Array Oper} (hnd:∀ o ∈ ops,∀ c,o.op ≠ .defer c) (hQ:∀ e a w,Q e a w->e = .normal/\a.defers=[]):∀ (l:List Nat) (a:Act) (w:World),wpOps P ops Q l a w ->
  wpOpsIn { Fence.wide with round:=r } 9 P ops (fun ex a' w'=>a'.defers=ds/\Q ex { a' with defers:=[] } w') l { a with defers:=ds } w
 | [],a,w,h=>⟨rfl,by have ha:=(hQ _ _ _ h).2;cases a;cases ha;exact h⟩
 | i :: l,a,w,h=>by
  rw [wpOps_cons] at h
  rw [wpOpsIn_cons]
  exact opIX hnd (ops_nil hQ l) (fun a w hd hk=>by have:=opsX hnd hQ l _ w hk;rw [zhp hd] at this;exact this) (fun e a w h=>(hQ e a w h).1) h
theorem anyX {ops:Array Oper} {md:Region.Mode} (hnd:∀ o ∈ ops,∀ c,o.op ≠ .defer c) (hQ:∀ e a w,Q e a w->e = .normal/\a.defers=[]):∀ (fuel:Nat) (listed:Array Bool) (a:Act) (w:World),wpAny P md ops Q fuel listed a w ->
  wpAnyIn { Fence.wide with round:=r } 9 P md ops (fun ex a' w'=>a'.defers=ds/\Q ex { a' with defers:=[] } w') fuel listed { a with defers:=ds } w
 | 0,_,a,w,h=>⟨h.1,rfl,by have ha:=(hQ _ _ _ h.2).2;cases a;cases ha;exact h.2⟩
 | fuel+1,listed,a,w,h=>by
  refine ⟨fun h0=>⟨rfl,?_⟩,fun i hi=>?_⟩
  ·have h1:=h.1 h0
   have ha:=(hQ _ _ _ h1).2
   cases a;cases ha;exact h1
  ·exact opIX hnd (any_nil hQ fuel _) (fun a w hd hk=>by have:=anyX hnd hQ fuel _ _ w hk;rw [zhp hd] at this;exact this) (fun e a w h=>(hQ e a w h).1) (h.2 i hi)
end
def noDefer (o:Oper):Bool:=match o.op with | .defer _=>false | _=>true
section
variable {r:Option Nat} {ds:List Deferred} {P:Program} {Q:Exit->Act->World->Prop} {w0:World} {H0:Im} {B0:Bl} {K:List Nat} {N:Nat}
theorem wpX_region_S {ops:Array Oper} (hnd:∀ o ∈ ops,∀ c,o.op ≠ .defer c) {id:Nat} (is:List I) (g:F) (hm:P.follows .mixedOrders=true) (hpo:zjh draw ops.toList is=true)
  (hdo:∀ k o,ops[k]?=some o->Does P ops o (at_ is k)) (hb:∀ k,FitsE e (at_ is k)) (hn:∀ k,∀ n ∈ (at_ is k).nw,New e.K f n)
  (hr:RunL is f (bC ops.size) g) (h:St e f a w) (hQ:∀ a w,St e g a w->Q .normal a w):wpX r ds P (Code.region id ops draw) Q a w:=by
 have hN:∀ (ex:Exit) (a:Act) (w:World),(ex = .normal/\St e g a w)->ex = .normal/\a.defers=[]:=fun ex a w h=>⟨h.1,by obtain ⟨_,H,B,hok⟩:=h;exact hok.df⟩
 refine wpX_mono (Q:=fun ex a w=>ex = .normal/\St e g a w) ?_ (fun ex a w h=>by obtain ⟨rfl,h⟩:=h;exact hQ a w h)
 cases draw with
 | false =>
  refine wpIn_region (opsX hnd hN _ _ _ (wpOps_run hdo hb (fun a w h=>⟨rfl,h⟩) _ f a w (fun k hk=>cW.1 hk) ?_ (fun k _=>hn k) hr h))
  refine List.Pairwise.imp_of_mem ?_ List.pairwise_lt_range
  intro j k hj hk hjk
  exact ((zg0 hpo (k:=k) (by simpa using cW.1 hk)).2 j hjk).1
 | true =>
  refine wpIn_region_any hm (anyX hnd hN _ _ _ _ (wpAny_run hdo hb (fun a w h=>⟨rfl,h⟩) hpo _ _ f a _ (by simp) ?_ ?_ (fun k _=>hn k) ?_ h.drew))
  ·intro k o ho hl
   have hks:=(cF.1 ho).1
   simp [b8, hks] at hl
  ·refine cO (dH _ _) (by simp)
  ·have:left (Array.replicate ops.size false) ops.size=bC ops.size:=by
    unfold left
    refine List.filter_eq_self.2 fun k hk=>?_
    have:=cW.1 hk
    simp [b8, this]
   rw [this]
   exact hr
theorem regionX {ops:Array Oper} (hnd:ops.toList.all noDefer=true) {id:Nat} (is:List I) (sl':List (Nat × V)) (lc':List (Nat × L)) (hm:P.follows .mixedOrders=true)
  (hdo:AllDo P ops ops.toList is) (hc:chk draw ops.toList is N K sl lc=true) (h1:runS (F.of sl lc) is=zj7 is) (h2:runN (F.of sl lc) is=zj8 is)
  (h3:leS (zig (F.of sl lc) is) sl'=sl'.map fun p=>some p.2) (h4:leN (zig (F.of sl lc) is) lc'=lc'.map fun p=>some p.2)
  (h:St ⟨w0,H0,B0,K,N⟩ (F.of sl lc) a w) (hQ:∀ a w,St ⟨w0,H0,B0,K,N⟩ (F.of sl' lc') a w->Q .normal a w):wpX r ds P (Code.region id ops draw) Q a w:=by
 simp only [chk,bT] at hc
 obtain ⟨⟨⟨c1,c2⟩,c3⟩,c4⟩:=hc
 have hmem:∀ k,at_ is k ∈ is\/at_ is k={}:=by
  intro k
  unfold at_
  rw [List.getD_eq_getElem?_getD]
  cases hk:is[k]? with
  | none=>exact .inr rfl
  | some x=>exact .inl (cC hk)
 refine wpX_region_S (fun o ho c hc=>by have:=bM.1 hnd o (by simpa using ho);unfold noDefer at this;rw [hc] at this;cases this) is (F.of sl' lc') hm c1 (fun k o ho=>hdo.get k o (by simpa using ho)) ?_ ?_ ?_ h hQ
 ·intro k
  refine ⟨fun p hp=>?_,fun h0=>?_⟩
  ·rcases hmem k with hk | hk
   ·have:=bM.1 (bM.1 c2 _ hk) p hp
    simpa [Nat.blt_eq] using this
   ·rw [hk] at hp;cases hp
  ·rcases hmem k with hk | hk
   ·have:=bM.1 c4 _ hk
    rw [h0] at this
    simpa using this
   ·rw [hk] at h0;cases h0
 ·intro k n hn
  rcases hmem k with hk | hk
  ·exact zcx (bM.1 (bM.1 c3 _ hk) n hn)
  ·rw [hk] at hn;cases hn
 ·have:=RunL.of (g:=F.of sl' lc') [] is (F.of sl lc) h1 h2 (zht h3 h4)
  have hl:=hdo.length
  simp only [dI,dL] at this
  rw [dM, <- Array.length_toList,hl]
  exact this
end
section
variable {r:Option Nat} {ds:List Deferred} {Q:Exit->Act->World->Prop} {w0:World} {H0:Im} {B0:Bl} {K:List Nat} {N:Nat}
theorem rSX {tb:Tb} (htb:zj5 eE tb) {id:Nat} {ops:Array Oper} (nx:Nat) (cs:List (Nat × Orc eE)) (sl':List (Nat × V)) (lc':List (Nat × L))
  (hnd:ops.toList.all noDefer=true)
  (hc:((zkc ops.toList cs).map (·.1),(zd3 tb ops (F.of sl lc) nx 0 ops.toList cs).isSome,(zd3 tb ops (F.of sl lc) nx 0 ops.toList cs).map fun is=>Seen.mk (chk draw ops.toList is N K sl lc) (runS (F.of sl lc) is) (runN (F.of sl lc) is) (leS (zig (F.of sl lc) is) sl') (leN (zig (F.of sl lc) is) lc')) =
   ((zkc ops.toList cs).map (·.2),true,(zd3 tb ops (F.of sl lc) nx 0 ops.toList cs).map fun is=>Seen.mk true (zj7 is) (zj8 is) (sl'.map fun p=>some p.2) (lc'.map fun p=>some p.2)))
  (h:St ⟨w0,H0,B0,K,N⟩ (F.of sl lc) a w) (hQ:∀ a w,St ⟨w0,H0,B0,K,N⟩ (F.of sl' lc') a w->Q .normal a w):wpX r ds eE (Code.region id ops draw) Q a w:=by
 simp only [Prod.mk.injEq] at hc
 obtain ⟨hg,hs,hm⟩:=hc
 cases hi:zd3 tb ops (F.of sl lc) nx 0 ops.toList cs with
 | none=>rw [hi] at hs;cases hs
 | some is =>
  rw [hi] at hm
  simp only [b7,Option.some.injEq,Seen.mk.injEq] at hm
  exact regionX hnd is sl' lc' mixed (zkt htb hg _ _ _ _ _ rfl hi) hm.1 hm.2.1 hm.2.2.1 hm.2.2.2.1 hm.2.2.2.2 h hQ
theorem rSeqX {tb:Tb} (htb:zj5 eE tb) {id:Nat} {ops:Array Oper} (nx:Nat) (cs:List (Nat × Orc eE)) (sl':List (Nat × V)) (lc':List (Nat × L))
  (hnd:ops.toList.all noDefer=true)
  (hc:((zkc ops.toList cs).map (·.1),(zd3 tb ops (F.of sl lc) nx 0 ops.toList cs).isSome,(zd3 tb ops (F.of sl lc) nx 0 ops.toList cs).map fun is=>Seen.mk (chk draw ops.toList is N K sl lc) (runS (F.of sl lc) is) (runN (F.of sl lc) is) (leS (zig (F.of sl lc) is) sl') (leN (zig (F.of sl lc) is) lc')) =
   ((zkc ops.toList cs).map (·.2),true,(zd3 tb ops (F.of sl lc) nx 0 ops.toList cs).map fun is=>Seen.mk true (zj7 is) (zj8 is) (sl'.map fun p=>some p.2) (lc'.map fun p=>some p.2)))
  (h:St ⟨w0,H0,B0,K,N⟩ (F.of sl lc) a w) (hQ:∀ a w,St ⟨w0,H0,B0,K,N⟩ (F.of sl' lc') a w->wpX r ds eE y Q a w):wpX r ds eE (Code.seq (Code.region id ops draw) y) Q a w :=
 wpX_seq (rSX htb nx cs sl' lc' hnd hc h hQ)
end
def dat:Obj->Bool
  | .cells _ _ _ | .map _ _=>true
  | _=>false
theorem dat_cells (h:dat o=false):o.isCells=false:=by cases o <;> first | rfl | cases h
def LeC (H H':Im):Prop:=∀ b o,H b=some o->dat o=true->H' b=some o
section
variable {H H':Im} {B:Bl}
theorem DR.monoC (hl:LeC H H') {x:D} {v:Value} (h:DR H x v):DR H' x v:=by
 induction h with
 | raw v h=>exact .raw v h
 | nil es ao c h hc=>exact .nil es ao c h hc
 | sl es rows b o c arr ty fz vs hp hb hl2 hc hes hv _ ih=>exact .sl es rows b o c arr ty fz vs hp (hl _ _ hb rfl) hl2 hc hes hv ih
theorem AR.monoC (hl:LeC H H') {x:A} {v:Value} (h:AR H B x v):AR H' B x v:=by
 cases x with
 | d x=>exact DR.monoC hl h
 | ptr n o=>exact h
theorem CR.monoC (hl:LeC H H') {x:C} {v:Value} (h:CR H B x v):CR H' B x v:=by
 cases x with
 | d x=>exact DR.monoC hl h
 | ptr n o=>exact h
 | own n k=>exact h
 | el xs =>
  obtain ⟨b,o,arr,ty,fz,hb,hv,hx⟩:=h
  exact ⟨b,o,arr,ty,fz,hl _ _ hb rfl,hv,fun j hj=>let ⟨u,h1,h2⟩:=hx j hj;⟨u,h1,h2.monoC hl⟩⟩
 | fn f fs cs =>
  obtain ⟨vs,ws,hv,h1,h2⟩:=h
  exact ⟨vs,ws,hv,h1.mono fun a _ b=>AR.monoC hl,h2.mono fun a _ b=>AR.monoC hl⟩
 | sub n o len=>exact h
 | any=>exact h
 | mp n=>exact h
theorem TR.monoC (hl:LeC H H') {x:T} {v:Value} (h:TR H B x v):TR H' B x v:=by
 cases x with
 | c x=>exact CR.monoC hl h
 | agg cs =>
  obtain ⟨vs,hv,h1⟩:=h
  exact ⟨vs,hv,h1.mono fun a _ b=>CR.monoC hl⟩
theorem VR.monoC (hl:LeC H H') {x:V} {v:Value} (h:VR H B x v):VR H' B x v:=by
 cases x with
 | t x=>exact TR.monoC hl h
 | tup xs =>
  obtain ⟨vs,hv,h1⟩:=h
  exact ⟨vs,hv,h1.mono fun a _ b=>TR.monoC hl⟩
theorem LR.monoC (hl:LeC H H') {x:L} {n:Nat} {w':World} (hw:∀ b c,B n=some (b,c)->w'.heap[b]?=w.heap[b]?) (h:LR H B w n x):LR H' B w' n x:=by
 cases x with
 | box cs =>
  obtain ⟨b,c,arr,ty,hb,hc,h1⟩:=h
  exact ⟨b,c,arr,ty,hb,(hw b c hb).trans hc,h1.mono fun a _ v=>CR.monoC hl⟩
 | row ty es rows =>
  simp only [LR] at h ⊢
  cases hb:B n with
  | none=>rw [hb] at h;exact h
  | some p =>
   obtain ⟨b,c⟩:=p
   rw [hb] at h
   obtain ⟨arr,h1,h2,h3,h4,h5,h6⟩:=h
   exact ⟨arr,(hw b c hb).trans h1,h2,h3,h4,h5,h6.mono fun a _ v=>DR.monoC hl⟩
 | rowc ty es rows =>
  simp only [LR] at h ⊢
  cases hb:B n with
  | none=>rw [hb] at h;exact h
  | some p =>
   obtain ⟨b,c⟩:=p
   rw [hb] at h
   obtain ⟨arr,h1,h2,h3,h4,h5,h6⟩:=h
   exact ⟨arr,(hw b c hb).trans h1,h2,h3,h4,h5,h6.mono fun a _ v=>CR.monoC hl⟩
 | bld ty x rest =>
  obtain ⟨b,c,v1,v2,vr,hb,hc,h1,h0,h2,h3⟩:=h
  exact ⟨b,c,v1,v2,vr,hb,(hw b c hb).trans hc,h1,h0,CR.monoC hl h2,h3.mono fun a _ v=>CR.monoC hl⟩
 | mp es =>
  obtain ⟨b,c,arr,cl,hb,hc,h1⟩:=h
  exact ⟨b,c,arr,cl,hb,(hw b c hb).trans hc,h1.mono fun a _ e h2=>⟨h2.1,h2.2.monoC hl⟩⟩
theorem LR.cells {x:L} {n c:Nat} (h:LR H B w n x) (hb:B n=some (b,c)):∃ o,w.heap[b]?=some o/\dat o=true:=by
 cases x with
 | box cs=>obtain ⟨b', c', arr,ty,hb', hc,_⟩:=h;rw [hb] at hb';cases hb';exact ⟨_,hc,rfl⟩
 | row ty es rows =>
  simp only [LR] at h
  rw [hb] at h
  obtain ⟨arr,h1,_⟩:=h
  exact ⟨_,h1,rfl⟩
 | rowc ty es rows =>
  simp only [LR] at h
  rw [hb] at h
  obtain ⟨arr,h1,_⟩:=h
  exact ⟨_,h1,rfl⟩
 | bld ty x rest=>obtain ⟨b', c', v1,v2,vr,hb', hc,_⟩:=h;rw [hb] at hb';cases hb';exact ⟨_,hc,rfl⟩
 | mp es=>obtain ⟨b', c', arr,cl,hb', hc,_⟩:=h;rw [hb] at hb';cases hb';exact ⟨_,hc,rfl⟩
end
def cutH (H1 H:Im):Im:=fun b=>match H b with
  | some o=>if dat o || (H1 b).isSome then some o else none
  | none=>none
theorem cutH_some (h:cutH H1 H b=some o):H b=some o/\(dat o=true\/(H1 b).isSome=true):=by
 unfold cutH at h
 cases hb:H b with
 | none=>rw [hb] at h;cases h
 | some o' =>
  rw [hb] at h
  dsimp only at h
  split at h
  ·rename_i hc;cases h;exact ⟨rfl,by simpa using hc⟩
  ·cases h
theorem cutH_leC (H1 H:Im):LeC H (cutH H1 H):=fun b o h ho=>by unfold cutH;rw [h];dsimp only;rw [ho];rfl
theorem cutH_none (h:H b=none):cutH H1 H b=none:=by unfold cutH;rw [h]
theorem zjt (h:H b=some o) (h1:(H1 b).isSome=true):cutH H1 H b=some o:=by unfold cutH;rw [h];dsimp only;rw [h1,cV];rfl
theorem TabH.back {Hx:Im} (h:∀ b o,Hx b=some o->H1 b=some o\/o.isCells=false) (ht:TabH Hx):TabH H1:=by
 have _:=h;have _:=ht;exact trivial
def zf1 (H M:Im):Im:=fun b=>match H b with
  | some o=>some o
  | none=>M b
theorem zks (H M:Im):Le H (zf1 H M):=fun b o h=>by unfold zf1;rw [h]
theorem zho {M:Im} (h:zf1 H M b=some o):H b=some o\/(H b=none/\M b=some o):=by
 unfold zf1 at h
 cases hb:H b with
 | none=>rw [hb] at h;exact .inr ⟨rfl,h⟩
 | some o'=>rw [hb] at h;exact .inl h
def Clean (H1 H:Im):Prop:=∀ b o,H b=some o->H1 b=some o\/dat o=true
section
variable {w0:World} {Hx H1 H:Im} {B0 B:Bl} {K:List Nat} {N:Nat} {f:F} {a:Act} {w:World}
theorem Ok.cut (h:Ok ⟨w0,Hx,B0,K,N⟩ f H B a w) (h1:Le H1 Hx) (h2:∀ b o,Hx b=some o->H1 b=some o\/dat o=false):Ok ⟨w0,H1,B0,K,N⟩ f (cutH H1 H) B a w/\Clean H1 (cutH H1 H):=by
 have hc:LeC H (cutH H1 H):=cutH_leC H1 H
 refine ⟨⟨h.df,h.n,h.ext,fun b o hb=>h.sat b o (cutH_some hb).1,fun t v hv=>VR.monoC hc (h.slot t v hv),fun n l hn=>LR.monoC hc (fun _ _ _=>rfl) (h.loc n l hn),?_,h.inj,?_,?_,h.keep,TabH.back (fun b o hb=>(h2 b o hb).imp id dat_cells) h.tab⟩,?_⟩
 ·intro n l b c hn hb
  obtain ⟨p1,p2,p3⟩:=h.priv n l b c hn hb
  exact ⟨p1,cutH_none p2,p3⟩
 ·intro b hb
  have hlow:H b=Hx b:=h.low b hb
  cases hx:Hx b with
  | none =>
   rw [hx] at hlow
   rw [cutH_none hlow]
   cases h1b:H1 b with
   | none=>exact h1b.symm
   | some o=>have:=h1 b o h1b;rw [hx] at this;cases this
  | some o =>
   rw [hx] at hlow
   rcases h2 b o hx with h3 | h3
   ·rw [zjt hlow (by rw [h3];rfl)];exact h3.symm
   ·cases h1b:H1 b with
    | none=>unfold cutH;rw [hlow];dsimp only;rw [h3,h1b];rfl
    | some o'=>rw [zjt hlow (by rw [h1b];rfl)];have:=h1 b o' h1b;rw [hx] at this;exact this.trans h1b.symm
 ·intro b o hb
  exact zjt (h.le b o (h1 b o hb)) (by show (H1 b).isSome=true;rw [show H1 b=some o from hb];rfl)
 ·intro b o hb
  obtain ⟨h3,h4⟩:=cutH_some hb
  rcases h4 with h4 | h4
  ·exact .inr h4
  ·obtain ⟨o', h5⟩:=dN.1 h4
   have:=h.le b o' (h1 b o' h5)
   rw [h3] at this
   cases this
   exact .inl h5
theorem Ok.join (h:Ok ⟨w0,H1,B0,K,N⟩ f H B a w) (M:Im) (hM:∀ b o,M b=some o->w.heap[b]?=some o/\dat o=false):Ok ⟨w0,zf1 H1 M,B0,K,N⟩ f (zf1 H M) B a w:=by
 have hl:=zks H M
 refine ⟨h.df,h.n,h.ext,?_,fun t v hv=>VR.mono hl (fun _ _=>rfl) (h.slot t v hv),fun n l hn=>LR.mono hl rfl (fun _ _=>rfl) (fun _ _ _=>rfl) (h.loc n l hn),?_,h.inj,?_,?_,h.keep,h.tab.mono (zks H1 M)⟩
 ·intro b o hb
  rcases zho hb with h1 | ⟨_,h1⟩
  ·exact h.sat b o h1
  ·exact (hM b o h1).1
 ·intro n l b c hn hb
  obtain ⟨p1,p2,p3⟩:=h.priv n l b c hn hb
  refine ⟨p1,?_,p3⟩
  unfold zf1
  rw [p2]
  show M b=none
  cases hm:M b with
  | none=>rfl
  | some o =>
   obtain ⟨h1,h2⟩:=hM b o hm
   obtain ⟨o', h3,h4⟩:=(h.loc n l hn).cells hb
   rw [h1] at h3;cases h3;rw [h2] at h4;cases h4
 ·intro b hb
  have:H b=H1 b:=h.low b hb
  show zf1 H M b=zf1 H1 M b
  unfold zf1;rw [this]
 ·intro b o hb
  show zf1 H M b=some o
  rcases zho hb with h1 | ⟨h0,h1⟩
  ·exact hl b o (h.le b o h1)
  ·cases hx:H b with
   | none=>unfold zf1;rw [hx];exact h1
   | some o'=>unfold zf1;rw [hx];have:=h.sat b o' hx;rw [(hM b o h1).1] at this;exact this.symm
def StC (w0:World) (H1:Im) (B0:Bl) (K:List Nat) (N:Nat) (f:F) (a:Act) (w:World):Prop:=∃ H B,Ok ⟨w0,H1,B0,K,N⟩ f H B a w/\Clean H1 H
theorem StC.st (h:StC w0 H1 B0 K N f a w):St ⟨w0,H1,B0,K,N⟩ f a w:=let ⟨H,B,h,_⟩:=h;⟨H,B,h⟩
theorem StC.of (h:St ⟨w0,Hx,B0,K,N⟩ f a w) (h1:Le H1 Hx) (h2:∀ b o,Hx b=some o->H1 b=some o\/dat o=false):StC w0 H1 B0 K N f a w:=let ⟨_,B,h⟩:=h;⟨_,B,h.cut h1 h2⟩
theorem St.join (h:St ⟨w0,H1,B0,K,N⟩ f a w) (M:Im) (hM:∀ b o,M b=some o->w.heap[b]?=some o/\dat o=false):St ⟨w0,zf1 H1 M,B0,K,N⟩ f a w:=let ⟨_,B,h⟩:=h;⟨_,B,h.join M hM⟩
theorem StC.turn (h:StC w0 H1 B0 K N f a w) {w':World} {r:Nat} {z:Nat} (hos:w'.os=w.os) (htape:w'.tape=w.tape) (hout:w'.output=w.output) (hsize:w.heap.size<=w'.heap.size)
  (hblock:∀ b,b<w.heap.size->b≠r->w'.heap[b]?=w.heap[b]?) (hz:w0.heap.size<=z) (hr:z<=r) (hro:∀ o,w.heap[r]?=some o->dat o=false) (h1:∀ b o,H1 b=some o->b<z):StC w0 H1 B0 K N f a w':=by
 obtain ⟨H,B,h,hcl⟩:=h
 have hne:∀ b o,H b=some o->b≠r:=fun b o hb e=>by
  subst e
  rcases hcl b o hb with h2 | h2
  ·have:=h1 b o h2;omega
  ·have:=hro o (h.sat b o hb);rw [h2] at this;cases this
 have hown:∀ n l b c,f.l n=some l->B n=some (b,c)->w'.heap[b]?=w.heap[b]?:=fun n l b c hn hb=>by
  obtain ⟨o', h3,h4⟩:=(h.loc n l hn).cells hb
  refine hblock b (h.priv n l b c hn hb).1 fun e=>?_
  subst e
  have:=hro _ h3
  rw [h4] at this
  cases this
 refine ⟨H,B,⟨h.df,h.n,⟨hos.trans h.ext.os,htape.trans h.ext.tape,hout.trans h.ext.output,cO h.ext.size hsize,fun b hb hm=>?_⟩,?_,h.slot,?_,?_,h.inj,h.low,h.le,h.keep,h.tab⟩,hcl⟩
 ·have hb:b<w0.heap.size:=hb
  exact (hblock b (Nat.lt_of_lt_of_le hb h.ext.size) (by omega)).trans (h.ext.block b hb hm)
 ·intro b o hb
  have hs:=h.sat b o hb
  exact (hblock b (cF.1 hs).1 (hne b o hb)).trans hs
 ·intro n l hn
  exact LR.mono (Le.refl _) rfl (fun _ _=>rfl) (fun b c hb=>hown n l b c hn hb) (h.loc n l hn)
 ·intro n l b c hn hb
  obtain ⟨p1,p2,p3⟩:=h.priv n l b c hn hb
  exact ⟨Nat.lt_of_lt_of_le p1 hsize,p2,p3⟩
end
theorem wpIn_depth {F:Fence} {n:Nat} {c:Code} {Q:Exit->Act->World->Prop} (hd:F.depth=none) (h:c.wpIn F n P Q a w):c.wpIn F m P Q a w :=
 fun b k cs hro hb _=>h b k cs hro hb fun d h1=>by rw [hd] at h1;cases h1
def IterOk (P:Program) (gf:Nat) (xs:D) (m:Nat) (e:Nat->V × V):Prop :=
  ∀ (H1:Im) (Bs:Nat) (sv:Value) (ty:TypeId),H1 Bs=some (.cells #[sv] ty (0,0))->DR H1 xs sv ->
    ∃ ev:Nat->Value × Value,(∀ B j,j<m->VR H1 B (e j).1 (ev j).1/\VR H1 B (e j).2 (ev j).2) /\
      ∀ (l:Nat) (J:Nat->World->Prop) (W:World),(∀ j W,J j W->∀ b o,H1 b=some o->W.heap[b]?=some o) ->
        (∀ j W1,J j W1->j<m->YieldAt Fence.wide 7 P l #[(ev j).1,(ev j).2] W1 fun en W'=>en = .returned (.bool true)/\J (j+1) W') ->
        J 0 W->CallsIn Fence.wide 8 P gf #[.func (.yield l) #[] #[],.pointer (some ⟨Bs,0,none⟩)] W fun en W'=>(∃ v,en = .returned v)/\J m W'
theorem St.fix {n:Nat} {xs:D} (Kn:List Nat) (h:St ⟨w0,H0,B0,[],N⟩ f a w) (hl:f.l n=some (.box [.d xs])) :
  ∃ (H1:Im) (Bx:Bl) (Bs:Nat) (sv:Value) (ty:TypeId),Le H0 H1/\(∀ b,b<w0.heap.size->H1 b=H0 b)/\H1 Bs=some (.cells #[sv] ty (0,0))/\DR H1 xs sv /\
   (∀ t gf,f.s t=some (.t (.c (.fn (.func gf) [] [.ptr n 0])))->a.tmps.getD t undef = .func (.func gf) #[] #[.pointer (some ⟨Bs,0,none⟩)]) /\
   (∀ m l b c,f.l m=some l->Bx m=some (b,c)->w0.heap.size<=b)/\(∀ t v,f.s t=some v->VR H1 Bx v (a.tmps.getD t undef)) /\
   Ok ⟨w0,H1,Bx,Kn,N⟩ ⟨f.s,fun m=>if m=n then none else f.l m⟩ H1 Bx a w:=by
 obtain ⟨H,B,h⟩:=h
 obtain ⟨Bs,c,arr,ty,hB,hc,hx⟩:=h.loc n _ hl
 match arr,hx with
 | [sv],hx =>
 obtain ⟨p1,p2,p3⟩:=h.priv n _ Bs c hl hB
 have hnm:∀ b,¬ (⟨w0,H0,B0,[],N⟩:E).may b:=fun b hb=>by obtain ⟨m,hm,_⟩:=hb;cases hm
 have p4:w0.heap.size<=Bs:=p3.resolve_left (hnm _)
 have hle:Le H (fun b=>if b=Bs then some (.cells #[sv] ty (0,0)) else H b):=fun b o hb=>by
  by_cases e:b=Bs
  ·subst e;rw [p2] at hb;cases hb
  ·simp only [if_neg e];exact hb
 refine ⟨fun b=>if b=Bs then some (.cells #[sv] ty (0,0)) else H b,B,Bs,sv,ty,h.le.trans hle,fun b hb=>?_,by simp,DR.mono hle hx.1,fun t gf ht=>?_,fun m l b c hm hb=>(h.priv m l b c hm hb).2.2.resolve_left (hnm _),fun t v hv=>VR.mono hle (fun _ _=>rfl) (h.slot t v hv),?_⟩
 ·have:b≠Bs:=by omega
  simp only [if_neg this]
  exact h.low b hb
 ·obtain ⟨vs,ws,hv,h1,h2⟩:=h.slot t _ ht
  match vs,ws,h1,h2 with
  | [],[u],_,h2 =>
  obtain ⟨b', c', hb', hu⟩:=h2.1
  rw [hB] at hb';cases hb'
  rw [hv,hu]
 ·refine ⟨h.df,h.n,⟨h.ext.os,h.ext.tape,h.ext.output,h.ext.size,fun b hb _=>h.ext.block b hb (hnm _)⟩,?_,fun t v hv=>VR.mono hle (fun _ _=>rfl) (h.slot t v hv),?_,?_,?_,fun _ _=>rfl,Le.refl _,fun _ _=>rfl,(h.tab.mono h.le).mono hle⟩
  ·intro b o hb
   by_cases e:b=Bs
   ·subst e;simp only [if_true] at hb;cases hb;exact hc
   ·simp only [if_neg e] at hb;exact h.sat b o hb
  ·intro m l hm
   by_cases e:m=n
   ·simp [e] at hm
   ·simp only [if_neg e] at hm
    exact LR.mono hle rfl (fun _ _=>rfl) (fun _ _ _=>rfl) (h.loc m l hm)
  ·intro m l b c' hm hb
   by_cases e:m=n
   ·simp [e] at hm
   ·simp only [if_neg e] at hm
    obtain ⟨q1,q2,q3⟩:=h.priv m l b c' hm hb
    refine ⟨q1,?_,.inr (q3.resolve_left (hnm _))⟩
    have:b≠Bs:=fun e2=>by subst e2;exact e (h.inj m n _ _ b _ _ hm hl hb hB)
    simp only [if_neg this]
    exact q2
  ·intro m m' l l' b c1 c2 hm hm' hb hb'
   by_cases e:m=n
   ·simp [e] at hm
   by_cases e':m'=n
   ·simp [e'] at hm'
   simp only [if_neg e] at hm
   simp only [if_neg e'] at hm'
   exact h.inj m m' l l' b c1 c2 hm hm' hb hb'
theorem RetQ.low {en:Ending} (hle:Le H0 H1) (hlow:∀ b,b<w0.heap.size->H1 b=H0 b)
  (h:RetQ ⟨w0,H1,B0,ps.map (·.1),N⟩ ps res qs en w):RetQ ⟨w0,H0,B0,ps.map (·.1),N⟩ ps res qs en w:=by
 obtain ⟨v,H', B', he,hp⟩:=h
 exact ⟨v,H', B', he,Le.trans hle hp.le,fun b hb=>(hp.low b hb).trans (hlow b hb),hp.sat,hp.loc,hp.priv,hp.inj,hp.keep,hp.res,hp.ext⟩
theorem leave_nil {R:Ending->World->Prop} {ex:Exit} (h:bodyPost P fn R ex a w):bodyPostM Fence.wide 9 P fn R ex a w:=by
 cases ex with
 | normal=>obtain ⟨hd,h⟩:=h;simp only [bodyPostM,hd];exact h
 | ret=>obtain ⟨hd,h⟩:=h;simp only [bodyPostM,hd];exact h
 | panic ch=>obtain ⟨hd,h⟩:=h;simp only [bodyPostM,hd];exact h
 | outgrown=>exact h
 | exit _=>exact h.elim
 | goto _=>exact h.elim
def RetX (P:Program) (fn:Func) (e:E) (res:V) (qs:List (Nat × L)) (ex:Exit) (a:Act) (w:World):Prop :=
  (ex = .ret\/ex = .normal)/\∃ rs f xs,fn.results=⟨rs⟩/\St e f a w/\zb4 (RV P f) rs xs/\resOf xs=res/\(∀ q ∈ qs,f.l q.1=some q.2)/\(res.tags++qs.flatMap fun q=>q.2.tags).all (zi1 (qs.map (·.1)))=true
theorem retX {K:List Nat} {rs:List ResultVar} (xs:List T) (h:St ⟨w0,H0,B0,K,N⟩ (F.of sl lc) a w) (n:Exit) (hn:n = .ret\/n = .normal) (hf:fn.results=⟨rs⟩) (hx:zb4 (RV P (F.of sl lc)) rs xs) (hres:resOf xs=res)
  (hq:leN (F.of sl lc) qs=qs.map fun p=>some p.2) (ht:(res.tags++qs.flatMap fun q=>q.2.tags).all (zi1 (qs.map (·.1)))=true):RetX P fn ⟨w0,H0,B0,K,N⟩ res qs n a w :=
 ⟨hn,rs,F.of sl lc,xs,hf,h,hx,hres,fun q hq1=>zbw hq q hq1,ht⟩
def markH (Dd:Nat):Im:=fun b=>if b=Dd then some (.deferred (some [])) else none
theorem leave_mark {Dd:Nat} (hle:Le H0 H1) (hlow:∀ b,b<w0.heap.size->H1 b=H0 b) (hD:w0.heap.size<=Dd) (hD1:∀ b o,H1 b=some o->b<Dd) {ex:Exit}
  (hd:a.defers=[{ target:=.collected Dd,args:=#[] }]) (h:RetX P fn ⟨w0,zf1 H1 (markH Dd),B0,ps.map (·.1),N⟩ res qs ex { a with defers:=[] } w) :
  bodyPostM Fence.wide 9 P fn (RetQ ⟨w0,H0,B0,ps.map (·.1),N⟩ ps res qs) ex a w:=by
 obtain ⟨hn,rs,f,xs,hf,hst,hx,hres,hq,ht⟩:=h
 have hH1:H1 Dd=none:=by
  cases h1:H1 Dd with
  | none=>rfl
  | some o=>have:=hD1 _ _ h1;omega
 have hJ:zf1 H1 (markH Dd) Dd=some (.deferred (some [])):=by unfold zf1 markH;rw [hH1];simp
 have hw:w.heap[Dd]?=some (.deferred (some [])):=by
  obtain ⟨H,B,hok⟩:=hst
  exact hok.sat _ _ (hok.le _ _ hJ)
 have hc:StC w0 H1 B0 (ps.map (·.1)) N f { a with defers:=[] } w:=StC.of hst (zks _ _) fun b o hb=>by
  rcases zho hb with h1 | ⟨_,h1⟩
  ·exact .inl h1
  ·unfold markH at h1
   split at h1
   ·cases h1;exact .inr rfl
   ·cases h1
 have hc2:=(hc.turn (w':=w.putObj Dd (.deferred none)) (r:=Dd) (z:=Dd) rfl rfl rfl (by simp) (fun b _ hb=>World.putObj_heap_other hb) hD (bL _) (fun o ho=>by rw [hw] at ho;cases ho;rfl) hD1).st
 have hb:=St.ret (P:=P) (ps:=ps) hc2 rfl hf hx hres hq ht .ret (.inl rfl)
 obtain ⟨_,v,hv,hr⟩:=hb
 have hl:LeavesInM Fence.wide 9 P fn a.tmps (RetQ ⟨w0,H0,B0,ps.map (·.1),N⟩ ps res qs) a.defers .returning w:=by
  rw [hd]
  exact ⟨by simp,.inl ⟨_,_,rfl,run_takeDeferred hw,v,hv,hr.low hle hlow⟩⟩
 rcases hn with rfl | rfl
 ·exact hl
 ·exact hl
theorem Fn.bodyR {c:Code} (hf:P.funcs[k]?=some fn) (hb:fn.body=some c) (N:Nat) (hN:args.length+(fn.ntmps - args.length)=N)
  (h:∀ (w:World) (H:Im) (B:Bl) (a:Act),St ⟨w,H,B,[],N⟩ (F.of (argS 0 args) []) a w->c.wp P (bodyPostM Fence.wide 9 P fn (RetQ ⟨w,H,B,[],N⟩ [] res qs)) a w):Fn P k [] args res qs:=by
 intro w H B vals pre
 refine callsIn_wide.1 (callsIn_of_wp_marks (n:=9) hf hb trivial (wpIn_wide.2 (h w H B _ ⟨H,B,rfl,?_,⟨rfl,rfl,rfl,bL _,fun _ _ _=>rfl⟩,pre.sat,?_,?_,?_,?_,fun _ _=>rfl,Le.refl _,fun _ _=>rfl,pre.tab⟩)))
 ·have:=pre.arg.length
  simp [<- hN,<- this]
 ·intro t v hv
  have h1:=(argS_get args 0 t v hv).2
  rw [cQ] at h1
  obtain ⟨ht,rfl⟩:=cX.1 h1
  obtain ⟨u,h2,h3⟩:=pre.arg.get t ht
  have htv:t<vals.length:=(cX.1 h2).1
  have:(((⟨vals⟩:Array Value)++Array.replicate (fn.ntmps - (⟨vals⟩:Array Value).size) undef).getD t undef)=u:=by
   rw [b8, Array.getElem?_append_left (by simpa using htv)]
   simp [h2]
  rw [this]
  exact h3
 ·intro n l hn;cases hn
 ·intro n l b c hn;cases hn
 ·intro n m l l' b c c' h1;cases h1
def ncH (W:World):Im:=fun b=>match W.heap[b]? with
  | some o=>if dat o then none else some o
  | none=>none
theorem ncH_some {W:World} (h:ncH W b=some o):W.heap[b]?=some o/\dat o=false:=by
 unfold ncH at h
 cases hb:W.heap[b]? with
 | none=>rw [hb] at h;cases h
 | some o' =>
  rw [hb] at h
  dsimp only at h
  split at h
  ·cases h
  ·rename_i hc;cases h;exact ⟨rfl,by simpa using hc⟩
theorem ncH_of {W:World} (h:W.heap[b]?=some o) (ho:dat o=false):ncH W b=some o:=by unfold ncH;rw [h];dsimp only;rw [ho];rfl
section
variable {w0:World} {H1:Im} {B0 Bx:Bl} {K Kn:List Nat} {N:Nat} {f:F} {a:Act} {w W:World}
theorem St.nc (hs:∀ b o,H1 b=some o->W.heap[b]?=some o) (h:St ⟨w0,zf1 H1 (ncH W),B0,K,N⟩ f a w) (hb:W.heap[b]?=some o) (ho:dat o=false):w.heap[b]?=some o:=by
 obtain ⟨H,B,h⟩:=h
 refine h.sat b o (h.le b o ?_)
 show zf1 H1 (ncH W) b=some o
 unfold zf1
 cases h1:H1 b with
 | none=>exact ncH_of hb ho
 | some o'=>have:=hs b o' h1;rw [hb] at this;exact this.symm
theorem St.uncut (h:St ⟨w0,zf1 H1 (ncH W),B0,K,N⟩ f a w):StC w0 H1 B0 K N f a w:=StC.of h (zks _ _) fun b o hb=>by
 rcases zho hb with h1 | ⟨_,h1⟩
 ·exact .inl h1
 ·exact .inr (ncH_some h1).2
theorem StC.jn (h:StC w0 H1 B0 K N f a w):St ⟨w0,zf1 H1 (ncH w),B0,K,N⟩ f a w:=St.join h.st _ fun _ _ hb=>ncH_some hb
theorem StC.sat (h:StC w0 H1 B0 K N f a w):∀ b o,H1 b=some o->w.heap[b]?=some o:=fun b o hb=>by
 obtain ⟨H,B,h,_⟩:=h
 exact h.sat b o (h.le b o hb)
theorem StC.open (hb:∀ n ∈ Kn,∀ b c,Bx n=some (b,c)->w0.heap.size<=b) (h:StC w0 H1 Bx Kn N f a w):St ⟨w0,H1,B0,[],N⟩ f a w:=by
 obtain ⟨H,B,h,_⟩:=h
 have hm:∀ b,(⟨w0,H1,Bx,Kn,N⟩:E).may b->w0.heap.size<=b:=fun b ⟨n,hn,c,h1⟩=>hb n hn b c h1
 refine ⟨H,B,h.df,h.n,⟨h.ext.os,h.ext.tape,h.ext.output,h.ext.size,fun b h1 _=>h.ext.block b h1 fun h2=>by have:=hm b h2;have h1:b<w0.heap.size:=h1;omega⟩,h.sat,h.slot,h.loc,fun n l b c hn h1=>?_,h.inj,h.low,h.le,fun n hn=>(by cases hn),h.tab⟩
 obtain ⟨p1,p2,p3⟩:=h.priv n l b c hn h1
 exact ⟨p1,p2,.inr (p3.elim (hm b) id)⟩
theorem StC.params {p1 p2:Nat} {x1 x2:V} {v1 v2:Value} (h:StC w0 H1 Bx Kn N (F.of sl lc) a w) (hp:p1≠p2) (h1:p1<N) (h2:p2<N) (hv:∀ B,VR H1 B x1 v1/\VR H1 B x2 v2) :
  StC w0 H1 Bx Kn N (F.of ((p1,x1) :: (p2,x2) :: sl) lc) { tmps:=(#[p1,p2].zip #[v1,v2]).foldl (fun t (p,v)=>t.setIfInBounds p v) a.tmps,defers:=[] } w:=by
 obtain ⟨H,B,h,hc⟩:=h
 have hn:a.tmps.size=N:=h.n
 have ht:(#[p1,p2].zip #[v1,v2]).foldl (fun t (p,v)=>t.setIfInBounds p v) a.tmps=(a.tmps.setIfInBounds p1 v1).setIfInBounds p2 v2:=by simp
 refine ⟨H,B,⟨rfl,?_,h.ext,h.sat,fun t v hv2=>?_,h.loc,h.priv,h.inj,h.low,h.le,h.keep,h.tab⟩,hc⟩
 ·show ((#[p1,p2].zip #[v1,v2]).foldl (fun t (p,v)=>t.setIfInBounds p v) a.tmps).size=N
  rw [ht];simpa using hn
 ·show VR H B v (((#[p1,p2].zip #[v1,v2]).foldl (fun t (p,v)=>t.setIfInBounds p v) a.tmps).getD t undef)
  rw [ht]
  have hv2:((p1,x1) :: (p2,x2) :: sl).lookup t=some v:=hv2
  rw [List.lookup_cons] at hv2
  by_cases e1:t=p1
  ·subst e1
   simp only [beq_self_eq_true] at hv2
   cases hv2
   have:((a.tmps.setIfInBounds t v1).setIfInBounds p2 v2).getD t undef=v1:=by
    rw [b8, dO (by omega),d6 (by omega)];rfl
   rw [this]
   exact VR.mono h.le (fun _ _=>rfl) (hv B).1
  ·rw [beq_eq_false_iff_ne.2 e1] at hv2
   dsimp only at hv2
   rw [List.lookup_cons] at hv2
   by_cases e2:t=p2
   ·subst e2
    simp only [beq_self_eq_true] at hv2
    cases hv2
    have:((a.tmps.setIfInBounds p1 v1).setIfInBounds t v2).getD t undef=v2:=by
     rw [b8, d6 (by simp;omega)];rfl
    rw [this]
    exact VR.mono h.le (fun _ _=>rfl) (hv B).2
   ·rw [beq_eq_false_iff_ne.2 e2] at hv2
    dsimp only at hv2
    have:((a.tmps.setIfInBounds p1 v1).setIfInBounds p2 v2).getD t undef=a.tmps.getD t undef:=by
     rw [b8, dO (by omega),dO (by omega),<- b8]
    rw [this]
    exact h.slot t v hv2
theorem StC.again {a':Act} (h:StC w0 H1 Bx Kn N (F.of [] lc) a' w) (hd:a.defers=[]) (hn:a.tmps.size=N) (hs:∀ t v,(F.of sl lc).s t=some v->VR H1 Bx v (a.tmps.getD t undef)) (hK:(sl.all fun p=>p.2.tags.all (zi1 Kn))=true):StC w0 H1 Bx Kn N (F.of sl lc) a w:=by
 obtain ⟨H,B,h,hc⟩:=h
 refine ⟨H,B,⟨hd,hn,h.ext,h.sat,fun t v hv=>VR.mono h.le (fun n hm=>h.keep n ?_) (hs t v hv),h.loc,h.priv,h.inj,h.low,h.le,h.keep,h.tab⟩,hc⟩
 exact zer.1 (bM.1 (bM.1 hK (t,v) (zau hv)) n hm)
end
theorem rangeB {p1 p2 id n gf:Nat} {assign body rest:Code} {xs:D} {e:Nat->V × V} {Q0:Exit->Act->World->Prop}
  (Kn:List Nat) (sl':List (Nat × V)) (lcs:Nat->List (Nat × L)) (slA:Nat->List (Nat × V)) (lcA:Nat->List (Nat × L)) (h:St ⟨w0,H0,B0,[],N⟩ (F.of sl lc) a w) (it:IterOk P gf xs m e) (hk:zbg P gf)
  (hs:(F.of sl lc).s t=some (.t (.c (.fn (.func gf) [] [.ptr n 0])))) (hl:(F.of sl lc).l n=some (.box [.d xs])) (hp:p1≠p2) (hp1:p1<N) (hp2:p2<N)
  (h1:leS (F.of sl lc) sl'=sl'.map fun p=>some p.2) (h2:leN (F.of sl lc) (lcs 0)=(lcs 0).map fun p=>some p.2) (h3:((lcs 0).all fun p=>!(p.1 == n))=true) (hK:(sl'.all fun p=>p.2.tags.all (zi1 Kn))=true) (hK2:(Kn.all fun k=>((F.of sl lc).l k).isSome)=true)
  (hassign:∀ (H:Im) (B:Bl) (l j:Nat) (a:Act) (w:World),j<m->St ⟨w0,H,B,Kn,N⟩ (F.of ((p1,(e j).1) :: (p2,(e j).2) :: sl') (lcs j)) a w->wpX (some l) [] P assign (fun ex a w=>ex = .normal/\St ⟨w0,H,B,Kn,N⟩ (F.of (slA j) (lcA j)) a w) a w)
  (hbody:∀ (H:Im) (B:Bl) (l j:Nat) (a:Act) (w:World),j<m->St ⟨w0,H,B,Kn,N⟩ (F.of (slA j) (lcA j)) a w->wpX (some l) [] P body (fun ex a w=>ex = .normal/\St ⟨w0,H,B,Kn,N⟩ (F.of [] (lcs (j+1))) a w) a w)
  (hrest:∀ (H:Im) (Dd:Nat) (a:Act) (w:World),St ⟨w0,H,B0,[],N⟩ (F.of sl' (lcs m)) a w->wpX none [{ target:=.collected Dd,args:=#[] }] P rest (RetX P fn ⟨w0,H,B0,[],N⟩ res qs) a w) :
  (Code.block id (.rangeFunc (.tmp t) #[p1,p2] assign body)).wp P (Exit.then (fun a w=>rest.wp P (bodyPostM Fence.wide 9 P fn (RetQ ⟨w0,H0,B0,[],N⟩ [] res qs)) a w) Q0) a w:=by
 have hdf:a.defers=[]:=by obtain ⟨_,_,h⟩:=h;exact h.df
 obtain ⟨H1,Bx,Bs,sv,ty,hle,hlow,hBs,hxs,hfn,hbx,hslot,hok⟩:=St.fix Kn h hl
 obtain ⟨ev,hev,hit⟩:=it H1 Bs sv ty hBs hxs
 have hn0:a.tmps.size=N:=hok.n
 have hH1:∀ b o,H1 b=some o->b<w.heap.size:=fun b o hb=>(cF.1 (hok.sat b o hb)).1
 have hKb:∀ k ∈ Kn,∀ b c,Bx k=some (b,c)->w0.heap.size<=b:=fun k hk b c hb=>by
  obtain ⟨l,hl⟩:=dN.1 (bM.1 hK2 k hk)
  exact hbx k l b c hl hb
 have hsl:∀ t v,sl'.lookup t=some v->VR H1 Bx v (a.tmps.getD t undef):=fun t v hv=>hslot t v (zbw h1 (t,v) (zau hv))
 have hws:w0.heap.size<=w.heap.size:=hok.ext.size
 have hfl:(⟨(F.of sl lc).s,fun m=>if m=n then none else (F.of sl lc).l m⟩:F).le (F.of sl' (lcs 0)):=by
  refine ⟨fun t v hv=>zbw h1 (t,v) (zau hv),fun k l hk=>?_⟩
  have hm:=zau hk
  have hne:k≠n:=by have:=bM.1 h3 _ hm;simpa using this
  simp only [if_neg hne]
  exact zbw h2 (k,l) hm
 have hst0:StC w0 H1 Bx Kn N (F.of sl' (lcs 0)) a w :=
  ⟨H1,Bx,⟨hok.df,hok.n,hok.ext,hok.sat,fun t v hv=>hok.slot t v (hfl.1 t v hv),fun k l hk=>hok.loc k l (hfl.2 k l hk),fun k l b c hk=>hok.priv k l b c (hfl.2 k l hk),fun k k' l l' b c c' hk hk'=>hok.inj k k' l l' b c c' (hfl.2 k l hk) (hfl.2 k' l' hk'),hok.low,hok.le,hok.keep,hok.tab⟩,fun b o hb => .inl hb⟩
 refine (wpIn_wide (n:=9)).1 (wpIn_block (wpIn_rangeFunc fun fnid _=>?_))
 obtain ⟨rec,hrec⟩:∃ rec:LoopState->Option Code->Loop,rec=fun st pe=>{ state:=st,pending:=pe,fn:=fnid,tmps:=a.tmps,params:=#[p1,p2],assign,body,defers:=w.heap.size }:=⟨_,rfl⟩
 obtain ⟨W1,hW1⟩:∃ W1,(w.alloc (.deferred (some []))).alloc (.loop (rec .ready none))=W1:=⟨_,rfl⟩
 have hL1:W1.heap[w.heap.size+1]?=some (.loop (rec .ready none)):=by
  rw [<- hW1];have:=World.alloc_heap_new (w.alloc (.deferred (some []))) (.loop (rec .ready none));rwa [World.size_alloc] at this
 have hK1:W1.heap[w.heap.size]?=some (.deferred (some [])):=by
  rw [<- hW1];exact (Below.heap_alloc _ _ _ (by simp)).trans (World.alloc_heap_new w _)
 have hbelow:Below w.heap.size w W1:=by rw [<- hW1];exact ((Below.refl _ w).alloc (bL _) _).alloc (by simp) _
 have hst1:StC w0 H1 Bx Kn N (F.of sl' (lcs 0)) a W1 :=
  hst0.turn (r:=W1.heap.size) (z:=w.heap.size) hbelow.os hbelow.tape hbelow.output hbelow.size (fun b hb _=>hbelow.block b hb) hws hbelow.size (fun o ho=>by have:=(cF.1 ho).1;have:=hbelow.size;omega) hH1
 -- a turn of the record keeps the state
 have hturn:∀ {K':List Nat} {B':Bl} {f:F} {a':Act} {W:World} (l:Nat) (o o':Obj),w.heap.size<=l->W.heap[l]?=some o->dat o=false->StC w0 H1 B' K' N f a' W->StC w0 H1 B' K' N f a' (W.putObj l o'):=fun l o o' hl ho hc hst =>
  hst.turn (r:=l) (z:=w.heap.size) rfl rfl rfl (by simp) (fun b _ hb=>World.putObj_heap_other hb) hws hl (fun o2 ho2=>by rw [ho] at ho2;cases ho2;exact hc) hH1
 have hfn1:a.eval (.tmp t) = .func (.func gf) #[] #[.pointer (some ⟨Bs,0,none⟩)]:=hfn t gf hs
 refine ⟨w.heap.size+1,[{ target:=.collected w.heap.size,args:=#[] }],W1,{ target:=.fn (.func gf) #[.pointer (some ⟨Bs,0,none⟩)],args:=#[.func (.yield (w.heap.size+1)) #[] #[]] }, W1,gf,
  #[.func (.yield (w.heap.size+1)) #[] #[]]++#[.pointer (some ⟨Bs,0,none⟩)],W1,?_,?_,fun _ _=>trivial,?_,fun h=>(by cases h),?_⟩
 ·rw [<- hW1,hrec];exact run_enterLoop_outer _ _ _ _ _
 ·simp only [resolve,hfn1]
  simp [go_sem]
 ·simp [invoke,go_sem,zje hk]
 ·refine (hit (w.heap.size+1) (fun j W=>StC w0 H1 Bx Kn N (F.of sl' (lcs j)) a W/\W.heap[w.heap.size+1]?=some (.loop (rec .ready none))/\W.heap[w.heap.size]?=some (.deferred (some []))) W1 (fun j W hJ=>hJ.1.sat) ?_ ⟨hst1,hL1,hK1⟩).mono ?_
  ·rintro j W ⟨hst,hl,hd⟩ hj
   have hy:=run_yield (P:=P) (args:=#[(ev j).1,(ev j).2]) hl (by rw [hrec];rfl)
   rw [hrec] at hy
   refine ⟨fnid,_,assign,body,hy,roundIn_of_wpIn trivial ?_⟩
   have hA:=hassign _ Bx (w.heap.size+1) j _ W hj (hst.params hp hp1 hp2 (fun B=>hev B j hj)).jn
   refine wpIn_depth (n:=9) rfl (wpIn_mono hA ?_)
   rintro ex ⟨tm,dfs⟩ w1 ⟨hd1,rfl,hS⟩
   cases hd1
   have hl1:=hS.nc hst.sat hl rfl
   have hdd1:=hS.nc hst.sat hd rfl
   refine ⟨_,run_beginRound hl1 (by rw [hrec]),?_⟩
   obtain ⟨W2,hW2⟩:∃ W2,w1.putObj (w.heap.size+1) (.loop { rec .ready none with state:=.busy })=W2:=⟨_,rfl⟩
   rw [hW2]
   have hst2:=hturn (w.heap.size+1) _ (.loop { rec .ready none with state:=.busy }) (by omega) hl1 rfl hS.uncut
   rw [hW2] at hst2
   have hl2:W2.heap[w.heap.size+1]?=some (.loop { rec .ready none with state:=.busy }):=by rw [<- hW2];exact World.putObj_heap_same (cF.1 hl1).1
   have hdd2:W2.heap[w.heap.size]?=some (.deferred (some [])):=by rw [<- hW2];exact (World.putObj_heap_other (by omega)).trans hdd1
   have hB:=hbody _ Bx (w.heap.size+1) j _ W2 hj hst2.jn
   refine wpIn_depth (n:=9) rfl (wpIn_mono hB ?_)
   rintro ex ⟨tm3,dfs3⟩ w3 ⟨hd3,rfl,hS3⟩
   cases hd3
   have hl3:=hS3.nc hst2.sat hl2 rfl
   have hdd3:=hS3.nc hst2.sat hdd2 rfl
   have hend:=run_endRound (P:=P) none hl3
   refine ⟨_,_,hend,rfl,?_,?_,?_⟩
   ·exact hturn (w.heap.size+1) _ _ (by omega) hl3 rfl (hS3.uncut.again hdf hn0 hsl hK)
   ·rw [World.putObj_heap_same (cF.1 hl3).1,hrec];rfl
   ·exact (World.putObj_heap_other (by omega)).trans hdd3
  ·rintro en W2 ⟨⟨v,rfl⟩,hst,hl,hd⟩
   have hend:=run_endLoop (P:=P) hl (by rw [hrec];simp)
   refine ⟨_,_,hend,?_⟩
   rw [hrec]
   have hstE:=hturn (w.heap.size+1) _ (.loop { rec .ready none with state:=.exhausted }) (by omega) hl rfl hst
   have hdE:(W2.putObj (w.heap.size+1) (.loop { rec .ready none with state:=.exhausted })).heap[w.heap.size]?=some (.deferred (some [])):=(World.putObj_heap_other (by omega)).trans hd
   rw [hrec] at hstE hdE
   have hR:=hrest (zf1 H1 (markH w.heap.size)) w.heap.size a _ (St.join (hstE.open hKb) _ fun b o hb=>by
    unfold markH at hb
    split at hb
    ·rename_i e;subst e;cases hb;exact ⟨hdE,rfl⟩
    ·cases hb)
   refine (wpIn_wide (n:=9)).1 (wpIn_mono (show rest.wpIn Fence.wide 9 P _ { a with defers:=[{ target:=.collected w.heap.size,args:=#[] }]++a.defers } _ from by rw [hdf];exact hR) ?_)
   rintro ex a' w' ⟨hd', hr⟩
   exact leave_mark (ps:=[]) hle hlow hws hH1 hd' hr
theorem dfS (h:St e f a w):a.defers=[]:=let ⟨_,_,h⟩:=h;h.df
attribute [local go_sem] Oper.semAt_some
def zct (zs:List Int) (j:Nat):Int:=(zs[zs.length - 1 - j]?).getD 0
theorem back_ints (zs:List Int) (hz:zs.length<=1000000):IterOk eE 107 (.sl 1 (zs.map za8)) zs.length (fun j=>(vi .i64 ((zs.length - 1 - j:Nat):Int),vi .i64 (zct zs j))):=by
 intro H1 Bs sv ty hBs hxs
 refine ⟨fun j=>(.int .i64 ((zs.length:Int) - 1 - j),.int .i64 (zct zs j)),fun B j hj=>⟨?_,.raw _ rfl⟩,fun l J W hJs hY h0=>?_⟩
 ·show VR H1 B (vi .i64 ((zs.length - 1 - j:Nat):Int)) _
  rw [show ((zs.length - 1 - j:Nat):Int)=(zs.length:Int) - 1 - j by omega];exact .raw _ rfl
 have hcB:∀ j W,J j W->W.cell? ⟨Bs,0,none⟩=some sv:=fun j W hJ=>ze7 (hJs j W hJ _ _ hBs) rfl
 have hc0:=hcB 0 W h0
 obtain ⟨ao,c,rfl,hel⟩:∃ ao c,sv = .slice ao zs.length c/\∀ k,k<zs.length->∃ b o,ao=some ⟨b,o,none⟩/\∀ j W,J j W->W.cell? ⟨b,o+k,none⟩=some (.int .i64 ((zs[k]?).getD 0)):=by
  cases hz0:zs with
  | nil =>
   rw [hz0] at hxs
   generalize hxd:D.sl 1 (([]:List Int).map za8)=xd at hxs
   cases hxs with
   | raw=>cases hxd
   | nil es ao c h hc=>exact ⟨ao,c,rfl,fun k hk=>absurd hk (dP k)⟩
   | sl es rows b o c arr ty fz vs hp=>injection hxd with _ h2;subst h2;simp at hp
  | cons z zs' =>
   rw [<- hz0]
   generalize hxd:D.sl 1 (zs.map za8)=xd at hxs
   cases hxs with
   | raw=>cases hxd
   | nil es ao c h hc=>injection hxd with _ h2;rw [hz0] at h2;cases h2
   | sl es rows b o c arr ty fz vs hp hb hl hc hes hv hr =>
    injection hxd with h1 h2
    subst h1 h2
    refine ⟨some ⟨b,o,none⟩,c,by simp,fun k hk=>⟨b,o,rfl,fun j W hJ=>?_⟩⟩
    have hkl:k<(zs.map za8).length:=by simpa using hk
    have h3:=hv k hkl 0 (by decide)
    have h4:=hr k hkl 0 (by simp [za8])
    rw [Nat.mul_one,Nat.add_zero] at h3
    have h5:vs k 0 = .int .i64 ((zs[k]?).getD 0):=by
     have h6:(((zs.map za8)[k]'hkl)[0]'(by simp [za8])) = .raw (.int .i64 ((zs[k]?).getD 0)):=by simp [za8,hk]
     rw [h6] at h4
     generalize vs k 0=u at h4
     cases h4;rfl
    rw [h5] at h3
    exact ze7 (hJs j W hJ _ _ hb) (by simpa using h3)
 refine callsIn_of_wp Tryz.func107 rfl trivial ?_ rfl
 simp only [Tryz.ntmps107,List.size_toArray,List.length_cons,dL,Nat.reduceAdd,Nat.reduceSub,Array.replicate_succ,Array.replicate_zero,List.push_toArray,List.append_toArray,dI,dQ]
 gi_wp2
 gi_loopw [3] (fun i wr=>∃ k:Nat,k<=zs.length/\i = .int .i64 ((zs.length:Int) - 1 - k)/\J k wr) (fun i _=>(intOf i+1).toNat)
 case atStart=>exact ⟨0,bG _,by simp,h0⟩
 case round =>
  obtain ⟨k,hk,rfl,hJk⟩:=hrel
  have hcw:=hcB k wr hJk
  by_cases hlt:k<zs.length
  ·obtain ⟨fn,tmps,assign,body,hy,hR⟩:=hY k wr hJk hlt
   obtain ⟨b,o,rfl,hcell⟩:=hel (zs.length - 1 - k) (by omega)
   have hcx:=hcell k wr hJk
   have e1:((zs.length:Int) - 1 - k).toNat=zs.length - 1 - k:=by omega
   have hge:decide ((zs.length:Int) - 1 - k>=0)=true:=decide_eq_true (by omega)
   unfold zct at hy
   try dsimp only at hy
   gi_wp2
   refine hR.mono ?_
   rintro e W3 ⟨rfl,hJ3⟩
   gi_wp2
   go_roundw
   case rel=>exact ⟨k+1,by omega,by first | rfl | (simp;omega),hJ3⟩
   case measure=>simp [intOf];omega
  ·obtain rfl:k=zs.length:=by omega
   gi_wp2
   go_end0
   exact ⟨⟨_,rfl⟩,hJk⟩
theorem SRSmall (x:ZI) (hx:Lb x.abs) (lx:x.abs.length<=300000):Fn eE 74 [] [vz x] (.tup [.c (cI (zbv x.val).1),.c (cB (zbv x.val).2)]) []:=by
 intro w H B vals pre
 have ha:=pre.arg
 obtain ⟨a,rfl,h1⟩:∃ a,vals=[a]/\VR H B (vz x) a:=by
  match vals,ha with
  | [a],h=>exact ⟨a,rfl,h.1⟩
  | [],h=>exact h.elim
  | _ :: _ :: _,h=>exact h.2.elim
 obtain ⟨ao,c,rfl,r1⟩:=openZ2 h1 hx
 refine (RSmall_any x.neg ao _ c x.abs w _ _ rfl (r1 w pre.sat) lx rfl).mono fun e w' h=>?_
 obtain ⟨rfl,hE⟩:=h
 exact ⟨_,_,_,rfl,postE hE pre.sat ⟨_,rfl,DR.raw _ rfl,DR.raw _ rfl,trivial⟩⟩
def wdB (b:zaj):Int × Bool:=if b.is_=false then (0,false) else if b.hi.val<b.lo.val then (0,true) else if 1048576<b.hi.val - b.lo.val+1 then (0,false) else (b.hi.val - b.lo.val+1,true)
theorem wdB_le (b:zaj):0<=(wdB b).1/\(wdB b).1<=1048576:=by
 unfold wdB
 split
 ·decide
 ·split
  ·decide
  ·split
   ·decide
   ·refine ⟨?_,?_⟩ <;> simp only [] <;> omega
theorem small_of {z:Int} (h1:-9223372036854775808<=z) (h2:z<=9223372036854775807):zbv z=(z,true):=if_pos ⟨h1,h2⟩
def wdS (s:zab) (v:Nat):Int:=if (wdB (zam s v)).2=true then (wdB (zam s v)).1 else -1
theorem bnd_no19 {s:zab} (h:s.bounds.length<=v):zam s v=bnd0:=by unfold zam;rw [b9 h];rfl
theorem zcl {s:zab} {b:zaj} (h:s.bounds[v]?=some b):zam s v=b:=by unfold zam;rw [h];rfl
theorem wdB_no {b:zaj} (h:b.is_=false):wdB b=(0,false):=if_pos h
theorem wdB_zero {b:zaj} (h:b.is_=true) (hz:b.hi.val - b.lo.val+1<=0):wdB b=(0,true):=(if_neg (by rw [h];exact Bool.noConfusion)).trans (if_pos (by omega))
theorem wdB_big {b:zaj} (h:b.is_=true) (hz:1048576<b.hi.val - b.lo.val+1):wdB b=(0,false):=(if_neg (by rw [h];exact Bool.noConfusion)).trans ((if_neg (by omega)).trans (if_pos hz))
theorem wdB_val {b:zaj} (h:b.is_=true) (hz:0<b.hi.val - b.lo.val+1) (hz2:b.hi.val - b.lo.val+1<=1048576):wdB b=(b.hi.val - b.lo.val+1,true):=(if_neg (by rw [h];exact Bool.noConfusion)).trans ((if_neg (by omega)).trans (if_neg (by omega)))
theorem wdS_no {s:zab} (h:(zam s v).is_=false):wdS s v=-1:=by unfold wdS;rw [wdB_no h];rfl
theorem wdS_zero {s:zab} (h:(zam s v).is_=true) (hz:(zam s v).hi.val - (zam s v).lo.val+1<=0):wdS s v=0:=by unfold wdS;rw [wdB_zero h hz];rfl
theorem wdS_big {s:zab} (h:(zam s v).is_=true) (hz:1048576<(zam s v).hi.val - (zam s v).lo.val+1):wdS s v=-1:=by unfold wdS;rw [wdB_big h hz];rfl
theorem wdS_val {s:zab} (h:(zam s v).is_=true) (hz:0<(zam s v).hi.val - (zam s v).lo.val+1) (hz2:(zam s v).hi.val - (zam s v).lo.val+1<=1048576):wdS s v=(zam s v).hi.val - (zam s v).lo.val+1:=by unfold wdS;rw [wdB_val h hz hz2];rfl
theorem sgn_le0 (h:sgn x<=0):x<=0:=by unfold sgn at h;split at h <;> (try split at h) <;> omega
theorem sgn_gt0 (h:¬ sgn x<=0):0<x:=by unfold sgn at h;split at h <;> (try split at h) <;> omega
theorem Owidth (b:zaj) {L:Nat} (hb:ZOk L b.lo/\ZOk L b.hi) (hL:L<=1000):Fn eE 81 [] [.t (.agg ([.d (.raw (.bool b.is_))]++zi b.lo++zi b.hi))] (.tup [.c (.d (.raw (.int .i64 (wdB b).1))),.c (.d (.raw (.bool (wdB b).2)))]) []:=by
 have lb1:=hb.1.2;have lb2:=hb.2.2;refine fB Tryz.func81 rfl 35 fun w H B a h=>Jq 0 [] [(1,vp 0 0),(2,vI 0),(3,vb false)] [(0,.box ([.d (.raw (.bool b.is_))]++zi b.lo++zi b.hi))] h fun a w h=>qW (Je 1 [] [] [(8,vb (!b.is_))] h fun a w h=>cS (!b.is_) h (fun hc1=>?_) (fun hc2=>?_))
 ·refine Je 1 [] [8] [] h fun a w h=>qV (za2 (zdp [.c (.d (.raw (.int .i64 0))),.c (.d (.raw (.bool false)))] h Exit.ret (.inl rfl)  rfl ⟨vT9,vT9,trivial⟩ ?_));show _=_;unfold wdB;rw [if_pos (show (b.is_)=false from by simpa using hc1)];rfl
 refine qU (za0 ?_);obtain ⟨r1,er1,vr1,or1,lr1⟩:=mkZ (v:=b.hi.val - b.lo.val) (m:=b.hi.abs.length+b.lo.abs.length+1) (len_sub hb.2.1 hb.1.1);obtain ⟨r2,er2,vr2,or2,lr2⟩:=mkZ (v:=1) (m:=2) (ZI.len_of (by have:=pw2;omega));obtain ⟨r3,er3,vr3,or3,lr3⟩:=mkZ (v:=r1.val+r2.val) (m:=r1.abs.length+r2.abs.length+1) (ze4 or1 or2);refine Je 1 [(4,.call (eF (SSub b.hi b.lo hb.2.1 hb.1.1 (by omega) (by omega)) (congrArg vz er1.symm))),(5,.call (eF (SOf 1 ⟨by omega,by omega⟩) (congrArg vz er2.symm))),(6,.call (eF (SAdd r1 r2 or1 or2 (by omega) (by omega)) (congrArg vz er3.symm))),(7,.call (SSmall r3 or3 (by omega)))] [8] [(4,vI (zbv r3.val).1),(5,vb (zbv r3.val).2)] h fun a w h=>qW (qZ (Jg 1 [(4,.call (SCmp b.lo b.hi hb.1.1 hb.2.1 (by omega) (by omega)))] [1] [(20,vb (decide (zel b.lo.val b.hi.val>0)))] [0] [] h fun a w h=>zag (zel b.lo.val b.hi.val>0) h (fun hc3 hc3'=>?_) (fun hc4 hc4'=>?_)))
 ·refine Jg 1 [] [5,20] [(3,vb true)] [] [] h fun a w h=>qV (za6 (za2 (zdp [.c (.d (.raw (.int .i64 0))),.c (.d (.raw (.bool true)))] h Exit.ret (.inl rfl)  rfl ⟨vT9,vT9,trivial⟩ ?_)));show _=_;unfold wdB;rw [if_neg (by rw [(show (b.is_)=true from by simpa using hc2)];exact Bool.noConfusion)];rw [if_pos (dT ((zf5 _ _).symm.trans hc3))];rfl
 rcases bI (zbv r3.val).2 with hc5 | hc8
 ·rw [hc5] at h;refine Jq 1 [] [(2,vI 0),(3,vb false),(4,vI (zbv r3.val).1),(27,vb (decide ((zbv r3.val).1>1048576)))] [] h fun a w h=>zag ((zbv r3.val).1>1048576) h (fun hc6 hc6'=>?_) (fun hc7 hc7'=>?_)
  ·refine Jg 1 [] [27] [] [] [] h fun a w h=>qV (za6 (za2 (zdp [.c (.d (.raw (.int .i64 0))),.c (.d (.raw (.bool false)))] h Exit.ret (.inl rfl)  rfl ⟨vT9,vT9,trivial⟩ ?_)));show _=_;unfold wdB;rw [if_neg (by rw [(show (b.is_)=true from by simpa using hc2)];exact Bool.noConfusion)];rw [if_neg (dF ((zf5 _ _).symm.trans hc4))];have hz9:r3.val=b.hi.val - b.lo.val+1:=by omega
   have hle9:=dF ((zf5 _ _).symm.trans hc4);have hs9:=(small_val hc5).1;rw [if_pos (by have:=dT hc6;omega)];rfl
  refine qU (za5 (za0 (Jq 1 [] [(2,vI (zbv r3.val).1),(3,vb true)] [] h fun a w h=>qV (zdp [.c (.d (.raw (.int .i64 (zbv r3.val).1))),.c (.d (.raw (.bool true)))] h Exit.ret (.inl rfl)  rfl ⟨vT9,vT9,trivial⟩ ?_))));show _=_;unfold wdB;rw [if_neg (by rw [(show (b.is_)=true from by simpa using hc2)];exact Bool.noConfusion)];rw [if_neg (dF ((zf5 _ _).symm.trans hc4))];have hz9:r3.val=b.hi.val - b.lo.val+1:=by omega
  have hle9:=dF ((zf5 _ _).symm.trans hc4);have hs9:=(small_val hc5).1;rw [if_neg (by have:=dF hc7;omega),hs9,hz9];rfl
 rw [hc8] at h;refine Jq 1 [] [(2,vI 0),(3,vb false),(4,vI (zbv r3.val).1),(27,vb true)] [] h fun a w h=>cS true h (fun _=>?_) nofun
 refine Jg 1 [] [27] [] [] [] h fun a w h=>qV (za6 (za2 (zdp [.c (.d (.raw (.int .i64 0))),.c (.d (.raw (.bool false)))] h Exit.ret (.inl rfl)  rfl ⟨vT9,vT9,trivial⟩ ?_)));show _=_;unfold wdB;rw [if_neg (by rw [(show (b.is_)=true from by simpa using hc2)];exact Bool.noConfusion)];rw [if_neg (dF ((zf5 _ _).symm.trans hc4))];have hz9:r3.val=b.hi.val - b.lo.val+1:=by omega
 have hle9:=dF ((zf5 _ _).symm.trans hc4);rw [if_pos (by have:=small_big (m:=1048576) hc8 (by omega) (by decide);omega)];rfl
theorem ORwidth (s:zab) (v:Nat) {L:Nat} (hs:zaw L s) (hL:L<=1000):Fn eE 37 [] [vG (zat s),vN v] (vI (wdS s v)) []:=by
 have lb9:=hs.bnds;refine fB Tryz.func37 rfl 50 fun w H B a h=>Jq 0 [] [(1,vN v),(2,vp 0 0),(4,vI 0)] [(0,.box (zat s))] h fun a w h=>qW ?_
 rcases bI (decide ((v:Int)>=(s.bounds.length:Int))) with hc1 | hc2
 ·have hc1':=dT hc1;refine Je 1 [(3,.len (za1 5 zaj.d s.bounds)),(4,.cmp (op:=.geq) (m:=(v:Int)) (n:=(s.bounds.length:Int)) (b:=true) .i64 hc1)] [] [(21,vb true)] h fun a w h=>cS true h (fun _=>?_) nofun
  refine Je 1 [] [21] [(4,vI (-1))] h fun a w h=>qV (za2 (rT (.c (cI (-1))) h rfl ?_));exact congrArg (vi .i64) (wdS_no (by rw [bnd_no19 (by have:=dT hc1;omega)];rfl)).symm
 have hc2':=dF hc2;obtain ⟨x1,hx1⟩:=gl s.bounds v;have gx1:=hs.bnd x1 (lM hx1);have l1x1:=gx1.1.2;have l2x1:=gx1.2.2;refine Je 1 [(3,.len (za1 5 zaj.d s.bounds)),(4,.cmp (op:=.geq) (m:=(v:Int)) (n:=(s.bounds.length:Int)) (b:=false) .i64 hc2),(9,.g (xD 17 15 kf_0 (za4 hx1 (f:=zaj.d)) (eG 16 _)))] [] [(21,vb (!x1.is_))] h fun a w h=>cS (!x1.is_) h (fun hc3=>?_) (fun hc4=>?_)
 ·refine Je 1 [] [21] [(4,vI (-1))] h fun a w h=>qV (za2 (rT (.c (cI (-1))) h rfl ?_));exact congrArg (vi .i64) (wdS_no (by rw [zcl hx1];exact (show (x1.is_)=false from by simpa using hc3))).symm
 refine qU (za0 ?_);obtain ⟨r2,er2,vr2,or2,lr2⟩:=mkZ (v:=x1.hi.val - x1.lo.val) (m:=x1.hi.abs.length+x1.lo.abs.length+1) (len_sub gx1.2.1 gx1.1.1);obtain ⟨r3,er3,vr3,or3,lr3⟩:=mkZ (v:=1) (m:=2) (ZI.len_of (by have:=pw2;omega));obtain ⟨r4,er4,vr4,or4,lr4⟩:=mkZ (v:=r2.val+r3.val) (m:=r2.abs.length+r3.abs.length+1) (ze4 or2 or3);refine Jq 1 [(3,.g (xD 25 23 kf_0 (za4 hx1 (f:=zaj.d)) (eG 24 _))),(9,.g (xD 31 29 kf_0 (za4 hx1 (f:=zaj.d)) (eG 30 _))),(12,.call (eF (SRSub x1.hi x1.lo gx1.2.1 gx1.1.1 (by omega) (by omega)) (congrArg vz er2.symm))),(13,.call (eF (SROf 1 ⟨by omega,by omega⟩) (congrArg vz er3.symm))),(14,.call (eF (SRAdd r2 r3 or2 or3 (by omega) (by omega)) (congrArg vz er4.symm)))] [(4,vI 0),(5,vp 1 0)] [(1,.box (zi r4))] h fun a w h=>qW (Je 2 [(1,.call (zdv r4 or4 (by omega)))] [] [(39,vb (decide (sgn r4.val<=0)))] h fun a w h=>zag (sgn r4.val<=0) h (fun hc5 hc5'=>?_) (fun hc6 hc6'=>?_))
 ·refine Je 2 [] [39] [] h fun a w h=>qV (za2 (rT (.c (cI 0)) h rfl ?_));have hz9:r4.val=x1.hi.val - x1.lo.val+1:=by omega
  have hi9:(zam s v).is_=true:=by rw [zcl hx1];exact (show (x1.is_)=true from by simpa using hc4)
  have hb9:=zcl hx1;exact congrArg (vi .i64) (wdS_zero hi9 (by rw [hb9];have:=sgn_le0 (dT hc5);omega)).symm
 refine qU (za0 (qW ?_));obtain ⟨r6,er6,vr6,or6,lr6⟩:=mkZ (v:=1048576) (m:=2) (ZI.len_of (by have:=pw2;omega));refine Je 2 [(1,.call (eF (SROf 1048576 ⟨by omega,by omega⟩) (congrArg vz er6.symm))),(2,.call (SRCmp r4 r6 or4 or6 (by omega) (by omega)))] [39] [(43,vb (decide (zel r4.val r6.val>0)))] h fun a w h=>zag (zel r4.val r6.val>0) h (fun hc7 hc7'=>?_) (fun hc8 hc8'=>?_)
 ·refine Je 2 [] [43] [(4,vI (-1))] h fun a w h=>qV (za2 (rT (.c (cI (-1))) h rfl ?_));have hz9:r4.val=x1.hi.val - x1.lo.val+1:=by omega
  have hi9:(zam s v).is_=true:=by rw [zcl hx1];exact (show (x1.is_)=true from by simpa using hc4)
  have hb9:=zcl hx1;have hg9:=sgn_gt0 (dF hc6);exact congrArg (vi .i64) (wdS_big hi9 (by rw [hb9];have:=dT ((zf5 _ _).symm.trans hc7);omega)).symm
 refine qU (za0 (Jd 2 [(1,.call (SRSmall r4 or4 (by omega)))] [5,43] [(6,vI (zbv r4.val).1)] [] h fun a w h=>Jq 2 [] [(4,vI (zbv r4.val).1)] [] h fun a w h=>qV (rT (.c (cI (zbv r4.val).1)) h rfl ?_)));have hz9:r4.val=x1.hi.val - x1.lo.val+1:=by omega
 have hi9:(zam s v).is_=true:=by rw [zcl hx1];exact (show (x1.is_)=true from by simpa using hc4)
 have hb9:=zcl hx1;have hg9:=sgn_gt0 (dF hc6);have hc9:=dF ((zf5 _ _).symm.trans hc8);exact congrArg (vi .i64) ((congrArg Prod.fst (small_of (z:=r4.val) (by omega) (by omega))).trans (hz9.trans ((wdS_val hi9 (by rw [hb9];omega) (by rw [hb9];omega)).trans (by rw [hb9])).symm))
section
variable {w0:World} {H0:Im} {B0:Bl} {K:List Nat} {N:Nat} {sl:List (Nat × V)} {lc:List (Nat × L)} {a:Act} {w:World}
def keepK (K:List Nat) (n:Nat) (lc:List (Nat × L)):Bool:=K.all fun k=>!Nat.beq k n && (lc.lookup k).isSome
theorem pubSK (n es:Nat) (ty:TypeId) (rows:List (List D)) (sl':List (Nat × V)) (lc':List (Nat × L)) (h:St ⟨w0,H0,B0,K,N⟩ (F.of sl lc) a w) (hl:lc.lookup n=some (.row ty es rows)) (hk:keepK K n lc=true)
  (h1:zeu rows.length (sl.flatMap (·.2.owns n))) (h2:zeu rows.length (lc.flatMap (·.2.owns n))) (h3:leS ((F.of sl lc).pub n es rows) sl'=sl'.map fun p=>some p.2:=by kernel_rfl) (h4:leN ((F.of sl lc).pub n es rows) lc'=lc'.map fun p=>some p.2:=by kernel_rfl) :
  St ⟨w0,H0,B0,K,N⟩ (F.of sl' lc') a w :=
 (h.pubK n es ty rows hl (fun k hk2=>by
  have:=bM.1 hk k hk2
  simp only [bT,Bool.not_eq_true'] at this
  refine And.intro (fun e=>?_) ?_
  ·rw [e,Nat.beq_refl] at this
   exact absurd this.1 (by decide)
  ·exact dN.1 this.2) (fun t v hv k hk=>zeu.mem h1 k (dR.2 ⟨(t,v),ofS_mem hv,hk⟩)) (fun m l hm k hk=>zeu.mem h2 k (dR.2 ⟨(m,l),ofL_mem hm,hk⟩))).weaken (zht h3 h4)
theorem pubKX (n es:Nat) (ty:TypeId) (rows:List (List D)) (h:St ⟨w0,H0,B0,K,N⟩ (F.of sl lc) a w) (ks:List Nat) (h1:zeu rows.length ks) (h2:sl.flatMap (·.2.owns n)++lc.flatMap (·.2.owns n)=ks:=by kernel_rfl) (hl:lc.lookup n=some (.row ty es rows):=by kernel_rfl) (hk:keepK K n lc=true:=by kernel_rfl) (h3:leS ((F.of sl lc).pub n es rows) (sl.map fun p=>(p.1,p.2.pub n es rows))=(sl.map fun p=>(p.1,p.2.pub n es rows)).map fun p=>some p.2:=by kernel_rfl) (h4:leN ((F.of sl lc).pub n es rows) (puM n es rows lc)=(puM n es rows lc).map fun p=>some p.2:=by kernel_rfl) :
  St ⟨w0,H0,B0,K,N⟩ (F.of (sl.map fun p=>(p.1,p.2.pub n es rows)) (puM n es rows lc)) a w:=pubSK n es ty rows (sl.map fun p=>(p.1,p.2.pub n es rows)) (puM n es rows lc) h hl hk (allApp (by rw [h2];exact h1:zeu rows.length (sl.flatMap (·.2.owns n)++lc.flatMap (·.2.owns n)))).1 (allApp (by rw [h2];exact h1:zeu rows.length (sl.flatMap (·.2.owns n)++lc.flatMap (·.2.owns n)))).2 h3 h4
end
def divP (g:Int) (p:zbe):zbe:=⟨p.v,ZI.of (p.c.val.fdiv g)⟩
def shrT (t:zd6):zd6:=if conZ (zc6 t).parts=0 then zc6 t else ⟨(zc6 t).parts.map (divP (conZ (zc6 t).parts)),ZI.of (t.k.val.fdiv (conZ (zc6 t).parts))⟩
section
variable {P:Program}
theorem Op.makeO {d n L bs:Nat} {x y:Operand} {zs:List D} {pos af gd} (hT:ElT P xt el es bs) (hz0:Zero P el (zs.map C.d)) (hzl:zs.length=es) (hx:OV x (vi .i64 (L:Int)) rs) (hy:OV y (vi .i64 (L:Int)) rs') (hb:L*bs<=140737488355328) :
  zb6 P ⟨some d,.makeSlice xt x y,ty,pos,af,gd⟩ { rs:=rs++rs', ws:=[(d,some (.t (.c (.own n L))))],wl:=[(n,some (.row el es (bH L zs)))],nw:=[n] }:=by
 refine zb6.news d n _ _ rfl rfl rfl (by simp) fun e f H B a w hok hr hn=>?_
 have h1:a.eval x = .int .i64 (L:Int):=(hx.eval hok fun p hp=>hr.1 p (cG _ hp)).rawI
 have h2:a.eval y = .int .i64 (L:Int):=(hy.eval hok fun p hp=>hr.1 p (cH _ hp)).rawI
 obtain ⟨i,z,hi,hz,hsz,hby,hzs⟩:=hT.ex
 obtain ⟨z', l,g1,g2,g3⟩:=hz0.ex
 have hzz:z'=z:=by
  rw [hi] at g1
  have g1':i.zero=some z':=g1
  rw [hz] at g1';injection g1' with g1';exact g1'.symm
 subst hzz
 have hL:L<=140737488355328:=by
  have:L*1<=L*bs:=Nat.mul_le_mul_left _ hT.bpos
  omega
 have hbb:(bs:Int)*(L:Int)<=281474976710656:=by
  have:(bs:Int)*(L:Int)=((L*bs:Nat):Int):=by rw [Int.natCast_mul,Int.mul_comm]
  omega
 have hrun:=run_make (P:=P) w xt el i z' hT.hu hi hz .i64 .i64 (L:Int) (L:Int) (by omega) (cY _) (by rw [hby];exact hbb) (by omega)
 rw [dS,hsz] at hrun
 refine ⟨.slice (some ⟨w.heap.size,0,none⟩) L L,L,.cells (madeCells z'.cells (L*es)) el,?_,?_,?_⟩
 ·generalize a.eval=ρ at h1 h2 ⊢
  simp only [execOp,h1,h2,Sem.run_bind,hrun,Result.andThen_ok,Sem.run_pure]
 ·simp only [LR,if_true]
  have hall:∀ r ∈ bH L zs,r.length=es:=fun r hr2=>by rw [(List.mem_replicate.1 hr2).2];exact hzl
  have hsize:(madeCells z'.cells (L*es)).toList.length=L*es:=by simp [madeCells]
  refine ⟨(madeCells z'.cells (L*es)).toList,heap_alloc_new w _,hsize,by rw [bU];exact bL _,by simp only [maxLen];omega,hall,?_⟩
  refine (zea hsize (by rw [bU];exact bL _) hall).2 fun k r hri f' x' hx2=>?_
  obtain ⟨hk,hrk⟩:=cX.1 hri
  rw [bU] at hk
  rw [List.getElem_replicate] at hrk
  subst hrk
  have hf:=(cX.1 hx2).1
  rw [hzl] at hf
  obtain ⟨u,hu1,hu2⟩:=(g3 H B).get f' (by rw [bE,hzl];exact hf)
  have hx3:(zs.map C.d)[f']'(by rw [bE,hzl];exact hf)=C.d x':=by
   rw [List.getElem_map];congr 1
   rw [bK (by omega)] at hx2
   injection hx2
  rw [hx3] at hu2
  refine ⟨u,?_,hu2⟩
  have hlt:k*es+f'<L*es:=by
   have:(k+1)*es<=L*es:=Nat.mul_le_mul_right _ hk
   rw [Nat.add_mul] at this;omega
  have hmod:(k*es+f') % z'.cells.size=f':=by rw [hzs,Nat.mul_comm,Nat.mul_add_mod];exact Nat.mod_eq_of_lt hf
  simp only [madeCells,Array.toList_map,Array.toList_range,bW,dE hlt,b7,hmod]
  rw [g2]
  simp [hu1]
 ·simp [VR,TR,CR]
theorem Op.makeO' {d n L bs:Nat} {x y:Operand} {zs:List D} {rows:List (List D)} {pos af gd} (hT:ElT P xt el es bs) (hz0:Zero P el (zs.map C.d)) (hzl:zs.length=es) (hx:OV x (vi .i64 (L:Int)) rs) (hy:OV y (vi .i64 (L:Int)) rs') (hb:L*bs<=140737488355328) (hr:bH L zs=rows) :
  zb6 P ⟨some d,.makeSlice xt x y,ty,pos,af,gd⟩ { rs:=rs++rs', ws:=[(d,some (.t (.c (.own n L))))],wl:=[(n,some (.row el es rows))],nw:=[n] }:=by
 subst hr
 exact Op.makeO hT hz0 hzl hx hy hb
end
theorem ty_16:ElZ eE 22 9 1:=ElZ.mk' Tryz.underlying22 _ _ rfl rfl
def zR:zen:=⟨⟨[],⟨false,[]⟩⟩,false⟩
def cpR (r:zen):zen:=⟨zc6 r.t,r.eq⟩
def truF (b:Bool):za7:=⟨if b=true then 0 else 1,zR,[]⟩
def eachK (t:zen->zen) (k:Int) (r:zen) (cs:List za7):za7:=if k=0 then truF true else if k=2 then ⟨2,t (cpR r),[]⟩ else if k=3\/k=4\/k=5 then ⟨k,zR,cnt k cs⟩ else truF false
def za7.each (t:zen->zen) (f:za7):za7:=f.fold fun k r _ cs=>eachK t k r cs
def za7.cl (f:za7):za7:=f.each id
def neg1 (t:zd6):zd6:=scaleT t (ZI.of (-1))
def firstN (t:zd6):Bool:=match t.parts with | []=>false | p :: _=>decide (sgn p.c.val<0)
def tightR (r:zen):zen × Int :=
  if (zc6 r.t).parts.length=0 then (zR,if (sgn r.t.k.val == 0 || (!r.eq && decide (sgn r.t.k.val>0)))=true then 1 else -1)
  else if r.eq=true/\r.t.k.val.fmod (conZ (zc6 r.t).parts)≠0 then (zR,-1)
  else (⟨if (r.eq && firstN (shrT r.t))=true then neg1 (shrT r.t) else shrT r.t,r.eq⟩,0)
def tightF (r:zen):za7:=if (tightR r).2=0 then ⟨2,(tightR r).1,[]⟩ else truF (decide ((tightR r).2>0))
def lowR (t:zd6):zen:=⟨subT (neg1 t) (numT (ZI.of 1)),false⟩
def denyR (r:zen):List zen:=if r.eq=true then [lowR (neg1 r.t),lowR r.t] else [lowR r.t]
def joinGo (k:Int):List za7->List za7->za7
  | [],out=>(match out with | []=>truF (decide (k=4)) | [g]=>g | _=>⟨k,zR,out⟩)
  | f :: fs,out=>if (k=4/\f.kind=1)\/(k=5/\f.kind=0) then f else if f.kind=0\/f.kind=1 then joinGo k fs out else if f.kind=k then joinGo k fs (out++f.kids) else joinGo k fs (out++[f])
def joinF (k:Int) (fs:List za7):za7:=joinGo k fs []
def flatK (k:Int) (r:zen) (cs:List (Bool->za7)) (d:Bool):za7 :=
  if k=0 then truF (!d) else if k=2 then (if d=true then joinF 5 ((denyR r).map tightF) else tightF r) else if k=3 then (match cs with | []=>truF d | c :: _=>c (!d)) else if k=4\/k=5 then joinF (if d=true then 9 - k else k) (cs.map fun c=>c d) else truF d
def za7.flat (f:za7):Bool->za7:=f.fold fun k r _ cs=>flatK k r cs
theorem mapSnoc2 {α:Type} {f:α->β} {xs:List α} {x:α} (h:xs[j]?=some x):(xs.take j).map f++[f x]=(xs.take (j+1)).map f:=by rw [cJ,h,bP];rfl
def zeq (p:zb2):Int:=(p.locs.length:Int)
def wdV (s:zab) (v:Nat):Int:=(wdB (zam s v)).1
def wdK (s:zab) (v:Nat):Bool:=(wdB (zam s v)).2
def wdl (s:zab) (v:Nat):List Int:=s.procs.map zeq++(bC v).map (wdV s)
def wdk (s:zab):Bool:=zg7 s.vars.length (wdK s)
def wdsL (s:zab):List Int:=if wdk s=true then wdl s s.vars.length else []
theorem wdl_at (s:zab) (v:Nat):wdl s v++[wdV s v]=wdl s (v+1):=by unfold wdl;rw [bZ,bP,cZ];rfl
theorem zeh (s:zab) (v:Nat):(wdl s v).length=s.procs.length+v:=by unfold wdl;rw [bJ,bE,bE,bS]
theorem wdk_no {s:zab} (h:s.bounds.length<=v):wdK s v=false:=by unfold wdK;rw [bnd_no19 h];rfl
def prd (ns:List Int):Int:=ns.foldr (·*·) 1
theorem zfe (n:Int) (ns:List Int):prd (n :: ns)=n*prd ns:=rfl
theorem zjg (xs ys:List Int):prd (xs++ys)=prd xs*prd ys:=by
 induction xs with
 | nil=>rw [dI];show prd ys=1*prd ys;rw [Int.one_mul]
 | cons x xs ih=>rw [dQ,zfe,zfe,ih,Int.mul_assoc]
theorem zh1 (h:∀ n ∈ ns,1<=n):1<=prd ns:=by
 induction ns with
 | nil=>exact cY _
 | cons x xs ih =>
  rw [zfe]
  have h1:=h x (by simp)
  have h2:=ih fun n hn=>h n (by simp [hn])
  have:=cR h1 h2 (by decide) (by omega)
  omega
theorem zhl (h:ns[j]?=some x):prd (ns.take (j+1))=prd (ns.take j)*x:=by
 rw [cJ,h,zjg];show _*(x*1)=_;rw [cK]
theorem prd_ge (h:∀ n ∈ ns,1<=n) (j:Nat):prd (ns.take j)<=prd ns:=by
 have h1:prd ns=prd (ns.take j)*prd (ns.drop j):=by rw [<- zjg,List.take_append_drop]
 have h2:=zh1 fun n hn=>h n (List.mem_of_mem_take (i:=j) hn)
 have h3:=zh1 fun n hn=>h n (dU (i:=j) hn)
 have:=dV h3 (show 0<=prd (ns.take j) by omega)
 rw [cK] at this
 rw [h1];exact this
def prdB (ns:List Int):Int × Bool:=if (0:Int) ∈ ns then (0,true) else if prd ns<=1048576 then (prd ns,true) else (0,false)
def hasI (v:Int) (xs:List Int):Bool:=decide (idxI v xs 0>=0)
theorem idxI_mem {v:Int}:∀ (xs:List Int) (n:Nat),0<=idxI v xs n ↔ v ∈ xs
 | [],n=>by unfold idxI;simp
 | x :: xs,n=>by
  unfold idxI
  split
  ·rename_i h;subst h;simp
  ·rename_i h
   rw [idxI_mem xs (n+1),List.mem_cons]
   exact ⟨.inr,fun h2=>h2.resolve_left h⟩
theorem zkw {v:Int} {xs:List Int}:hasI v xs=true ↔ v ∈ xs:=by unfold hasI;rw [decide_eq_true_eq];exact idxI_mem xs 0
theorem hasI_not {v:Int} {xs:List Int} (h:hasI v xs=false):v ∉ xs:=fun hm=>by rw [zkw.2 hm] at h;cases h
def zb3 (s:zab):Int × Bool:=if wdk s=true then prdB (wdl s s.vars.length) else (0,false)
def zbp (s:zab):Prop:=∀ p ∈ s.procs,p.locs.length<=8796093021952
theorem wdl_bd {s:zab} (hp:zbp s) (v:Nat):∀ n ∈ wdl s v,0<=n/\n<=8796093021952:=fun n hn=>by
 unfold wdl at hn
 rcases c7.1 hn with hn | hn
 ·obtain ⟨p,hp1,rfl⟩:=bV.1 hn
  have:=hp p hp1
  unfold zeq;omega
 ·obtain ⟨q,_,rfl⟩:=bV.1 hn
  have:=wdB_le (zam s q)
  unfold wdV;omega
theorem wdsL_bd {s:zab} (hp:zbp s):∀ n ∈ wdsL s,0<=n/\n<=8796093021952:=fun n hn=>by
 unfold wdsL at hn
 split at hn
 ·exact wdl_bd hp _ n hn
 ·cases hn
theorem zeo (s:zab):(wdsL s).length<=s.procs.length+s.vars.length:=by unfold wdsL;split;rw [zeh];exact bL _;exact bG _
theorem mul_in (hu:1<=u) (hx:1<=x) (h:x<=1048576 / u):1<=u*x/\u*x<=1048576:=by
 have h1:=cR hu hx (by decide) (by omega)
 have h2:=dV h (show 0<=u by omega)
 have h3:=Int.mul_ediv_self_le (x:=1048576) (k:=u) (by omega)
 omega
theorem mul_out (hu:1<=u) (h:1048576 / u<x):1048576<u*x:=by
 have h1:=Int.lt_mul_ediv_self_add (x:=1048576) (k:=u) (by omega)
 have h2:=dV (show 1048576 / u+1<=x by omega) (show 0<=u by omega)
 rw [Int.mul_add,cK] at h2
 omega
theorem OContains (xs:List Int) (v:Int) (hl:xs.length<=1000000):Fn eE 94 [] [(vIs xs),vI v] (vb (hasI v xs)) []:=by
 refine fB Tryz.func94 rfl 9 fun w H B a h=>Jq 0 [] [(0,(vIs xs)),(1,vI v),(4,vb false)] [] h fun a w h=>Jq 0 [(2,.call (SIndex xs v hl))] [(4,vb (decide (idxI v xs 0>=0)))] [] h fun a w h=>qV (rT (.c (cB (decide (idxI v xs 0>=0)))) h rfl ?_)
 rfl
theorem Owidths (s:zab) {L:Nat} (hs:zaw L s) (hL:L<=1000) (hp:zbp s):Fn eE 57 [] [vG (zat s)] (.tup [.c (cIs (wdsL s)),.c (cB (wdk s))]) []:=by
 have lbs:=hs.bnds;have lvs:=hs.vars;have lps:=hs.procs;have lwd:=zeo s;refine fB Tryz.func57 rfl 52 fun w H B a h=>Jq 2 [] [(1,vp 2 0),(2,vW zaa),(3,vb false)] [(2,.box (zat s))] h fun a w h=>Je 3 [] [] [(4,vW zaa)] h fun a w h=>qW (Je 3 [(2,.len (za1 3 zb2.d s.procs))] [] [(11,vS 3 (s.procs.map zb2.d)),(12,vN s.procs.length),(13,vI 0)] h fun a w h=>qZ ?_)
 replace h:=zg1 4 0 3 1 3 (vW zaa) h
 refine zcc (ι:=(Nat)) (fun j=>j<=s.procs.length)
   [] (fun j=>[(4,vO 3 ((s.procs.take j).map zeq).length),(13,vN j)])
   [] (fun j=>[(3,.row 3 1 (((s.procs.take j).map zeq).map za8))])
   (fun j=>s.procs.length - j) 0 ?_ h ?_
 ·exact bG _
 clear h;rintro j a w hI h;have lmj:((s.procs.take j).map zeq).length<=j:=by rw [bE,cE];omega
 refine Je 4 [] [] [(14,vb (decide ((j:Int)<(s.procs.length:Int))))] h fun a w h=>qW (zag ((j:Int)<(s.procs.length:Int)) h (fun hc1 hc1'=>?_) (fun hc2 hc2'=>?_))
 ·refine qU (za0 (qW (qZ ?_)));obtain ⟨x1,hx1⟩:=gl s.procs j;refine Jg 4 [(0,.g (xD 15 11 kf_5 (za4 hx1 (f:=zb2.d)) (eG 13 _)))] [14] [(6,vp 4 0)] [] [(4,.box [.d (.raw (.string x1.name)),.d (.sl 1 (x1.locs.map zdz)),.d x1.cmds])] h fun a w h=>Jh 5 [(3,.len (za1 1 zdz x1.locs)),(4,.g (bD 21 ([(x1.locs.length:Int)].map za8) [(20,vN x1.locs.length)] tb_0 (.cons (i:=0) (eG 20 _) (.nil)) (by kernel_rfl) (by simp [za8]))),(5,.g (aD 22 17 21 3 5 ((s.procs.take j).map zeq) [(x1.locs.length:Int)] za8 tb_2 (by simp [za8])))] [6] [(4,vO 5 (((s.procs.take j).map zeq)++[(x1.locs.length:Int)]).length)] [3,4] [(5,.row 3 1 ((((s.procs.take j).map zeq)++[(x1.locs.length:Int)]).map za8))] h fun a w h=>za5 (za0 (Jf 6 [(0,.j1 j)] [] [(13,vI ((j:Int)+1))] h fun a w h=>za0 ?_));rw [show ((((s.procs.take j).map zeq)++[(x1.locs.length:Int)]):List Int)=((s.procs.take (j+1)).map zeq) from (mapSnoc2 hx1)] at h;replace h:=zd8 5 3 h;refine za9 (x:=j) (y:=j+1) h ?_ ?_
  ·have:=zac hx1;show j+1<=s.procs.length;omega
  show s.procs.length - (j+1)<s.procs.length - j;have:=zac hx1;omega
 refine exA (qW (Je 6 [(2,.len (za1 1 zdz s.vars))] [11,12,13,14] [(26,vN s.vars.length),(27,vI 0)] h fun a w h=>qZ ?_));rw [show (((s.procs.take j).map zeq):List Int)=(wdl s 0) from (by unfold wdl;rw [bR (by have:=dF hc2;omega)];simp)] at h
 refine loopS (ι:=(Nat)) (fun v=>v<=s.vars.length/\zg7 v (wdK s)=true)
   (fun v=>[(1,vp 2 0),(4,vO 3 (wdl s v).length),(26,vN s.vars.length),(27,vN v)])
   (fun v=>[(2,.box (zat s)),(3,.row 3 1 ((wdl s v).map za8))])
   (fun v=>s.vars.length - v) 0 ?_ h (by kernel_rfl) (by kernel_rfl) ?_
 ·exact ⟨bG _,rfl⟩
 clear h;rintro v a w hI h;obtain ⟨hI1,hI2⟩:=hI;have lwl:=zeh s v;refine Je 6 [] [] [(28,vb (decide ((v:Int)<(s.vars.length:Int))))] h fun a w h=>qW (zag ((v:Int)<(s.vars.length:Int)) h (fun hc3 hc3'=>?_) (fun hc8 hc8'=>?_))
 ·refine qU (za0 (qW (qZ (Je 6 [] [28] [(7,vN v)] h fun a w h=>qW (Je 6 [(3,.len (za1 5 zaj.d s.bounds))] [] [(34,vb (decide ((v:Int)>=(s.bounds.length:Int))))] h fun a w h=>zag ((v:Int)>=(s.bounds.length:Int)) h (fun hc4 hc4'=>?_) (fun hc5 hc5'=>?_))))))
  ·refine Je 6 [] [34] [(2,vW zaa),(3,vb false)] h fun a w h=>qV (za2 (za6 (za2 (za2 (za6 (za2 ?_))))));replace h:=nilDSx 2 0 1 (vW zaa) h;refine zdp [.c (cIs []),.c (cB false)] h Exit.ret (.inl rfl)  rfl ⟨vT9,vT9,trivial⟩ ?_;have hk9:wdk s=false:=zba (j:=v) (by omega) (by exact wdk_no (by have:=dT hc4;omega));rw [show wdsL s=[] from if_neg (by rw [hk9];exact Bool.noConfusion),hk9];rfl
  refine qU (za0 ?_);obtain ⟨x2,hx2⟩:=gl s.bounds v;have gx2:=hs.bnd x2 (lM hx2);refine Je 6 [(3,.g (xD 39 37 kf_0 (za4 hx2 (f:=zaj.d)) (eG 38 _))),(5,.call (Owidth x2 gx2 hL))] [7,34] [(8,vI (wdB x2).1),(9,vb (wdB x2).2)] h fun a w h=>qW (Je 6 [] [9] [(45,vb (!(wdB x2).2))] h fun a w h=>cS (!(wdB x2).2) h (fun hc6=>?_) (fun hc7=>?_))
  ·refine Je 6 [] [45] [(2,vW zaa),(3,vb false)] h fun a w h=>qV (za2 (za6 (za2 (za2 (za6 (za2 ?_))))));replace h:=nilDSx 2 0 1 (vW zaa) h;refine zdp [.c (cIs []),.c (cB false)] h Exit.ret (.inl rfl)  rfl ⟨vT9,vT9,trivial⟩ ?_;have hk9:wdk s=false:=zba (j:=v) (by omega) (by unfold wdK;rw [zcl hx2];exact (show ((wdB x2).2)=false from by simpa using hc6));rw [show wdsL s=[] from if_neg (by rw [hk9];exact Bool.noConfusion),hk9];rfl
  refine qU (za0 (Jh 6 [(2,.g (bD 48 ([(wdB x2).1].map za8) [(47,vI (wdB x2).1)] tb_0 (.cons (i:=0) (eG 47 _) (.nil)) (by kernel_rfl) (by simp [za8]))),(3,.g (aD 49 46 48 3 6 (wdl s v) [(wdB x2).1] za8 tb_2 (by simp [za8])))] [8,45] [(4,vO 6 ((wdl s v)++[(wdB x2).1]).length)] [3] [(6,.row 3 1 (((wdl s v)++[(wdB x2).1]).map za8))] h fun a w h=>za5 (za0 (Jf 7 [(0,.add .i64 (m:=(v:Int)) (n:=1) i6)] [] [(27,vI ((v:Int)+1))] h fun a w h=>za0 ?_))));rw [show (((wdl s v)++[(wdB x2).1]):List Int)=(wdl s (v+1)) from (by rw [<- wdl_at];unfold wdV;rw [zcl hx2])] at h;replace h:=zd8 6 3 h;refine za9 (x:=v) (y:=v+1) h ?_ ?_
  ·exact ⟨by omega,zb9 hI2 (by unfold wdK;rw [zcl hx2];exact (show ((wdB x2).2)=true from by simpa using hc7))⟩
  show s.vars.length - (v+1)<s.vars.length - v;omega
 refine exA (Jg 7 [] [1,4,26,27,28] [(2,vO 3 (wdl s v).length),(3,vb true)] [2] [] h fun a w h=>qV ?_);replace h:=zhz 3 1 3 ((wdl s v).map za8) h [(wdl s v).length] ⟨by first | exact (bE _).symm | (simp;done) | (simp;omega),trivial⟩;refine zdp [.c (cIs (wdl s v)),.c (cB true)] h Exit.ret (.inl rfl)  rfl ⟨vT9,vT9,trivial⟩ ?_;have hk9:wdk s=true:=by unfold wdk;rw [show s.vars.length=v by have:=dF hc8;omega];exact hI2
 have hl9:wdsL s=wdl s v:=by unfold wdsL;rw [if_pos hk9,show s.vars.length=v by have:=dF hc8;omega]
 rw [hl9,hk9];rfl
theorem Oproduct (ns:List Int) (hn:∀ n ∈ ns,0<=n/\n<=8796093021952) (hl:ns.length<=1000000):Fn eE 58 [] [(vIs ns)] (.tup [.c (cI (prdB ns).1),.c (cB (prdB ns).2)]) []:=by
 refine fB Tryz.func58 rfl 24 fun w H B a h=>Jq 0 [] [(0,(vIs ns)),(2,vI 0),(3,vb false)] [] h fun a w h=>qW (Jg 0 [(1,.call (OContains ns 0 (by omega)))] [] [(8,vb (hasI 0 ns))] [] [] h fun a w h=>cS (hasI 0 ns) h (fun hc1=>?_) (fun hc2=>?_))
 ·refine Jg 0 [] [8] [(3,vb true)] [] [] h fun a w h=>qV (za2 (zdp [.c (cI 0),.c (cB true)] h Exit.ret (.inl rfl)  rfl ⟨vT9,vT9,trivial⟩ ?_));rw [show prdB ns=(0,true) from if_pos (zkw.1 hc1)];rfl
 refine qU (za0 (Jg 0 [] [8] [(4,vI 1)] [] [] h fun a w h=>qW (Jg 0 [(1,.len (za1 1 za8 ns))] [0] [(9,(vIs ns)),(10,vN ns.length),(11,vI 0)] [] [] h fun a w h=>qZ ?_)));have h09:=hasI_not hc2
 have hpo:∀ n ∈ ns,1<=n:=fun n hm=>by
  have h1:=(hn n hm).1;have h2:n≠0:=fun e=>h09 (e ▸ hm)
  omega
 refine zcc (ι:=(Nat) × (Int)) (fun (j,u)=>j<=ns.length/\u=prd (ns.take j)/\1<=u/\u<=1048576)
   [2,3] (fun (j,u)=>[(4,vI u),(11,vN j)])
   [] (fun (j,u)=>[])
   (fun (j,u)=>ns.length - j) (0,1) ?_ h ?_
 ·exact ⟨bG _,rfl,by decide,by decide⟩
 clear h;rintro ⟨j,u⟩ a w hI h;dsimp only at h;obtain ⟨hI1,hI2,hI3,hI4⟩:=hI;refine Jg 0 [] [] [(12,vb (decide ((j:Int)<(ns.length:Int))))] [] [] h fun a w h=>qW (zag ((j:Int)<(ns.length:Int)) h (fun hc3 hc3'=>?_) (fun hc6 hc6'=>?_))
 ·refine qU (za0 (qW (qZ ?_)));obtain ⟨x2,hx2⟩:=gl ns j;have gx2:=hn x2 (lM hx2);have px2:=hpo x2 (lM hx2);refine Jg 0 [(0,.g (xD 13 9 zdj (za4 hx2 (f:=za8)) (eG 11 _)))] [12] [(6,vI x2)] [] [] h fun a w h=>qW ?_;have hq8:0<=1048576 / u/\1048576 / u<=1048576:=⟨cL (by decide) (by omega),cT _ (by decide)⟩;refine Jg 0 [(2,.g (Op.quo (d:=17) (xt:=3) (yt:=3) (k:=.i64) (m:=1048576) (n:=u) (r:=(1048576 / u)) (OV.const (.int .i64 1048576) rfl) (eG 16 _) (by omega) (c8 (show (0:Int)<=1048576 by decide)) i6))] [] [(18,vb (decide (x2>(1048576 / u))))] [] [] h fun a w h=>zag (x2>(1048576 / u)) h (fun hc4 hc4'=>?_) (fun hc5 hc5'=>?_)
  ·have hq9:1048576<u*x2:=mul_out hI3 (by have:=dT hc4;omega);refine Jg 0 [] [18] [(2,vI 0),(3,vb false)] [] [] h fun a w h=>qV (za2 (za6 (za2 (za2 (za6 (za2 (zdp [.c (cI 0),.c (cB false)] h Exit.ret (.inl rfl)  rfl ⟨vT9,vT9,trivial⟩ ?_)))))));rw [show prdB ns=(0,false) from (if_neg h09).trans (if_neg (by have:=prd_ge hpo (j+1);rw [zhl hx2,<- hI2] at this;omega))];rfl
  have hq9:x2<=1048576 / u:=by have:=dF hc5;omega
  have hu9:1<=u*x2/\u*x2<=1048576:=mul_in hI3 px2 hq9;refine qU (za0 (Jh 0 [(2,.mul .i64 (m:=u) (n:=x2) i6)] [6,18] [(4,vI (u*x2))] [] [] h fun a w h=>za5 (za0 (Jh 0 [(0,.j1 j)] [] [(11,vI ((j:Int)+1))] [] [] h fun a w h=>za0 (za9 (x:=(j,u)) (y:=(j+1,u*x2)) h ?_ ?_)))))
  ·have:=zac hx2;exact ⟨by omega,by rw [zhl hx2,<- hI2],hu9.1,hu9.2⟩
  show ns.length - (j+1)<ns.length - j;have:=zac hx2;omega
 refine exA (Jq 0 [] [(2,vI u),(3,vb true)] [] h fun a w h=>qV (zdp [.c (cI u),.c (cB true)] h Exit.ret (.inl rfl)  rfl ⟨vT9,vT9,trivial⟩ ?_));have hj9:prd ns=u:=by rw [hI2,bR (by have:=dF hc6;omega)]
 rw [show prdB ns=(prd ns,true) from (if_neg h09).trans (if_pos (by omega)),hj9];rfl
theorem OCount (s:zab) {L:Nat} (hs:zaw L s) (hL:L<=1000) (hp:zbp s):Fn eE 25 [] [vG (zat s)] (.tup [.c (cI (zb3 s).1),.c (cB (zb3 s).2)]) []:=by
 have lbs:=hs.bnds;have lvs:=hs.vars;have lps:=hs.procs;have lwd:=zeo s;refine fB Tryz.func25 rfl 17 fun w H B a h=>Jq 0 [] [(1,vp 0 0),(2,vI 0),(3,vb false)] [(0,.box (zat s))] h fun a w h=>Jg 1 [(1,.call (Owidths s hs hL hp))] [1] [(4,(vIs (wdsL s))),(5,vb (wdk s))] [0] [] h fun a w h=>qW (Jg 1 [] [5] [(12,vb (!(wdk s)))] [] [] h fun a w h=>cS (!(wdk s)) h (fun hc1=>?_) (fun hc2=>?_))
 ·refine Jg 1 [] [12] [] [] [] h fun a w h=>qV (za2 (zdp [.c (cI 0),.c (cB false)] h Exit.ret (.inl rfl)  rfl ⟨vT9,vT9,trivial⟩ ?_));rw [show zb3 s=(0,false) from if_neg (by rw [(show (wdk s)=false from by simpa using hc1)];exact Bool.noConfusion)];rfl
 refine qU (za0 (Jq 1 [(1,.call (Oproduct (wdsL s) (wdsL_bd hp) (by omega)))] [(2,vI (prdB (wdsL s)).1),(3,vb (prdB (wdsL s)).2)] [] h fun a w h=>qV (zdp [.c (cI (prdB (wdsL s)).1),.c (cB (prdB (wdsL s)).2)] h Exit.ret (.inl rfl)  rfl ⟨vT9,vT9,trivial⟩ ?_)));show _=_;unfold zb3;rw [if_pos (show (wdk s)=true from by simpa using hc2)];unfold wdsL;rw [if_pos (show (wdk s)=true from by simpa using hc2)];rfl
theorem wdS_of {s:zab} (h:wdK s v=true):wdS s v=wdV s v:=if_pos h
theorem wdS_neg {s:zab} (h:wdS s v<0):wdK s v=false:=by
 cases hk:wdK s v with
 | false=>rfl
 | true=>rw [wdS_of hk] at h;have:=(wdB_le (zam s v)).1;unfold wdV at h;omega
theorem wdS_pos {s:zab} (h:¬ wdS s v<0):wdK s v=true:=by
 cases hk:wdK s v with
 | true=>rfl
 | false=>exfalso;apply h;unfold wdS;rw [if_neg (by unfold wdK at hk;rw [hk];exact Bool.noConfusion)];decide
def noneV (s:zab) (v:Nat):Bool:=decide ((0:Int) ∈ (bC v).map (wdV s))
def zji (s:zab) (j:Nat):Bool:=noneV s s.vars.length || decide ((0:Int) ∈ (s.procs.take j).map zeq)
theorem noneV_at {s:zab} (h:wdK s v=true):(noneV s v || (wdS s v == 0))=noneV s (v+1):=by
 unfold noneV
 rw [bZ,bP,wdS_of h]
 cases h1:wdV s v == 0 with
 | true=>rw [cV];exact (decide_eq_true (cH _ (by simp at h1;simp [h1]))).symm
 | false =>
  rw [Bool.or_false]
  refine decide_eq_decide.2 ⟨fun h=>cG _ h,fun h=>(c7.1 h).resolve_right fun h2=>?_⟩
  simp at h1 h2;exact h1 h2.symm
theorem noneP_at {s:zab} {p:zb2} (h:s.procs[j]?=some p):(zji s j || ((p.locs.length:Int) == 0))=zji s (j+1):=by
 unfold zji
 rw [cJ,h,bP,Bool.or_assoc]
 congr 1
 cases h1:(p.locs.length:Int) == 0 with
 | true=>rw [cV];exact (decide_eq_true (cH _ (by simp at h1;simp [zeq,h1]))).symm
 | false =>
  rw [Bool.or_false]
  refine decide_eq_decide.2 ⟨fun h=>cG _ h,fun h=>(c7.1 h).resolve_right fun h2=>?_⟩
  have h3:(0:Int)=zeq p:=by simpa using h2
  unfold zeq at h3
  exact beq_eq_false_iff_ne.1 h1 h3.symm
theorem noneP_all (s:zab):zji s s.procs.length=decide ((0:Int) ∈ wdl s s.vars.length):=by
 unfold zji noneV wdl
 rw [List.take_length]
 cases h1:decide ((0:Int) ∈ (bC s.vars.length).map (wdV s)) with
 | true=>rw [Bool.true_or];exact (decide_eq_true (cH _ (of_decide_eq_true h1))).symm
 | false =>
  rw [Bool.false_or]
  exact decide_eq_decide.2 ⟨fun h=>cG _ h,fun h=>(c7.1 h).resolve_right (of_decide_eq_false h1)⟩
theorem pos19 {s:zab} (hp:zbp s) (h:zji s s.procs.length=false):∀ n ∈ wdl s s.vars.length,1<=n:=fun n hn=>by
 rw [noneP_all] at h
 have h1:=of_decide_eq_false h
 have h2:=(wdl_bd hp _ n hn).1
 have h3:n≠0:=fun e=>h1 (e ▸ hn)
 omega
theorem prd_map {F:β->Int} {xs:List β} {x:β} (h:xs[j]?=some x):prd ((xs.take (j+1)).map F)=prd ((xs.take j).map F)*F x:=by
 rw [cJ,h,bP,zjg];show _*(F x*1)=_;rw [cK]
theorem wdl_le {s:zab} (h:∀ n ∈ wdl s s.vars.length,1<=n) (hv:v<=s.vars.length):prd (wdl s v)<=prd (wdl s s.vars.length):=by
 have e:wdl s v=(wdl s s.vars.length).take (s.procs.length+v):=by
  unfold wdl
  rw [List.take_append,bE,bR (by rw [bE];omega),show s.procs.length+v - s.procs.length=v by omega,<- dW,List.take_range,Nat.min_eq_left hv]
 rw [e];exact prd_ge h _
theorem prc_le {s:zab} (h:∀ n ∈ wdl s s.vars.length,1<=n) (j:Nat):prd ((s.procs.take j).map zeq)<=prd (wdl s s.vars.length):=by
 rcases Nat.lt_or_ge s.procs.length j with hj | hj
 ·have e:(s.procs.take j).map zeq=wdl s 0:=by unfold wdl;rw [bR (by omega)];simp
  rw [e];exact wdl_le h (bG _)
 ·have e:(s.procs.take j).map zeq=(wdl s s.vars.length).take j:=by
   unfold wdl
   rw [dX (by rw [bE];exact hj),dW]
  rw [e];exact prd_ge h _
theorem mul_rng (h1:1<=u) (h2:u<=1048576) (h3:0<=x) (h4:x<=8796093021952):0<=u*x/\u*x<=9223372036586340352:=by
 have a:=Int.mul_nonneg (show 0<=u by omega) h3
 have b:=cR h2 h4 h3 (by omega)
 omega
theorem cnt_none {s:zab} (hk:wdk s=true) (h:zji s s.procs.length=true):zb3 s=(0,true):=(if_pos hk).trans (if_pos (of_decide_eq_true (by rw [<- noneP_all];exact h)))
theorem cnt_big {s:zab} (hp:zbp s) (hk:wdk s=true) (h:zji s s.procs.length=false) (hb:1048576<prd (wdl s s.vars.length)):zb3 s=(0,false):=(if_pos hk).trans ((if_neg (fun hm=>by have:=pos19 hp h 0 hm;omega)).trans (if_neg (by omega)))
theorem cnt_all {s:zab} (hp:zbp s) (hk:wdk s=true) (h:zji s s.procs.length=false) (hb:prd (wdl s s.vars.length)<=1048576):zb3 s=(prd (wdl s s.vars.length),true):=(if_pos hk).trans ((if_neg (fun hm=>by have:=pos19 hp h 0 hm;omega)).trans (if_pos hb))
theorem cnt_no {s:zab} (hk:wdk s=false):zb3 s=(0,false):=if_neg (by rw [hk];exact Bool.noConfusion)
theorem ORCount (s:zab) {L:Nat} (hs:zaw L s) (hL:L<=1000) (hp:zbp s):Fn eE 19 [] [.t (.agg (zat s))] (.tup [.c (.d (.raw (.int .i64 (zb3 s).1))),.c (.d (.raw (.bool (zb3 s).2)))]) []:=by
 have lbs:=hs.bnds;have lvs:=hs.vars;have lps:=hs.procs;have lwd:=zeo s;refine fB Tryz.func19 rfl 80 fun w H B a h=>Jq 0 [] [(1,vp 0 0),(2,vI 0),(3,vb false)] [(0,.box (zat s))] h fun a w h=>Je 1 [] [] [(4,vI 1)] h fun a w h=>Je 1 [] [] [(5,vb false)] h fun a w h=>qW (Je 1 [] [] [(6,vI 0)] h fun a w h=>qZ ?_)
 refine zcc (ι:=(Nat) × (Bool)) (fun (v,d)=>v<=s.vars.length/\zg7 v (wdK s)=true/\d=noneV s v)
   [2,3] (fun (v,d)=>[(5,vb d),(6,vN v)])
   [] (fun (v,d)=>[])
   (fun (v,d)=>s.vars.length - v) (0,false) ?_ h ?_
 ·exact ⟨bG _,rfl,rfl⟩
 clear h;rintro ⟨v,d⟩ a w hI h;dsimp only at h;obtain ⟨hI1,hI2,hI3⟩:=hI;refine qW (Je 1 [(3,.len (za1 1 zdz s.vars))] [] [(15,vb (decide ((v:Int)<(s.vars.length:Int))))] h fun a w h=>zag ((v:Int)<(s.vars.length:Int)) h (fun hc1 hc1'=>?_) (fun hc6 hc6'=>?_))
 ·refine qU (za0 (qW (qZ (Je 1 [(2,.call (ORwidth s v hs hL))] [15] [(7,vI (wdS s v))] h fun a w h=>qW (Je 1 [] [] [(22,vb (decide (wdS s v<0)))] h fun a w h=>zag (wdS s v<0) h (fun hc2 hc2'=>?_) (fun hc3 hc3'=>?_))))))
  ·refine Je 1 [] [22] [(2,vI 0),(3,vb false)] h fun a w h=>qV (za2 (za6 (za2 (za2 (za6 (za2 (zdp [.c (.d (.raw (.int .i64 0))),.c (.d (.raw (.bool false)))] h Exit.ret (.inl rfl)  rfl ⟨vT9,vT9,trivial⟩ ?_)))))));rw [cnt_no (zba (j:=v) (by omega) (wdS_neg (dT hc2)))];rfl
  refine qU (za0 ?_)
  rcases bI d with hc4 | hc5
  ·rw [hc4] at h;refine Jn 1 [] [(1,vp 0 0),(4,vI 1),(5,vb true),(6,vN v)] [(0,.box (zat s))] h fun a w h=>za5 (za0 (Jf 1 [(1,.add .i64 (m:=(v:Int)) (n:=1) i6)] [] [(6,vI ((v:Int)+1))] h fun a w h=>za0 (za9 (x:=(v,d)) (y:=(v+1,true)) h ?_ ?_)))
   ·exact ⟨by omega,zb9 hI2 (wdS_pos (dF hc3)),by rw [<- noneV_at (wdS_pos (dF hc3)),<- hI3,hc4];first | done | rfl | simp⟩
   show s.vars.length - (v+1)<s.vars.length - v;omega
  rw [hc5] at h;refine Jn 1 [] [(1,vp 0 0),(4,vI 1),(5,vb (wdS s v == 0)),(6,vN v)] [(0,.box (zat s))] h fun a w h=>za5 (za0 (Jf 1 [(1,.add .i64 (m:=(v:Int)) (n:=1) i6)] [] [(6,vI ((v:Int)+1))] h fun a w h=>za0 (za9 (x:=(v,d)) (y:=(v+1,wdS s v == 0)) h ?_ ?_)))
  ·exact ⟨by omega,zb9 hI2 (wdS_pos (dF hc3)),by rw [<- noneV_at (wdS_pos (dF hc3)),<- hI3,hc5];first | done | rfl | simp⟩
  show s.vars.length - (v+1)<s.vars.length - v;omega
 refine exA (qW (Je 1 [] [6,15] [(8,vI 0)] h fun a w h=>qZ ?_));have hk9:wdk s=true:=by unfold wdk;rw [show s.vars.length=v by have:=dF hc6;omega];exact hI2
 have hd9:d=zji s 0:=by rw [hI3,show v=s.vars.length by have:=dF hc6;omega];unfold zji;simp
 refine zcc (ι:=(Nat) × (Bool)) (fun (j,d2)=>j<=s.procs.length/\d2=zji s j)
   [] (fun (j,d2)=>[(5,vb d2),(8,vN j)])
   [] (fun (j,d2)=>[])
   (fun (j,d2)=>s.procs.length - j) (0,d) ?_ h ?_
 ·exact ⟨bG _,hd9⟩
 clear h;rintro ⟨j,d2⟩ a w hI h;dsimp only at h;obtain ⟨hJ1,hJ2⟩:=hI;refine qW (Je 1 [(3,.len (za1 3 zb2.d s.procs))] [] [(32,vb (decide ((j:Int)<(s.procs.length:Int))))] h fun a w h=>zag ((j:Int)<(s.procs.length:Int)) h (fun hc7 hc7'=>?_) (fun hc10 hc10'=>?_))
 ·refine qU (za0 (qW (qZ ?_)))
  rcases bI d2 with hc8 | hc9
  ·rw [hc8] at h;refine Jn 1 [] [(1,vp 0 0),(4,vI 1),(5,vb true),(8,vN j)] [(0,.box (zat s))] h fun a w h=>za5 (za0 (Jf 1 [(1,.j1 j)] [] [(8,vI ((j:Int)+1))] h fun a w h=>za0 ?_));obtain ⟨xp,hxp⟩:∃ z_,s.procs[j]?=some z_:=⟨_,bK (by omega)⟩;refine za9 (x:=(j,d2)) (y:=(j+1,true)) h ?_ ?_
   ·have:=zac hxp;exact ⟨by omega,by rw [<- noneP_at hxp,<- hJ2,hc8];first | done | rfl | simp⟩
   show s.procs.length - (j+1)<s.procs.length - j;have:=zac hxp;omega
  rw [hc9] at h;obtain ⟨x2,hx2⟩:=gl s.procs j;have gx2:=hp x2 (lM hx2);refine Jn 1 [(5,.g (xD 40 38 kf_5 (za4 hx2 (f:=zb2.d)) (eG 39 _))),(8,.len (za1 1 zdz x2.locs))] [(1,vp 0 0),(4,vI 1),(5,vb ((x2.locs.length:Int) == 0)),(8,vN j)] [(0,.box (zat s))] h fun a w h=>za5 (za0 (Jf 1 [(1,.j1 j)] [] [(8,vI ((j:Int)+1))] h fun a w h=>za0 (za9 (x:=(j,d2)) (y:=(j+1,(x2.locs.length:Int) == 0)) h ?_ ?_)))
  ·have:=zac hx2;exact ⟨by omega,by rw [<- noneP_at hx2,<- hJ2,hc9];first | done | rfl | simp⟩
  show s.procs.length - (j+1)<s.procs.length - j;have:=zac hx2;omega
 refine exA (qW (Je 1 [] [5,8,32] [(46,vb d2)] h fun a w h=>cS d2 h (fun hc11=>?_) (fun hc12=>?_)))
 ·refine Je 1 [] [46] [(2,vI 0),(3,vb true)] h fun a w h=>qV (za2 (zdp [.c (.d (.raw (.int .i64 0))),.c (.d (.raw (.bool true)))] h Exit.ret (.inl rfl)  rfl ⟨vT9,vT9,trivial⟩ ?_));rw [cnt_none hk9 (by rw [show s.procs.length=j by have:=dF hc10;omega,<- hJ2];exact hc11)];rfl
 refine qU (za0 (qW (Je 1 [] [46] [(9,vI 0)] h fun a w h=>qZ ?_)));have hn9:zji s s.procs.length=false:=by rw [show s.procs.length=j by have:=dF hc10;omega,<- hJ2];exact hc12
 have hpo:=pos19 hp hn9
 refine zcc (ι:=(Nat) × (Int)) (fun (i,u)=>i<=s.procs.length/\u=prd ((s.procs.take i).map zeq)/\1<=u/\u<=1048576)
   [] (fun (i,u)=>[(4,vI u),(9,vN i)])
   [] (fun (i,u)=>[])
   (fun (i,u)=>s.procs.length - i) (0,1) ?_ h ?_
 ·exact ⟨bG _,rfl,by decide,by decide⟩
 clear h;rintro ⟨i,u⟩ a w hI h;dsimp only at h;obtain ⟨hU1,hU2,hU3,hU4⟩:=hI;refine qW (Je 1 [(3,.len (za1 3 zb2.d s.procs))] [] [(51,vb (decide ((i:Int)<(s.procs.length:Int))))] h fun a w h=>zag ((i:Int)<(s.procs.length:Int)) h (fun hc13 hc13'=>?_) (fun hc16 hc16'=>?_))
 ·refine qU (za0 (qW (qZ ?_)));obtain ⟨x3,hx3⟩:=gl s.procs i;have gx3:=hp x3 (lM hx3);have hge8:(1:Int)<=(x3.locs.length:Int):=hpo _ (cG _ (bV.2 ⟨x3,lM hx3,rfl⟩));have hmr9:=mul_rng hU3 hU4 (show (0:Int)<=(x3.locs.length:Int) by omega) (by omega);have hge9:1<=u*(x3.locs.length:Int):=by have:=cR hU3 hge8 (by decide) (by omega);omega
  refine Je 1 [(4,.g (xD 58 56 kf_5 (za4 hx3 (f:=zb2.d)) (eG 57 _))),(7,.len (za1 1 zdz x3.locs)),(8,.mul .i64 (m:=u) (n:=(x3.locs.length:Int)) i6)] [51] [(4,vI (u*(x3.locs.length:Int)))] h fun a w h=>Je 1 [] [] [(64,vb (decide ((u*(x3.locs.length:Int))>1048576)))] h fun a w h=>zag ((u*(x3.locs.length:Int))>1048576) h (fun hc14 hc14'=>?_) (fun hc15 hc15'=>?_)
  ·refine Je 1 [] [64] [(2,vI 0),(3,vb false)] h fun a w h=>qV (za6 (za2 (za2 (za6 (za2 (zdp [.c (.d (.raw (.int .i64 0))),.c (.d (.raw (.bool false)))] h Exit.ret (.inl rfl)  rfl ⟨vT9,vT9,trivial⟩ ?_))))));rw [cnt_big hp hk9 hn9 (by have:=prc_le hpo (i+1);rw [prd_map hx3,<- hU2] at this;have h8:=dT hc14;unfold zeq at this;omega)];rfl
  refine qU (za5 (za0 (Jf 1 [(1,.j1 i)] [64] [(9,vI ((i:Int)+1))] h fun a w h=>za0 (za9 (x:=(i,u)) (y:=(i+1,u*(x3.locs.length:Int))) h ?_ ?_))))
  ·have:=zac hx3;have:=dF hc15;exact ⟨by omega,by rw [prd_map hx3,<- hU2];rfl,hge9,by omega⟩
  show s.procs.length - (i+1)<s.procs.length - i;have:=zac hx3;omega
 refine exA (qW (Je 1 [] [9,51] [(10,vI 0)] h fun a w h=>qZ ?_));have hu9:u=prd (wdl s 0):=by rw [hU2,bR (by have:=dF hc16;omega)];unfold wdl;simp
 refine zcc (ι:=(Nat) × (Int)) (fun (v2,q)=>v2<=s.vars.length/\q=prd (wdl s v2)/\1<=q/\q<=1048576)
   [] (fun (v2,q)=>[(4,vI q),(10,vN v2)])
   [] (fun (v2,q)=>[])
   (fun (v2,q)=>s.vars.length - v2) (0,u) ?_ h ?_
 ·exact ⟨bG _,hu9,hU3,hU4⟩
 clear h;rintro ⟨v2,q⟩ a w hI h;dsimp only at h;obtain ⟨hQ1,hQ2,hQ3,hQ4⟩:=hI;refine qW (Je 1 [(3,.len (za1 1 zdz s.vars))] [] [(69,vb (decide ((v2:Int)<(s.vars.length:Int))))] h fun a w h=>zag ((v2:Int)<(s.vars.length:Int)) h (fun hc17 hc17'=>?_) (fun hc20 hc20'=>?_))
 ·refine qU (za0 (qW (qZ ?_)));have hkv9:wdK s v2=true:=zbf.1 hk9 v2 (by omega);have hws9:=wdS_of hkv9;have hge8:1<=wdS s v2:=by rw [hws9];exact hpo _ (cH _ (bV.2 ⟨v2,cW.2 (by omega),rfl⟩))
  have hle8:wdS s v2<=1048576:=by rw [hws9];exact (wdB_le _).2
  have hmr9:=mul_rng hQ3 hQ4 (show 0<=wdS s v2 by omega) (by omega);have hge9:1<=q*wdS s v2:=by have:=cR hQ3 hge8 (by decide) (by omega);omega
  refine Je 1 [(3,.call (ORwidth s v2 hs hL)),(4,.mul .i64 (m:=q) (n:=(wdS s v2)) i6)] [69] [(4,vI (q*wdS s v2))] h fun a w h=>Je 1 [] [] [(78,vb (decide ((q*wdS s v2)>1048576)))] h fun a w h=>zag ((q*wdS s v2)>1048576) h (fun hc18 hc18'=>?_) (fun hc19 hc19'=>?_)
  ·refine Je 1 [] [78] [(2,vI 0),(3,vb false)] h fun a w h=>qV (za6 (za2 (za2 (za6 (za2 (zdp [.c (.d (.raw (.int .i64 0))),.c (.d (.raw (.bool false)))] h Exit.ret (.inl rfl)  rfl ⟨vT9,vT9,trivial⟩ ?_))))));rw [cnt_big hp hk9 hn9 (by have:=wdl_le hpo (v:=v2+1) (by omega);rw [<- wdl_at,zjg,<- hQ2] at this;have h8:=dT hc18;rw [show prd [wdV s v2]=wdV s v2 from cK _,<- hws9] at this;omega)];rfl
  refine qU (za5 (za0 (Jf 1 [(1,.add .i64 (m:=(v2:Int)) (n:=1) i6)] [78] [(10,vI ((v2:Int)+1))] h fun a w h=>za0 (za9 (x:=(v2,q)) (y:=(v2+1,q*wdS s v2)) h ?_ ?_))))
  ·have:=dF hc19;exact ⟨by omega,by rw [<- wdl_at,zjg,<- hQ2,hws9];show _=q*(wdV s v2*1);rw [cK],hge9,by omega⟩
  show s.vars.length - (v2+1)<s.vars.length - v2;omega
 refine exA (Jq 1 [] [(2,vI q),(3,vb true)] [] h fun a w h=>qV (zdp [.c (.d (.raw (.int .i64 q))),.c (.d (.raw (.bool true)))] h Exit.ret (.inl rfl)  rfl ⟨vT9,vT9,trivial⟩ ?_));have hv9:s.vars.length=v2:=by have:=dF hc20;omega
 rw [cnt_all hp hk9 hn9 (by rw [hv9,<- hQ2];exact hQ4),hv9,<- hQ2];rfl
section
variable {P:Program}
theorem run_bounds3 {cap len h:Nat} {y z:Value} {k k':IntKind} (hy:y = .int k (h:Int)) (hz:z = .int k' (h:Int)) (h2:h<=cap):(Instr.sliceBounds true len cap none (some y) (some z)).run P w = .ok (0,h,h) w:=by
 subst hy hz
 simp only [Instr.sliceBounds,Sem.run_bind,run_sliceBound (P:=P) w _ _ cap _ (show (0:Int)<=(h:Int) by omega) (show (h:Int)<=(cap:Int) by omega),Result.andThen_ok,dS,run_sliceBound (P:=P) w _ _ h _ (show (0:Int)<=(h:Int) by omega) (show (h:Int)<=(h:Int) by omega),Sem.run_pure]
theorem Op.sliceD3 {d h:Nat} {y z:Operand} {rows rows':List (List D)} {pos af gd} (hs:SlT P xt el es) (hy:OV y (vi .i64 h) rs) (hz:OV z (vi .i64 h) rs') (h2:h<=rows.length) (he:rows.take h=rows') :
  zb6 P ⟨some d,.slice xt (.tmp t) none (some y) (some z),ty,pos,af,gd⟩ { rs:=(t,.t (.c (.d (.sl es rows)))) :: (rs++rs'),ws:=[(d,some (.t (.c (.d (.sl es rows')))))] } :=
 zb6.value d _ rfl rfl rfl fun e f H B a w hok hr2=>by
  have g3:DR H (.sl es rows) (a.eval (.tmp t)):=hok.slot t _ (hr2.1 (t,.t (.c (.d (.sl es rows)))) (by simp))
  have ey:=(hy.eval hok fun p hp=>hr2.1 p (by simp [hp])).rawI
  have ez:=(hz.eval hok fun p hp=>hr2.1 p (by simp [hp])).rawI
  generalize hv0:a.eval (.tmp t)=v at g3
  subst he
  have run:∀ ao len cap,v = .slice ao len cap->h<=cap->(execOp a.eval ⟨some d,.slice xt (.tmp t) none (some y) (some z),ty,pos,af,gd⟩).run P w = .ok (.value (.slice (if h=0 then ao else ao.map (·.add (0*es))) h h)) w:=by
   intro ao len cap hv hc
   have hrun:(Instr.sliceAt xt (a.eval (.tmp t)) none (some (a.eval y)) (some (a.eval z))).run P w = .ok (.slice (if h=0 then ao else ao.map (·.add (0*es))) h h) w:=by
    rw [hv0,hv]
    simp only [Instr.sliceAt,Instr.slice,Sem.run_bind,run_underlying hs.hu,Result.andThen_ok,run_bounds3 (len:=len) ey ez hc,size_run hs.hs,Sem.run_pure,cQ]
   have hrun':(Instr.sliceAt xt (a.eval (.tmp t)) ((none:Option Operand).map a.eval) ((some y).map a.eval) ((some z).map a.eval)).run P w=_:=hrun
   simp only [execOp,Sem.run_bind,hrun', Result.andThen_ok,Sem.run_pure]
  cases g3 with
  | nil _ ao c k1 k2 =>
   obtain rfl:h=0:=by simpa using h2
   refine ⟨_,run ao 0 c rfl (bG _),?_⟩
   show DR H _ _
   simp only [List.take_nil,if_true]
   exact DR.nil es _ 0 (fun _=>rfl) (bG _)
  | sl _ _ b o c arr ty' fz vs hp hb hlc hc hes hv hx =>
   refine ⟨_,run _ _ c rfl (by omega),?_⟩
   show DR H _ _
   by_cases h0:h=0
   ·subst h0
    rw [dY,if_pos rfl]
    exact DR.nil es _ 0 (fun _=>rfl) (bG _)
   ·rw [if_neg h0]
    simp only [b7,Addr.add_mid,Nat.zero_mul,Nat.add_zero]
    have hlen:(rows.take h).length=h:=by rw [cE];omega
    have:=DR.sl (H:=H) es (rows.take h) b o h arr ty' fz vs (by omega) hb (by omega) (by omega) (fun i hi2=>by rw [List.getElem_take];exact hes _ _)
     (fun i hi2 j hj=>hv i (by omega) j hj)
     (fun i hi2 j hj=>by
      have e1:(rows.take h)[i]=rows[i]'(by omega):=List.getElem_take
      have hj':j<(rows[i]'(by omega)).length:=by rw [<- e1];exact hj
      have e2:(rows.take h)[i][j]=(rows[i]'(by omega))[j]:=by simp only [e1]
      rw [e2];exact hx i (by omega) j hj')
    rwa [hlen] at this
end
def dgs:List Int->Int->List Int × Int
  | [],n=>([],n)
  | w :: ns,n=>(((dgs ns n).2 % w) :: (dgs ns n).1,(dgs ns n).2 / w)
theorem zf4:∀ (ns:List Int) (n:Int),(dgs ns n).1.length=ns.length
 | [],_=>rfl
 | w :: ns,n=>by show (dgs ns n).1.length+1=_;rw [zf4 ns n];rfl
theorem dgs_ge (h:∀ w ∈ ns,1<=w) (hn:0<=n):0<=(dgs ns n).2/\(dgs ns n).2<=n:=by
 induction ns with
 | nil=>exact ⟨hn,cY _⟩
 | cons w ns ih =>
  obtain ⟨h1,h2⟩:=ih fun x hx=>h x (by simp [hx])
  have hw:=h w (by simp)
  exact ⟨cL h1 (by omega),Int.le_trans (cT _ h1) h2⟩
theorem dgs_app (xs ys:List Int) (n:Int):dgs (xs++ys) n=((dgs xs (dgs ys n).2).1++(dgs ys n).1,(dgs xs (dgs ys n).2).2):=by
 induction xs with
 | nil=>rfl
 | cons x xs ih=>rw [dQ,dgs,ih];rfl
theorem dgs_bd (h:∀ w ∈ ns,1<=w) (n:Int):∀ (i:Nat) (d w:Int),(dgs ns n).1[i]?=some d->ns[i]?=some w->0<=d/\d<w:=by
 induction ns with
 | nil=>intro i d w h1 h2;simp at h2
 | cons v ns ih =>
  intro i d w h1 h2
  cases i with
  | zero =>
   have hd:(dgs ns n).2 % v=d:=by simpa [dgs] using h1
   have hw:v=w:=by simpa using h2
   have:=h v (by simp)
   subst hw hd
   exact ⟨dA _ (by omega),cU _ (by omega)⟩
  | succ i=>exact ih (fun x hx=>h x (by simp [hx])) i d w (by simpa [dgs] using h1) (by simpa using h2)
theorem od1_4:Zero eE 3 [.d (.raw (.int .i64 0))]:=⟨(.int .i64 0:Value),[.int .i64 0],by kernel_rfl,rfl,(fun _ _=>⟨DR.raw _ rfl,trivial⟩)⟩
theorem od1_6:zbg eE 107:=zbg.mk' (by kernel_rfl)
theorem back_at {zs:List Int} (hj:j<zs.length):zs[zs.length - 1 - j]?=some (zct zs j):=by unfold zct;rw [bK (by omega)];rfl
def dgM (ns:List Int) (n:Int) (j:Nat):List Int:=bH (ns.length - j) 0++(dgs (ns.drop (ns.length - j)) n).1
def dgR (ns:List Int) (n:Int) (j:Nat):Int:=(dgs (ns.drop (ns.length - j)) n).2
theorem drop_back (hj:j<ns.length):ns.drop (ns.length - (j+1))=zct ns j :: ns.drop (ns.length - j):=by
 rw [d7 (by omega)]
 congr 1
 ·have:=back_at hj;rw [bK (by omega)] at this;injection this with this;rw [<- this];congr 1;omega
 ·congr 1;omega
theorem dgR_at (hj:j<ns.length):dgR ns n j / zct ns j=dgR ns n (j+1):=by unfold dgR;rw [drop_back hj,dgs]
theorem dgM_at (hj:j<ns.length):(dgM ns n j).set (ns.length - 1 - j) (dgR ns n j % zct ns j)=dgM ns n (j+1):=by
 unfold dgM dgR
 rw [drop_back hj,dgs]
 have e:ns.length - j=(ns.length - (j+1))+1:=by omega
 rw [e,d8, cZ,d9 _ _ (by rw [bU];omega),bU,show ns.length - 1 - j - (ns.length - (j+1))=0 by omega]
 rfl
theorem dgM_len (ns:List Int) (n:Int) (j:Nat):(dgM ns n j).length=ns.length:=by
 unfold dgM;rw [bJ,bU,zf4,cM];omega
theorem dgM_zero (ns:List Int) (n:Int):dgM ns n 0=bH ns.length 0:=by unfold dgM;rw [cQ,List.drop_length];simp [dgs]
theorem dgR_zero (ns:List Int) (n:Int):dgR ns n 0=n:=by unfold dgR;rw [cQ,List.drop_length];rfl
theorem dgM_all (ns:List Int) (n:Int):dgM ns n ns.length=(dgs ns n).1:=by unfold dgM;rw [dB];rfl
theorem dgR_ge (h:∀ w ∈ ns,1<=w) (hn:0<=n) (j:Nat):0<=dgR ns n j/\dgR ns n j<=n:=dgs_ge (fun w hw=>h w (dU hw)) hn
theorem back_mem (hj:j<ns.length):zct ns j ∈ ns:=cC (back_at hj)
def zcu (s:zab) (n:Int):List Int:=(dgs (wdl s s.vars.length) n).1
def zf9 (s:zab) (n:Int) (v:Nat):ZI:=ZI.of ((zam s v).lo.val+((zcu s n)[s.procs.length+v]?).getD 0)
def stN (s:zab) (n:Int):StD:=⟨(zcu s n).take s.procs.length,(bC s.vars.length).map (zf9 s n)⟩
def zdb (s:zab) (n:Int):StD × Bool:=if (zb3 s).2=true/\0<=n/\n<(zb3 s).1 then (stN s n,true) else (⟨[],[]⟩,false)
theorem zfs {s:zab} (h:(zb3 s).2=true):wdk s=true:=by
 cases hk:wdk s with
 | true=>rfl
 | false=>unfold zb3 at h;rw [if_neg (by rw [hk];exact Bool.noConfusion)] at h;cases h
theorem wds_yes {s:zab} (h:(zb3 s).2=true):wdsL s=wdl s s.vars.length:=if_pos (zfs h)
theorem cnt_val {s:zab} (h:(zb3 s).2=true):(zb3 s).1=0\/((zb3 s).1=prd (wdl s s.vars.length)/\(0:Int) ∉ wdl s s.vars.length/\(zb3 s).1<=1048576):=by
 have hk:=zfs h
 unfold zb3 at h ⊢
 rw [if_pos hk] at h ⊢
 unfold prdB at h ⊢
 split
 ·exact .inl rfl
 ·rename_i h0
  rw [if_neg h0] at h
  split
  ·rename_i h1;exact .inr ⟨rfl,h0,h1⟩
  ·rename_i h1;rw [if_neg h1] at h;cases h
theorem dig_at {s:zab} (h:((zcu s n).drop s.procs.length)[v]?=some x):((zcu s n)[s.procs.length+v]?).getD 0=x:=by rw [List.getElem?_drop] at h;rw [h];rfl
theorem dig_mem {s:zab} (h:((zcu s n).drop s.procs.length)[v]?=some x):x ∈ zcu s n:=dU (cC h)
theorem dig_bd {s:zab} (h:∀ w ∈ wdl s s.vars.length,1<=w) (hx:x ∈ zcu s n) (hp:zbp s):0<=x/\x<8796093021952:=by
 obtain ⟨i,hi,rfl⟩:=List.mem_iff_getElem.1 hx
 have hi2:i<(wdl s s.vars.length).length:=by unfold zcu at hi;rw [zf4] at hi;exact hi
 have h1:=dgs_bd h n i _ _ (bK hi) (bK hi2)
 have h2:=(wdl_bd hp _ _ (List.getElem_mem hi2)).2
 exact ⟨h1.1,Int.lt_of_lt_of_le h1.2 h2⟩
theorem bnd_len {s:zab} (h:(zb3 s).2=true) (hv:v<s.vars.length):v<s.bounds.length:=by
 rcases Nat.lt_or_ge v s.bounds.length with h1 | h1
 ·exact h1
 ·have h2:=zbf.1 (zfs h) v hv
  rw [wdk_no h1] at h2;cases h2
theorem zhv {s:zab} (hp:zbp s) (h:(zb3 s).2=true) (h0:0<=n) (h1:n<(zb3 s).1):(∀ w ∈ wdl s s.vars.length,1<=w)/\(zb3 s).1<=1048576:=by
 rcases cnt_val h with e | ⟨_,e,e2⟩
 ·omega
 ·exact ⟨fun w hw=>by have:=(wdl_bd hp _ w hw).1;have h3:w≠0:=fun e3=>e (e3 ▸ hw);omega,e2⟩
theorem OBackward (xs:List Int) :Fn eE 59 [] [(vIs xs)] (.t (.c (.fn (.func 107) [] [.ptr 0 0]))) [(0,.box [cIs xs])]:=by
 refine fB Tryz.func59 rfl 4 fun w H B a h=>Jq 0 [] [(1,vp 0 0),(2,vW .nilFunc)] [(0,.box [cIs xs])] h fun a w h=>Jp 1 [(0,.g (Op.makeFs (d:=3) (fn:=.func 107) [(1,0,0)]))] [(2,.t (.c (.fn (.func 107) [] [.ptr 0 0])))] h fun a w h=>qV (rT (.c (.fn (.func 107) [] [.ptr 0 0])) h rfl ?_)
 rfl
abbrev q1 (s:zab) (n:Int):V:=.t (.c (.d (.sl 1 (((zcu s n).drop s.procs.length).map za8))))
abbrev q2 (s:zab) (n:Int):V:=vI (((zcu s n).drop s.procs.length).length:Int)
abbrev q3:L:=.box [.d (.raw zaa),.d (.raw zaa)]
theorem OState (s:zab) (n:Int) {L:Nat} (hs:zaw L s) (hL:L<=1000) (hp:zbp s):Fn eE 26 [] [.t (.agg (zat s)),vI n] (.tup [.agg [.d (.sl 1 ((zdb s n).1.locs.map za8)),.d (.sl 2 ((zdb s n).1.vals.map ziD))],.c (.d (.raw (.bool (zdb s n).2)))]) []:=by
 have lbs:=hs.bnds;have lvs:=hs.vars;have lps:=hs.procs;have lwd:=zeo s;refine Fn.bodyR Tryz.func26 rfl 90 rfl fun w H B a h=>Jq 1 [] [(2,vp 1 0),(3,vp 2 0),(4,vp 3 0),(5,vb false)] [(1,.box (zat s)),(2,.box [.d (.raw (.int .i64 n))]),(3,q3)] h fun a w h=>Je 4 [(1,.call (OCount s hs hL hp))] [] [(6,vI (zb3 s).1),(7,vb (zb3 s).2)] h fun a w h=>qW ?_
 rcases bI (zb3 s).2 with hc1 | hc8
 ·rw [hc1] at h
  rcases bI (decide (n<0)) with hc2 | hc3
  ·have hc2':=dT hc2;refine Jq 4 [(4,.cmp (op:=.lss) (m:=n) (n:=0) (b:=true) .i64 hc2)] [(2,vp 1 0),(3,vp 2 0),(4,vp 3 0),(5,vb false),(31,vb true)] [(1,.box (zat s)),(2,.box [.d (.raw (.int .i64 n))]),(3,q3)] h fun a w h=>cS true h (fun _=>?_) nofun
   refine Je 4 [] [31] [] h fun a w h=>qV (za2 ?_);replace h:=zb7 3 0 1 [.d (.raw zaa),.d (.raw zaa)] h;replace h:=zb7 3 1 2 [.d (.sl 1 ([].map za8)),.d (.raw zaa)] h;refine leave_nil (zdp [.agg [.d (.sl 1 ([].map za8)),.d (.sl 2 ([].map ziD))],.c (.d (.raw (.bool false)))] h Exit.ret (.inl rfl)  rfl ⟨RV.agg _ 3 0 _ _ _ _ kk_5 rfl rfl rfl rfl,vT9,trivial⟩ ?_);rw [show zdb s n=(⟨[],[]⟩,false) from if_neg (fun hz8=>by have:=dT hc2;omega)];rfl
  have hc3':=dF hc3;refine Jq 4 [(4,.cmp (op:=.lss) (m:=n) (n:=0) (b:=false) .i64 hc3)] [(2,vp 1 0),(3,vp 2 0),(4,vp 3 0),(5,vb false),(31,vb (decide (n>=(zb3 s).1)))] [(1,.box (zat s)),(2,.box [.d (.raw (.int .i64 n))]),(3,q3)] h fun a w h=>zag (n>=(zb3 s).1) h (fun hc4 hc4'=>?_) (fun hc5 hc5'=>?_)
  ·refine Je 4 [] [31] [] h fun a w h=>qV (za2 ?_);replace h:=zb7 3 0 1 [.d (.raw zaa),.d (.raw zaa)] h;replace h:=zb7 3 1 2 [.d (.sl 1 ([].map za8)),.d (.raw zaa)] h;refine leave_nil (zdp [.agg [.d (.sl 1 ([].map za8)),.d (.sl 2 ([].map ziD))],.c (.d (.raw (.bool false)))] h Exit.ret (.inl rfl)  rfl ⟨RV.agg _ 3 0 _ _ _ _ kk_5 rfl rfl rfl rfl,vT9,trivial⟩ ?_);rw [show zdb s n=(⟨[],[]⟩,false) from if_neg (fun hz8=>by have:=dT hc4;omega)];rfl
  refine qU (za0 ?_);have hn9:(zb3 s).2=true/\0<=n/\n<(zb3 s).1:=⟨hc1,by have:=dF hc3;omega,by have:=dF hc5;omega⟩;obtain ⟨hpo,hc9⟩:=zhv hp hn9.1 hn9.2.1 hn9.2.2;have lwd9:(wdl s s.vars.length).length=s.procs.length+s.vars.length:=zeh s s.vars.length;refine Je 4 [(1,.call (Owidths s hs hL hp))] [31] [(8,.t (.c (.d (.sl 1 ((wdsL s).map za8)))))] h fun a w h=>?_;replace h:=cvM [] [(8,.t (.c (.d (.sl 1 ((wdl s s.vars.length).map za8)))))] [] [] (by rw [<- show ((wdsL s):List Int)=(wdl s s.vars.length) from (wds_yes hn9.1)]; try kernel_rfl) h;refine Jg 4 [(1,.len (za1 1 za8 (wdl s s.vars.length))),(2,.g (Op.makeO' (d:=40) (n:=5) (L:=(wdl s s.vars.length).length) (zs:=[.raw (.int .i64 0)]) (rows:=(bH (wdl s s.vars.length).length 0).map za8) tb_2 od1_4 rfl (eG 39 _) (eG 39 _) (by omega) (by rw [dZ];rfl)))] [] [(10,vp 4 0)] [] [(5,.row 3 1 ((bH (wdl s s.vars.length).length 0).map za8)),(4,.box [.own 5 (wdl s s.vars.length).length])] h fun a w h=>qW (Jg 6 [(1,.call (OBackward (wdl s s.vars.length)))] [8] [(42,.t (.c (.fn (.func 107) [] [.ptr 0 0])))] [] [(0,.box [.d (.sl 1 ((wdl s s.vars.length).map za8))])] h fun a w h=>?_);replace h:=cvM [] [] [] [(5,.row 3 1 ((dgM (wdl s s.vars.length) n 0).map za8))] (by rw [<- show ((bH (wdl s s.vars.length).length 0):List Int)=(dgM (wdl s s.vars.length) n 0) from (by rw [dgM_zero];first | done | rfl | (congr 1;omega))]; try kernel_rfl) h;replace h:=cvM [] [] [] [(4,.box [.own 5 (dgM (wdl s s.vars.length) n 0).length])] (by rw [dgM_len]; try kernel_rfl) h;replace h:=cvM [] [] [] [(2,.box [.d (.raw (.int .i64 (dgR (wdl s s.vars.length) n 0)))])] (by rw [dgR_zero]; try kernel_rfl) h;refine rangeB (m:=(wdl s s.vars.length).length) (e:=fun j=>(vI (((wdl s s.vars.length).length - 1 - j:Nat):Int),vI (zct (wdl s s.vars.length) j))) [1,2,3,5,4] [(2,vp 1 0),(3,vp 2 0),(4,vp 3 0),(5,vb false),(10,vp 4 0)] (fun j=>[(1,.box (zat s)),(2,.box [.d (.raw (.int .i64 (dgR (wdl s s.vars.length) n j)))]),(3,q3),(5,.row 3 1 ((dgM (wdl s s.vars.length) n j).map za8)),(4,.box [.own 5 (dgM (wdl s s.vars.length) n j).length])]) (fun j=>[(3,vp 2 0),(4,vp 3 0),(5,vb false),(10,vp 4 0),(11,vI (((wdl s s.vars.length).length - 1 - j:Nat):Int)),(12,vI (zct (wdl s s.vars.length) j))]) (fun j=>[(1,.box (zat s)),(2,.box [.d (.raw (.int .i64 (dgR (wdl s s.vars.length) n j)))]),(3,q3),(5,.row 3 1 ((dgM (wdl s s.vars.length) n j).map za8)),(4,.box [.own 5 (dgM (wdl s s.vars.length) n j).length])]) h (back_ints (wdl s s.vars.length) (by omega)) od1_6 rfl rfl (by decide) (by decide) (by decide) (by kernel_rfl) (by kernel_rfl) (by kernel_rfl) (by kernel_rfl) (by kernel_rfl) ?_ ?_ ?_
  ·clear h;intro H B l j a w hj h;refine rSeqX zb0 6 [] [(3,vp 2 0),(4,vp 3 0),(5,vb false),(10,vp 4 0),(11,vI (((wdl s s.vars.length).length - 1 - j:Nat):Int)),(44,vI (zct (wdl s s.vars.length) j))] [(1,.box (zat s)),(2,.box [.d (.raw (.int .i64 (dgR (wdl s s.vars.length) n j)))]),(3,q3),(5,.row 3 1 ((dgM (wdl s s.vars.length) n j).map za8)),(4,.box [.own 5 (dgM (wdl s s.vars.length) n j).length])] (by kernel_rfl) (by kernel_rfl) h fun a w h=>rSX zb0 6 [] [(3,vp 2 0),(4,vp 3 0),(5,vb false),(10,vp 4 0),(11,vI (((wdl s s.vars.length).length - 1 - j:Nat):Int)),(12,vI (zct (wdl s s.vars.length) j))] [(1,.box (zat s)),(2,.box [.d (.raw (.int .i64 (dgR (wdl s s.vars.length) n j)))]),(3,q3),(5,.row 3 1 ((dgM (wdl s s.vars.length) n j).map za8)),(4,.box [.own 5 (dgM (wdl s s.vars.length) n j).length])] (by kernel_rfl) (by kernel_rfl) h fun a w h=>?_;exact ⟨rfl,atS h (by kernel_rfl) (by kernel_rfl)⟩
  ·clear h;intro H B l j a w hj h;have gb9:=hpo _ (back_mem hj);have gr9:=dgR_ge hpo hn9.2.1 j;have lm9:=dgM_len (wdl s s.vars.length) n j;refine wpX_block ?_;have hr8:0<=(dgR (wdl s s.vars.length) n j) % (zct (wdl s s.vars.length) j)/\(dgR (wdl s s.vars.length) n j) % (zct (wdl s s.vars.length) j)<(zct (wdl s s.vars.length) j):=⟨dA _ (by omega),cU _ (by omega)⟩;obtain ⟨x4,hx4⟩:=gl (dgM (wdl s s.vars.length) n j) ((wdl s s.vars.length).length - 1 - j);refine rSeqX zb0 6 [(4,.g (Op.rem (d:=49) (xt:=3) (yt:=3) (k:=.i64) (m:=(dgR (wdl s s.vars.length) n j)) (n:=(zct (wdl s s.vars.length) j)) (r:=((dgR (wdl s s.vars.length) n j) % (zct (wdl s s.vars.length) j))) (eG 47 _) (eG 48 _) (by omega) (d3 (show 0<=(dgR (wdl s s.vars.length) n j) by omega)))),(5,.g (xO 50 45 5 (dgM (wdl s s.vars.length) n j).length ((wdl s s.vars.length).length - 1 - j) zdj (eG 46 _))),(6,.g (Op.storeR (t:=50) (n:=5) (i:=((wdl s s.vars.length).length - 1 - j)) (fo:=0) (rty:=3) (es:=1) (r:=za8 x4) (ds:=[.raw (.int .i64 ((dgR (wdl s s.vars.length) n j) % (zct (wdl s s.vars.length) j)))]) (rs:=[(49,vI ((dgR (wdl s s.vars.length) n j) % (zct (wdl s s.vars.length) j)))]) (rows:=(dgM (wdl s s.vars.length) n j).map za8) (rows':=((dgM (wdl s s.vars.length) n j).set ((wdl s s.vars.length).length - 1 - j) ((dgR (wdl s s.vars.length) n j) % (zct (wdl s s.vars.length) j))).map za8) tl_7 (eG 49 _) rfl rfl rfl (za4 hx4 (f:=za8)) (by simp [za8]) (zc9 (xs:=(dgM (wdl s s.vars.length) n j)) (F:=za8) ((wdl s s.vars.length).length - 1 - j) _ _ rfl)))] [(3,vp 2 0),(4,vp 3 0),(5,vb false),(12,vI (zct (wdl s s.vars.length) j))] [(1,.box (zat s)),(2,.box [.d (.raw (.int .i64 (dgR (wdl s s.vars.length) n j)))]),(3,q3),(5,.row 3 1 (((dgM (wdl s s.vars.length) n j).set ((wdl s s.vars.length).length - 1 - j) ((dgR (wdl s s.vars.length) n j) % (zct (wdl s s.vars.length) j))).map za8)),(4,.box [.own 5 (dgM (wdl s s.vars.length) n j).length])] (by kernel_rfl) (by kernel_rfl) h fun a w h=>?_;have hq8:0<=(dgR (wdl s s.vars.length) n j) / (zct (wdl s s.vars.length) j)/\(dgR (wdl s s.vars.length) n j) / (zct (wdl s s.vars.length) j)<=(dgR (wdl s s.vars.length) n j):=⟨cL (by omega) (by omega),cT _ (by omega)⟩;refine rSX zb0 6 [(2,.g (Op.quo (d:=53) (xt:=3) (yt:=3) (k:=.i64) (m:=(dgR (wdl s s.vars.length) n j)) (n:=(zct (wdl s s.vars.length) j)) (r:=((dgR (wdl s s.vars.length) n j) / (zct (wdl s s.vars.length) j))) (eG 51 _) (eG 52 _) (by omega) (c8 (show 0<=(dgR (wdl s s.vars.length) n j) by omega)) i6))] [(4,vp 3 0),(5,vb false)] [(1,.box (zat s)),(2,.box [.d (.raw (.int .i64 ((dgR (wdl s s.vars.length) n j) / (zct (wdl s s.vars.length) j))))]),(3,q3),(5,.row 3 1 (((dgM (wdl s s.vars.length) n j).set ((wdl s s.vars.length).length - 1 - j) ((dgR (wdl s s.vars.length) n j) % (zct (wdl s s.vars.length) j))).map za8)),(4,.box [.own 5 (dgM (wdl s s.vars.length) n j).length])] (by kernel_rfl) (by kernel_rfl) h fun a w h=>za5 ?_;replace h:=h.conv (f':=F.of [(4,vp 3 0),(5,vb false)] [(1,.box (zat s)),(2,.box [.d (.raw (.int .i64 (dgR (wdl s s.vars.length) n (j+1))))]),(3,q3),(5,.row 3 1 (((dgM (wdl s s.vars.length) n j).set ((wdl s s.vars.length).length - 1 - j) ((dgR (wdl s s.vars.length) n j) % (zct (wdl s s.vars.length) j))).map za8)),(4,.box [.own 5 (dgM (wdl s s.vars.length) n j).length])]) (by rw [show (dgR (wdl s s.vars.length) n j / zct (wdl s s.vars.length) j:Int)=(dgR (wdl s s.vars.length) n (j+1)) from dgR_at hj]; try kernel_rfl);replace h:=cvM [] [] [] [(5,.row 3 1 ((dgM (wdl s s.vars.length) n (j+1)).map za8))] (by rw [<- show (((dgM (wdl s s.vars.length) n j).set ((wdl s s.vars.length).length - 1 - j) ((dgR (wdl s s.vars.length) n j) % (zct (wdl s s.vars.length) j))):List Int)=(dgM (wdl s s.vars.length) n (j+1)) from (dgM_at hj)]; try kernel_rfl) h;replace h:=h.conv (f':=F.of [(4,vp 3 0),(5,vb false)] [(1,.box (zat s)),(2,.box [.d (.raw (.int .i64 (dgR (wdl s s.vars.length) n (j+1))))]),(3,q3),(5,.row 3 1 ((dgM (wdl s s.vars.length) n (j+1)).map za8)),(4,.box [.own 5 (dgM (wdl s s.vars.length) n (j+1)).length])]) (by simp only [dgM_len]; try kernel_rfl);exact ⟨rfl,atS h (by kernel_rfl) (by kernel_rfl)⟩
  clear h;intro H Dd a w h;replace h:=cvM [42] [] [0] [(2,.box [.d (.raw (.int .i64 (dgR (wdl s s.vars.length) n (wdl s s.vars.length).length)))]),(5,.row 3 1 ((zcu s n).map za8)),(4,.box [.own 5 (zcu s n).length])] (by rw [<- show ((dgM (wdl s s.vars.length) n (wdl s s.vars.length).length):List Int)=(zcu s n) from (dgM_all _ _)]; try kernel_rfl) h;have ld9:(zcu s n).length=s.procs.length+s.vars.length:=(zf4 _ _).trans lwd9;replace h:=zhz 5 1 3 ((zcu s n).map za8) h [(zcu s n).length] ⟨by first | exact (bE _).symm | (simp;done) | (simp;omega),trivial⟩;refine rSeqX zb0 6 [(3,.len (za1 3 zb2.d s.procs)),(6,.len (za1 3 zb2.d s.procs)),(7,.g (Op.sliceD3 (d:=61) (t:=54) (h:=s.procs.length) (rows:=(zcu s n).map za8) (rows':=((zcu s n).take s.procs.length).map za8) zdj (eG 57 _) (eG 60 _) (by rw [bE];omega) (by simp [dW])))] [(2,vp 1 0),(4,vp 3 0),(5,vb false),(10,vp 4 0),(13,vp 6 0)] [(1,.box (zat s)),(3,q3),(4,.box [.d (.sl 1 ((zcu s n).map za8))]),(6,.box [.d (.sl 1 (((zcu s n).take s.procs.length).map za8)),.d (.raw zaa)])] (by kernel_rfl) (by kernel_rfl) h fun a w h=>wpX_seq (rSeqX zb0 7 [(3,.len (za1 3 zb2.d s.procs)),(4,.g (Op.sliceD (d:=67) (t:=63) (l:=s.procs.length) (h:=(zcu s n).length) (rows:=(zcu s n).map za8) (rows':=((zcu s n).drop s.procs.length).map za8) zdj (BO.yes (k:=.i64) (i:=s.procs.length) _ (eG 66 _)) (by rw [bE];exact BO.no _) (by first | omega | (simp at *;omega)) (by first | omega | (simp only [bE];omega) | (simp at *;omega)) (by first | (simp [List.map_drop];done) | (rw [bR (by simp <;> omega)];simp [List.map_drop])))),(5,.len (za1 1 za8 ((zcu s n).drop s.procs.length)))] [(2,vp 1 0),(4,vp 3 0),(5,vb false),(13,vp 6 0),(67,q1 s n),(68,q2 s n),(69,vI 0)] [(1,.box (zat s)),(3,q3),(6,.box [.d (.sl 1 (((zcu s n).take s.procs.length).map za8)),.d (.raw zaa)])] (by kernel_rfl) (by kernel_rfl) h fun a w h=>wpX_block ?_);replace h:=zh4 6 1 7 2 28 [.d (.sl 1 (((zcu s n).take s.procs.length).map za8)),.d (.raw zaa)] h;replace h:=cvM [] [] [] [(7,.row 28 2 (((bC 0).map (zf9 s n)).map ziD))] (by rw [<- show ([]:List ZI)=((bC 0).map (zf9 s n)) from rfl]; try kernel_rfl) h;replace h:=cvM [] [] [] [(6,.box [.d (.sl 1 (((zcu s n).take s.procs.length).map za8)),.own 7 ((bC 0).map (zf9 s n)).length])] (by kernel_rfl) h
  refine loopX (ι:=(Nat)) (fun v=>v<=s.vars.length)
    (fun v=>[(2,vp 1 0),(4,vp 3 0),(5,vb false),(13,vp 6 0),(67,q1 s n),(68,q2 s n),(69,vN v)])
    (fun v=>[(1,.box (zat s)),(3,q3),(6,.box [.d (.sl 1 (((zcu s n).take s.procs.length).map za8)),.own 7 ((bC v).map (zf9 s n)).length]),(7,.row 28 2 (((bC v).map (zf9 s n)).map ziD))])
    (fun v=>s.vars.length - v) 0 ?_ h (by kernel_rfl) (by kernel_rfl) ?_
  ·exact bG _
  clear h;rintro v a w hI h;have lvr9:((bC v).map (zf9 s n)).length=v:=by rw [bE,bS]
  refine rSeqX zb0 8 [] [(2,vp 1 0),(4,vp 3 0),(5,vb false),(13,vp 6 0),(67,q1 s n),(68,q2 s n),(69,vN v),(70,vb (decide ((v:Int)<(((zcu s n).drop s.procs.length).length:Int))))] [(1,.box (zat s)),(3,q3),(6,.box [.d (.sl 1 (((zcu s n).take s.procs.length).map za8)),.own 7 ((bC v).map (zf9 s n)).length]),(7,.row 28 2 (((bC v).map (zf9 s n)).map ziD))] (by kernel_rfl) (by kernel_rfl) h fun a w h=>wpX_seq (condX (decide ((v:Int)<(((zcu s n).drop s.procs.length).length:Int))) h rfl (fun hc6=>?_) (fun hc7=>?_))
  ·have hc6':=dT hc6;refine wpX_skip (dfS h) (za0 (wpX_seq (wpX_block ?_)));obtain ⟨x5,hx5⟩:=gl ((zcu s n).drop s.procs.length) v;have gdx5:=dig_bd hpo (dig_mem hx5) hp;have hbl9:=bnd_len hn9.1 (v:=v) (by have:=zac hx5;have:((zcu s n).drop s.procs.length).length=s.vars.length:=by { rw [cM,ld9];omega };omega);refine rSeqX zb0 8 [(1,.g (xD 72 67 zdj (za4 hx5 (f:=za8)) (eG 69 _)))] [(2,vp 1 0),(4,vp 3 0),(5,vb false),(13,vp 6 0),(14,vN v),(15,vI x5),(67,q1 s n),(68,q2 s n),(69,vN v)] [(1,.box (zat s)),(3,q3),(6,.box [.d (.sl 1 (((zcu s n).take s.procs.length).map za8)),.own 7 ((bC v).map (zf9 s n)).length]),(7,.row 28 2 (((bC v).map (zf9 s n)).map ziD))] (by kernel_rfl) (by kernel_rfl) h fun a w h=>?_;obtain ⟨x6,hx6⟩:=gl s.bounds v;have gx6:=hs.bnd x6 (lM hx6);have l1x6:=gx6.1.2;obtain ⟨r7,er7,vr7,or7,lr7⟩:=mkZ (v:=x5) (m:=2) (ZI.len_of (by have:=pw2;omega));obtain ⟨r8,er8,vr8,or8,lr8⟩:=mkZ (v:=x6.lo.val+r7.val) (m:=x6.lo.abs.length+r7.abs.length+1) (ze4 gx6.1.1 or7);refine rSX zb0 8 [(5,.g (xD 79 77 kf_0 (za4 hx6 (f:=zaj.d)) (eG 78 _))),(9,.call (eF (SOf x5 ⟨by omega,by omega⟩) (congrArg vz er7.symm))),(10,.call (eF (SAdd x6.lo r7 gx6.1.1 or7 (by omega) (by omega)) (congrArg vz er8.symm))),(11,.g (bD 85 ([r8].map ziD) [(84,vz r8)] kk_3 (.cons (i:=0) (eG 84 _) (.nil)) (by kernel_rfl) (by simp [ziD]))),(12,.g (aD 86 75 85 7 8 ((bC v).map (zf9 s n)) [r8] ziD kk_4 (by simp [ziD])))] [(2,vp 1 0),(4,vp 3 0),(5,vb false),(13,vp 6 0),(67,q1 s n),(68,q2 s n),(69,vN v)] [(1,.box (zat s)),(3,q3),(6,.box ([.d (.sl 1 (((zcu s n).take s.procs.length).map za8)),.own 8 (((bC v).map (zf9 s n))++[r8]).length])),(8,.row 28 2 ((((bC v).map (zf9 s n))++[r8]).map ziD))] (by kernel_rfl) (by kernel_rfl) h fun a w h=>za5 (za0 (rSX zb0 9 [(0,.add .i64 (m:=(v:Int)) (n:=1) i6)] [(2,vp 1 0),(4,vp 3 0),(5,vb false),(13,vp 6 0),(67,q1 s n),(68,q2 s n),(69,vI ((v:Int)+1))] [(1,.box (zat s)),(3,q3),(6,.box ([.d (.sl 1 (((zcu s n).take s.procs.length).map za8)),.own 8 (((bC v).map (zf9 s n))++[r8]).length])),(8,.row 28 2 ((((bC v).map (zf9 s n))++[r8]).map ziD))] (by kernel_rfl) (by kernel_rfl) h fun a w h=>za0 ?_));rw [show ((((bC v).map (zf9 s n))++[r8]):List ZI)=((bC (v+1)).map (zf9 s n)) from (by rw [bZ,bP];congr 1;show [r8]=[zf9 s n v];rw [er8,vr7];unfold zf9;rw [zcl hx6,dig_at hx5])] at h;replace h:=zd8 8 7 h;refine za9 (x:=v) (y:=v+1) h ?_ ?_
   ·have:=zac hx5;have:((zcu s n).drop s.procs.length).length=s.vars.length:=by rw [cM,ld9];omega
    show v+1<=s.vars.length;omega
   show s.vars.length - (v+1)<s.vars.length - v;have:=zac hx5;have:((zcu s n).drop s.procs.length).length=s.vars.length:=by rw [cM,ld9];omega
   omega
  have hc7':=dF hc7;refine wpX_exit (dfS h) (zbq (zbq (zao (za0 (rSeqX zb0 9 [] [(4,vp 3 0),(5,vb true)] [(3,.box [.d (.sl 1 (((zcu s n).take s.procs.length).map za8)),.own 7 ((bC v).map (zf9 s n)).length]),(7,.row 28 2 (((bC v).map (zf9 s n)).map ziD))] (by kernel_rfl) (by kernel_rfl) h fun a w h=>wpX_ret (dfS h) ?_)))));replace h:=zhz 7 2 28 (((bC v).map (zf9 s n)).map ziD) h [((bC v).map (zf9 s n)).length] ⟨by first | exact (bE _).symm | (simp;done) | (simp;omega),trivial⟩;refine retX [.agg [.d (.sl 1 (((zcu s n).take s.procs.length).map za8)),.d (.sl 2 (((bC v).map (zf9 s n)).map ziD))],.c (.d (.raw (.bool true)))] h Exit.ret (.inl rfl)  rfl ⟨RV.agg _ 3 0 _ _ _ _ kk_5 rfl rfl rfl rfl,vT9,trivial⟩ ?_ (by kernel_rfl) (by kernel_rfl);have hv9:s.vars.length=v:=by have h8:=dF hc7;have:((zcu s n).drop s.procs.length).length=s.vars.length:=(by rw [cM,ld9];omega);omega
  rw [show zdb s n=(stN s n,true) from if_pos hn9];unfold stN;rw [hv9];rfl
 rw [hc8] at h;refine Jq 9 [] [(2,vp 1 0),(3,vp 2 0),(4,vp 3 0),(5,vb false),(31,vb true)] [(1,.box (zat s)),(2,.box [.d (.raw (.int .i64 n))]),(3,q3)] h fun a w h=>cS true h (fun _=>?_) nofun
 refine Je 9 [] [31] [] h fun a w h=>qV (za2 ?_);replace h:=zb7 3 0 1 [.d (.raw zaa),.d (.raw zaa)] h;replace h:=zb7 3 1 2 [.d (.sl 1 ([].map za8)),.d (.raw zaa)] h;refine leave_nil (zdp [.agg [.d (.sl 1 ([].map za8)),.d (.sl 2 ([].map ziD))],.c (.d (.raw (.bool false)))] h Exit.ret (.inl rfl)  rfl ⟨RV.agg _ 3 0 _ _ _ _ kk_5 rfl rfl rfl rfl,vT9,trivial⟩ ?_);rw [show zdb s n=(⟨[],[]⟩,false) from if_neg (fun hz8=>by have:=hz8.1;rw [hc8] at this;exact Bool.noConfusion this)];rfl
theorem oe1_5:Zero eE 28 [.d (.raw (.bool false)),.d (nsl [])]:=⟨(Value.agg #[.bool false,.slice none 0 0]),[.bool false,.slice none 0 0],by kernel_rfl,rfl,(fun _ _=>⟨DR.raw _ rfl,DR.nil _ _ _ (fun _=>rfl) (bG _),trivial⟩)⟩
theorem dgs_get:∀ {ns:List Int} {n:Int} {i:Nat} {w:Int}, ns[i]?=some w->(dgs ns n).1[i]?=some ((dgs (ns.drop (i+1)) n).2 % w)
 | v :: ns,n,0,w,h=>by
  have e:v=w:=by simpa using h
  subst e;rfl
 | v :: ns,n,i+1,w,h=>by
  have h:ns[i]?=some w:=by simpa using h
  show (dgs ns n).1[i]?=_
  rw [dgs_get h];rfl
def vws (s:zab):List Int:=(bC s.vars.length).map (wdV s)
def pws (s:zab):List Int:=s.procs.map zeq
theorem vws_len (s:zab):(vws s).length=s.vars.length:=by unfold vws;rw [bE,bS]
theorem zfr (s:zab):(pws s).length=s.procs.length:=by unfold pws;rw [bE]
theorem vws_at {s:zab} (h:v<s.vars.length):(vws s)[v]?=some (wdV s v):=by unfold vws;rw [bW,dE h];rfl
theorem back_v {s:zab} (h:v=s.vars.length - 1 - j) (hj:j<s.vars.length):zct (vws s) j=wdV s v:=by
 unfold zct;rw [vws_len,<- h,vws_at (by omega)];rfl
theorem back_p {s:zab} {k:Nat} {p:zb2} (h:k=s.procs.length - 1 - i) (hp:s.procs[k]?=some p):zct (pws s) i=(p.locs.length:Int):=by
 unfold zct;rw [zfr,<- h];unfold pws;rw [bW,hp];rfl
theorem digS_eq (s:zab) (n:Int):zcu s n=(dgs (pws s) (dgs (vws s) n).2).1++(dgs (vws s) n).1:=by unfold zcu wdl;rw [dgs_app];rfl
theorem dig_v {s:zab} (h:v=s.vars.length - 1 - j) (hj:j<s.vars.length):((zcu s n)[s.procs.length+v]?).getD 0=dgR (vws s) n j % wdV s v:=by
 have hl:(dgs (pws s) (dgs (vws s) n).2).1.length=s.procs.length:=by rw [zf4,zfr]
 rw [digS_eq,d5 (by omega),hl,show s.procs.length+v - s.procs.length=v by omega,dgs_get (vws_at (show v<s.vars.length by omega))]
 unfold dgR
 rw [vws_len,show s.vars.length - j=v+1 by omega];rfl
def zhh (s:zab) (n:Int) (j:Nat):List ZI:=bH (s.vars.length - j) zdi++(((bC s.vars.length).map (zf9 s n)).drop (s.vars.length - j))
theorem valM_len (s:zab) (n:Int) (j:Nat):(zhh s n j).length=s.vars.length:=by unfold zhh;rw [bJ,bU,cM,bE,bS];omega
theorem valM_zero (s:zab) (n:Int):zhh s n 0=bH s.vars.length zdi:=by unfold zhh;rw [cQ,d4 (by simp)];simp
theorem valM_all (s:zab) (n:Int):zhh s n s.vars.length=(bC s.vars.length).map (zf9 s n):=by unfold zhh;rw [dB];rfl
theorem valM_at {s:zab} (h:v=s.vars.length - 1 - j) (hj:j<s.vars.length):(zhh s n j).set v (zf9 s n v)=zhh s n (j+1):=by
 unfold zhh
 have e:s.vars.length - j=(s.vars.length - (j+1))+1:=by omega
 have e2:s.vars.length - (j+1)=v:=by omega
 have hl:v<((bC s.vars.length).map (zf9 s n)).length:=by rw [bE,bS];omega
 rw [e,e2,d8, cZ,d9 _ _ (by rw [bU];omega),bU,dB,d7 hl]
 simp
theorem st_locs {s:zab} (n:Int):dgM (pws s) (dgR (vws s) n s.vars.length) s.procs.length=(zcu s n).take s.procs.length:=by
 have h1:dgR (vws s) n s.vars.length=(dgs (vws s) n).2:=by unfold dgR;rw [vws_len,dB];rfl
 have h2:=dgM_all (pws s) (dgR (vws s) n s.vars.length)
 rw [zfr] at h2
 rw [h2,h1,digS_eq,dX (by rw [zf4,zfr];exact bL _),bR (by rw [zf4,zfr];exact bL _)]
theorem zgx {s:zab} (h:∀ w ∈ wdl s s.vars.length,1<=w):∀ w ∈ vws s,1<=w:=fun w hw=>h w (cH _ hw)
theorem pws_mem {s:zab} (h:∀ w ∈ wdl s s.vars.length,1<=w):∀ w ∈ pws s,1<=w:=fun w hw=>h w (cG _ hw)
theorem wdV_ok {s:zab} (h:(zb3 s).2=true) (hv:v<s.vars.length):wdS s v=wdV s v:=wdS_of (zbf.1 (zfs h) v hv)
theorem ORState (s:zab) (n:Int) {L:Nat} (hs:zaw L s) (hL:L<=1000) (hp:zbp s):Fn eE 12 [] [.t (.agg (zat s)),vI n] (.tup [.agg [.d (.sl 1 ((zdb s n).1.locs.map za8)),.d (.sl 2 ((zdb s n).1.vals.map ziD))],.c (.d (.raw (.bool (zdb s n).2)))]) []:=by
 have lbs:=hs.bnds;have lvs:=hs.vars;have lps:=hs.procs;have lwd:=zeo s;refine fB Tryz.func12 rfl 98 fun w H B a h=>?_
 refine Jq 1 [] [(1,vI n),(2,vp 1 0),(4,vp 2 0),(5,vb false)] [(1,.box (zat s)),(2,.box [.d (.raw zaa),.d (.raw zaa)])] h fun a w h=>?_;refine Jp 3 [(1,.call (ORCount s hs hL hp))] [(1,vI n),(2,vp 1 0),(4,vp 2 0),(5,vb false),(6,vI (zb3 s).1),(7,vb (zb3 s).2)] h fun a w h=>?_;refine qW ?_
 rcases bI (zb3 s).2 with hc1 | hc10
 ·rw [hc1] at h
  rcases bI (decide (n<0)) with hc2 | hc3
  ·have hc2':=dT hc2;refine Jq 3 [(4,.cmp (op:=.lss) (m:=n) (n:=0) (b:=true) .i64 hc2)] [(1,vI n),(2,vp 1 0),(4,vp 2 0),(5,vb false),(26,vb true)] [(1,.box (zat s)),(2,.box [.d (.raw zaa),.d (.raw zaa)])] h fun a w h=>?_;refine cS true h (fun _=>?_) nofun
   refine Jp 3 [] [(1,vI n),(2,vp 1 0),(4,vp 2 0),(5,vb false)] h fun a w h=>?_;refine qV (za2 ?_);replace h:=nilDLs 2 0 1 [.d (.raw zaa),.d (.raw zaa)] [(1,vI n),(2,vp 1 0),(4,vp 2 0),(5,vb false)] [(1,.box (zat s)),(2,.box [.d (.sl 1 ([].map za8)),.d (.raw zaa)])] h rfl rfl;replace h:=nilDLs 2 1 2 [.d (.sl 1 ([].map za8)),.d (.raw zaa)] [(1,vI n),(2,vp 1 0),(4,vp 2 0),(5,vb false)] [(1,.box (zat s)),(2,.box [.d (.sl 1 ([].map za8)),.d (.sl 2 ([].map ziD))])] h rfl rfl;refine zdp [.agg [.d (.sl 1 ([].map za8)),.d (.sl 2 ([].map ziD))],.c (.d (.raw (.bool false)))] h Exit.ret (.inl rfl)  rfl ⟨RV.agg _ 2 0 _ _ _ _ kk_5 rfl rfl rfl rfl,vT9,trivial⟩ ?_;rw [show zdb s n=(⟨[],[]⟩,false) from if_neg (fun hz8=>by have:=dT hc2;omega)];rfl
  have hc3':=dF hc3;refine Jq 3 [(4,.cmp (op:=.lss) (m:=n) (n:=0) (b:=false) .i64 hc3)] [(1,vI n),(2,vp 1 0),(4,vp 2 0),(5,vb false),(26,vb (decide (n>=(zb3 s).1)))] [(1,.box (zat s)),(2,.box [.d (.raw zaa),.d (.raw zaa)])] h fun a w h=>?_;refine zag (n>=(zb3 s).1) h (fun hc4 hc4'=>?_) (fun hc5 hc5'=>?_)
  ·refine Jp 3 [] [(1,vI n),(2,vp 1 0),(4,vp 2 0),(5,vb false)] h fun a w h=>?_;refine qV (za2 ?_);replace h:=nilDLs 2 0 1 [.d (.raw zaa),.d (.raw zaa)] [(1,vI n),(2,vp 1 0),(4,vp 2 0),(5,vb false)] [(1,.box (zat s)),(2,.box [.d (.sl 1 ([].map za8)),.d (.raw zaa)])] h rfl rfl;replace h:=nilDLs 2 1 2 [.d (.sl 1 ([].map za8)),.d (.raw zaa)] [(1,vI n),(2,vp 1 0),(4,vp 2 0),(5,vb false)] [(1,.box (zat s)),(2,.box [.d (.sl 1 ([].map za8)),.d (.sl 2 ([].map ziD))])] h rfl rfl;refine zdp [.agg [.d (.sl 1 ([].map za8)),.d (.sl 2 ([].map ziD))],.c (.d (.raw (.bool false)))] h Exit.ret (.inl rfl)  rfl ⟨RV.agg _ 2 0 _ _ _ _ kk_5 rfl rfl rfl rfl,vT9,trivial⟩ ?_;rw [show zdb s n=(⟨[],[]⟩,false) from if_neg (fun hz8=>by have:=dT hc4;omega)];rfl
  refine qU (za0 (Jq 3 [(2,.len (za1 3 zb2.d s.procs)),(3,.g (Op.makeO' (d:=31) (n:=4) (L:=s.procs.length) (zs:=[.raw (.int .i64 0)]) (rows:=(bH s.procs.length 0).map za8) tb_2 od1_4 rfl (eG 30 _) (eG 30 _) (by omega) (by rw [dZ];rfl))),(6,.len (za1 1 zdz s.vars)),(7,.g (Op.makeO' (d:=35) (n:=5) (L:=s.vars.length) (zs:=[.raw (.bool false),nsl []]) (rows:=(bH s.vars.length (ZI.mk false [])).map ziD) kk_4 oe1_5 rfl (eG 34 _) (eG 34 _) (by omega) (by rw [dZ];rfl)))] [(1,vI n),(2,vp 1 0),(4,vp 2 0),(5,vb false),(8,vp 3 0)] [(1,.box (zat s)),(2,.box [.d (.raw zaa),.d (.raw zaa)]),(4,.row 3 1 ((bH s.procs.length 0).map za8)),(5,.row 28 2 ((bH s.vars.length (ZI.mk false [])).map ziD)),(3,.box [.own 4 s.procs.length,.own 5 s.vars.length])] h fun a w h=>?_));refine qW ?_;have hn9:(zb3 s).2=true/\0<=n/\n<(zb3 s).1:=⟨hc1,by have:=dF hc3;omega,by have:=dF hc5;omega⟩;obtain ⟨hpo,hc9⟩:=zhv hp hn9.1 hn9.2.1 hn9.2.2;have lvw:=vws_len s;have lpw:=zfr s;refine Jp 6 [(2,.len (za1 1 zdz s.vars)),(3,.sub .i64 (m:=(s.vars.length:Int)) (n:=1) i6)] [(1,vI n),(2,vp 1 0),(4,vp 2 0),(5,vb false),(8,vp 3 0),(9,vI ((s.vars.length:Int) - 1))] h fun a w h=>?_;refine qZ ?_;replace h:=cv (fun z_:List ZI=>F.of [(1,vI n),(2,vp 1 0),(4,vp 2 0),(5,vb false),(8,vp 3 0),(9,vI ((s.vars.length:Int) - 1))] [(1,.box (zat s)),(2,.box [.d (.raw zaa),.d (.raw zaa)]),(4,.row 3 1 ((bH s.procs.length 0).map za8)),(5,.row 28 2 (z_.map ziD)),(3,.box [.own 4 s.procs.length,.own 5 s.vars.length])]) (show ((bH s.vars.length (ZI.mk false [])):List ZI)=(zhh s n 0) from (by rw [valM_zero];rfl)) h;replace h:=h.conv (f':=F.of [(1,vI (dgR (vws s) n 0)),(2,vp 1 0),(4,vp 2 0),(5,vb false),(8,vp 3 0),(9,vI ((s.vars.length:Int) - 1))] [(1,.box (zat s)),(2,.box [.d (.raw zaa),.d (.raw zaa)]),(4,.row 3 1 ((bH s.procs.length 0).map za8)),(5,.row 28 2 ((zhh s n 0).map ziD)),(3,.box [.own 4 s.procs.length,.own 5 s.vars.length])]) (by rw [dgR_zero]);replace h:=h.conv (f':=F.of [(1,vI (dgR (vws s) n 0)),(2,vp 1 0),(4,vp 2 0),(5,vb false),(8,vp 3 0),(9,vI ((s.vars.length:Int) - 1 - ((0:Nat):Int)))] [(1,.box (zat s)),(2,.box [.d (.raw zaa),.d (.raw zaa)]),(4,.row 3 1 ((bH s.procs.length 0).map za8)),(5,.row 28 2 ((zhh s n 0).map ziD)),(3,.box [.own 4 s.procs.length,.own 5 s.vars.length])]) (by first | rfl | (congr 2;omega) | (simp <;> kernel_rfl))
  refine loopS (ι:=(Nat)) (fun j=>j<=s.vars.length)
    (fun j=>[(1,vI (dgR (vws s) n j)),(2,vp 1 0),(4,vp 2 0),(5,vb false),(8,vp 3 0),(9,vI ((s.vars.length:Int) - 1 - (j:Int)))])
    (fun j=>[(1,.box (zat s)),(2,.box [.d (.raw zaa),.d (.raw zaa)]),(4,.row 3 1 ((bH s.procs.length 0).map za8)),(5,.row 28 2 ((zhh s n j).map ziD)),(3,.box [.own 4 s.procs.length,.own 5 s.vars.length])])
    (fun j=>s.vars.length - j) 0 ?_ h (by kernel_rfl) (by kernel_rfl) ?_
  ·exact bG _
  clear h;rintro j a w hI h;have gr9:=dgR_ge (zgx hpo) hn9.2.1 j;have lvm:=valM_len s n j;refine qW (Jp 6 [] [(1,vI (dgR (vws s) n j)),(2,vp 1 0),(4,vp 2 0),(5,vb false),(8,vp 3 0),(9,vI ((s.vars.length:Int) - 1 - (j:Int))),(42,vb (decide (((s.vars.length:Int) - 1 - (j:Int))>=0)))] h fun a w h=>?_);refine zag (((s.vars.length:Int) - 1 - (j:Int))>=0) h (fun hc6 hc6'=>?_) (fun hc7 hc7'=>?_)
  ·refine qU (za0 (qW (qZ ?_)));obtain ⟨vk,hkvk⟩:∃ k_:Nat,(s.vars.length:Int) - 1 - (j:Int)=(k_:Int):=⟨_,(cP (by have:=dT hc6;omega)).symm⟩;replace h:=h.conv (f':=F.of [(1,vI (dgR (vws s) n j)),(2,vp 1 0),(4,vp 2 0),(5,vb false),(8,vp 3 0),(9,vN vk),(42,vb (decide (((s.vars.length:Int) - 1 - (j:Int))>=0)))] [(1,.box (zat s)),(2,.box [.d (.raw zaa),.d (.raw zaa)]),(4,.row 3 1 ((bH s.procs.length 0).map za8)),(5,.row 28 2 ((zhh s n j).map ziD)),(3,.box [.own 4 s.procs.length,.own 5 s.vars.length])]) (by rw [hkvk]);have hvk9:vk=s.vars.length - 1 - j:=by omega
   have hj9:j<s.vars.length:=by omega
   have hw9:=wdV_ok hn9.1 (v:=vk) (by omega);have hw8:1<=wdS s vk:=by rw [hw9];exact zgx hpo _ (lM (vws_at (by omega)))
   have hw7:wdS s vk<=1048576:=by rw [hw9];exact (wdB_le _).2
   have hbl9:=bnd_len hn9.1 (v:=vk) (by omega);obtain ⟨x2,hx2⟩:=gl s.bounds vk;have gx2:=hs.bnd x2 (lM hx2);have l1x2:=gx2.1.2;have hr8:0<=(dgR (vws s) n j) % wdS s vk/\(dgR (vws s) n j) % wdS s vk<wdS s vk:=⟨dA _ (by omega),cU _ (by omega)⟩;obtain ⟨r4,er4,vr4,or4,lr4⟩:=mkZ (v:=(dgR (vws s) n j) % wdS s vk) (m:=2) (ZI.len_of (by have:=pw2;omega));obtain ⟨r5,er5,vr5,or5,lr5⟩:=mkZ (v:=x2.lo.val+r4.val) (m:=x2.lo.abs.length+r4.abs.length+1) (ze4 gx2.1.1 or4);obtain ⟨x6,hx6⟩:=gl (zhh s n j) vk;refine Jq 6 [(6,.g (xD 51 49 kf_0 (za4 hx2 (f:=zaj.d)) (eG 50 _))),(12,.call (ORwidth s vk hs hL)),(13,.g (Op.rem (d:=58) (xt:=3) (yt:=3) (k:=.i64) (m:=(dgR (vws s) n j)) (n:=(wdS s vk)) (r:=((dgR (vws s) n j) % wdS s vk)) (eG 54 _) (eG 57 _) (by omega) (d3 (show 0<=(dgR (vws s) n j) by omega)))),(14,.call (eF (SROf ((dgR (vws s) n j) % wdS s vk) ⟨by omega,by omega⟩) (congrArg vz er4.symm))),(15,.call (eF (SRAdd x2.lo r4 gx2.1.1 or4 (by omega) (by omega)) (congrArg vz er5.symm))),(16,.g (xO 61 46 5 s.vars.length vk zi8 (eG 47 _))),(17,.g (Op.storeR (t:=61) (n:=5) (i:=vk) (fo:=0) (rty:=28) (es:=2) (r:=ziD x6) (ds:=[.raw (.bool r5.neg),nsl r5.abs]) (rs:=[(60,vz r5)]) (rows:=(zhh s n j).map ziD) (rows':=((zhh s n j).set vk r5).map ziD) zgt (eG 60 _) rfl rfl rfl (za4 hx6 (f:=ziD)) (by simp [ziD]) (zc9 (xs:=(zhh s n j)) (F:=ziD) vk _ _ rfl)))] [(1,vI (dgR (vws s) n j)),(2,vp 1 0),(4,vp 2 0),(5,vb false),(8,vp 3 0),(9,vN vk)] [(1,.box (zat s)),(2,.box [.d (.raw zaa),.d (.raw zaa)]),(4,.row 3 1 ((bH s.procs.length 0).map za8)),(5,.row 28 2 (((zhh s n j).set vk r5).map ziD)),(3,.box [.own 4 s.procs.length,.own 5 s.vars.length])] h fun a w h=>?_;have hq8:0<=(dgR (vws s) n j) / wdS s vk/\(dgR (vws s) n j) / wdS s vk<=(dgR (vws s) n j):=⟨cL (by omega) (by omega),cT _ (by omega)⟩;refine Jl 6 [(3,.call (ORwidth s vk hs hL)),(4,.g (Op.quo (d:=66) (xt:=3) (yt:=3) (k:=.i64) (m:=(dgR (vws s) n j)) (n:=(wdS s vk)) (r:=((dgR (vws s) n j) / wdS s vk)) (eG 62 _) (eG 65 _) (by omega) (c8 (show 0<=(dgR (vws s) n j) by omega)) i6))] [(1,vI ((dgR (vws s) n j) / wdS s vk)),(2,vp 1 0),(4,vp 2 0),(5,vb false),(8,vp 3 0),(9,vN vk)] h fun a w h=>?_;refine za5 (za0 (Jl 6 [(1,.sub .i64 (m:=(vk:Int)) (n:=1) i6)] [(1,vI ((dgR (vws s) n j) / wdS s vk)),(2,vp 1 0),(4,vp 2 0),(5,vb false),(8,vp 3 0),(9,vI ((vk:Int) - 1))] h fun a w h=>?_));refine za0 ?_;have hr9:r5=zf9 s n vk:=by rw [er5,vr4];unfold zf9;rw [zcl hx2,dig_v hvk9 hj9,hw9]
   replace h:=cv (fun z_:List ZI=>F.of [(1,vI ((dgR (vws s) n j) / wdS s vk)),(2,vp 1 0),(4,vp 2 0),(5,vb false),(8,vp 3 0),(9,vI ((vk:Int) - 1))] [(1,.box (zat s)),(2,.box [.d (.raw zaa),.d (.raw zaa)]),(4,.row 3 1 ((bH s.procs.length 0).map za8)),(5,.row 28 2 (z_.map ziD)),(3,.box [.own 4 s.procs.length,.own 5 s.vars.length])]) (show (((zhh s n j).set vk r5):List ZI)=(zhh s n (j+1)) from (by rw [hr9];exact valM_at hvk9 hj9)) h;replace h:=h.conv (f':=F.of [(1,vI (dgR (vws s) n (j+1))),(2,vp 1 0),(4,vp 2 0),(5,vb false),(8,vp 3 0),(9,vI ((vk:Int) - 1))] [(1,.box (zat s)),(2,.box [.d (.raw zaa),.d (.raw zaa)]),(4,.row 3 1 ((bH s.procs.length 0).map za8)),(5,.row 28 2 ((zhh s n (j+1)).map ziD)),(3,.box [.own 4 s.procs.length,.own 5 s.vars.length])]) (by rw [show (dgR (vws s) n j / wdS s vk:Int)=(dgR (vws s) n (j+1)) from (by rw [hw9,<- back_v hvk9 hj9];exact dgR_at (by omega))]);replace h:=h.conv (f':=F.of [(1,vI (dgR (vws s) n (j+1))),(2,vp 1 0),(4,vp 2 0),(5,vb false),(8,vp 3 0),(9,vI ((s.vars.length:Int) - 1 - ((j+1:Nat):Int)))] [(1,.box (zat s)),(2,.box [.d (.raw zaa),.d (.raw zaa)]),(4,.row 3 1 ((bH s.procs.length 0).map za8)),(5,.row 28 2 ((zhh s n (j+1)).map ziD)),(3,.box [.own 4 s.procs.length,.own 5 s.vars.length])]) (by rw [show ((vk:Int) - 1:Int)=(s.vars.length:Int) - 1 - ((j+1:Nat):Int) from (by omega)]);refine za9 (x:=j) (y:=j+1) h ?_ ?_
   ·show j+1<=s.vars.length;omega
   show s.vars.length - (j+1)<s.vars.length - j;omega
  refine exA (qW (Jp 6 [(2,.len (za1 3 zb2.d s.procs)),(3,.sub .i64 (m:=(s.procs.length:Int)) (n:=1) i6)] [(1,vI (dgR (vws s) n j)),(2,vp 1 0),(4,vp 2 0),(5,vb false),(8,vp 3 0),(10,vI ((s.procs.length:Int) - 1))] h fun a w h=>?_));refine qZ ?_;obtain rfl:j=s.vars.length:=by have:=dF hc7;omega
  have gm9:=dgR_ge (zgx hpo) hn9.2.1 s.vars.length;replace h:=cv (fun z_:List Int=>F.of [(1,vI (dgR (vws s) n s.vars.length)),(2,vp 1 0),(4,vp 2 0),(5,vb false),(8,vp 3 0),(10,vI ((s.procs.length:Int) - 1))] [(1,.box (zat s)),(2,.box [.d (.raw zaa),.d (.raw zaa)]),(4,.row 3 1 (z_.map za8)),(5,.row 28 2 ((zhh s n s.vars.length).map ziD)),(3,.box [.own 4 s.procs.length,.own 5 s.vars.length])]) (show ((bH s.procs.length 0):List Int)=(dgM (pws s) (dgR (vws s) n s.vars.length) 0) from (by rw [dgM_zero,zfr])) h;replace h:=h.conv (f':=F.of [(1,vI (dgR (pws s) (dgR (vws s) n s.vars.length) 0)),(2,vp 1 0),(4,vp 2 0),(5,vb false),(8,vp 3 0),(10,vI ((s.procs.length:Int) - 1 - ((0:Nat):Int)))] [(1,.box (zat s)),(2,.box [.d (.raw zaa),.d (.raw zaa)]),(4,.row 3 1 ((dgM (pws s) (dgR (vws s) n s.vars.length) 0).map za8)),(5,.row 28 2 ((zhh s n s.vars.length).map ziD)),(3,.box [.own 4 s.procs.length,.own 5 s.vars.length])]) (by rw [dgR_zero];first | done | rfl | (congr 2;omega) | (simp <;> kernel_rfl))
  refine loopS (ι:=(Nat)) (fun i=>i<=s.procs.length)
    (fun i=>[(1,vI (dgR (pws s) (dgR (vws s) n s.vars.length) i)),(2,vp 1 0),(4,vp 2 0),(5,vb false),(8,vp 3 0),(10,vI ((s.procs.length:Int) - 1 - (i:Int)))])
    (fun i=>[(1,.box (zat s)),(2,.box [.d (.raw zaa),.d (.raw zaa)]),(4,.row 3 1 ((dgM (pws s) (dgR (vws s) n s.vars.length) i).map za8)),(5,.row 28 2 ((zhh s n s.vars.length).map ziD)),(3,.box [.own 4 s.procs.length,.own 5 s.vars.length])])
    (fun i=>s.procs.length - i) 0 ?_ h (by kernel_rfl) (by kernel_rfl) ?_
  ·exact bG _
  clear h;rintro i a w hI h;have gr8:=dgR_ge (pws_mem hpo) gm9.1 i;have lvm:=valM_len s n s.vars.length;have ldm:=dgM_len (pws s) (dgR (vws s) n s.vars.length) i;refine qW (Jp 6 [] [(1,vI (dgR (pws s) (dgR (vws s) n s.vars.length) i)),(2,vp 1 0),(4,vp 2 0),(5,vb false),(8,vp 3 0),(10,vI ((s.procs.length:Int) - 1 - (i:Int))),(72,vb (decide (((s.procs.length:Int) - 1 - (i:Int))>=0)))] h fun a w h=>?_);refine zag (((s.procs.length:Int) - 1 - (i:Int))>=0) h (fun hc8 hc8'=>?_) (fun hc9 hc9'=>?_)
  ·refine qU (za0 (qW (qZ ?_)));obtain ⟨pk,hkpk⟩:∃ k_:Nat,(s.procs.length:Int) - 1 - (i:Int)=(k_:Int):=⟨_,(cP (by have:=dT hc8;omega)).symm⟩;replace h:=h.conv (f':=F.of [(1,vI (dgR (pws s) (dgR (vws s) n s.vars.length) i)),(2,vp 1 0),(4,vp 2 0),(5,vb false),(8,vp 3 0),(10,vN pk),(72,vb (decide (((s.procs.length:Int) - 1 - (i:Int))>=0)))] [(1,.box (zat s)),(2,.box [.d (.raw zaa),.d (.raw zaa)]),(4,.row 3 1 ((dgM (pws s) (dgR (vws s) n s.vars.length) i).map za8)),(5,.row 28 2 ((zhh s n s.vars.length).map ziD)),(3,.box [.own 4 s.procs.length,.own 5 s.vars.length])]) (by rw [hkpk]);have hpk9:pk=s.procs.length - 1 - i:=by omega
   obtain ⟨x8,hx8⟩:=gl s.procs pk;have gpx8:(1:Int)<=(x8.locs.length:Int):=pws_mem hpo _ (bV.2 ⟨x8,lM hx8,rfl⟩);have gqx8:=hp x8 (lM hx8);have hr8:0<=(dgR (pws s) (dgR (vws s) n s.vars.length) i) % (x8.locs.length:Int)/\(dgR (pws s) (dgR (vws s) n s.vars.length) i) % (x8.locs.length:Int)<(x8.locs.length:Int):=⟨dA _ (by omega),cU _ (by omega)⟩;obtain ⟨x9,hx9⟩:=gl (dgM (pws s) (dgR (vws s) n s.vars.length) i) pk;refine Jq 6 [(7,.g (xD 82 80 kf_5 (za4 hx8 (f:=zb2.d)) (eG 81 _))),(10,.len (za1 1 zdz x8.locs)),(11,.g (Op.rem (d:=86) (xt:=3) (yt:=3) (k:=.i64) (m:=(dgR (pws s) (dgR (vws s) n s.vars.length) i)) (n:=(x8.locs.length:Int)) (r:=((dgR (pws s) (dgR (vws s) n s.vars.length) i) % (x8.locs.length:Int))) (eG 78 _) (eG 85 _) (by omega) (d3 (show 0<=(dgR (pws s) (dgR (vws s) n s.vars.length) i) by omega)))),(12,.g (xO 87 76 4 s.procs.length pk zdj (eG 77 _))),(13,.g (Op.storeR (t:=87) (n:=4) (i:=pk) (fo:=0) (rty:=3) (es:=1) (r:=za8 x9) (ds:=[.raw (.int .i64 ((dgR (pws s) (dgR (vws s) n s.vars.length) i) % (x8.locs.length:Int)))]) (rs:=[(86,vI ((dgR (pws s) (dgR (vws s) n s.vars.length) i) % (x8.locs.length:Int)))]) (rows:=(dgM (pws s) (dgR (vws s) n s.vars.length) i).map za8) (rows':=((dgM (pws s) (dgR (vws s) n s.vars.length) i).set pk ((dgR (pws s) (dgR (vws s) n s.vars.length) i) % (x8.locs.length:Int))).map za8) tl_7 (eG 86 _) rfl rfl rfl (za4 hx9 (f:=za8)) (by simp [za8]) (zc9 (xs:=(dgM (pws s) (dgR (vws s) n s.vars.length) i)) (F:=za8) pk _ _ rfl)))] [(1,vI (dgR (pws s) (dgR (vws s) n s.vars.length) i)),(2,vp 1 0),(4,vp 2 0),(5,vb false),(8,vp 3 0),(10,vN pk)] [(1,.box (zat s)),(2,.box [.d (.raw zaa),.d (.raw zaa)]),(4,.row 3 1 (((dgM (pws s) (dgR (vws s) n s.vars.length) i).set pk ((dgR (pws s) (dgR (vws s) n s.vars.length) i) % (x8.locs.length:Int))).map za8)),(5,.row 28 2 ((zhh s n s.vars.length).map ziD)),(3,.box [.own 4 s.procs.length,.own 5 s.vars.length])] h fun a w h=>?_;have hq8:0<=(dgR (pws s) (dgR (vws s) n s.vars.length) i) / (x8.locs.length:Int)/\(dgR (pws s) (dgR (vws s) n s.vars.length) i) / (x8.locs.length:Int)<=(dgR (pws s) (dgR (vws s) n s.vars.length) i):=⟨cL (by omega) (by omega),cT _ (by omega)⟩;refine Jl 6 [(4,.g (xD 92 90 kf_5 (za4 hx8 (f:=zb2.d)) (eG 91 _))),(7,.len (za1 1 zdz x8.locs)),(8,.g (Op.quo (d:=96) (xt:=3) (yt:=3) (k:=.i64) (m:=(dgR (pws s) (dgR (vws s) n s.vars.length) i)) (n:=(x8.locs.length:Int)) (r:=((dgR (pws s) (dgR (vws s) n s.vars.length) i) / (x8.locs.length:Int))) (eG 88 _) (eG 95 _) (by omega) (c8 (show 0<=(dgR (pws s) (dgR (vws s) n s.vars.length) i) by omega)) i6))] [(1,vI ((dgR (pws s) (dgR (vws s) n s.vars.length) i) / (x8.locs.length:Int))),(2,vp 1 0),(4,vp 2 0),(5,vb false),(8,vp 3 0),(10,vN pk)] h fun a w h=>?_;refine za5 (za0 (Jl 6 [(1,.sub .i64 (m:=(pk:Int)) (n:=1) i6)] [(1,vI ((dgR (pws s) (dgR (vws s) n s.vars.length) i) / (x8.locs.length:Int))),(2,vp 1 0),(4,vp 2 0),(5,vb false),(8,vp 3 0),(10,vI ((pk:Int) - 1))] h fun a w h=>?_));refine za0 ?_;have hb9:=back_p hpk9 hx8;replace h:=cv (fun z_:List Int=>F.of [(1,vI ((dgR (pws s) (dgR (vws s) n s.vars.length) i) / (x8.locs.length:Int))),(2,vp 1 0),(4,vp 2 0),(5,vb false),(8,vp 3 0),(10,vI ((pk:Int) - 1))] [(1,.box (zat s)),(2,.box [.d (.raw zaa),.d (.raw zaa)]),(4,.row 3 1 (z_.map za8)),(5,.row 28 2 ((zhh s n s.vars.length).map ziD)),(3,.box [.own 4 s.procs.length,.own 5 s.vars.length])]) (show (((dgM (pws s) (dgR (vws s) n s.vars.length) i).set pk ((dgR (pws s) (dgR (vws s) n s.vars.length) i) % (x8.locs.length:Int))):List Int)=(dgM (pws s) (dgR (vws s) n s.vars.length) (i+1)) from (by rw [<- hb9,show pk=(pws s).length - 1 - i by omega];exact dgM_at (by omega))) h;replace h:=h.conv (f':=F.of [(1,vI (dgR (pws s) (dgR (vws s) n s.vars.length) (i+1))),(2,vp 1 0),(4,vp 2 0),(5,vb false),(8,vp 3 0),(10,vI ((pk:Int) - 1))] [(1,.box (zat s)),(2,.box [.d (.raw zaa),.d (.raw zaa)]),(4,.row 3 1 ((dgM (pws s) (dgR (vws s) n s.vars.length) (i+1)).map za8)),(5,.row 28 2 ((zhh s n s.vars.length).map ziD)),(3,.box [.own 4 s.procs.length,.own 5 s.vars.length])]) (by rw [show (dgR (pws s) (dgR (vws s) n s.vars.length) i / (x8.locs.length:Int):Int)=(dgR (pws s) (dgR (vws s) n s.vars.length) (i+1)) from (by rw [<- hb9];exact dgR_at (by omega))]);replace h:=h.conv (f':=F.of [(1,vI (dgR (pws s) (dgR (vws s) n s.vars.length) (i+1))),(2,vp 1 0),(4,vp 2 0),(5,vb false),(8,vp 3 0),(10,vI ((s.procs.length:Int) - 1 - ((i+1:Nat):Int)))] [(1,.box (zat s)),(2,.box [.d (.raw zaa),.d (.raw zaa)]),(4,.row 3 1 ((dgM (pws s) (dgR (vws s) n s.vars.length) (i+1)).map za8)),(5,.row 28 2 ((zhh s n s.vars.length).map ziD)),(3,.box [.own 4 s.procs.length,.own 5 s.vars.length])]) (by rw [show ((pk:Int) - 1:Int)=(s.procs.length:Int) - 1 - ((i+1:Nat):Int) from (by omega)]);refine za9 (x:=i) (y:=i+1) h ?_ ?_
   ·show i+1<=s.procs.length;omega
   show s.procs.length - (i+1)<s.procs.length - i;omega
  refine exA (Jq 6 [] [(4,vp 2 0),(5,vb true)] [(2,.box [.own 4 s.procs.length,.own 5 s.vars.length]),(4,.row 3 1 ((dgM (pws s) (dgR (vws s) n s.vars.length) i).map za8)),(5,.row 28 2 ((zhh s n s.vars.length).map ziD))] h fun a w h=>?_);refine qV ?_;obtain rfl:i=s.procs.length:=by have:=dF hc9;omega
  replace h:=cv (fun z_:List Int=>F.of [(4,vp 2 0),(5,vb true)] [(2,.box [.own 4 s.procs.length,.own 5 s.vars.length]),(4,.row 3 1 (z_.map za8)),(5,.row 28 2 ((zhh s n s.vars.length).map ziD))]) (show ((dgM (pws s) (dgR (vws s) n s.vars.length) s.procs.length):List Int)=((zcu s n).take s.procs.length) from (st_locs n)) h;replace h:=cv (fun z_:List ZI=>F.of [(4,vp 2 0),(5,vb true)] [(2,.box [.own 4 s.procs.length,.own 5 s.vars.length]),(4,.row 3 1 (((zcu s n).take s.procs.length).map za8)),(5,.row 28 2 (z_.map ziD))]) (show ((zhh s n s.vars.length):List ZI)=((bC s.vars.length).map (zf9 s n)) from (valM_all s n)) h;have ldS9:(zcu s n).length=s.procs.length+s.vars.length:=(zf4 _ _).trans (zeh s s.vars.length);have ldg9:((zcu s n).take s.procs.length).length=s.procs.length:=by rw [<- st_locs,dgM_len,zfr]
  replace h:=pubS 4 1 3 (((zcu s n).take s.procs.length).map za8) [(4,vp 2 0),(5,vb true)] [(2,.box [.d (.sl 1 (((zcu s n).take s.procs.length).map za8)),.own 5 s.vars.length]),(5,.row 28 2 (((bC s.vars.length).map (zf9 s n)).map ziD))] h rfl trivial (show zeu _ [s.procs.length] from ⟨by first | exact (bE _).symm | (simp;done) | (simp;omega),trivial⟩);replace h:=pubS 5 2 28 (((bC s.vars.length).map (zf9 s n)).map ziD) [(4,vp 2 0),(5,vb true)] [(2,.box [.d (.sl 1 (((zcu s n).take s.procs.length).map za8)),.d (.sl 2 (((bC s.vars.length).map (zf9 s n)).map ziD))])] h rfl trivial (show zeu _ [s.vars.length] from ⟨by first | exact (bE _).symm | (simp;done) | (simp;omega),trivial⟩);refine zdp [.agg [.d (.sl 1 (((zcu s n).take s.procs.length).map za8)),.d (.sl 2 (((bC s.vars.length).map (zf9 s n)).map ziD))],.c (.d (.raw (.bool true)))] h Exit.ret (.inl rfl)  rfl ⟨RV.agg _ 2 0 _ _ _ _ kk_5 rfl rfl rfl rfl,vT9,trivial⟩ ?_;rw [show zdb s n=(stN s n,true) from if_pos hn9];rfl
 rw [hc10] at h;refine Jq 6 [] [(1,vI n),(2,vp 1 0),(4,vp 2 0),(5,vb false),(26,vb true)] [(1,.box (zat s)),(2,.box [.d (.raw zaa),.d (.raw zaa)])] h fun a w h=>?_;refine cS true h (fun _=>?_) nofun
 refine Jp 6 [] [(1,vI n),(2,vp 1 0),(4,vp 2 0),(5,vb false)] h fun a w h=>?_;refine qV (za2 ?_);replace h:=nilDLs 2 0 1 [.d (.raw zaa),.d (.raw zaa)] [(1,vI n),(2,vp 1 0),(4,vp 2 0),(5,vb false)] [(1,.box (zat s)),(2,.box [.d (.sl 1 ([].map za8)),.d (.raw zaa)])] h rfl rfl;replace h:=nilDLs 2 1 2 [.d (.sl 1 ([].map za8)),.d (.raw zaa)] [(1,vI n),(2,vp 1 0),(4,vp 2 0),(5,vb false)] [(1,.box (zat s)),(2,.box [.d (.sl 1 ([].map za8)),.d (.sl 2 ([].map ziD))])] h rfl rfl;refine zdp [.agg [.d (.sl 1 ([].map za8)),.d (.sl 2 ([].map ziD))],.c (.d (.raw (.bool false)))] h Exit.ret (.inl rfl)  rfl ⟨RV.agg _ 2 0 _ _ _ _ kk_5 rfl rfl rfl rfl,vT9,trivial⟩ ?_;rw [show zdb s n=(⟨[],[]⟩,false) from if_neg (fun hz8=>by have:=hz8.1;rw [hc10] at this;exact Bool.noConfusion this)];rfl
theorem of1_0:ElZ eE 42 47 2:=ElZ.mk' Tryz.underlying42 _ _ rfl rfl
theorem of1_5:zbg eE 32:=zbg.mk' (by kernel_rfl)
theorem of1_12:zbg eE 84:=zbg.mk' (by kernel_rfl)
theorem cnt_pos {s:zab} (h:0<(zb3 s).1):(zb3 s).2=true:=by
 unfold zb3 prdB at h ⊢
 split
 ·rename_i hk
  rw [if_pos hk] at h
  split
  ·rfl
  ·rename_i h0
   rw [if_neg h0] at h
   split
   ·rfl
   ·rename_i h1;rw [if_neg h1] at h;simp at h
 ·rename_i hk;rw [if_neg hk] at h;simp at h
theorem cnt_bd (s:zab):0<=(zb3 s).1/\(zb3 s).1<=1048576\/(zb3 s).1<0:=by
 unfold zb3 prdB
 split
 ·split
  ·left;decide
  ·split
   ·rename_i h1;by_cases h2:prd (wdl s s.vars.length)<0
    ·right;exact h2
    ·left;exact ⟨by show 0<=prd _;omega,h1⟩
   ·left;decide
 ·left;decide
def cN (s:zab):Nat:=(zb3 s).1.toNat
theorem cN_le (s:zab):cN s<=1048576:=by unfold cN;rcases cnt_bd s with h | h <;> omega
theorem cN_lt {s:zab} (h:(i:Int)<(zb3 s).1):i<cN s:=by unfold cN;omega
theorem cN_ge {s:zab} (h:¬ (i:Int)<(zb3 s).1) (hi:i<=cN s):i=cN s:=by unfold cN at hi ⊢;omega
theorem st19_in {s:zab} (h:(i:Int)<(zb3 s).1):zdb s (i:Int)=(stN s (i:Int),true):=if_pos ⟨cnt_pos (by omega),by omega,h⟩
def stI (s:zab) (i:Nat):StD:=stN s (i:Int)
def zkd (s:zab):List StD:=(bC (cN s)).map (stI s)
def zg4 (s:zab):List StD:=(zkd s).filter (first s)
theorem rng_map (F:Nat->β) (v:Nat):(bC v).map F++[F v]=(bC (v+1)).map F:=by rw [bZ,bP];rfl
theorem rng_flt (F:Nat->β) (p:β->Bool) (v:Nat):((bC (v+1)).map F).filter p=((bC v).map F).filter p++(if p (F v)=true then [F v] else []):=by
 rw [bZ,bP,dC,List.map_singleton]
 congr 1
 cases h:p (F v) with
 | true=>rw [eA h,if_pos rfl];rfl
 | false=>rw [eB (by rw [h];exact Bool.noConfusion),if_neg Bool.noConfusion];rfl
theorem of_len2 {d:Int} (h0:0<=d) (h1:d<8796093021952):(ZI.of d).abs.length<=2:=ZI.len_of (by have:=pw2;omega)
theorem stN_ok {s:zab} {L:Nat} (hs:zaw L s) (hp:zbp s) (hn:(zb3 s).2=true/\0<=n/\n<(zb3 s).1):zdh (L+3) (stN s n):=by
 obtain ⟨hpo,_⟩:=zhv hp hn.1 hn.2.1 hn.2.2
 refine ⟨?_,?_,fun z hz=>?_⟩
 ·show ((zcu s n).take s.procs.length).length<=10
  rw [cE];have:=hs.procs;omega
 ·show ((bC s.vars.length).map (zf9 s n)).length<=10
  rw [bE,bS];have:=hs.vars;omega
 ·obtain ⟨v,hv,rfl⟩:=bV.1 hz
  refine ⟨ZI.lb_of _,?_⟩
  have hb:=zgu hs v
  have hd:0<=((zcu s n)[s.procs.length+v]?).getD 0/\((zcu s n)[s.procs.length+v]?).getD 0<8796093021952:=by
   cases e:(zcu s n)[s.procs.length+v]? with
   | none=>exact ⟨cY _,(by decide)⟩
   | some d=>exact dig_bd hpo (cC e) hp
  have h1:=ze4 hb.1.1 (ZI.lb_of (((zcu s n)[s.procs.length+v]?).getD 0))
  rw [ZI.val_of] at h1
  have h2:=of_len2 hd.1 hd.2
  have h3:=hb.1.2
  show (ZI.of _).abs.length<=_
  omega
theorem dgs_div (h:∀ w ∈ ns,1<=w) (n:Int):(dgs ns n).2=n / prd ns:=by
 induction ns with
 | nil=>show n=n / 1;rw [Int.ediv_one]
 | cons w ns ih =>
  show (dgs ns n).2 / w=_
  have h1:=zh1 fun x hx=>h x (List.mem_cons_of_mem w hx)
  rw [ih fun x hx=>h x (by simp [hx]),zfe,Int.ediv_ediv_of_nonneg (by omega),Int.mul_comm]
theorem dgs_zero:∀ (ns:List Int),(dgs ns 0).1=bH ns.length 0/\(dgs ns 0).2=0
 | []=>⟨rfl,rfl⟩
 | w :: ns=>by
  obtain ⟨h1,h2⟩:=dgs_zero ns
  refine ⟨?_,?_⟩
  ·show (dgs ns 0).2 % w :: (dgs ns 0).1=_;rw [h1,h2,Int.zero_emod];rfl
  ·show (dgs ns 0).2 / w=0;rw [h2,Int.zero_ediv]
theorem dgs_inj (h:∀ w ∈ ns,1<=w):∀ {n:Int}, 0<=n->(∀ d ∈ (dgs ns n).1,d=0)->(dgs ns n).2=0->n=0:=by
 induction ns with
 | nil=>intro n _ _ h2;exact h2
 | cons w ns ih =>
  intro n hn hd h2
  have h2:(dgs ns n).2 / w=0:=h2
  have h3:(dgs ns n).2 % w=0:=hd _ (by show _ ∈ _ :: _;simp)
  have h4:=eC (dgs ns n).2 w
  rw [h2,h3,Int.mul_zero] at h4
  exact ih (fun x hx=>h x (by simp [hx])) hn (fun d hd2=>hd d (by show _ ∈ _ :: _;simp [hd2])) (by omega)
theorem locs_of {s:zab} (n:Int):(stN s n).locs=(dgs (pws s) (dgs (vws s) n).2).1:=by
 show (zcu s n).take s.procs.length=_
 rw [digS_eq,dX (by rw [zf4,zfr];exact bL _),bR (by rw [zf4,zfr];exact bL _)]
theorem locs_mono {s:zab} (hp:zbp s) {n:Nat} (hn:n<=m) (hm:(m:Int)<(zb3 s).1) (h:(stI s n).locs.any (fun l=>l != 0)=true):(stI s m).locs.any (fun l=>l != 0)=true:=by
 have hc:=cnt_pos (show 0<(zb3 s).1 by omega)
 obtain ⟨hpo,_⟩:=zhv hp hc (show (0:Int)<=m by omega) hm
 rcases cnt_val hc with e | ⟨e,_,_⟩
 ·omega
 cases hx:(stI s m).locs.any (fun l=>l != 0) with
 | true=>rfl
 | false =>
  exfalso
  have hz:∀ d ∈ (dgs (pws s) (dgs (vws s) (m:Int)).2).1,d=0:=fun d hd=>by
   have h1:(stI s m).locs.any (fun l=>l != 0)=false:=hx
   unfold stI at h1
   rw [locs_of] at h1
   have:=List.any_eq_false.1 h1 d hd
   simpa using this
  have hv:=dgs_div (zgx hpo) (m:Int)
  have hv0:0<=(dgs (vws s) (m:Int)).2:=(dgs_ge (zgx hpo) (by omega)).1
  have hq:(dgs (pws s) (dgs (vws s) (m:Int)).2).2=0:=by
   rw [dgs_div (pws_mem hpo),hv]
   have hm2:(m:Int)<prd (pws s)*prd (vws s):=by
    have e2:prd (wdl s s.vars.length)=prd (pws s)*prd (vws s):=by unfold wdl;rw [zjg];rfl
    rw [<- e2,<- e];exact hm
   have hp1:=zh1 (pws_mem hpo)
   have hp2:=zh1 (zgx hpo)
   exact eD (cL (by omega) (by omega)) (Int.ediv_lt_of_lt_mul (by omega) hm2)
  have hr:=dgs_inj (pws_mem hpo) hv0 hz hq
  have hn2:(dgs (vws s) (n:Int)).2=0:=by
   rw [dgs_div (zgx hpo)]
   rw [hv] at hr
   have hp2:=zh1 (zgx hpo)
   have h4:(m:Int)<prd (vws s):=by
    have h5:=eC (m:Int) (prd (vws s))
    have h6:=cU (m:Int) (show 0<prd (vws s) by omega)
    rw [hr,Int.mul_zero] at h5
    omega
   exact eD (by omega) (by omega)
  unfold stI at h
  rw [locs_of,hn2,(dgs_zero _).1] at h
  rw [List.any_eq_true] at h
  obtain ⟨d,hd,h7⟩:=h
  rw [(List.mem_replicate.1 hd).2] at h7
  cases h7
theorem fst_cut {s:zab} (hp:zbp s) {n:Nat} (hn:(n:Int)<(zb3 s).1) (h:(stI s n).locs.any (fun l=>l != 0)=true):((bC n).map (stI s)).filter (first s)=zg4 s:=by
 unfold zg4 zkd
 have hlt:=cN_lt hn
 have e:bC (cN s)=bC n++(List.range' n (cN s - n)):=by
  rw [dM, dM, <- Nat.add_sub_cancel' (Nat.le_of_lt hlt),<- List.range'_append_1,Nat.zero_add,Nat.add_sub_cancel_left]
 have h0:((List.range' n (cN s - n)).map (stI s)).filter (first s)=[]:=List.filter_eq_nil_iff.2 fun x hx=>?_
 ·rw [e,bP,dC,h0,dD]
 obtain ⟨m,hm,rfl⟩:=bV.1 hx
 have hm:=List.mem_range'_1.1 hm
 have h1:=locs_mono hp (n:=n) (m:=m) hm.1 (by have:=hm.2;unfold cN at *;omega) h
 unfold first
 rw [h1];simp
def zaz (c:zb1) (v:Nat):List Int:=((bC v).filter (zax c)).map Int.ofNat
theorem freeI_yes {c:zb1} (h:zax c v=true):zaz c v++[(v:Int)]=zaz c (v+1):=by unfold zaz;rw [bZ,dC,bP,eA h];rfl
theorem zky {c:zb1} (h:zax c v=false):zaz c v=zaz c (v+1):=by unfold zaz;rw [bZ,dC,bP,eB (by rw [h];exact Bool.noConfusion)];simp
theorem freeI_len (c:zb1) (v:Nat):(zaz c v).length<=v:=by unfold zaz;rw [bE];exact cO (dH _ _) (by rw [bS];exact bL _)
theorem freeAt_no {c:zb1} (h:zkm c v=none):zax c v=false:=by unfold zax;rw [h]
theorem freeAt_is {c:zb1} {m:zan} (h:zkm c v=some m):zax c v=m.any:=by unfold zax;rw [h]
theorem ORAll (s:zab) {L:Nat} (hs:zaw L s) (hL:L<=1000) (hp:zbp s):Fn eE 9 [] [vG (zat s)] (vS 2 ((zkd s).map eH)) []:=by
 have lbs:=hs.bnds;have lvs:=hs.vars;have lps:=hs.procs;have lwd:=zeo s;refine fB Tryz.func9 rfl 31 fun w H B a h=>Jq 1 [] [(1,vp 1 0),(2,vW zaa)] [(1,.box (zat s))] h fun a w h=>Jg 2 [(0,.g (Op.buildE (d:=9) (n:=2) of1_0))] [] [(3,vO 2 0)] [] [(2,.row 47 2 ([].map eH))] h fun a w h=>Je 3 [(1,.call (ORCount s hs hL hp))] [] [(4,vI (zb3 s).1)] h fun a w h=>qW (Je 3 [] [] [(6,vI 0)] h fun a w h=>qZ ?_)
 replace h:=cvM [] [] [] [(2,.row 47 2 (((bC 0).map (stI s)).map eH))] (by rw [<- show ([]:List StD)=((bC 0).map (stI s)) from rfl]; try kernel_rfl) h;replace h:=cvM [] [(3,vO 2 ((bC 0).map (stI s)).length)] [] [] (by kernel_rfl) h
 refine zcc (ι:=(Nat)) (fun i=>i<=cN s)
   [] (fun i=>[(3,vO 2 ((bC i).map (stI s)).length),(6,vN i)])
   [] (fun i=>[(2,.row 47 2 (((bC i).map (stI s)).map eH))])
   (fun i=>cN s - i) 0 ?_ h ?_
 ·exact bG _
 clear h;rintro i a w hI h;have lcn:=cN_le s;have lal:((bC i).map (stI s)).length=i:=by rw [bE,bS]
 refine qW (Je 3 [] [] [(17,vb (decide ((i:Int)<(zb3 s).1)))] h fun a w h=>zag ((i:Int)<(zb3 s).1) h (fun hc1 hc1'=>?_) (fun hc2 hc2'=>?_))
 ·refine qU (za0 (qW (qZ (Jg 3 [(2,.call (eF (ORState s (i:Int) hs hL hp) (show (.tup [.agg [cIs (zdb s (i:Int)).1.locs,cZs (zdb s (i:Int)).1.vals],.c (cB (zdb s (i:Int)).2)]:V) = .tup [.agg [cIs (stI s i).locs,cZs (stI s i).vals],.c (cB true)] from by rw [st19_in (dT hc1)];rfl)))] [17] [(7,vp 3 0)] [] [(3,.box [cIs (stI s i).locs,cZs (stI s i).vals])] h fun a w h=>Jh 4 [(2,.g (bD 28 ([(stI s i)].map eH) [(27,vG [cIs (stI s i).locs,cZs (stI s i).vals])] of1_0 (.cons (i:=0) (eG 27 _) (.nil)) (by kernel_rfl) (by simp [eH]))),(3,.g (aD 29 26 28 2 4 ((bC i).map (stI s)) [(stI s i)] eH kn_1 (by simp [eH])))] [7] [(3,vO 4 (((bC i).map (stI s))++[(stI s i)]).length)] [2,3] [(4,.row 47 2 ((((bC i).map (stI s))++[(stI s i)]).map eH))] h fun a w h=>za5 (za0 (Jf 5 [(1,.j1 i)] [] [(6,vI ((i:Int)+1))] h fun a w h=>za0 ?_))))));rw [show ((((bC i).map (stI s))++[(stI s i)]):List StD)=((bC (i+1)).map (stI s)) from (rng_map (stI s) i)] at h;replace h:=zd8 4 2 h;refine za9 (x:=i) (y:=i+1) h ?_ ?_
  ·have:=cN_lt (dT hc1);show i+1<=cN s;omega
  show cN s - (i+1)<cN s - i;have:=cN_lt (dT hc1);omega
 refine exA (Jg 5 [] [1,3,4,6,17] [(2,vO 2 ((bC i).map (stI s)).length)] [1] [] h fun a w h=>qV ?_);replace h:=cv (fun z_:List StD=>F.of [(2,vO 2 z_.length)] [(2,.row 47 2 (z_.map eH))]) (show (((bC i).map (stI s)):List StD)=(zkd s) from (by rw [cN_ge (dF hc2) hI];rfl)) (h.conv (by kernel_rfl));replace h:=zhz 2 2 47 ((zkd s).map eH) h [(zkd s).length] ⟨by first | exact (bE _).symm | (simp;done) | (simp;omega),trivial⟩;refine rT (.c (.d (.sl 2 ((zkd s).map eH)))) h rfl ?_;rfl
theorem OFirst1 (l:Int) :Fn eE 32 [] [vI l] (vb (l != 0)) []:=by
 refine fB Tryz.func32 rfl 5 fun w H B a h=>Jq 0 [] [(0,vI l),(2,vb false)] [] h fun a w h=>Jq 0 [] [(2,vb (l != 0))] [] h fun a w h=>qV (rT (.c (cB (l != 0))) h rfl ?_)
 rfl
theorem SIdxF19 (pr:Int->Bool) (xs:List Int) (hf:∀ x ∈ xs,Fn eE 32 [] [vI x] (vb (pr x)) []) (hl:xs.length<=9223372036854775807):Fn eE 67 [] [(vIs xs),.t (.c (.fn (.func 32) [] []))] (vI (zcn pr xs 0)) []:=by
 refine fB Tryz.func67 rfl 19 fun w H B a h=>Jq 5 [] [(0,(vIs xs)),(1,.t (.c (.fn (.func 32) [] []))),(4,vI 0)] [] h fun a w h=>qW (Jg 5 [(1,.len (za1 1 za8 xs))] [] [(7,vN xs.length),(8,vI 0)] [] [] h fun a w h=>qZ ?_)
 refine zcc (ι:=(Nat)) (fun j=>j<=xs.length/\zcn pr xs 0=zcn pr (xs.drop j) j)
   [4] (fun j=>[(8,vN j)])
   [] (fun j=>[])
   (fun j=>xs.length - j) 0 ?_ h ?_
 ·exact ⟨bG _,rfl⟩
 clear h;rintro j a w hI h;obtain ⟨hI1,hI2⟩:=hI;refine Jg 5 [] [] [(9,vb (decide ((j:Int)<(xs.length:Int))))] [] [] h fun a w h=>qW (zag ((j:Int)<(xs.length:Int)) h (fun hc1 hc1'=>?_) (fun hc4 hc4'=>?_))
 ·refine qU (za0 (qW (qZ (Jg 5 [] [9] [(5,vN j)] [] [] h fun a w h=>?_))));obtain ⟨x1,hx1⟩:=gl xs j;refine Jg 5 [(3,.g (xD 14 12 zdj (za4 hx1 (f:=za8)) (eG 13 _))),(5,.g (Op.callV (d:=16) (t:=11) (cap:=[]) (args:=[vI x1]) (rs:=[(15,vI x1)]) (tys:=#[3]) (hf x1 (lM hx1)) of1_5 (OVs.cons (eG 15 _) (OVs.nil))))] [] [(16,vb (pr x1))] [] [] h fun a w h=>cS (pr x1) h (fun hc2=>?_) (fun hc3=>?_)
  ·refine Jg 5 [] [5,16] [(4,vN j)] [] [] h fun a w h=>qV (za6 (za2 (za2 (za6 (za2 (rT (.c (cI (j:Int))) h rfl ?_))))));have hz:zcn pr xs 0=(j:Int):=by rw [hI2,zci hx1,if_pos hc2]
   rw [hz];try rfl
  refine qU (za5 (za0 (Jh 5 [(0,.j1 j)] [5,16] [(8,vI ((j:Int)+1))] [] [] h fun a w h=>za0 (za9 (x:=j) (y:=j+1) h ?_ ?_))))
  ·exact ⟨by have:=zac hx1;omega,by rw [hI2,zci hx1,if_neg (by rw [hc3];exact Bool.noConfusion)]⟩
  (try simp);omega
 refine exA (Jq 5 [] [(4,vI (-1))] [] h fun a w h=>qV (rT (.c (cI (-1))) h rfl ?_));have hz:zcn pr xs 0=-1:=by rw [hI2,d4 (by omega)];rfl
 rw [hz];try rfl
theorem SAnyF19 (pr:Int->Bool) (xs:List Int) (hf:∀ x ∈ xs,Fn eE 32 [] [vI x] (vb (pr x)) []) (hl:xs.length<=9223372036854775807):Fn eE 31 [] [(vIs xs),.t (.c (.fn (.func 32) [] []))] (vb (xs.any pr)) []:=by
 refine fB Tryz.func31 rfl 9 fun w H B a h=>Jq 5 [] [(0,(vIs xs)),(1,.t (.c (.fn (.func 32) [] []))),(4,vb false)] [] h fun a w h=>Jq 5 [(2,.call (SIdxF19 pr xs  hf  hl))] [(4,vb (decide (zcn pr xs 0>=0)))] [] h fun a w h=>qV (rT (.c (cB (decide (zcn pr xs 0>=0)))) h rfl ?_)
 rw [<- zgl];try rfl
theorem OFirsts (s:zab) {L:Nat} (hs:zaw L s) (hL:L<=1000) (hp:zbp s):Fn eE 8 [] [vG (zat s)] (vS 2 ((zg4 s).map eH)) []:=by
 have lbs:=hs.bnds;have lvs:=hs.vars;have lps:=hs.procs;have lwd:=zeo s;refine fB Tryz.func8 rfl 36 fun w H B a h=>Jq 1 [] [(1,vp 1 0),(2,vW zaa)] [(1,.box (zat s))] h fun a w h=>Je 2 [] [] [(3,vW zaa)] h fun a w h=>Je 2 [(1,.call (OCount s hs hL hp))] [] [(4,vI (zb3 s).1)] h fun a w h=>qW (Je 2 [] [4] [(14,vI (zb3 s).1),(15,vI 0)] h fun a w h=>qZ ?_)
 replace h:=zg1 3 0 2 2 47 (vW zaa) h;replace h:=cvM [] [] [] [(2,.row 47 2 ((((bC 0).map (stI s)).filter (first s)).map eH))] (by rw [<- show ([]:List StD)=(((bC 0).map (stI s)).filter (first s)) from rfl]; try kernel_rfl) h;replace h:=cvM [] [(3,vO 2 (((bC 0).map (stI s)).filter (first s)).length)] [] [] (by kernel_rfl) h
 refine zcc (ι:=(Nat)) (fun i=>i<=cN s)
   [] (fun i=>[(3,vO 2 (((bC i).map (stI s)).filter (first s)).length),(15,vN i)])
   [] (fun i=>[(2,.row 47 2 ((((bC i).map (stI s)).filter (first s)).map eH))])
   (fun i=>cN s - i) 0 ?_ h ?_
 ·exact bG _
 clear h;rintro i a w hI h;have lcn:=cN_le s;have lal:(((bC i).map (stI s)).filter (first s)).length<=i:=cO (dH _ _) (by rw [bE,bS];exact bL _);refine Je 3 [] [] [(16,vb (decide ((i:Int)<(zb3 s).1)))] h fun a w h=>qW (zag ((i:Int)<(zb3 s).1) h (fun hc1 hc1'=>?_) (fun hc6 hc6'=>?_))
 ·refine qU (za0 (qW (qZ (Je 3 [] [16] [(6,vN i)] h fun a w h=>Jg 3 [(2,.call (eF (OState s (i:Int) hs hL hp) (show (.tup [.agg [cIs (zdb s (i:Int)).1.locs,cZs (zdb s (i:Int)).1.vals],.c (cB (zdb s (i:Int)).2)]:V) = .tup [.agg [cIs (stI s i).locs,cZs (stI s i).vals],.c (cB true)] from by rw [st19_in (dT hc1)];rfl)))] [6] [(7,vp 3 0)] [] [(3,.box [cIs (stI s i).locs,cZs (stI s i).vals])] h fun a w h=>qW (Je 4 [(2,.call (SAnyF19 (fun l=>l != 0) (stI s i).locs (fun l _=>OFirst1 l) (by have h8:=dT hc1;have:zdh (L+3) (stI s i):=stN_ok hs hp ⟨cnt_pos (by omega),by omega,h8⟩;have:=this.locs;omega)))] [] [(26,vb ((stI s i).locs.any fun l=>l != 0))] h fun a w h=>cS ((stI s i).locs.any fun l=>l != 0) h (fun hc2=>?_) (fun hc3=>?_))))))
  ·refine wp_exit (zbq (block_x rfl (zbq (zbq (zao (za0 (Jg 4 [] [1,3,7,14,15,26] [(2,vO 2 (((bC i).map (stI s)).filter (first s)).length)] [1,3] [] h fun a w h=>qV ?_)))))));replace h:=cv (fun z_:List StD=>F.of [(2,vO 2 z_.length)] [(2,.row 47 2 (z_.map eH))]) (show ((((bC i).map (stI s)).filter (first s)):List StD)=(zg4 s) from (fst_cut hp (dT hc1) hc2)) (h.conv (by kernel_rfl));replace h:=zhz 2 2 47 ((zg4 s).map eH) h [(zg4 s).length] ⟨by first | exact (bE _).symm | (simp;done) | (simp;omega),trivial⟩;refine rT (.c (.d (.sl 2 ((zg4 s).map eH)))) h rfl ?_;rfl
  refine qU (za0 (Je 4 [(2,.call (SFirst s (stI s i) (L:=L) (M:=L+3) (by omega) hs (stN_ok hs hp ⟨cnt_pos (by have:=dT hc1;omega),by omega,dT hc1⟩)))] [26] [(29,vb (first s (stI s i)))] h fun a w h=>cS (first s (stI s i)) h (fun hc4=>?_) (fun hc5=>?_)))
  ·refine Jh 4 [(2,.g (bD 32 ([(stI s i)].map eH) [(31,vG [cIs (stI s i).locs,cZs (stI s i).vals])] of1_0 (.cons (i:=0) (eG 31 _) (.nil)) (by kernel_rfl) (by simp [eH]))),(3,.g (aD 33 30 32 2 4 (((bC i).map (stI s)).filter (first s)) [(stI s i)] eH kn_1 (by simp [eH])))] [7,29] [(3,vO 4 ((((bC i).map (stI s)).filter (first s))++[(stI s i)]).length)] [2,3] [(4,.row 47 2 (((((bC i).map (stI s)).filter (first s))++[(stI s i)]).map eH))] h fun a w h=>za5 (za0 (Jf 5 [(0,.j1 i)] [] [(15,vI ((i:Int)+1))] h fun a w h=>za0 ?_));rw [show (((((bC i).map (stI s)).filter (first s))++[(stI s i)]):List StD)=(((bC (i+1)).map (stI s)).filter (first s)) from (by rw [rng_flt,hc4];first | (rw [if_pos rfl];done) | (rw [if_neg Bool.noConfusion,dD];done) | simp)] at h;replace h:=zd8 4 2 h;refine za9 (x:=i) (y:=i+1) h ?_ ?_
   ·have:=cN_lt (dT hc1);show i+1<=cN s;omega
   show cN s - (i+1)<cN s - i;have:=cN_lt (dT hc1);omega
  refine qU (za5 (za0 (Jh 5 [(0,.j1 i)] [7,29] [(15,vI ((i:Int)+1))] [3] [] h fun a w h=>za0 ?_)));replace h:=cvM [] [(3,vO 2 (((bC (i+1)).map (stI s)).filter (first s)).length)] [] [(2,.row 47 2 ((((bC (i+1)).map (stI s)).filter (first s)).map eH))] (by rw [<- show ((((bC i).map (stI s)).filter (first s)):List StD)=(((bC (i+1)).map (stI s)).filter (first s)) from (by rw [rng_flt,hc5];first | (rw [if_pos rfl];done) | (rw [if_neg Bool.noConfusion,dD];done) | simp)]; try kernel_rfl) h;refine za9 (x:=i) (y:=i+1) h ?_ ?_
  ·have:=cN_lt (dT hc1);show i+1<=cN s;omega
  show cN s - (i+1)<cN s - i;have:=cN_lt (dT hc1);omega
 refine exA (Jg 5 [] [1,3,14,15,16] [(2,vO 2 (((bC i).map (stI s)).filter (first s)).length)] [1] [] h fun a w h=>qV ?_);replace h:=cv (fun z_:List StD=>F.of [(2,vO 2 z_.length)] [(2,.row 47 2 (z_.map eH))]) (show ((((bC i).map (stI s)).filter (first s)):List StD)=(zg4 s) from (by rw [cN_ge (dF hc6) hI];rfl)) (h.conv (by kernel_rfl));replace h:=zhz 2 2 47 ((zg4 s).map eH) h [(zg4 s).length] ⟨by first | exact (bE _).symm | (simp;done) | (simp;omega),trivial⟩;refine rT (.c (.d (.sl 2 ((zg4 s).map eH)))) h rfl ?_;rfl
theorem OFree1 (m:zan) (v:Nat) :Fn eE 84 [(7,.box [cI (v:Int)])] [vG ([cI m.v,cB m.any,cPs m.t.parts]++zi m.t.k),vp 7 0] (vb (m.v == (v:Int))) [(7,.box [cI (v:Int)])]:=by
 refine fB Tryz.func84 rfl 8 fun w H B a h=>Jq 9 [] [(1,vp 7 0),(2,vp 9 0),(3,vb false)] [(7,.box [cI (v:Int)]),(9,.box ([cI m.v,cB m.any,cPs m.t.parts]++zi m.t.k))] h fun a w h=>Jg 10 [] [1,2] [(3,vb (m.v == (v:Int)))] [9] [] h fun a w h=>qV (rT (.c (cB (m.v == (v:Int)))) h rfl ?_)
 rfl
theorem SIdxFV (pr:zan->Bool) (xs:List zan) (v:Nat) (hf:∀ x ∈ xs,Fn eE 84 [(7,.box [cI (v:Int)])] [vG ([cI x.v,cB x.any,cPs x.t.parts]++zi x.t.k),vp 7 0] (vb (pr x)) [(7,.box [cI (v:Int)])]) (hl:xs.length<=9223372036854775807):Fn eE 83 [(7,.box [cI (v:Int)])] [vS 5 (xs.map zan.d),.t (.c (.fn (.func 84) [] [.ptr 7 0]))] (vI (zcn pr xs 0)) [(7,.box [cI (v:Int)])]:=by
 refine fB Tryz.func83 rfl 19 fun w H B a h=>Jq 8 [] [(0,vS 5 (xs.map zan.d)),(1,.t (.c (.fn (.func 84) [] [.ptr 7 0]))),(4,vI 0)] [(7,.box [cI (v:Int)])] h fun a w h=>qW (Je 8 [(1,.len (za1 5 zan.d xs))] [] [(7,vN xs.length),(8,vI 0)] h fun a w h=>qZ ?_)
 refine zcc (ι:=(Nat)) (fun j=>j<=xs.length/\zcn pr xs 0=zcn pr (xs.drop j) j)
   [4] (fun j=>[(8,vN j)])
   [] (fun j=>[])
   (fun j=>xs.length - j) 0 ?_ h ?_
 ·exact ⟨bG _,rfl⟩
 clear h;rintro j a w hI h;obtain ⟨hI1,hI2⟩:=hI;refine Je 8 [] [] [(9,vb (decide ((j:Int)<(xs.length:Int))))] h fun a w h=>qW (zag ((j:Int)<(xs.length:Int)) h (fun hc1 hc1'=>?_) (fun hc4 hc4'=>?_))
 ·refine qU (za0 (qW (qZ (Je 8 [] [9] [(5,vN j)] h fun a w h=>?_))));obtain ⟨x1,hx1⟩:=gl xs j;refine Je 8 [(3,.g (xD 14 12 ki_2 (za4 hx1 (f:=zan.d)) (eG 13 _))),(5,.g (Op.callV (d:=16) (t:=11) (cap:=[.ptr 7 0]) (args:=[vG ([cI x1.v,cB x1.any,cPs x1.t.parts]++zi x1.t.k)]) (rs:=[(15,vG ([cI x1.v,cB x1.any,cPs x1.t.parts]++zi x1.t.k))]) (tys:=#[105]) (hf x1 (lM hx1)) of1_12 (OVs.cons (eG 15 _) (OVs.nil))))] [] [(16,vb (pr x1))] h fun a w h=>cS (pr x1) h (fun hc2=>?_) (fun hc3=>?_)
  ·refine Je 8 [] [5,16] [(4,vN j)] h fun a w h=>qV (za6 (za2 (za2 (za6 (za2 (rT (.c (cI (j:Int))) h rfl ?_))))));have hz:zcn pr xs 0=(j:Int):=by rw [hI2,zci hx1,if_pos hc2]
   rw [hz];try rfl
  refine qU (za5 (za0 (Jf 8 [(0,.j1 j)] [5,16] [(8,vI ((j:Int)+1))] h fun a w h=>za0 (za9 (x:=j) (y:=j+1) h ?_ ?_))))
  ·exact ⟨by have:=zac hx1;omega,by rw [hI2,zci hx1,if_neg (by rw [hc3];exact Bool.noConfusion)]⟩
  (try simp);omega
 refine exA (Jp 8 [] [(4,vI (-1))] h fun a w h=>qV (rT (.c (cI (-1))) h rfl ?_));have hz:zcn pr xs 0=-1:=by rw [hI2,d4 (by omega)];rfl
 rw [hz];try rfl
theorem OFree (s:zab) (c:zb1) {L:Nat} (hs:zaw L s) (hc:zi3 L c):Fn eE 41 [] [vG (zat s),vG (acC c)] (vIs (zaz c s.vars.length)) []:=by
 have lvs:=hs.vars;have lmv:=hc.len;refine fB Tryz.func41 rfl 34 fun w H B a h=>Jq 4 [] [(2,vp 4 0),(3,vp 5 0),(4,vW zaa)] [(4,.box (zat s)),(5,.box (acC c))] h fun a w h=>Je 6 [] [] [(5,vW zaa)] h fun a w h=>qW (Jg 6 [(2,.len (za1 1 zdz s.vars))] [2] [(10,vN s.vars.length),(11,vI 0)] [4] [] h fun a w h=>qZ ?_)
 replace h:=zg1 5 0 6 1 3 (vW zaa) h;replace h:=cvM [] [] [] [(6,.row 3 1 ((zaz c 0).map za8))] (by rw [<- show ([]:List Int)=(zaz c 0) from rfl]; try kernel_rfl) h;replace h:=cvM [] [(5,vO 6 (zaz c 0).length)] [] [] (by kernel_rfl) h
 refine zcc (ι:=(Nat)) (fun v=>v<=s.vars.length)
   [] (fun v=>[(5,vO 6 (zaz c v).length),(11,vN v)])
   [] (fun v=>[(6,.row 3 1 ((zaz c v).map za8))])
   (fun v=>s.vars.length - v) 0 ?_ h ?_
 ·exact bG _
 clear h;rintro v a w hI h;have lfr:=freeI_len c v;refine Je 7 [] [] [(12,vb (decide ((v:Int)<(s.vars.length:Int))))] h fun a w h=>qW (zag ((v:Int)<(s.vars.length:Int)) h (fun hc1 hc1'=>?_) (fun hc4 hc4'=>?_))
 ·refine qU (za0 (qW (qZ (Jg 7 [] [12] [(6,vp 7 0)] [] [(7,.box [cI (v:Int)])] h fun a w h=>?_))))
  rcases zg3 (fun m=>m.v == (v:Int)) c.moves with ⟨hix,hmv⟩ | ⟨k,m,hix,hmk,hmv⟩
  ·have hfa:=freeAt_no (c:=c) (v:=v) hmv;refine Je 8 [(2,.g (Op.makeFs (d:=16) (fn:=.func 84) [(6,7,0)])),(3,.call (eF (SIdxFV (fun m=>m.v == (v:Int)) c.moves v (fun m _=>OFree1 m v) (by have:=hc.len;omega)) (congrArg (vi .i64) hix)))] [] [(7,vI (-1))] h fun a w h=>Je 8 [(1,.cmp (op:=.geq) (m:=(-1)) (n:=0) (b:=false) .i64 (show (decide ((-1)>=0))=false from by decide))] [7] [(27,vb false)] h fun a w h=>zbs h (qU (za5 (za0 (Jh 8 [(0,.add .i64 (m:=(v:Int)) (n:=1) i6)] [6,27] [(11,vI ((v:Int)+1))] [7] [] h fun a w h=>za0 ?_))));replace h:=cvM [] [(5,vO 6 (zaz c (v+1)).length)] [] [(6,.row 3 1 ((zaz c (v+1)).map za8))] (by rw [<- show ((zaz c v):List Int)=(zaz c (v+1)) from (zky hfa)]; try kernel_rfl) h;refine za9 (x:=v) (y:=v+1) h ?_ ?_
   ·show v+1<=s.vars.length;omega
   show s.vars.length - (v+1)<s.vars.length - v;omega
  have hfa:=freeAt_is (c:=c) (v:=v) hmv;have lmk:=zac hmk;refine Je 8 [(2,.g (Op.makeFs (d:=16) (fn:=.func 84) [(6,7,0)])),(3,.call (eF (SIdxFV (fun m=>m.v == (v:Int)) c.moves v (fun m _=>OFree1 m v) (by have:=hc.len;omega)) (congrArg (vi .i64) hix)))] [] [(7,vN k)] h fun a w h=>Je 8 [(1,.cmp (op:=.geq) (m:=(k:Int)) (n:=0) (b:=true) .i64 (show (decide ((k:Int)>=0))=true from decide_eq_true (by omega))),(6,.g (xD 24 22 ki_2 (za4 hmk (f:=zan.d)) (eG 23 _)))] [7] [(27,vb m.any)] h fun a w h=>cS m.any h (fun hc2=>?_) (fun hc3=>?_)
  ·refine Jh 8 [(2,.g (bD 30 ([(v:Int)].map za8) [(29,vN v)] tb_0 (.cons (i:=0) (eG 29 _) (.nil)) (by kernel_rfl) (by simp [za8]))),(3,.g (aD 31 28 30 6 8 (zaz c v) [(v:Int)] za8 tb_2 (by simp [za8])))] [6,27] [(5,vO 8 ((zaz c v)++[(v:Int)]).length)] [6,7] [(8,.row 3 1 (((zaz c v)++[(v:Int)]).map za8))] h fun a w h=>za5 (za0 (Jf 9 [(0,.add .i64 (m:=(v:Int)) (n:=1) i6)] [] [(11,vI ((v:Int)+1))] h fun a w h=>za0 ?_));rw [show (((zaz c v)++[(v:Int)]):List Int)=(zaz c (v+1)) from (freeI_yes (hfa.trans hc2))] at h;replace h:=zd8 8 6 h;refine za9 (x:=v) (y:=v+1) h ?_ ?_
   ·show v+1<=s.vars.length;omega
   show s.vars.length - (v+1)<s.vars.length - v;omega
  refine qU (za5 (za0 (Jh 9 [(0,.add .i64 (m:=(v:Int)) (n:=1) i6)] [6,27] [(11,vI ((v:Int)+1))] [7] [] h fun a w h=>za0 ?_)));replace h:=cvM [] [(5,vO 6 (zaz c (v+1)).length)] [] [(6,.row 3 1 ((zaz c (v+1)).map za8))] (by rw [<- show ((zaz c v):List Int)=(zaz c (v+1)) from (zky (hfa.trans hc3))]; try kernel_rfl) h;refine za9 (x:=v) (y:=v+1) h ?_ ?_
  ·show v+1<=s.vars.length;omega
  show s.vars.length - (v+1)<s.vars.length - v;omega
 refine exA (Jg 9 [] [3,5,10,11,12] [(4,vO 6 (zaz c v).length)] [5] [] h fun a w h=>qV ?_);replace h:=cv (fun z_:List Int=>F.of [(4,vO 6 z_.length)] [(6,.row 3 1 (z_.map za8))]) (show ((zaz c v):List Int)=(zaz c s.vars.length) from (by rw [show s.vars.length=v by have:=dF hc4;omega])) (h.conv (by kernel_rfl));replace h:=zhz 6 1 3 ((zaz c s.vars.length).map za8) h [(zaz c s.vars.length).length] ⟨by first | exact (bE _).symm | (simp;done) | (simp;omega),trivial⟩;refine rT (.c (cIs (zaz c s.vars.length))) h rfl ?_;rfl
mutual
inductive Wk:D->D->Prop
  | refl (x:D):Wk x x
  | nil (es:Nat):Wk (.raw zaa) (.sl es [])
  | sl (es:Nat) (a b:List (List D)) (h:WkR a b):Wk (.sl es a) (.sl es b)
inductive WkL:List D->List D->Prop
  | nil:WkL [] []
  | cons (x y:D) (xs ys:List D) (h:Wk x y) (hs:WkL xs ys):WkL (x :: xs) (y :: ys)
inductive WkR:List (List D)->List (List D)->Prop
  | nil:WkR [] []
  | cons (x y:List D) (xs ys:List (List D)) (h:WkL x y) (hs:WkR xs ys):WkR (x :: xs) (y :: ys)
end
def WkM (x y:D):Prop:=∀ (H:Im) (v:Value),DR H x v->DR H y v
def WkLM (xs ys:List D):Prop:=xs.length=ys.length/\∀ j (h:j<xs.length) (h':j<ys.length),WkM xs[j] ys[j]
def WkRM (xs ys:List (List D)):Prop:=xs.length=ys.length/\∀ i (h:i<xs.length) (h':i<ys.length),WkLM xs[i] ys[i]
theorem Wk.sound {x y:D} (h:Wk x y):WkM x y:=by
 refine Wk.rec (motive_1:=fun x y _=>WkM x y) (motive_2:=fun x y _=>WkLM x y) (motive_3:=fun x y _=>WkRM x y) ?_ ?_ ?_ ?_ ?_ ?_ ?_ h
 ·intro x H v h;exact h
 ·intro es H v h
  cases h with
  | raw v h=>exact DR.nil _ _ _ (fun _=>rfl) (bG _)
 ·intro es a b _ ih H v h
  cases h with
  | nil es ao c h hc =>
   have:b=[]:=bX.1 ih.1.symm
   subst this
   exact DR.nil _ _ _ h hc
  | sl es rows bb o c arr ty fz vs hp hb hl hc hes hv hr =>
   rw [ih.1] at hp hl ⊢
   refine DR.sl es b bb o c arr ty fz vs hp hb hl hc (fun i hi=>?_) (fun i hi=>?_) (fun i hi j hj=>?_)
   ·have h0:i<a.length:=by rw [ih.1];exact hi
    rw [<- (ih.2 i h0 hi).1];exact hes i h0
   ·exact hv i (by rw [ih.1];exact hi)
   ·have h0:i<a.length:=by rw [ih.1];exact hi
    have hj0:j<a[i].length:=by rw [(ih.2 i h0 hi).1];exact hj
    exact (ih.2 i h0 hi).2 j hj0 hj _ _ (hr i h0 j hj0)
 ·exact ⟨rfl,fun j h=>absurd h (dP j)⟩
 ·intro x y xs ys _ _ h hs
  refine ⟨by simp [hs.1],fun j hj hj'=>?_⟩
  cases j with
  | zero=>exact h
  | succ j=>exact hs.2 j (by simpa using hj) (by simpa using hj')
 ·exact ⟨rfl,fun j h=>absurd h (dP j)⟩
 ·intro x y xs ys _ _ h hs
  refine ⟨by simp [hs.1],fun j hj hj'=>?_⟩
  cases j with
  | zero=>exact h
  | succ j=>exact hs.2 j (by simpa using hj) (by simpa using hj')
inductive WkC:List C->List C->Prop
  | nil:WkC [] []
  | same (x:C) (xs ys:List C) (hs:WkC xs ys):WkC (x :: xs) (x :: ys)
  | d (x y:D) (xs ys:List C) (h:Wk x y) (hs:WkC xs ys):WkC (.d x :: xs) (.d y :: ys)
theorem WkC.sound {xs ys:List C} (h:WkC xs ys):∀ {vs:List Value}, zb4 (CR H B) xs vs->zb4 (CR H B) ys vs:=by
 induction h with
 | nil=>exact fun h=>h
 | same x xs ys _ ih =>
  intro vs k
  cases vs with
  | nil=>exact k.elim
  | cons v vs=>exact ⟨k.1,ih k.2⟩
 | d x y xs ys h _ ih =>
  intro vs k
  cases vs with
  | nil=>exact k.elim
  | cons v vs=>exact ⟨h.sound H v k.1,ih k.2⟩
inductive WkV:V->V->Prop
  | refl (x:V):WkV x x
  | c (x y:D) (h:Wk x y):WkV (.t (.c (.d x))) (.t (.c (.d y)))
  | agg (xs ys:List C) (h:WkC xs ys):WkV (.t (.agg xs)) (.t (.agg ys))
theorem WkV.sound {x y:V} (h:WkV x y) {v:Value} (k:VR H B x v):VR H B y v:=by
 cases h with
 | refl=>exact k
 | c x y h=>exact h.sound H v k
 | agg xs ys h=>obtain ⟨vs,e,k⟩:=k;exact ⟨vs,e,h.sound k⟩
inductive WkA:List V->List V->Prop
  | nil:WkA [] []
  | cons (x y:V) (xs ys:List V) (h:WkV x y) (hs:WkA xs ys):WkA (x :: xs) (y :: ys)
theorem WkA.sound {xs ys:List V} (h:WkA xs ys):∀ {vs:List Value}, zb4 (VR H B) xs vs->zb4 (VR H B) ys vs:=by
 induction h with
 | nil=>exact fun h=>h
 | cons x y xs ys h _ ih =>
  intro vs k
  cases vs with
  | nil=>exact k.elim
  | cons v vs=>exact ⟨h.sound k.1,ih k.2⟩
theorem Fn.argw {args':List V} (h:Fn P k ps args' res qs) (hw:WkA args args'):Fn P k ps args res qs :=
 fun w H B vals pre=>h w H B vals ⟨pre.sat,pre.loc,pre.priv,pre.inj,hw.sound pre.arg,pre.tab⟩
theorem Fn.resw {res':V} (h:Fn P k ps args res qs) (hw:WkV res res'):Fn P k ps args res' qs :=
 fun w H B vals pre=>(h w H B vals pre).mono fun en w' ⟨v,H', B', e,p⟩=>⟨v,H', B', e,{ p with res:=hw.sound p.res }⟩
theorem og1_3:ElZ eE 98 45 1:=ElZ.mk' Tryz.underlying98 _ _ rfl rfl
theorem og1_7:SlT eE 98 45 1:=SlT.mk' Tryz.underlying98 (by kernel_rfl)
theorem og1_11:ElT eE 98 45 1 24:=ElT.mk' Tryz.underlying98 _ _ rfl rfl
section
variable {w0:World} {H0:Im} {B0:Bl} {K:List Nat} {N:Nat} {a:Act} {w:World} {sl:List (Nat × V)} {lc:List (Nat × L)}
theorem wkS (t:Nat) (v v':V) (hw:WkV v v') (sl':List (Nat × V)) (lc':List (Nat × L)) (h:St ⟨w0,H0,B0,K,N⟩ (F.of sl lc) a w) (hv:sl.lookup t=some v)
  (h3:leS ((F.of sl lc).setS t v') sl'=sl'.map fun p=>some p.2) (h4:leN ((F.of sl lc).setS t v') lc'=lc'.map fun p=>some p.2):St ⟨w0,H0,B0,K,N⟩ (F.of sl' lc') a w :=
 St.weaken (f:=(F.of sl lc).setS t v') (by obtain ⟨H,B,hok⟩:=h;exact ⟨H,B,hok.setS t v _ hv fun u hu=>hw.sound hu⟩) (zht h3 h4)
end
def pv (s:zab) (v d:Nat):ZI:=ZI.of ((zam s v).lo.val+(d:Int))
def pk1 (s:zab) (v:Nat) (hd:List ZI):List (List ZI):=(bC (wdV s v).toNat).map fun d=>hd++[pv s v d]
def pkS (s:zab) (v:Nat) (ps:List (List ZI)):List (List ZI):=ps.flatMap (pk1 s v)
def pkT (s:zab) (vs:List Int):List (List ZI):=vs.foldl (fun ps x=>pkS s x.toNat ps) [[]]
structure PksOk (s:zab) (vs:List Int):Prop where
  v:∀ x ∈ vs,0<=x/\x<(s.vars.length:Int)
  w:∀ x ∈ vs,1<=wdV s x.toNat
  p:prd (vs.map fun x=>wdV s x.toNat)<=1048576
  l:vs.length<=10
theorem pk1_len (s:zab) (v:Nat) (hd:List ZI):(pk1 s v hd).length=(wdV s v).toNat:=by unfold pk1;rw [bE,bS]
theorem pkS_len (s:zab) (v:Nat) (ps:List (List ZI)):(pkS s v ps).length=ps.length*(wdV s v).toNat:=by
 induction ps with
 | nil=>rw [dL,Nat.zero_mul];rfl
 | cons p ps ih =>
  show (pk1 s v p++pkS s v ps).length=_
  rw [bJ,ih,pk1_len,List.length_cons,Nat.succ_mul,Nat.add_comm]
theorem zih (s:zab) (vs:List Int) (x:Int):pkT s (vs++[x])=pkS s x.toNat (pkT s vs):=by unfold pkT;rw [List.foldl_append];rfl
theorem pkT_at {s:zab} {vs:List Int} (h:vs[i]?=some x):pkT s (vs.take (i+1))=pkS s x.toNat (pkT s (vs.take i)):=by rw [cJ,h];exact zih _ _ _
theorem pkT_len {s:zab} {vs:List Int} (h:∀ x ∈ vs,0<=wdV s x.toNat):∀ i,i<=vs.length->((pkT s (vs.take i)).length:Int)=prd ((vs.map fun x=>wdV s x.toNat).take i)
 | 0,_=>by rw [dY,dY];rfl
 | i+1,hi=>by
  have hx:=bK (l:=vs) (i:=i) (by omega)
  have h1:=h _ (cC hx)
  rw [pkT_at hx,pkS_len,Int.natCast_mul,pkT_len h i (by omega),zhl (by rw [bW,hx];rfl),cP h1]
theorem pkT_bd {s:zab} {vs:List Int} (h:PksOk s vs) (hi:i<=vs.length):(pkT s (vs.take i)).length<=1048576:=by
 have h1:=pkT_len (s:=s) (vs:=vs) (fun x hx=>by have:=h.w x hx;omega) i hi
 have h2:=prd_ge (ns:=vs.map fun x=>wdV s x.toNat) (fun n hn=>by obtain ⟨x,hx,rfl⟩:=bV.1 hn;exact h.w x hx) i
 have:=h.p
 omega
theorem pk_each {s:zab} {vs:List Int}:∀ {hd:List ZI}, hd ∈ pkT s vs->hd.length=vs.length:=by
 have:∀ (n:Nat) (vs:List Int),vs.length=n->∀ hd ∈ pkT s vs,hd.length=n:=by
  intro n
  induction n with
  | zero=>intro vs hn hd hh;rw [bX.1 hn] at hh;rw [List.mem_singleton.1 hh];rfl
  | succ n ih =>
   intro vs hn hd hh
   rcases List.eq_nil_or_concat vs with rfl | ⟨ws,x,rfl⟩
   ·cases hn
   ·rw [List.concat_eq_append] at hn hh
    rw [zih] at hh
    obtain ⟨p,hp,h2⟩:=dR.1 hh
    obtain ⟨d,_,rfl⟩:=bV.1 h2
    rw [bJ] at hn ⊢
    rw [ih ws (by simpa using hn) p hp];rfl
 exact fun {hd} h=>this _ vs rfl hd h
theorem pk_row {s:zab} {d:Nat}:((bC d).map fun d=>hd++[pv s v d])++[hd++[pv s v d]]=(bC (d+1)).map fun d=>hd++[pv s v d]:=by rw [bZ,bP];rfl
theorem pkS_at {s:zab} {ps:List (List ZI)} (h:ps[j]?=some hd):pkS s v (ps.take j)++pk1 s v hd=pkS s v (ps.take (j+1)):=by
 rw [cJ,h];unfold pkS;rw [List.flatMap_append];simp
theorem pk_room {s:zab} {ps:List (List ZI)} {d:Nat} (hb:(pkS s v ps).length<=1048576) (h:ps[j]?=some hd) (hd':(d:Int)<=wdV s v):(pkS s v (ps.take j)++(bC d).map fun d=>hd++[pv s v d]).length<=1048576:=by
 have h1:=congrArg List.length (pkS_at (s:=s) (v:=v) h)
 rw [bJ,pk1_len,pkS_len s v (ps.take (j+1))] at h1
 rw [bJ,bE,bS]
 rw [pkS_len] at hb
 have h2:(ps.take (j+1)).length<=ps.length:=by rw [cE];omega
 have h3:=Nat.mul_le_mul_right (wdV s v).toNat h2
 omega
theorem SCloneZ1 (xs:List ZI) (hn:0<xs.length) (hl:xs.length<=1000000):Fn eE 82 [] [(vZs xs)] (vO 0 xs.length) [(0,.row 28 2 (xs.map ziD))]:=by
 refine fB Tryz.func82 rfl 8 fun w H B a h=>Jq 1 [] [(0,(vZs xs)),(2,vW zaa)] [] h fun a w h=>qW (Jg 1 [(1,.g (Op.eqNilD (d:=4) (t:=3) (es:=2) (xt:=45) (yt:=45) (rows:=xs.map ziD) zi8.hu ((by rw [bE];exact hn)) (OV.const zaa rfl)))] [] [(4,vb false)] [] [] h fun a w h=>zbs h (qU (za0 (Jq 1 [(0,.g (Op.buildE (d:=5) (n:=1) kk_3)),(2,.g (Op.appOD (d:=7) (t:=5) (u:=6) (n:=1) (n':=2) (len:=0) (len':=xs.length) (rows:=[].map ziD) (rows2:=xs.map ziD) (rows':=xs.map ziD) kk_4 (by first | exact (bE _).symm | simp) (by first | (rw [bJ,bE];done) | simp) (by simp) (by simp [ziD]) (by first | omega | (simp at *;done) | (simp at *;omega))))] [(2,vO 2 xs.length)] [(2,.row 28 2 (xs.map ziD))] h fun a w h=>qV ?_))))
 replace h:=zd8 2 0 h;refine rT (.c (.own 0 xs.length)) h rfl ?_;rfl
theorem SCloneZ2 :Fn eE 82 [] [vW zaa] (vO 0 0) [(0,.row 28 2 ([].map ziD))]:=by
 refine fB Tryz.func82 rfl 8 fun w H B a h=>Jq 1 [] [(0,vW zaa),(2,vW zaa)] [] h fun a w h=>qW (Jg 1 [(1,.g (Op.eqNilR (d:=4) (xt:=45) (yt:=45) (ao:=none) (n:=0) (c:=0) zi8.hu (eG 3 _) (OV.const zaa rfl)))] [] [(4,vb true)] [] [] h fun a w h=>cS true h (fun _=>?_) nofun)
 refine Jg 1 [] [4] [] [] [] h fun a w h=>qV (za2 ?_);replace h:=zg1 2 0 1 2 28 (vW zaa) h;replace h:=zd8 1 0 h;refine rT (.c (.own 0 0)) h rfl ?_;rfl
theorem SCloneZ3 (ao:Addr) (c:Nat) (hc:c<=maxLen):Fn eE 82 [] [vW (.slice (some ao) 0 c)] (vO 0 0) [(0,.row 28 2 ([].map ziD))]:=by
 refine fB Tryz.func82 rfl 8 fun w H B a h=>Jq 1 [] [(0,vW (.slice (some ao) 0 c)),(2,vW zaa)] [] h fun a w h=>qW (Jg 1 [(1,.g (Op.eqNilR (d:=4) (xt:=45) (yt:=45) (ao:=some ao) (n:=0) (c:=c) zi8.hu (eG 3 _) (OV.const zaa rfl)))] [] [(4,vb false)] [] [] h fun a w h=>zbs h (qU (za0 ?_)))
 replace h:=nilDSr 0 0 2 (vW (.slice (some ao) 0 c)) (some ao) c (fun e=>by cases e) hc [(0,(vZs [])),(2,vW zaa),(4,vb false)] [] h rfl rfl;refine Jq 1 [(0,.g (Op.buildE (d:=5) (n:=1) kk_3)),(2,.g (Op.appOD (d:=7) (t:=5) (u:=6) (n:=1) (n':=2) (len:=0) (len':=0) (rows:=[].map ziD) (rows2:=[].map ziD) (rows':=[].map ziD) kk_4 (by first | exact (bE _).symm | simp) (by first | (rw [bJ,bE];done) | simp) (by simp) (by simp [ziD]) (by first | omega | (simp at *;done) | (simp at *;omega))))] [(2,vO 2 0)] [(2,.row 28 2 ([].map ziD))] h fun a w h=>qV ?_;replace h:=zd8 2 0 h;refine rT (.c (.own 0 0)) h rfl ?_;rfl
theorem SCloneZ (xs:List ZI) (hl:xs.length<=1000000):Fn eE 82 [] [(vZs xs)] (vO 0 xs.length) [(0,.row 28 2 (xs.map ziD))]:=by
 cases xs with
 | nil =>
  refine Fn.rawE fun ao c h1 h2=>?_
  cases ao with
  | none=>obtain rfl:=h1 rfl;exact SCloneZ2
  | some ao=>exact SCloneZ3 ao c h2
 | cons x xs=>exact SCloneZ1 (x :: xs) (by simp) hl
theorem OPicks (s:zab) (vs:List Int) {L:Nat} (hs:zaw L s) (hL:L<=1000) (hc:(zb3 s).2=true) (hq:PksOk s vs):Fn eE 40 [] [vG (zat s),(vIs vs)] (vS 1 ((pkT s vs).map (slD 2 ziD))) []:=by
 have lbs:=hs.bnds;have lvq:=hq.l;refine fB Tryz.func40 rfl 61 fun w H B a h=>Jq 1 [] [(1,(vIs vs)),(2,vp 1 0),(4,vW zaa)] [(1,.box (zat s))] h fun a w h=>Je 2 [(0,.g (Op.buildD (d:=14) (len:=1) (rows:=[[.raw zaa]]) (rs:=[]) og1_3 (.cons (i:=0) (OV.const zaa rfl) (.nil)) (by kernel_rfl) rfl (by simp) (by decide) (by decide)))] [] [(5,vS 1 [[.raw zaa]])] h fun a w h=>qW ?_
 replace h:=wkS 5 (vS 1 [[.raw zaa]]) (vS 1 ((pkT s (vs.take 0)).map (slD 2 ziD))) (WkV.c _ _ (Wk.sl 1 _ _ (WkR.cons _ _ _ _ (WkL.cons _ _ _ _ (Wk.nil 2) .nil) .nil))) [(1,(vIs vs)),(2,vp 1 0),(4,vW zaa),(5,vS 1 ((pkT s (vs.take 0)).map (slD 2 ziD)))] [(1,.box (zat s))] h rfl (by kernel_rfl) (by kernel_rfl);refine Je 2 [(1,.len (za1 1 za8 vs))] [1] [(15,(vIs vs)),(16,vN vs.length),(17,vI 0)] h fun a w h=>qZ ?_
 refine zcc (ι:=(Nat)) (fun i=>i<=vs.length)
   [] (fun i=>[(5,vS 1 ((pkT s (vs.take i)).map (slD 2 ziD))),(17,vN i)])
   [] (fun i=>[])
   (fun i=>vs.length - i) 0 ?_ h ?_
 ·exact bG _
 clear h;rintro i a w hI h;have lpk:=pkT_bd hq (i:=i) hI;refine Je 2 [] [] [(18,vb (decide ((i:Int)<(vs.length:Int))))] h fun a w h=>qW (zag ((i:Int)<(vs.length:Int)) h (fun hc1 hc1'=>?_) (fun hc6 hc6'=>?_))
 ·refine qU (za0 (qW (qZ ?_)));obtain ⟨x1,hx1⟩:=gl vs i;refine Je 2 [(0,.g (xD 19 15 zdj (za4 hx1 (f:=za8)) (eG 17 _)))] [18] [(7,vI x1)] h fun a w h=>?_;obtain ⟨k,hkk⟩:∃ k_:Nat,x1=(k_:Int):=⟨_,(cP (by have:=(hq.v x1 (lM hx1)).1;omega)).symm⟩;replace h:=cvM [] [(7,vN k)] [] [] (by rw [hkk]; try kernel_rfl) h;have hbk:=bnd_len hc (v:=k) (by have:=(hq.v x1 (lM hx1)).2;omega);obtain ⟨x2,hx2⟩:=gl s.bounds k;have gx2:=hs.bnd x2 (lM hx2);have l1x2:=gx2.1.2;refine Jg 2 [(3,.g (xD 25 23 kf_0 (za4 hx2 (f:=zaj.d)) (eG 24 _))),(5,.call (Owidth x2 gx2 hL))] [] [(8,vI (wdB x2).1)] [] [] h fun a w h=>Je 2 [] [] [(10,vW zaa)] h fun a w h=>qW (Je 2 [(1,.len (c:=(.d (.sl 1 ((pkT s (vs.take i)).map (slD 2 ziD))))) (n:=(pkT s (vs.take i)).length) (za1 _ _ _))] [] [(30,vS 1 ((pkT s (vs.take i)).map (slD 2 ziD))),(31,vI ((pkT s (vs.take i)).length:Int)),(32,vI 0)] h fun a w h=>qZ ?_);replace h:=zg1 10 0 2 1 45 (vW zaa) h;replace h:=cvM [] [] [] [(2,.row 45 1 ((pkS s k ((pkT s (vs.take i)).take 0)).map (slD 2 ziD)))] (by rw [<- show ([]:List (List ZI))=(pkS s k ((pkT s (vs.take i)).take 0)) from rfl]; try kernel_rfl) h;replace h:=cvM [] [(10,vO 2 (pkS s k ((pkT s (vs.take i)).take 0)).length)] [] [] (by kernel_rfl) h;have hwv:wdV s k=(wdB x2).1:=by unfold wdV;rw [zcl hx2]
  have hnx:pkT s (vs.take (i+1))=pkS s k (pkT s (vs.take i)):=by rw [pkT_at hx1,hkk,dS]
  have lnx:(pkS s k (pkT s (vs.take i))).length<=1048576:=by rw [<- hnx];exact pkT_bd hq (by have:=zac hx1;omega)
  have hwb:=wdB_le x2
  refine zcc (ι:=(Nat)) (fun j=>j<=(pkT s (vs.take i)).length)
    [] (fun j=>[(10,vO 2 (pkS s k ((pkT s (vs.take i)).take j)).length),(32,vN j)])
    [] (fun j=>[(2,.row 45 1 ((pkS s k ((pkT s (vs.take i)).take j)).map (slD 2 ziD)))])
    (fun j=>(pkT s (vs.take i)).length - j) 0 ?_ h ?_
  ·exact bG _
  clear h;rintro j a w hI h;refine Je 3 [] [] [(33,vb (decide ((j:Int)<((pkT s (vs.take i)).length:Int))))] h fun a w h=>qW (zag ((j:Int)<((pkT s (vs.take i)).length:Int)) h (fun hc2 hc2'=>?_) (fun hc5 hc5'=>?_))
  ·refine qU (za0 (qW (qZ ?_)));obtain ⟨x4,hx4⟩:=gl (pkT s (vs.take i)) j;refine Je 3 [(0,.g (xD 34 30 og1_7 (za4 hx4 (f:=(slD 2 ziD))) (eG 32 _)))] [33] [(12,(vZs x4))] h fun a w h=>Je 3 [] [] [(36,vI (wdB x2).1),(37,vI 0)] h fun a w h=>qZ ?_;replace h:=cvM [] [(10,vO 2 ((pkS s k ((pkT s (vs.take i)).take j))++(bC 0).map fun d=>x4++[pv s k d]).length)] [] [(2,.row 45 1 (((pkS s k ((pkT s (vs.take i)).take j))++(bC 0).map fun d=>x4++[pv s k d]).map (slD 2 ziD)))] (by rw [<- show ((pkS s k ((pkT s (vs.take i)).take j)):List (List ZI))=((pkS s k ((pkT s (vs.take i)).take j))++(bC 0).map fun d=>x4++[pv s k d]) from (by rw [List.range_zero,List.map_nil,dD])]; try kernel_rfl) h
   refine zcc (ι:=(Nat)) (fun d=>(d:Int)<=(wdB x2).1)
     [] (fun d=>[(10,vO 2 ((pkS s k ((pkT s (vs.take i)).take j))++(bC d).map fun d=>x4++[pv s k d]).length),(37,vN d)])
     [] (fun d=>[(2,.row 45 1 (((pkS s k ((pkT s (vs.take i)).take j))++(bC d).map fun d=>x4++[pv s k d]).map (slD 2 ziD)))])
     (fun d=>((wdB x2).1).toNat - d) 0 ?_ h ?_
   ·show ((0:Nat):Int)<=_;omega
   clear h;rintro d a w hI h;have lrm:=pk_room (d:=d) lnx hx4 (by omega);have lhd:x4.length<=10:=by have:=pk_each (lM hx4);rw [cE] at this;have:=hq.l;omega
   refine Je 3 [] [] [(38,vb (decide ((d:Int)<(wdB x2).1)))] h fun a w h=>qW (zag ((d:Int)<(wdB x2).1) h (fun hc3 hc3'=>?_) (fun hc4 hc4'=>?_))
   ·refine qU (za0 (qW (qZ (Je 3 [] [38] [(13,vN d)] h fun a w h=>?_))));obtain ⟨r6,er6,vr6,or6,lr6⟩:=mkZ (v:=(d:Int)) (m:=2) (ZI.len_of (by have:=pw2;omega));obtain ⟨r7,er7,vr7,or7,lr7⟩:=mkZ (v:=x2.lo.val+r6.val) (m:=x2.lo.abs.length+r6.abs.length+1) (ze4 gx2.1.1 or6);refine Jh 3 [(2,.call (SCloneZ x4 (by omega))),(6,.g (xD 46 44 kf_0 (za4 hx2 (f:=zaj.d)) (eG 45 _))),(10,.call (eF (SOf (d:Int) ⟨by omega,by omega⟩) (congrArg vz er6.symm))),(11,.call (eF (SAdd x2.lo r6 gx2.1.1 or6 (by omega) (by omega)) (congrArg vz er7.symm))),(12,.g (bD 52 ([r7].map ziD) [(51,vz r7)] kk_3 (.cons (i:=0) (eG 51 _) (.nil)) (by kernel_rfl) (by simp [ziD]))),(13,.g (Op.appODp (d:=53) (t:=42) (u:=52) (n:=0) (n':=3) (len:=x4.length) (rows:=x4.map ziD) (rows2:=[r7].map ziD) (rows':=(x4++[r7]).map ziD) kk_4 (by first | exact (bE _).symm | simp) (by simp) (by simp [ziD]) (by first | omega | (simp at *;done) | (simp at *;omega)))),(14,.g (bD 54 ([(x4++[r7])].map (slD 2 ziD)) [(53,(vZs (x4++[r7])))] og1_3 (.cons (i:=0) (eG 53 _) (.nil)) (by kernel_rfl) (by simp [slD]))),(15,.g (Op.appOD (d:=55) (t:=40) (u:=54) (n:=2) (n':=4) (len:=((pkS s k ((pkT s (vs.take i)).take j))++(bC d).map fun d=>x4++[pv s k d]).length) (len':=(((pkS s k ((pkT s (vs.take i)).take j))++(bC d).map fun d=>x4++[pv s k d])++[(x4++[r7])]).length) (rows:=((pkS s k ((pkT s (vs.take i)).take j))++(bC d).map fun d=>x4++[pv s k d]).map (slD 2 ziD)) (rows2:=[(x4++[r7])].map (slD 2 ziD)) (rows':=(((pkS s k ((pkT s (vs.take i)).take j))++(bC d).map fun d=>x4++[pv s k d])++[(x4++[r7])]).map (slD 2 ziD)) og1_11 (by first | exact (bE _).symm | simp) (by first | (rw [bJ,bE];done) | simp) (by simp) (by simp [slD]) (by first | omega | (simp at *;done) | (simp at *;omega))))] [13] [(10,vO 4 (((pkS s k ((pkT s (vs.take i)).take j))++(bC d).map fun d=>x4++[pv s k d])++[(x4++[r7])]).length)] [2] [(4,.row 45 1 ((((pkS s k ((pkT s (vs.take i)).take j))++(bC d).map fun d=>x4++[pv s k d])++[(x4++[r7])]).map (slD 2 ziD)))] h fun a w h=>za5 (za0 (Jf 5 [(0,.add .i64 (m:=(d:Int)) (n:=1) i6)] [] [(37,vI ((d:Int)+1))] h fun a w h=>za0 ?_));rw [show ((((pkS s k ((pkT s (vs.take i)).take j))++(bC d).map fun d=>x4++[pv s k d])++[(x4++[r7])]):List (List ZI))=((pkS s k ((pkT s (vs.take i)).take j))++(bC (d+1)).map fun d=>x4++[pv s k d]) from (by rw [show r7=pv s k d by rw [er7,vr6];unfold pv;rw [zcl hx2],cZ,pk_row])] at h;replace h:=zd8 4 2 h;refine za9 (x:=d) (y:=d+1) h ?_ ?_
    ·have:=dT hc3;show ((d+1:Nat):Int)<=(wdB x2).1;omega
    show ((wdB x2).1).toNat - (d+1)<((wdB x2).1).toNat - d;have:=dT hc3;omega
   refine wp_exit (zbq (zbq (zao (za5 (za0 (Jf 5 [(0,.j1 j)] [12,36,37,38] [(32,vI ((j:Int)+1))] h fun a w h=>za0 ?_))))));rw [show (((pkS s k ((pkT s (vs.take i)).take j))++(bC d).map fun d=>x4++[pv s k d]):List (List ZI))=(pkS s k ((pkT s (vs.take i)).take (j+1))) from (by rw [<- pkS_at hx4];unfold pk1;rw [show (wdV s k).toNat=d by have:=dF hc4;omega])] at h;refine za9 (x:=j) (y:=j+1) h ?_ ?_
   ·have:=zac hx4;show j+1<=(pkT s (vs.take i)).length;omega
   show (pkT s (vs.take i)).length - (j+1)<(pkT s (vs.take i)).length - j;have:=zac hx4;omega
  refine exA ?_;rw [show ((pkS s k ((pkT s (vs.take i)).take j)):List (List ZI))=(pkT s (vs.take (i+1))) from (by rw [hnx,bR (by have:=dF hc5;omega)])] at h;replace h:=zhz 2 1 45 ((pkT s (vs.take (i+1))).map (slD 2 ziD)) h [(pkT s (vs.take (i+1))).length] ⟨by first | exact (bE _).symm | (simp;done) | (simp;omega),trivial⟩;refine Jf 5 [] [7,8,10,30,31,32,33] [(5,vS 1 ((pkT s (vs.take (i+1))).map (slD 2 ziD)))] h fun a w h=>za5 (za0 (Jf 5 [(0,.j1 i)] [] [(17,vI ((i:Int)+1))] h fun a w h=>za0 (za9 (x:=i) (y:=i+1) h ?_ ?_)))
  ·have:=zac hx1;show i+1<=vs.length;omega
  show vs.length - (i+1)<vs.length - i;have:=zac hx1;omega
 refine exA (Jq 5 [] [(4,vS 1 ((pkT s (vs.take i)).map (slD 2 ziD)))] [] h fun a w h=>qV (rT (.c (.d (.sl 1 ((pkT s (vs.take i)).map (slD 2 ziD))))) h rfl ?_));rw [show vs.take i=vs from bR (by have:=dF hc6;omega)];rfl
end S
end Go.Proofs.YtdnhcneallkljaaGreat
