/-
  Part 3 of the proof of the statement ShadowExact. It holds for every input.
-/
import Derived.Test.YtakmnjihdfgolaaGreatSE2
import Derived.Shelf.Small.Bits
import Derived.Test.YtakmnjihdfgolaaGreatProg
import Derived.Test.YtakmnjihdfgolaaGreatSE1
import Derived.Laws.Bits64b
import Derived.Deep.RegionWith
import Derived.Deep.LoopGhost
set_option maxRecDepth 100000
set_option maxHeartbeats 20000000
open Go.RowKit
open List renaming length_append->bC,append_assoc->bJ,take_add_one->bL,length_set->bN,length_map->bS,take_length->cC,length_nil->cD,getElem?_eq_some_iff->cE,length_take->cG,length_drop->cK,length_cons->cL,filter_cons->cN,pairwise_cons->cO,mem_cons->cP,append_nil->cV,mem_singleton->cX,drop_eq_getElem_cons->dD,mem_of_getElem?->dG,length_eq_zero_iff->dM,nil_append->dV,getElem?_eq_getElem->dW,mem_append->dX,pairwise_append->dY,mem_filter->dZ,mem_map->eA,filter_append->eM,cons_append->eN,map_append->eO,pairwise_singleton->eQ,foldl_cons->eR,pairwise_map->eS,sum_cons->eV,getElem?_map->eW,map_take->eX,take_of_length_le->fD,getElem?_set_ne->fK,set_append_right->fL,mem_or_eq_of_mem_set->fM,mem_of_mem_take->fO,take_append_of_le_length->fP,length_replicate->fR
open Nat renaming mul_add->bE,mul_assoc->bF,mul_comm->bG,le_refl->bI,zero_le->bK,mul_le_mul_left->bP,mul_le_mul_right->bU,le_trans->bW,zero_add->cF,add_mul->cH,lt_of_lt_of_le->cJ,eq_zero_or_pos->cM,add_assoc->cQ,lt_or_ge->cT,pow_le_pow_right->cY,mul_left_comm->cZ,mod_lt->dA,two_pow_pos->dH,pow_add->dJ,mul_one->dL,div_eq_of_lt->dN,add_zero->dO,succ_le_of_lt->dP,mul_succ->dQ,lt_of_le_of_lt->dR,lt_trans->dS,mul_le_mul->eC,div_add_mod->eE,mod_eq_of_lt->eF,succ_mul->eG,div_le_self->eH,pos_of_ne_zero->eI,div_lt_iff_lt_mul->eZ,add_sub_cancel->fA,add_mul_div_left->fE,div_div_eq_div_mul->fF,add_mul_mod_self_left->fQ
open Int renaming mul_comm->bV,neg_mul->bX,mul_le_mul_of_nonneg_left->cU,not_lt->cW,add_zero->dC,toNat_natCast->dI,sub_mul->dU,natCast_mul->eB,mul_sub->eJ,mul_nonneg->eK,lt_trichotomy->eP,eq_ofNat_of_zero_le->fC,fmod_lt_of_pos->fG,fmod_nonneg_of_pos->fH,lt_or_lt_of_ne->fI,natAbs_natCast->fJ,mul_fdiv_add_fmod->fS
open Bool renaming eq_false_or_eq_true->dB,false_eq_true->dE
open Array renaming toList_append->fN
open Go.Proofs.Tryz renaming prog->fT
open Go.Proofs.YtakmnjihdfgolaaGreat.S.Fn renaming cast->fU
open Go.Proofs.YtakmnjihdfgolaaGreat.S.OV renaming const->fV,tmp->fW
open Go.Proofs.YtakmnjihdfgolaaGreat.S.Op renaming arith->fX,loadR_agg->fY,storeR->fZ
open Go.Proofs.YtakmnjihdfgolaaGreat.S.ZI renaming of->gA,val_of->gB
open Go.Proofs.YtakmnjihdfgolaaGreat.S.za2 renaming d->gC
namespace Go.Proofs.YtakmnjihdfgolaaGreat
namespace S
variable {r0 r1 l xs G out ps:List za2} {m b s j k n x M:Nat} {pr:za2->Bool} {p q:za2} {v:Int} {ao:Option Addr} {rs rs':List (Nat × V)} {el ty xt:TypeId} {α:Type} {t:zax}
theorem Srotate2 {L a:Nat} (pre X Y post:List za2) (e0:r0=pre++X++Y++post) (e1:r1=pre++(Y++X)++post) (eL:L=pre.length+X.length+Y.length+post.length) (ea:a=pre.length) (em:m=pre.length+X.length) (eb:b=pre.length+X.length+Y.length) (hX:0<X.length) (hY:0<Y.length) (hl:L<=1000000000000) :
  Fn fT 137 [(0,.row 61 3 (r0.map gC))] [vO 0 L,vi .i64 (a:Int),vi .i64 (m:Int),vi .i64 (b:Int),.t (.c (.fn (.func 70) [] []))] (.tup []) [(0,.row 61 3 (r1.map gC))]:=by
 subst eL e0 e1 ea em eb
 exact Srotate pre X Y post hX hY hl
def SymP (N L a m b:Nat) (r0 r1:List za2):Prop:=∃ pre X Y post:List za2,X.length+Y.length=N/\a=pre.length/\m=pre.length+X.length/\b=pre.length+X.length+Y.length/\L=pre.length+X.length+Y.length+post.length/\L<=1000000000000/\0<X.length/\0<Y.length/\Ris za2.v X/\Ris za2.v Y /\
  r0=pre++X++Y++post/\r1=pre++ssV za2.v (X++Y)++post
theorem ssV_e {a b:List za2} (h:a.length=0\/b.length=0) (ra:Ris za2.v a) (rb:Ris za2.v b):ssV za2.v (a++b)=a++b:=by
 rcases h with h | h
 ·rw [zgh h,dV];exact ssV_of rb
 ·rw [zgh h,cV];exact ssV_of ra
def SymIH (N:Nat):Prop:=∀ n,n<N->∀ (L a m b:Nat) (r0 r1:List za2),SymP n L a m b r0 r1->Fn fT 124 [(0,.row 61 3 (r0.map gC))] [.t (.c (.own 0 L)),vi .i64 (a:Int),vi .i64 (m:Int),vi .i64 (b:Int),.t (.c (.fn (.func 70) [] []))] (.tup []) [(0,.row 61 3 (r1.map gC))]
theorem SsymN {N L lo:Nat} (ih:SymIH N) (hs:SymP N L lo m b r0 r1) :Fn fT 124 [(0,.row 61 3 (r0.map gC))] [.t (.c (.own 0 L)),vN lo,vN m,vN b,.t (.c (.fn (.func 70) [] []))] (.tup []) [(0,.row 61 3 (r1.map gC))]:=by
 obtain ⟨pre,X,Y,post,hN,ha,hm,hb,hL,hl,hX,hY,rX,rY,rfl,rfl⟩:=hs;have hlen:(pre++X++Y++post).length=L:=by simp only [bC];omega
 refine fB Tryz.func124 rfl 220 fun w H B a h=>?_
 refine qW (Jq 1 [(2,.g (fX (op:=.sub) (d:=27) (xt:=3) (yt:=3) (k:=.i64) (m:=(m:Int)) (n:=(lo:Int)) (r:=(X.length:Int)) (fW 25 _) (fW 26 _) (.inr (.inl ⟨rfl,(by omega)⟩)) i6))] [(0,.t (.c (.own 0 L))),(1,vN lo),(2,vN m),(3,vN b),(4,.t (.c (.fn (.func 70) [] []))),(28,vb ((X.length:Int) == 1))] [(0,.row 61 3 ((pre++X++Y++post).map gC))] h fun a w h=>?_);refine cS ((X.length:Int) == 1) h (fun hc1=>?_) (fun hc8=>?_)
 ·have hc1':=hc1;(try simp at hc1');refine Je 1 [] [28] [(10,vN m)] h fun a w h=>?_;refine Je 1 [] [] [(11,vN b)] h fun a w h=>?_;refine qW (qZ ?_)
  refine zd3 (ι:=(Nat) × (Nat)) (fun (i,j)=>m<=i/\i<=j/\j<=b/\(i=m\/kat (pre++X++Y++post) (i - 1)<kat (pre++X++Y++post) (lo))/\(j=b\/kat (pre++X++Y++post) (lo)<=kat (pre++X++Y++post) (j)))
    [] (fun (i,j)=>[(10,vN i),(11,vN j)])
    [] (fun (i,j)=>[])
    (fun (i,j)=>j - i) (m,b) ?_ h ?_
  ·exact ⟨bI _,by omega,bI _,.inl rfl,.inl rfl⟩
  clear h;rintro ⟨i,j⟩ a w hI h;dsimp only at h;obtain ⟨q1,q2,q3,q4,q5⟩:=hI;refine qW (Je 1 [] [] [(33,vb (decide ((i:Int)<(j:Int))))] h fun a w h=>?_);refine zaj ((i:Int)<(j:Int)) h (fun hc2 hc2'=>?_) (fun hc5 hc5'=>?_)
  ·refine qU (za3 (qZ (Je 1 [(2,.g (fX (op:=.add) (d:=36) (xt:=3) (yt:=3) (k:=.i64) (m:=(i:Int)) (n:=(j:Int)) (r:=((i+j:Nat):Int)) (fW 34 _) (fW 35 _) (.inl ⟨rfl,(by omega)⟩) i6)),(3,.conv .i64 .u64 (m:=((i+j:Nat):Int)) (u64_id (by omega) (by omega))),(4,.g (Op.shr (d:=38) (xt:=85) (yt:=85) (k:=.u64) (k' := .u64) (m:=((i+j:Nat):Int)) (n:=1) (r:=(((i+j) / 2:Nat):Int)) (fW 37 _) (fV (.int .u64 1) rfl) (by decide) (half _))),(5,.conv .u64 .i64 (m:=(((i+j) / 2:Nat):Int)) i6)] [33] [(12,vI (((i+j) / 2:Nat):Int))] h fun a w h=>?_)));obtain ⟨x1,hx1⟩:=gl (pre++X++Y++post) ((i+j) / 2);obtain ⟨x2,hx2⟩:=gl (pre++X++Y++post) lo;refine Je 1 [(3,.g (xO 43 41 0 L ((i+j) / 2) zbx (fW 42 _))),(4,.g (fY (d:=44) (t:=43) (n:=0) (i:=((i+j) / 2)) (fo:=0) (rty:=61) (es:=3) (xs:=[.raw (.int .i64 x1.v),.raw (.bool x1.c.neg),nsl x1.c.abs]) zeq rfl (zab hx1 (f:=gC)) rfl rfl)),(7,.g (xO 47 45 0 L lo zbx (fW 46 _))),(8,.g (fY (d:=48) (t:=47) (n:=0) (i:=lo) (fo:=0) (rty:=61) (es:=3) (xs:=[.raw (.int .i64 x2.v),.raw (.bool x2.c.neg),nsl x2.c.abs]) zeq rfl (zab hx2 (f:=gC)) rfl rfl)),(9,.g (Op.callV (d:=49) (t:=40) (cap:=[]) (args:=[.t (.agg ([.d (.raw (.int .i64 x1.v))]++zi x1.c)),.t (.agg ([.d (.raw (.int .i64 x2.v))]++zi x2.c))]) (rs:=[(44,.t (.agg ([.d (.raw (.int .i64 x1.v))]++zi x1.c))),(48,.t (.agg ([.d (.raw (.int .i64 x2.v))]++zi x2.c)))]) (tys:=#[61,61]) (SPlain1 x1 x2) te_2 (OVs.cons (fW 44 _) (OVs.cons (fW 48 _) (OVs.nil)))))] [] [(50,vb (decide (zcp x1.v x2.v<0)))] h fun a w h=>?_;refine zaj (zcp x1.v x2.v<0) h (fun hc3 hc3'=>?_) (fun hc4 hc4'=>?_)
   ·refine Jf 1 [(1,.g (fX (op:=.add) (d:=52) (xt:=3) (yt:=3) (k:=.i64) (m:=(((i+j) / 2:Nat):Int)) (n:=1) (r:=(((i+j) / 2+1:Nat):Int)) (fW 51 _) (fV (.int .i64 1) rfl) (.inl ⟨rfl,(by omega)⟩) i6))] [12,50] [(10,vI (((i+j) / 2+1:Nat):Int))] h fun a w h=>?_;refine za6 (za3 ?_);refine za9 (x:=(i,j)) (y:=(((i+j) / 2+1),j)) h ?_ ?_
    ·exact ⟨by omega,by omega,by omega,.inr (by rw [show (i+j) / 2+1 - 1=(i+j) / 2 from rfl,zd5 hx1,zd5 hx2];exact zdf.1 hc3'),q5⟩
    show j - ((i+j) / 2+1)<j - i;omega
   refine Jf 1 [] [12,50] [(11,vI (((i+j) / 2:Nat):Int))] h fun a w h=>?_;refine za6 (za3 ?_);refine za9 (x:=(i,j)) (y:=(i,((i+j) / 2))) h ?_ ?_
   ·exact ⟨by omega,by omega,by omega,q4,.inr (by rw [zd5 hx1,zd5 hx2];exact cW.1 (mt zdf.2 hc4'))⟩
   show (i+j) / 2 - i<j - i;omega
  refine exA (qW ?_);obtain ⟨x,b1,b2,hX1,hY1,hi1,hsm⟩:=srch1 (pre:=pre) (X:=X) (Y:=Y) (post:=post) (i:=i) (by omega) rY (by omega) (by omega) (q4.elim (fun g => .inl (by omega)) (fun g => .inr (by rw [<- ha];exact g))) (q5.elim (fun g => .inl (by omega)) (fun g => .inr (by rw [<- ha,show i=j by omega];exact g)));have hlb:Y.length=b1.length+b2.length:=by rw [hY1,bC]
  replace h:=cvM [] [] [] [(0,.row 61 3 ((pre++b1.take 0++x :: (b1.drop 0++(b2++post))).map gC))] (by rw [<- show ((pre++X++Y++post):List za2)=(pre++b1.take 0++x :: (b1.drop 0++(b2++post))) from by rw [hX1,hY1];simp]; try kernel_rfl) h;refine Je 1 [] [11,33] [(13,vN lo)] h fun a w h=>?_;refine qZ ?_
  refine zd3 (ι:=(Nat) × (Nat)) (fun (k,t)=>k=lo+t/\t<=b1.length)
    [] (fun (k,t)=>[(13,vN k)])
    [] (fun (k,t)=>[(0,.row 61 3 ((pre++b1.take t++x :: (b1.drop t++(b2++post))).map gC))])
    (fun (k,t)=>b1.length - t) (lo,0) ?_ h ?_
  ·exact ⟨rfl,bK _⟩
  clear h;rintro ⟨k,t⟩ a w hI h;dsimp only at h;obtain ⟨p1,p2⟩:=hI;refine qW (Je 1 [(2,.g (fX (op:=.sub) (d:=57) (xt:=3) (yt:=3) (k:=.i64) (m:=(i:Int)) (n:=1) (r:=((lo+b1.length:Nat):Int)) (fW 56 _) (fV (.int .i64 1) rfl) (.inr (.inl ⟨rfl,(by omega)⟩)) i6))] [] [(58,vb (decide ((k:Int)<((lo+b1.length:Nat):Int))))] h fun a w h=>?_);refine zaj ((k:Int)<((lo+b1.length:Nat):Int)) h (fun hc6 hc6'=>?_) (fun hc7 hc7'=>?_)
  ·refine qU (za3 (qW (qZ ?_)));obtain ⟨y,hy⟩:∃ z_:za2,b1[t]?=some z_:=⟨_,dW (by omega)⟩;refine Jh 1 [(4,.g (fX (op:=.add) (d:=65) (xt:=3) (yt:=3) (k:=.i64) (m:=(k:Int)) (n:=1) (r:=((k+1:Nat):Int)) (fW 64 _) (fV (.int .i64 1) rfl) (.inl ⟨rfl,(by omega)⟩) i6)),(7,.g (fX (op:=.add) (d:=68) (xt:=3) (yt:=3) (k:=.i64) (m:=(k:Int)) (n:=1) (r:=((k+1:Nat):Int)) (fW 67 _) (fV (.int .i64 1) rfl) (.inl ⟨rfl,(by omega)⟩) i6)),(8,.g (xO 69 66 0 L (k+1) zbx (fW 68 _))),(9,.g (fY (d:=70) (t:=69) (n:=0) (i:=(k+1)) (fo:=0) (rty:=61) (es:=3) (xs:=[.raw (.int .i64 y.v),.raw (.bool y.c.neg),nsl y.c.abs]) zeq rfl (zab (show ((pre++b1.take t++x :: (b1.drop t++(b2++post))):List za2)[k+1]?=some y from (up_nx (p:=pre) (k+1) (by omega) hy)) (f:=gC)) rfl rfl)),(12,.g (xO 73 71 0 L k zbx (fW 72 _))),(13,.g (fY (d:=74) (t:=73) (n:=0) (i:=k) (fo:=0) (rty:=61) (es:=3) (xs:=[.raw (.int .i64 x.v),.raw (.bool x.c.neg),nsl x.c.abs]) zeq rfl (zab (show ((pre++b1.take t++x :: (b1.drop t++(b2++post))):List za2)[k]?=some x from (up_at (p:=pre) (q:=b1) (t:=t) k (by omega) (by omega))) (f:=gC)) rfl rfl)),(14,.g (xO 75 61 0 L k zbx (fW 62 _))),(15,.g (fZ (t:=75) (n:=0) (i:=k) (fo:=0) (rty:=61) (es:=3) (r:=gC x) (ds:=[.raw (.int .i64 y.v),.raw (.bool y.c.neg),nsl y.c.abs]) (rs:=[(70,.t (.agg ([.d (.raw (.int .i64 y.v))]++zi y.c)))]) (rows:=(pre++b1.take t++x :: (b1.drop t++(b2++post))).map gC) (rows':=((pre++b1.take t++x :: (b1.drop t++(b2++post))).set k y).map gC) zeq (fW 70 _) rfl rfl rfl (zab (show ((pre++b1.take t++x :: (b1.drop t++(b2++post))):List za2)[k]?=some x from (up_at (p:=pre) (q:=b1) (t:=t) k (by omega) (by omega))) (f:=gC)) (by simp [gC]) (zch (xs:=(pre++b1.take t++x :: (b1.drop t++(b2++post)))) (F:=gC) k _ _ rfl))),(16,.g (xO 76 63 0 L (k+1) zbx (fW 65 _))),(17,.g (fZ (t:=76) (n:=0) (i:=(k+1)) (fo:=0) (rty:=61) (es:=3) (r:=gC y) (ds:=[.raw (.int .i64 x.v),.raw (.bool x.c.neg),nsl x.c.abs]) (rs:=[(74,.t (.agg ([.d (.raw (.int .i64 x.v))]++zi x.c)))]) (rows:=((pre++b1.take t++x :: (b1.drop t++(b2++post))).set k y).map gC) (rows':=(((pre++b1.take t++x :: (b1.drop t++(b2++post))).set k y).set (k+1) x).map gC) zeq (fW 74 _) rfl rfl rfl (zab ((fK (by omega)).trans (show ((pre++b1.take t++x :: (b1.drop t++(b2++post))):List za2)[k+1]?=some y from (up_nx (p:=pre) (k+1) (by omega) hy))) (f:=gC)) (by simp [gC]) (zch (xs:=((pre++b1.take t++x :: (b1.drop t++(b2++post))).set k y)) (F:=gC) (k+1) _ _ rfl)))] [58] [] [] [(0,.row 61 3 ((((pre++b1.take t++x :: (b1.drop t++(b2++post))).set k y).set (k+1) x).map gC))] h fun a w h=>?_;refine za6 (za3 (Jf 1 [(1,.g (fX (op:=.add) (d:=60) (xt:=3) (yt:=3) (k:=.i64) (m:=(k:Int)) (n:=1) (r:=((k+1:Nat):Int)) (fW 59 _) (fV (.int .i64 1) rfl) (.inl ⟨rfl,(by omega)⟩) i6))] [] [(13,vI ((k+1:Nat):Int))] h fun a w h=>?_));refine za3 ?_;rw [up_step (p:=pre) k (k+1) (by omega) rfl hy] at h;refine za9 (x:=(k,t)) (y:=(k+1,t+1)) h ?_ ?_
   ·exact ⟨by omega,by omega⟩
   show b1.length - (t+1)<b1.length - t;omega
  refine exA (qV (zae ?_))
  replace h:=h.conv (f':=F.of [(0,.t (.c (.own 0 L))),(1,vN lo),(2,vN m),(3,vN b),(4,.t (.c (.fn (.func 70) [] []))),(10,vN i),(13,vN k),(58,vb (decide ((k:Int)<((lo+b1.length:Nat):Int))))] [(0,.row 61 3 ((pre++ssV za2.v (X++Y)++post).map gC))]) (.trans (by kernel_rfl) (congrArg (fun (z_:List za2)=>F.of [(0,.t (.c (.own 0 L))),(1,vN lo),(2,vN m),(3,vN b),(4,.t (.c (.fn (.func 70) [] []))),(10,vN i),(13,vN k),(58,vb (decide ((k:Int)<((lo+b1.length:Nat):Int))))] [(0,.row 61 3 (z_.map gC))]) (show ((pre++b1.take t++x :: (b1.drop t++(b2++post))):List za2)=(pre++ssV za2.v (X++Y)++post) from by
    rw [<- hsm,show t=b1.length by omega,cC,List.drop_length];simp)))
  refine zha [] h Exit.ret (.inl rfl)  rfl trivial ?_;rfl
 have hc8':=hc8;(try simp at hc8');refine qU (za3 (qW (Je 1 [(2,.g (fX (op:=.sub) (d:=79) (xt:=3) (yt:=3) (k:=.i64) (m:=(b:Int)) (n:=(m:Int)) (r:=(Y.length:Int)) (fW 77 _) (fW 78 _) (.inr (.inl ⟨rfl,(by omega)⟩)) i6))] [28] [(80,vb ((Y.length:Int) == 1))] h fun a w h=>?_)));refine cS ((Y.length:Int) == 1) h (fun hc9=>?_) (fun hc16=>?_)
 ·have hc9':=hc9;(try simp at hc9');refine Je 1 [] [80] [(14,vN lo)] h fun a w h=>?_;refine Je 1 [] [] [(15,vN m)] h fun a w h=>?_;refine qW (qZ ?_)
  refine zd3 (ι:=(Nat) × (Nat)) (fun (i,j)=>lo<=i/\i<=j/\j<=m/\(i=lo\/kat (pre++X++Y++post) (i - 1)<=kat (pre++X++Y++post) (m))/\(j=m\/kat (pre++X++Y++post) (m)<kat (pre++X++Y++post) (j)))
    [] (fun (i,j)=>[(14,vN i),(15,vN j)])
    [] (fun (i,j)=>[])
    (fun (i,j)=>j - i) (lo,m) ?_ h ?_
  ·exact ⟨bI _,by omega,bI _,.inl rfl,.inl rfl⟩
  clear h;rintro ⟨i,j⟩ a w hI h;dsimp only at h;obtain ⟨q1,q2,q3,q4,q5⟩:=hI;refine qW (Je 1 [] [] [(85,vb (decide ((i:Int)<(j:Int))))] h fun a w h=>?_);refine zaj ((i:Int)<(j:Int)) h (fun hc10 hc10'=>?_) (fun hc13 hc13'=>?_)
  ·refine qU (za3 (qZ (Je 1 [(2,.g (fX (op:=.add) (d:=88) (xt:=3) (yt:=3) (k:=.i64) (m:=(i:Int)) (n:=(j:Int)) (r:=((i+j:Nat):Int)) (fW 86 _) (fW 87 _) (.inl ⟨rfl,(by omega)⟩) i6)),(3,.conv .i64 .u64 (m:=((i+j:Nat):Int)) (u64_id (by omega) (by omega))),(4,.g (Op.shr (d:=90) (xt:=85) (yt:=85) (k:=.u64) (k' := .u64) (m:=((i+j:Nat):Int)) (n:=1) (r:=(((i+j) / 2:Nat):Int)) (fW 89 _) (fV (.int .u64 1) rfl) (by decide) (half _))),(5,.conv .u64 .i64 (m:=(((i+j) / 2:Nat):Int)) i6)] [85] [(16,vI (((i+j) / 2:Nat):Int))] h fun a w h=>?_)));obtain ⟨x4,hx4⟩:=gl (pre++X++Y++post) m;obtain ⟨x5,hx5⟩:=gl (pre++X++Y++post) ((i+j) / 2);refine Je 1 [(3,.g (xO 95 93 0 L m zbx (fW 94 _))),(4,.g (fY (d:=96) (t:=95) (n:=0) (i:=m) (fo:=0) (rty:=61) (es:=3) (xs:=[.raw (.int .i64 x4.v),.raw (.bool x4.c.neg),nsl x4.c.abs]) zeq rfl (zab hx4 (f:=gC)) rfl rfl)),(7,.g (xO 99 97 0 L ((i+j) / 2) zbx (fW 98 _))),(8,.g (fY (d:=100) (t:=99) (n:=0) (i:=((i+j) / 2)) (fo:=0) (rty:=61) (es:=3) (xs:=[.raw (.int .i64 x5.v),.raw (.bool x5.c.neg),nsl x5.c.abs]) zeq rfl (zab hx5 (f:=gC)) rfl rfl)),(9,.g (Op.callV (d:=101) (t:=92) (cap:=[]) (args:=[.t (.agg ([.d (.raw (.int .i64 x4.v))]++zi x4.c)),.t (.agg ([.d (.raw (.int .i64 x5.v))]++zi x5.c))]) (rs:=[(96,.t (.agg ([.d (.raw (.int .i64 x4.v))]++zi x4.c))),(100,.t (.agg ([.d (.raw (.int .i64 x5.v))]++zi x5.c)))]) (tys:=#[61,61]) (SPlain1 x4 x5) te_2 (OVs.cons (fW 96 _) (OVs.cons (fW 100 _) (OVs.nil)))))] [] [(103,vb (!(decide (zcp x4.v x5.v<0))))] h fun a w h=>?_;refine cS (!(decide (zcp x4.v x5.v<0))) h (fun hc11=>?_) (fun hc12=>?_)
   ·have hc11':=hc11;(try simp at hc11');refine Jf 1 [(1,.g (fX (op:=.add) (d:=105) (xt:=3) (yt:=3) (k:=.i64) (m:=(((i+j) / 2:Nat):Int)) (n:=1) (r:=(((i+j) / 2+1:Nat):Int)) (fW 104 _) (fV (.int .i64 1) rfl) (.inl ⟨rfl,(by omega)⟩) i6))] [16,103] [(14,vI (((i+j) / 2+1:Nat):Int))] h fun a w h=>?_;refine za6 (za3 ?_);refine za9 (x:=(i,j)) (y:=(((i+j) / 2+1),j)) h ?_ ?_
    ·exact ⟨by omega,by omega,by omega,.inr (by rw [show (i+j) / 2+1 - 1=(i+j) / 2 from rfl,zd5 hx5,zd5 hx4];exact cW.1 (mt zdf.2 (cW.2 hc11'))),q5⟩
    show j - ((i+j) / 2+1)<j - i;omega
   have hc12':=hc12;(try simp at hc12');refine Jf 1 [] [16,103] [(15,vI (((i+j) / 2:Nat):Int))] h fun a w h=>?_;refine za6 (za3 ?_);refine za9 (x:=(i,j)) (y:=(i,((i+j) / 2))) h ?_ ?_
   ·exact ⟨by omega,by omega,by omega,q4,.inr (by rw [zd5 hx5,zd5 hx4];exact zdf.1 hc12')⟩
   show (i+j) / 2 - i<j - i;omega
  refine exA (qW ?_);obtain ⟨y,a1,a2,hY1,hX1,hi1,hsm⟩:=srch2 (pre:=pre) (X:=X) (Y:=Y) (post:=post) (i:=i) (by omega) rX (by omega) (by omega) (q4.elim (fun g => .inl (by omega)) (fun g => .inr (by rw [<- hm];exact g))) (q5.elim (fun g => .inl (by omega)) (fun g => .inr (by rw [<- hm,show i=j by omega];exact g)));have hla:X.length=a1.length+a2.length:=by rw [hX1,bC]
  replace h:=cvM [] [] [] [(0,.row 61 3 (((pre++a1)++a2.take a2.length++y :: (a2.drop a2.length++post)).map gC))] (by rw [<- show ((pre++X++Y++post):List za2)=((pre++a1)++a2.take a2.length++y :: (a2.drop a2.length++post)) from by rw [hX1,hY1,cC,List.drop_length];simp]; try kernel_rfl) h;refine Je 1 [] [15,85] [(17,vN m)] h fun a w h=>?_;refine qZ ?_
  refine zd3 (ι:=(Nat) × (Nat)) (fun (k,t)=>k=pre.length+a1.length+t/\t<=a2.length)
    [] (fun (k,t)=>[(17,vN k)])
    [] (fun (k,t)=>[(0,.row 61 3 (((pre++a1)++a2.take t++y :: (a2.drop t++post)).map gC))])
    (fun (k,t)=>t) (m,a2.length) ?_ h ?_
  ·exact ⟨by omega,bI _⟩
  clear h;rintro ⟨k,t⟩ a w hI h;dsimp only at h;obtain ⟨p1,p2⟩:=hI;refine qW (Je 1 [] [] [(110,vb (decide ((k:Int)>(i:Int))))] h fun a w h=>?_);refine zaj ((k:Int)>(i:Int)) h (fun hc14 hc14'=>?_) (fun hc15 hc15'=>?_)
  ·refine qU (za3 (qW (qZ ?_)));obtain ⟨z,hz⟩:∃ z_:za2,a2[t - 1]?=some z_:=⟨_,dW (by omega)⟩;refine Jh 1 [(4,.g (fX (op:=.sub) (d:=117) (xt:=3) (yt:=3) (k:=.i64) (m:=(k:Int)) (n:=1) (r:=((k - 1:Nat):Int)) (fW 116 _) (fV (.int .i64 1) rfl) (.inr (.inl ⟨rfl,(by omega)⟩)) i6)),(7,.g (fX (op:=.sub) (d:=120) (xt:=3) (yt:=3) (k:=.i64) (m:=(k:Int)) (n:=1) (r:=((k - 1:Nat):Int)) (fW 119 _) (fV (.int .i64 1) rfl) (.inr (.inl ⟨rfl,(by omega)⟩)) i6)),(8,.g (xO 121 118 0 L (k - 1) zbx (fW 120 _))),(9,.g (fY (d:=122) (t:=121) (n:=0) (i:=(k - 1)) (fo:=0) (rty:=61) (es:=3) (xs:=[.raw (.int .i64 z.v),.raw (.bool z.c.neg),nsl z.c.abs]) zeq rfl (zab (show (((pre++a1)++a2.take t++y :: (a2.drop t++post)):List za2)[k - 1]?=some z from (dn_nx (p:=pre++a1) (k - 1) (by first | omega | (simp only [bC];omega)) (by omega) hz)) (f:=gC)) rfl rfl)),(12,.g (xO 125 123 0 L k zbx (fW 124 _))),(13,.g (fY (d:=126) (t:=125) (n:=0) (i:=k) (fo:=0) (rty:=61) (es:=3) (xs:=[.raw (.int .i64 y.v),.raw (.bool y.c.neg),nsl y.c.abs]) zeq rfl (zab (show (((pre++a1)++a2.take t++y :: (a2.drop t++post)):List za2)[k]?=some y from (up_at (p:=pre++a1) (q:=a2) (t:=t) k (by first | omega | (simp only [bC];omega)) (by omega))) (f:=gC)) rfl rfl)),(14,.g (xO 127 113 0 L k zbx (fW 114 _))),(15,.g (fZ (t:=127) (n:=0) (i:=k) (fo:=0) (rty:=61) (es:=3) (r:=gC y) (ds:=[.raw (.int .i64 z.v),.raw (.bool z.c.neg),nsl z.c.abs]) (rs:=[(122,.t (.agg ([.d (.raw (.int .i64 z.v))]++zi z.c)))]) (rows:=((pre++a1)++a2.take t++y :: (a2.drop t++post)).map gC) (rows':=(((pre++a1)++a2.take t++y :: (a2.drop t++post)).set k z).map gC) zeq (fW 122 _) rfl rfl rfl (zab (show (((pre++a1)++a2.take t++y :: (a2.drop t++post)):List za2)[k]?=some y from (up_at (p:=pre++a1) (q:=a2) (t:=t) k (by first | omega | (simp only [bC];omega)) (by omega))) (f:=gC)) (by simp [gC]) (zch (xs:=((pre++a1)++a2.take t++y :: (a2.drop t++post))) (F:=gC) k _ _ rfl))),(16,.g (xO 128 115 0 L (k - 1) zbx (fW 117 _))),(17,.g (fZ (t:=128) (n:=0) (i:=(k - 1)) (fo:=0) (rty:=61) (es:=3) (r:=gC z) (ds:=[.raw (.int .i64 y.v),.raw (.bool y.c.neg),nsl y.c.abs]) (rs:=[(126,.t (.agg ([.d (.raw (.int .i64 y.v))]++zi y.c)))]) (rows:=(((pre++a1)++a2.take t++y :: (a2.drop t++post)).set k z).map gC) (rows':=((((pre++a1)++a2.take t++y :: (a2.drop t++post)).set k z).set (k - 1) y).map gC) zeq (fW 126 _) rfl rfl rfl (zab ((fK (by omega)).trans (show (((pre++a1)++a2.take t++y :: (a2.drop t++post)):List za2)[k - 1]?=some z from (dn_nx (p:=pre++a1) (k - 1) (by first | omega | (simp only [bC];omega)) (by omega) hz))) (f:=gC)) (by simp [gC]) (zch (xs:=(((pre++a1)++a2.take t++y :: (a2.drop t++post)).set k z)) (F:=gC) (k - 1) _ _ rfl)))] [110] [] [] [(0,.row 61 3 (((((pre++a1)++a2.take t++y :: (a2.drop t++post)).set k z).set (k - 1) y).map gC))] h fun a w h=>?_;refine za6 (za3 (Jf 1 [(1,.g (fX (op:=.sub) (d:=112) (xt:=3) (yt:=3) (k:=.i64) (m:=(k:Int)) (n:=1) (r:=((k - 1:Nat):Int)) (fW 111 _) (fV (.int .i64 1) rfl) (.inr (.inl ⟨rfl,(by omega)⟩)) i6))] [] [(17,vI ((k - 1:Nat):Int))] h fun a w h=>?_));refine za3 ?_;rw [dn_step (p:=pre++a1) k (k - 1) (by first | omega | (simp only [bC];omega)) rfl (by omega) hz] at h;refine za9 (x:=(k,t)) (y:=(k - 1,t - 1)) h ?_ ?_
   ·exact ⟨by omega,by omega⟩
   show t - 1<t;omega
  refine exA (qV (zae ?_))
  replace h:=h.conv (f':=F.of [(0,.t (.c (.own 0 L))),(1,vN lo),(2,vN m),(3,vN b),(4,.t (.c (.fn (.func 70) [] []))),(14,vN i),(17,vN k),(110,vb (decide ((k:Int)>(i:Int))))] [(0,.row 61 3 ((pre++ssV za2.v (X++Y)++post).map gC))]) (.trans (by kernel_rfl) (congrArg (fun (z_:List za2)=>F.of [(0,.t (.c (.own 0 L))),(1,vN lo),(2,vN m),(3,vN b),(4,.t (.c (.fn (.func 70) [] []))),(14,vN i),(17,vN k),(110,vb (decide ((k:Int)>(i:Int))))] [(0,.row 61 3 (z_.map gC))]) (show (((pre++a1)++a2.take t++y :: (a2.drop t++post)):List za2)=(pre++ssV za2.v (X++Y)++post) from by
    rw [<- hsm,show t=0 by omega,List.take_zero,List.drop_zero];simp)))
  refine zha [] h Exit.ret (.inl rfl)  rfl trivial ?_;rfl
 have hc16':=hc16;(try simp at hc16');refine qU (za3 (Je 1 [(2,.g (fX (op:=.add) (d:=131) (xt:=3) (yt:=3) (k:=.i64) (m:=(lo:Int)) (n:=(b:Int)) (r:=((lo+b:Nat):Int)) (fW 129 _) (fW 130 _) (.inl ⟨rfl,(by omega)⟩) i6)),(3,.conv .i64 .u64 (m:=((lo+b:Nat):Int)) (u64_id (by omega) (by omega))),(4,.g (Op.shr (d:=133) (xt:=85) (yt:=85) (k:=.u64) (k' := .u64) (m:=((lo+b:Nat):Int)) (n:=1) (r:=(((lo+b) / 2:Nat):Int)) (fW 132 _) (fV (.int .u64 1) rfl) (by decide) (half _))),(5,.conv .u64 .i64 (m:=(((lo+b) / 2:Nat):Int)) i6)] [80] [(18,vI (((lo+b) / 2:Nat):Int))] h fun a w h=>?_));obtain ⟨md,emd⟩:∃ z_:Nat,z_=(lo+b) / 2:=⟨_,rfl⟩;replace h:=cvM [] [(18,vN md)] [] [] (by rw [emd]; try kernel_rfl) h;refine Jg 1 [(2,.g (fX (op:=.add) (d:=137) (xt:=3) (yt:=3) (k:=.i64) (m:=(md:Int)) (n:=(m:Int)) (r:=((md+m:Nat):Int)) (fW 135 _) (fW 136 _) (.inl ⟨rfl,(by omega)⟩) i6))] [] [(19,vI ((md+m:Nat):Int))] [] [] h fun a w h=>?_;refine Je 1 [] [] [(20,vI 0),(21,vI 0)] h fun a w h=>?_
 obtain ⟨s0,r0,hsr1,hsr2⟩:∃ s0 r0:Nat,(md<m->s0=md+m - b/\r0=md)/\(¬ md<m->s0=lo/\r0=m):=by
  by_cases g:md<m
  ·exact ⟨_,_,fun _=>⟨rfl,rfl⟩,fun g2=>absurd g g2⟩
  exact ⟨_,_,fun g2=>absurd g2 g,fun _=>⟨rfl,rfl⟩⟩
 have hsr:lo<=s0/\s0<=r0/\r0<=m/\r0<=md/\md+m<=s0+b:=by
  by_cases g:md<m
  ·have:=hsr1 g;omega
  have:=hsr2 g;omega
 refine midH h [(0,.t (.c (.own 0 L))),(1,vN lo),(2,vN m),(3,vN b),(4,.t (.c (.fn (.func 70) [] []))),(18,vN md),(19,vI ((md+m:Nat):Int)),(20,vN s0),(21,vN r0)] [(0,.row 61 3 ((pre++X++Y++post).map gC))] ?_ (fun a w h=>?_)
 ·refine Je 1 [] [] [(140,vb (decide ((m:Int)>(md:Int))))] h fun a w h=>?_;refine zaj ((m:Int)>(md:Int)) h (fun hc17 hc17'=>?_) (fun hc18 hc18'=>?_)
  ·refine Je 1 [(2,.g (fX (op:=.sub) (d:=143) (xt:=3) (yt:=3) (k:=.i64) (m:=((md+m:Nat):Int)) (n:=(b:Int)) (r:=((md+m - b:Nat):Int)) (fW 141 _) (fW 142 _) (.inr (.inl ⟨rfl,(by omega)⟩)) i6))] [140] [(20,vI ((md+m - b:Nat):Int))] h fun a w h=>?_;refine Jf 1 [] [] [(21,vN md)] h fun a w h=>?_;refine za3 ?_;have hg:=hsr1 (by omega);replace h:=cvM [] [(20,vN s0),(21,vN r0)] [] [] (by rw [hg.1,hg.2]; try kernel_rfl) h;exact atS h
  refine Je 1 [] [140] [(20,vN lo)] h fun a w h=>?_;refine Jf 1 [] [] [(21,vN m)] h fun a w h=>?_;refine za3 ?_;have hg:=hsr2 (by omega);replace h:=cvM [] [(20,vN s0),(21,vN r0)] [] [] (by rw [hg.1,hg.2]; try kernel_rfl) h;exact atS h
 refine Je 1 [(1,.g (fX (op:=.sub) (d:=148) (xt:=3) (yt:=3) (k:=.i64) (m:=((md+m:Nat):Int)) (n:=1) (r:=((md+m - 1:Nat):Int)) (fW 147 _) (fV (.int .i64 1) rfl) (.inr (.inl ⟨rfl,(by omega)⟩)) i6))] [] [(22,vI ((md+m - 1:Nat):Int))] h fun a w h=>?_;refine qW (qZ ?_)
 refine zd3 (ι:=(Nat) × (Nat)) (fun (s,r)=>s0<=s/\s<=r/\r<=r0/\(s=s0\/kat (pre++X++Y++post) (s - 1)<=kat (pre++X++Y++post) (md+m - s))/\(r=r0\/kat (pre++X++Y++post) (md+m - 1 - r)<kat (pre++X++Y++post) (r)))
   [] (fun (s,r)=>[(20,vN s),(21,vN r)])
   [] (fun (s,r)=>[])
   (fun (s,r)=>r - s) (s0,r0) ?_ h ?_
 ·exact ⟨bI _,by omega,bI _,.inl rfl,.inl rfl⟩
 clear h;rintro ⟨s,r⟩ a w hI h;dsimp only at h;obtain ⟨q1,q2,q3,q4,q5⟩:=hI;refine qW (Je 1 [] [] [(151,vb (decide ((s:Int)<(r:Int))))] h fun a w h=>?_);refine zaj ((s:Int)<(r:Int)) h (fun hc19 hc19'=>?_) (fun hc22 hc22'=>?_)
 ·refine qU (za3 (qZ (Je 1 [(2,.g (fX (op:=.add) (d:=154) (xt:=3) (yt:=3) (k:=.i64) (m:=(s:Int)) (n:=(r:Int)) (r:=((s+r:Nat):Int)) (fW 152 _) (fW 153 _) (.inl ⟨rfl,(by omega)⟩) i6)),(3,.conv .i64 .u64 (m:=((s+r:Nat):Int)) (u64_id (by omega) (by omega))),(4,.g (Op.shr (d:=156) (xt:=85) (yt:=85) (k:=.u64) (k' := .u64) (m:=((s+r:Nat):Int)) (n:=1) (r:=(((s+r) / 2:Nat):Int)) (fW 155 _) (fV (.int .u64 1) rfl) (by decide) (half _))),(5,.conv .u64 .i64 (m:=(((s+r) / 2:Nat):Int)) i6)] [151] [(23,vI (((s+r) / 2:Nat):Int))] h fun a w h=>?_)));obtain ⟨x7,hx7⟩:=gl (pre++X++Y++post) (md+m - 1 - (s+r) / 2);obtain ⟨x8,hx8⟩:=gl (pre++X++Y++post) ((s+r) / 2);refine Je 1 [(4,.g (fX (op:=.sub) (d:=162) (xt:=3) (yt:=3) (k:=.i64) (m:=((md+m - 1:Nat):Int)) (n:=(((s+r) / 2:Nat):Int)) (r:=((md+m - 1 - (s+r) / 2:Nat):Int)) (fW 160 _) (fW 161 _) (.inr (.inl ⟨rfl,(by omega)⟩)) i6)),(5,.g (xO 163 159 0 L (md+m - 1 - (s+r) / 2) zbx (fW 162 _))),(6,.g (fY (d:=164) (t:=163) (n:=0) (i:=(md+m - 1 - (s+r) / 2)) (fo:=0) (rty:=61) (es:=3) (xs:=[.raw (.int .i64 x7.v),.raw (.bool x7.c.neg),nsl x7.c.abs]) zeq rfl (zab hx7 (f:=gC)) rfl rfl)),(9,.g (xO 167 165 0 L ((s+r) / 2) zbx (fW 166 _))),(10,.g (fY (d:=168) (t:=167) (n:=0) (i:=((s+r) / 2)) (fo:=0) (rty:=61) (es:=3) (xs:=[.raw (.int .i64 x8.v),.raw (.bool x8.c.neg),nsl x8.c.abs]) zeq rfl (zab hx8 (f:=gC)) rfl rfl)),(11,.g (Op.callV (d:=169) (t:=158) (cap:=[]) (args:=[.t (.agg ([.d (.raw (.int .i64 x7.v))]++zi x7.c)),.t (.agg ([.d (.raw (.int .i64 x8.v))]++zi x8.c))]) (rs:=[(164,.t (.agg ([.d (.raw (.int .i64 x7.v))]++zi x7.c))),(168,.t (.agg ([.d (.raw (.int .i64 x8.v))]++zi x8.c)))]) (tys:=#[61,61]) (SPlain1 x7 x8) te_2 (OVs.cons (fW 164 _) (OVs.cons (fW 168 _) (OVs.nil)))))] [] [(171,vb (!(decide (zcp x7.v x8.v<0))))] h fun a w h=>?_;refine cS (!(decide (zcp x7.v x8.v<0))) h (fun hc20=>?_) (fun hc21=>?_)
  ·have hc20':=hc20;(try simp at hc20');refine Jf 1 [(1,.g (fX (op:=.add) (d:=173) (xt:=3) (yt:=3) (k:=.i64) (m:=(((s+r) / 2:Nat):Int)) (n:=1) (r:=(((s+r) / 2+1:Nat):Int)) (fW 172 _) (fV (.int .i64 1) rfl) (.inl ⟨rfl,(by omega)⟩) i6))] [23,171] [(20,vI (((s+r) / 2+1:Nat):Int))] h fun a w h=>?_;refine za6 (za3 ?_);refine za9 (x:=(s,r)) (y:=(((s+r) / 2+1),r)) h ?_ ?_
   ·exact ⟨by omega,by omega,by omega,.inr (by rw [show (s+r) / 2+1 - 1=(s+r) / 2 from rfl,show md+m - ((s+r) / 2+1)=md+m - 1 - (s+r) / 2 by omega,zd5 hx7,zd5 hx8];exact cW.1 (mt zdf.2 (cW.2 hc20'))),q5⟩
   show r - ((s+r) / 2+1)<r - s;omega
  have hc21':=hc21;(try simp at hc21');refine Jf 1 [] [23,171] [(21,vI (((s+r) / 2:Nat):Int))] h fun a w h=>?_;refine za6 (za3 ?_);refine za9 (x:=(s,r)) (y:=(s,((s+r) / 2))) h ?_ ?_
  ·exact ⟨by omega,by omega,by omega,q4,.inr (by rw [zd5 hx7,zd5 hx8];exact zdf.1 hc21')⟩
  show (s+r) / 2 - s<r - s;omega
 refine exA (Je 1 [(2,.g (fX (op:=.sub) (d:=177) (xt:=3) (yt:=3) (k:=.i64) (m:=((md+m:Nat):Int)) (n:=(s:Int)) (r:=((md+m - s:Nat):Int)) (fW 175 _) (fW 176 _) (.inr (.inl ⟨rfl,(by omega)⟩)) i6))] [19,21,22,151] [(24,vI ((md+m - s:Nat):Int))] h fun a w h=>?_);obtain ⟨e,ee⟩:∃ z_:Nat,z_=md+m - s:=⟨_,rfl⟩;replace h:=cvM [] [(24,vN e)] [] [] (by rw [ee]; try kernel_rfl) h;have hsr':s=r:=by omega
 have g1:s=pre.length\/e=pre.length+X.length+Y.length\/kat (pre++X++Y++post) (s - 1)<=kat (pre++X++Y++post) e:=by
  rcases q4 with g | g
  ·by_cases gm:md<m
   ·have:=hsr1 gm;exact .inr (.inl (by omega))
   have:=hsr2 gm;exact .inl (by omega)
  exact .inr (.inr (by rw [ee];exact g))
 have g2:s=pre.length+X.length\/e=pre.length+X.length\/kat (pre++X++Y++post) (e - 1)<kat (pre++X++Y++post) s:=by
  rcases q5 with g | g
  ·by_cases gm:md<m
   ·have:=hsr1 gm;exact .inr (.inl (by omega))
   have:=hsr2 gm;exact .inl (by omega)
  exact .inr (.inr (by rw [show e - 1=md+m - 1 - r by omega,hsr'];exact g))
 obtain ⟨a1,a2,b1,b2,hX1,hY1,hs1,he1,hsm,ra1,ra2,rb1,rb2⟩:=srch3 (pre:=pre) (X:=X) (Y:=Y) (post:=post) (s:=s) (e:=e) rX rY (by omega) (by omega) (by omega) (by omega) g1 g2;have hla:X.length=a1.length+a2.length:=by rw [hX1,bC]
 have hlb:Y.length=b1.length+b2.length:=by rw [hY1,bC]
 replace h:=cvM [] [] [] [(0,.row 61 3 ((pre++a1++a2++b1++b2++post).map gC))] (by rw [<- show ((pre++X++Y++post):List za2)=(pre++a1++a2++b1++b2++post) from by rw [hX1,hY1];simp only [bJ]]; try kernel_rfl) h;refine midH h [(0,.t (.c (.own 0 L))),(1,vN lo),(3,vN b),(4,.t (.c (.fn (.func 70) [] []))),(18,vN md),(20,vN s),(24,vN e)] [(0,.row 61 3 ((pre++a1++b1++a2++b2++post).map gC))] ?_ (fun a w h=>?_)
 ·rcases dB (decide ((s:Int)<(m:Int))) with hc23 | hc26
  ·have hc23':=dT hc23;refine Je 1 [(2,.cmp (op:=.lss) (m:=(s:Int)) (n:=(m:Int)) (b:=true) .i64 hc23)] [] [(185,vb (decide ((m:Int)<(e:Int))))] h fun a w h=>?_;refine zaj ((m:Int)<(e:Int)) h (fun hc24 hc24'=>?_) (fun hc25 hc25'=>?_)
   ·refine Jh 1 [(5,.call (Srotate2 (r0:=(pre++a1++a2++b1++b2++post)) (r1:=(pre++a1++b1++a2++b2++post)) (L:=L) (a:=s) (m:=m) (b:=e) (pre++a1) a2 b1 (b2++post) (by simp only [bJ]) (by simp only [bJ]) (by first | omega | (simp only [bC];omega)) (by first | omega | (simp only [bC];omega)) (by first | omega | (simp only [bC];omega)) (by first | omega | (simp only [bC];omega)) (by omega) (by omega) (by omega)))] [2,185] [] [] [(0,.row 61 3 ((pre++a1++b1++a2++b2++post).map gC))] h fun a w h=>?_;refine za3 ?_;exact atS h
   refine qU (za3 ?_);replace h:=cvM [] [] [] [(0,.row 61 3 ((pre++a1++b1++a2++b2++post).map gC))] (by rw [<- show ((pre++a1++a2++b1++b2++post):List za2)=(pre++a1++b1++a2++b2++post) from by rcases (show a2.length=0\/b1.length=0 by omega) with g | g <;> (rw [zgh g];simp)]; try kernel_rfl) h;exact atS h
  have hc26':=dF hc26;refine Je 1 [(2,.cmp (op:=.lss) (m:=(s:Int)) (n:=(m:Int)) (b:=false) .i64 hc26)] [] [(185,vb false)] h fun a w h=>?_;refine zca h ?_;refine qU (za3 ?_);replace h:=cvM [] [] [] [(0,.row 61 3 ((pre++a1++b1++a2++b2++post).map gC))] (by rw [<- show ((pre++a1++a2++b1++b2++post):List za2)=(pre++a1++b1++a2++b2++post) from by rcases (show a2.length=0\/b1.length=0 by omega) with g | g <;> (rw [zgh g];simp)]; try kernel_rfl) h;exact atS h
 refine midH h [(0,.t (.c (.own 0 L))),(3,vN b),(4,.t (.c (.fn (.func 70) [] []))),(18,vN md),(24,vN e)] [(0,.row 61 3 ((pre++ssV za2.v (a1++b1)++a2++b2++post).map gC))] ?_ (fun a w h=>?_)
 ·rcases dB (decide ((lo:Int)<(s:Int))) with hc27 | hc30
  ·have hc27':=dT hc27;refine Je 1 [(2,.cmp (op:=.lss) (m:=(lo:Int)) (n:=(s:Int)) (b:=true) .i64 hc27)] [] [(199,vb (decide ((s:Int)<(md:Int))))] h fun a w h=>?_;refine zaj ((s:Int)<(md:Int)) h (fun hc28 hc28'=>?_) (fun hc29 hc29'=>?_)
   ·refine Jh 1 [(5,.call (ih (a1.length+b1.length) (by omega) L lo s md (pre++a1++b1++a2++b2++post) (pre++ssV za2.v (a1++b1)++a2++b2++post) ⟨pre,a1,b1,(a2++b2++post),rfl,by first | omega | (simp only [bC,zao];omega),by first | omega | (simp only [bC,zao];omega),by first | omega | (simp only [bC,zao];omega),by first | omega | (simp only [bC,zao];omega),by omega,by omega,by omega,ra1,rb1,by simp only [bJ],by simp only [bJ]⟩))] [1,20,199] [] [] [(0,.row 61 3 ((pre++ssV za2.v (a1++b1)++a2++b2++post).map gC))] h fun a w h=>?_;refine za3 ?_;exact atS h
   refine qU (za3 ?_);replace h:=cvM [] [] [] [(0,.row 61 3 ((pre++ssV za2.v (a1++b1)++a2++b2++post).map gC))] (by rw [<- show ((pre++a1++b1++a2++b2++post):List za2)=(pre++ssV za2.v (a1++b1)++a2++b2++post) from by rw [ssV_e (show a1.length=0\/b1.length=0 by omega) ra1 rb1];simp only [bJ]]; try kernel_rfl) h;exact atS h
  have hc30':=dF hc30;refine Je 1 [(2,.cmp (op:=.lss) (m:=(lo:Int)) (n:=(s:Int)) (b:=false) .i64 hc30)] [] [(199,vb false)] h fun a w h=>?_;refine zca h ?_;refine qU (za3 ?_);replace h:=cvM [] [] [] [(0,.row 61 3 ((pre++ssV za2.v (a1++b1)++a2++b2++post).map gC))] (by rw [<- show ((pre++a1++b1++a2++b2++post):List za2)=(pre++ssV za2.v (a1++b1)++a2++b2++post) from by rw [ssV_e (show a1.length=0\/b1.length=0 by omega) ra1 rb1];simp only [bJ]]; try kernel_rfl) h;exact atS h
 rcases dB (decide ((md:Int)<(e:Int))) with hc31 | hc34
 ·have hc31':=dT hc31;refine Je 1 [(2,.cmp (op:=.lss) (m:=(md:Int)) (n:=(e:Int)) (b:=true) .i64 hc31)] [] [(213,vb (decide ((e:Int)<(b:Int))))] h fun a w h=>?_;refine zaj ((e:Int)<(b:Int)) h (fun hc32 hc32'=>?_) (fun hc33 hc33'=>?_)
  ·refine Jn 1 [(5,.call (ih (a2.length+b2.length) (by omega) L md e b (pre++ssV za2.v (a1++b1)++a2++b2++post) (pre++ssV za2.v (a1++b1)++ssV za2.v (a2++b2)++post) ⟨(pre++ssV za2.v (a1++b1)),a2,b2,post,rfl,by first | omega | (simp only [bC,zao];omega),by first | omega | (simp only [bC,zao];omega),by first | omega | (simp only [bC,zao];omega),by first | omega | (simp only [bC,zao];omega),by omega,by omega,by omega,ra2,rb2,by simp only [bJ],by simp only [bJ]⟩))] [] [(0,.row 61 3 ((pre++ssV za2.v (a1++b1)++ssV za2.v (a2++b2)++post).map gC))] h fun a w h=>?_;replace h:=cv (fun z_:List za2=>F.of [] [(0,.row 61 3 (z_.map gC))]) (show ((pre++ssV za2.v (a1++b1)++ssV za2.v (a2++b2)++post):List za2)=(pre++ssV za2.v (X++Y)++post) from by rw [<- hsm];simp only [bJ]) (h.conv (by kernel_rfl));refine zha [] h Exit.normal (.inr rfl)  rfl trivial ?_;rfl
  refine qU ?_;replace h:=cvM [] [] [] [(0,.row 61 3 ((pre++ssV za2.v (X++Y)++post).map gC))] (by rw [<- show ((pre++ssV za2.v (a1++b1)++a2++b2++post):List za2)=(pre++ssV za2.v (X++Y)++post) from by rw [<- hsm,ssV_e (show a2.length=0\/b2.length=0 by omega) ra2 rb2];simp only [bJ]]; try kernel_rfl) h;refine zha [] h Exit.normal (.inr rfl)  rfl trivial ?_;rfl
 have hc34':=dF hc34;refine Je 1 [(2,.cmp (op:=.lss) (m:=(md:Int)) (n:=(e:Int)) (b:=false) .i64 hc34)] [] [(213,vb false)] h fun a w h=>?_;refine zca h ?_;refine qU ?_;replace h:=cvM [] [] [] [(0,.row 61 3 ((pre++ssV za2.v (X++Y)++post).map gC))] (by rw [<- show ((pre++ssV za2.v (a1++b1)++a2++b2++post):List za2)=(pre++ssV za2.v (X++Y)++post) from by rw [<- hsm,ssV_e (show a2.length=0\/b2.length=0 by omega) ra2 rb2];simp only [bJ]]; try kernel_rfl) h;refine zha [] h Exit.normal (.inr rfl)  rfl trivial ?_;rfl
theorem Ssym:∀ (N:Nat),SymIH N
 | 0=>fun n hn=>absurd hn (by omega)
 | N+1=>fun n hn L a m b r0 r1 hs=>SsymN (N:=n) (fun k hk=>Ssym N k (by omega)) hs
inductive Blk (s:Nat):List za2->Prop
  | last (l:List za2) (h:Ris za2.v l) (hl:l.length<=s):Blk s l
  | cons (X l:List za2) (hX:X.length=s) (h:Ris za2.v X) (hl:Blk s l):Blk s (X++l)
theorem Blk.ris (h:Blk s l) (hl:l.length<=s):Ris za2.v l:=by
 cases h with
 | last _ h _=>exact h
 | cons X l' hX h hl' =>
  have:l'.length=0:=by rw [bC] at hl;omega
  rw [zgh this,cV];exact h
theorem Blk.one (h:Blk s l) (hl:s<=l.length):∃ X r,l=X++r/\X.length=s/\Ris za2.v X/\Blk s r:=by
 cases h with
 | last _ h h2=>exact ⟨l,[],by simp,by omega,h,.last _ trivial (bK _)⟩
 | cons X l' hX h hl'=>exact ⟨X,l', rfl,hX,h,hl'⟩
theorem Blk.two (h:Blk s l) (hl:2*s<=l.length):∃ X Y r,l=X++Y++r/\X.length=s/\Y.length=s/\Ris za2.v X/\Ris za2.v Y/\Blk s r:=by
 obtain ⟨X,l1,rfl,hX,rX,h1⟩:=h.one (by omega)
 obtain ⟨Y,l2,rfl,hY,rY,h2⟩:=h1.one (by rw [bC] at hl;omega)
 exact ⟨X,Y,l2,by simp,hX,hY,rX,rY,h2⟩
def Pfx (s:Nat) (P:List za2):Prop:=∀ Z,Blk s Z->Blk s (P++Z)
theorem Pfx.nil (s:Nat):Pfx s []:=fun _ h=>h
theorem Pfx.snoc {P M:List za2} (h:Pfx s P) (hM:M.length=s) (rM:Ris za2.v M):Pfx s (P++M):=fun Z hZ=>by
 rw [bJ];exact h _ (.cons M Z hM rM hZ)
theorem zga (xs:List za2):Ris za2.v (ssV za2.v xs):=(zgs xs).1
theorem zf0 (xs:List za2):Stb za2.v (ssV za2.v xs) xs:=(zgs xs).2
theorem Stb.mid {P M M' Z:List za2} (h:Stb za2.v (P++(M++Z)) xs) (hM:Stb za2.v M' M):Stb za2.v (P++(M'++Z)) xs:=((Stb.refl P).app (hM.app (Stb.refl Z))).trans h
theorem Stb.len {ys:List za2} (h:Stb za2.v xs ys):xs.length=ys.length:=Stb.length xs.length rfl h
theorem Sinsort2 {L lo hi:Nat} (pre mid post:List za2) (e0:r0=pre++mid++post) (e1:r1=pre++ssV za2.v mid++post) (eL:L=pre.length+mid.length+post.length) (ea:lo=pre.length) (eb:hi=pre.length+mid.length) (hl:L<=1000000000000) :
  Fn fT 123 [(0,.row 61 3 (r0.map gC))] [vO 0 L,vi .i64 (lo:Int),vi .i64 (hi:Int),.t (.c (.fn (.func 70) [] []))] (.tup []) [(0,.row 61 3 (r1.map gC))]:=by
 have el:L=(pre++mid++post).length:=by simp only [bC];omega
 subst e0 e1 ea eb el
 exact Sinsort pre mid post hl
theorem Ssym2 {L lo:Nat} (pre X Y post:List za2) (e0:r0=pre++X++Y++post) (e1:r1=pre++ssV za2.v (X++Y)++post) (rX:Ris za2.v X) (rY:Ris za2.v Y) (hX:0<X.length) (hY:0<Y.length) (ea:lo=pre.length) (em:m=pre.length+X.length) (eb:b=pre.length+X.length+Y.length) (eL:L=pre.length+X.length+Y.length+post.length) (hl:L<=1000000000000) :
  Fn fT 124 [(0,.row 61 3 (r0.map gC))] [vO 0 L,vi .i64 (lo:Int),vi .i64 (m:Int),vi .i64 (b:Int),.t (.c (.fn (.func 70) [] []))] (.tup []) [(0,.row 61 3 (r1.map gC))] :=
 Ssym (X.length+Y.length+1) (X.length+Y.length) (by omega) L lo m b r0 r1 ⟨pre,X,Y,post,rfl,ea,em,eb,eL,hl,hX,hY,rX,rY,e0,e1⟩
theorem Sstable (xs:List za2) (L:Nat) (hL:L=xs.length) (hl:L<=400000000000):Fn fT 104 [(0,.row 61 3 (xs.map gC))] [vO 0 L,vN L,.t (.c (.fn (.func 70) [] []))] (.tup []) [(0,.row 61 3 ((ssV za2.v xs).map gC))]:=by
 refine fB Tryz.func104 rfl 63 fun w H B a h=>Jq 1 [] [(0,vO 0 L),(1,vN L),(2,.t (.c (.fn (.func 70) [] []))),(6,vI 20)] [(0,.row 61 3 (xs.map gC))] h fun a w h=>Je 1 [] [] [(7,vI 0),(8,vI 20)] h fun a w h=>qW (qZ ?_)
 refine zd3 (ι:=(Nat) × (List za2) × (List za2)) (fun (lo,P,Z)=>lo=P.length/\Pfx 20 P/\lo+Z.length=L/\Stb za2.v (P++Z) xs)
   [] (fun (lo,P,Z)=>[(7,vN lo),(8,vI ((20+lo:Nat):Int))])
   [] (fun (lo,P,Z)=>[(0,.row 61 3 ((P++Z).map gC))])
   (fun (lo,P,Z)=>Z.length) (0,[],xs) ?_ h ?_
 ·exact ⟨rfl,Pfx.nil _,by simp;omega,Stb.refl _⟩
 clear h;rintro ⟨lo,P,Z⟩ a w hI h;dsimp only at h;obtain ⟨q1,q2,q3,q4⟩:=hI;refine qW (Je 1 [] [] [(13,vb (decide (((20+lo:Nat):Int)<=(L:Int))))] h fun a w h=>zaj (((20+lo:Nat):Int)<=(L:Int)) h (fun hc1 hc1'=>?_) (fun hc2 hc2'=>?_))
 ·refine qU (za3 (qZ ?_));obtain ⟨M,Z1,hZ,hM⟩:=zfg (l:=Z) (n:=20) (by omega);have hz1:Z.length=M.length+Z1.length:=by rw [hZ,bC]
  replace h:=cvM [] [] [] [(0,.row 61 3 ((P++(M++Z1)).map gC))] (by rw [<- show ((P++Z):List za2)=(P++(M++Z1)) from by rw [hZ]]; try kernel_rfl) h;refine Jg 1 [(4,.call (Sinsort2 (r0:=(P++(M++Z1))) (r1:=((P++ssV za2.v M)++Z1)) (L:=L) (lo:=lo) (hi:=(20+lo)) P M Z1 (by simp only [bJ]) (rfl) (by first | omega | (simp only [bC,zao];omega)) (by first | omega | (simp only [bC,zao];omega)) (by first | omega | (simp only [bC,zao];omega)) (by omega)))] [13] [] [] [(0,.row 61 3 (((P++ssV za2.v M)++Z1).map gC))] h fun a w h=>Je 1 [] [] [(7,vI ((20+lo:Nat):Int))] h fun a w h=>Jf 1 [(2,.g (fX (op:=.add) (d:=22) (xt:=3) (yt:=3) (k:=.i64) (m:=((20+lo:Nat):Int)) (n:=20) (r:=((20+(20+lo):Nat):Int)) (fW 20 _) (fW 21 _) (.inl ⟨rfl,(by omega)⟩) i6))] [] [(8,vI ((20+(20+lo):Nat):Int))] h fun a w h=>za6 (za3 (za9 (x:=(lo,P,Z)) (y:=((20+lo),(P++ssV za2.v M),Z1)) h ?_ ?_))
  ·exact ⟨by rw [bC,zao];omega,q2.snoc (by rw [zao];exact hM) (zga M),by omega,by rw [bJ];exact Stb.mid (by rw [<- hZ];exact q4) (zf0 M)⟩
  show Z1.length<Z.length;omega
 refine exA (Jg 1 [(4,.call (Sinsort2 (r0:=(P++Z)) (r1:=(P++ssV za2.v Z)) (L:=L) (lo:=lo) (hi:=L) P Z [] ((cV _).symm) ((cV _).symm) (by simp only [cD];omega) (by first | omega | (simp only [bC,zao];omega)) (by first | omega | (simp only [bC,zao];omega)) (by omega)))] [13] [] [] [(0,.row 61 3 ((P++ssV za2.v Z).map gC))] h fun a w h=>qZ ?_)
 refine zd3 (ι:=(Nat) × (List za2)) (fun (bs,ys)=>20<=bs/\bs<=2*L+20/\Blk bs ys/\Stb za2.v ys xs)
   [7,8] (fun (bs,ys)=>[(6,vN bs)])
   [] (fun (bs,ys)=>[(0,.row 61 3 (ys.map gC))])
   (fun (bs,ys)=>L - bs) (20,(P++ssV za2.v Z)) ?_ h ?_
 ·exact ⟨bI _,by omega,q2 _ (.last _ (zga Z) (by rw [zao];omega)),(((Stb.refl P).app (zf0 Z)).trans q4)⟩
 clear h;rintro ⟨bs,ys⟩ a w hI h;dsimp only at h;obtain ⟨p1,p2,p3,p4⟩:=hI;have p5:=p4.len;refine qW (Je 1 [] [] [(30,vb (decide ((bs:Int)<(L:Int))))] h fun a w h=>zaj ((bs:Int)<(L:Int)) h (fun hc3 hc3'=>?_) (fun hc8 hc8'=>?_))
 ·refine qU (za3 (qZ (Je 1 [(1,.g (fX (op:=.mul) (d:=32) (xt:=3) (yt:=3) (k:=.i64) (m:=2) (n:=(bs:Int)) (r:=((2*bs:Nat):Int)) (fV (.int .i64 2) rfl) (fW 31 _) (.inr (.inr ⟨rfl,(by omega)⟩)) i6))] [30] [(7,vI 0),(8,vI ((2*bs:Nat):Int))] h fun a w h=>qW (qZ ?_))))
  refine zd3 (ι:=(Nat) × (List za2) × (List za2)) (fun (lo,P,Z)=>lo=P.length/\Pfx (2*bs) P/\lo+Z.length=L/\Blk bs Z/\Stb za2.v (P++Z) xs)
    [] (fun (lo,P,Z)=>[(7,vN lo),(8,vI ((2*bs+lo:Nat):Int))])
    [] (fun (lo,P,Z)=>[(0,.row 61 3 ((P++Z).map gC))])
    (fun (lo,P,Z)=>Z.length) (0,[],ys) ?_ h ?_
  ·exact ⟨rfl,Pfx.nil _,by simp;omega,p3,p4⟩
  clear h;rintro ⟨lo,P,Z⟩ a w hI h;dsimp only at h;obtain ⟨q1,q2,q3,q5,q4⟩:=hI;refine qW (Je 1 [] [] [(35,vb (decide (((2*bs+lo:Nat):Int)<=(L:Int))))] h fun a w h=>zaj (((2*bs+lo:Nat):Int)<=(L:Int)) h (fun hc4 hc4'=>?_) (fun hc5 hc5'=>?_))
  ·refine qU (za3 (qZ ?_));obtain ⟨X,Y,Z1,hZ,hX,hY,rX,rY,bZ⟩:=q5.two (by omega);have hz1:Z.length=X.length+Y.length+Z1.length:=by rw [hZ,bC,bC]
   replace h:=cvM [] [] [] [(0,.row 61 3 ((P++X++Y++Z1).map gC))] (by rw [<- show ((P++Z):List za2)=(P++X++Y++Z1) from by rw [hZ];simp only [bJ]]; try kernel_rfl) h;refine Jg 1 [(4,.g (fX (op:=.add) (d:=40) (xt:=3) (yt:=3) (k:=.i64) (m:=(lo:Int)) (n:=(bs:Int)) (r:=((lo+bs:Nat):Int)) (fW 38 _) (fW 39 _) (.inl ⟨rfl,(by omega)⟩) i6)),(7,.call (Ssym2 (r0:=(P++X++Y++Z1)) (r1:=((P++ssV za2.v (X++Y))++Z1)) (L:=L) (lo:=lo) (m:=(lo+bs)) (b:=(2*bs+lo)) P X Y Z1 rfl rfl rX rY (by omega) (by omega) (by first | omega | (simp only [bC,zao];omega)) (by first | omega | (simp only [bC,zao];omega)) (by first | omega | (simp only [bC,zao];omega)) (by first | omega | (simp only [bC,zao];omega)) (by omega)))] [35] [] [] [(0,.row 61 3 (((P++ssV za2.v (X++Y))++Z1).map gC))] h fun a w h=>Je 1 [] [] [(7,vI ((2*bs+lo:Nat):Int))] h fun a w h=>Jf 1 [(2,.g (fX (op:=.mul) (d:=47) (xt:=3) (yt:=3) (k:=.i64) (m:=2) (n:=(bs:Int)) (r:=((2*bs:Nat):Int)) (fV (.int .i64 2) rfl) (fW 46 _) (.inr (.inr ⟨rfl,(by omega)⟩)) i6)),(3,.g (fX (op:=.add) (d:=48) (xt:=3) (yt:=3) (k:=.i64) (m:=((2*bs+lo:Nat):Int)) (n:=((2*bs:Nat):Int)) (r:=((2*bs+(2*bs+lo):Nat):Int)) (fW 45 _) (fW 47 _) (.inl ⟨rfl,(by omega)⟩) i6))] [] [(8,vI ((2*bs+(2*bs+lo):Nat):Int))] h fun a w h=>za6 (za3 (za9 (x:=(lo,P,Z)) (y:=((2*bs+lo),(P++ssV za2.v (X++Y)),Z1)) h ?_ ?_))
   ·exact ⟨by rw [bC,zao,bC];omega,q2.snoc (by rw [zao,bC];omega) (zga _),by omega,bZ,by rw [bJ];exact Stb.mid (M:=X++Y) (by rw [<- hZ];exact q4) (zf0 _)⟩
   show Z1.length<Z.length;omega
  refine exA (qW (Je 1 [(2,.g (fX (op:=.add) (d:=51) (xt:=3) (yt:=3) (k:=.i64) (m:=(lo:Int)) (n:=(bs:Int)) (r:=((lo+bs:Nat):Int)) (fW 49 _) (fW 50 _) (.inl ⟨rfl,(by omega)⟩) i6))] [8,35] [(9,vI ((lo+bs:Nat):Int))] h fun a w h=>Je 1 [] [] [(54,vb (decide (((lo+bs:Nat):Int)<(L:Int))))] h fun a w h=>zaj (((lo+bs:Nat):Int)<(L:Int)) h (fun hc6 hc6'=>?_) (fun hc7 hc7'=>?_)))
  ·obtain ⟨X,Y,hZ,hX,rX,bY⟩:=q5.one (by omega);have hz1:Z.length=X.length+Y.length:=by rw [hZ,bC]
   have rY:=bY.ris (by omega);replace h:=cvM [] [] [] [(0,.row 61 3 ((P++X++Y++[]).map gC))] (by rw [<- show ((P++Z):List za2)=(P++X++Y++[]) from by rw [hZ];simp only [bJ,cV]]; try kernel_rfl) h;refine Jh 1 [(5,.call (Ssym2 (r0:=(P++X++Y++[])) (r1:=(P++ssV za2.v (X++Y)++[])) (L:=L) (lo:=lo) (m:=(lo+bs)) (b:=L) P X Y [] rfl rfl rX rY (by omega) (by omega) (by first | omega | (simp only [bC,zao];omega)) (by first | omega | (simp only [bC,zao];omega)) (by first | omega | (simp only [bC,zao];omega)) (by simp only [cD];omega) (by omega)))] [7,9,54] [] [] [(0,.row 61 3 ((P++ssV za2.v (X++Y)++[]).map gC))] h fun a w h=>za3 (Jf 1 [(1,.g (fX (op:=.mul) (d:=62) (xt:=3) (yt:=3) (k:=.i64) (m:=(bs:Int)) (n:=2) (r:=((bs*2:Nat):Int)) (fW 61 _) (fV (.int .i64 2) rfl) (.inr (.inr ⟨rfl,(by omega)⟩)) i6))] [] [(6,vI ((bs*2:Nat):Int))] h fun a w h=>za6 (za3 ?_));replace h:=cvM [] [] [] [(0,.row 61 3 ((P++ssV za2.v Z).map gC))] (by rw [<- show ((P++ssV za2.v (X++Y)++[]):List za2)=(P++ssV za2.v Z) from by rw [hZ,cV]]; try kernel_rfl) h;refine za9 (x:=(bs,ys)) (y:=((bs*2),(P++ssV za2.v Z))) h ?_ ?_
   ·exact ⟨by omega,by omega,by rw [bG];exact q2 _ (.last _ (zga Z) (by rw [zao];omega)),(((Stb.refl P).app (zf0 Z)).trans q4)⟩
   show L - bs*2<L - bs;omega
  refine qU (za3 (Jf 1 [(1,.g (fX (op:=.mul) (d:=62) (xt:=3) (yt:=3) (k:=.i64) (m:=(bs:Int)) (n:=2) (r:=((bs*2:Nat):Int)) (fW 61 _) (fV (.int .i64 2) rfl) (.inr (.inr ⟨rfl,(by omega)⟩)) i6))] [7,9,54] [(6,vI ((bs*2:Nat):Int))] h fun a w h=>za6 (za3 ?_)));replace h:=cvM [] [] [] [(0,.row 61 3 ((P++ssV za2.v Z).map gC))] (by rw [<- show ((P++Z):List za2)=(P++ssV za2.v Z) from by rw [ssV_of (q5.ris (by omega))]]; try kernel_rfl) h;refine za9 (x:=(bs,ys)) (y:=((bs*2),(P++ssV za2.v Z))) h ?_ ?_
  ·exact ⟨by omega,by omega,by rw [bG];exact q2 _ (.last _ (zga Z) (by rw [zao];omega)),(((Stb.refl P).app (zf0 Z)).trans q4)⟩
  show L - bs*2<L - bs;omega
 refine wp_exit (zbo (zbo (zap ?_)));replace h:=cvM [] [] [] [(0,.row 61 3 ((ssV za2.v xs).map gC))] (by rw [<- show (ys:List za2)=(ssV za2.v xs) from zcv (p3.ris (by omega)) p4]; try kernel_rfl) h;refine zha [] h Exit.normal (.inr rfl)  rfl trivial ?_;rfl
theorem SSortStable (xs:List za2) (hl:xs.length<=400000000000):Fn fT 69 [(0,.row 61 3 (xs.map gC))] [vO 0 xs.length,.t (.c (.fn (.func 70) [] []))] (.tup []) [(0,.row 61 3 ((ssV za2.v xs).map gC))]:=by
 refine fB Tryz.func69 rfl 9 fun w H B a h=>Jn 1 [(4,.call (Sstable xs xs.length rfl (by omega)))] [] [(0,.row 61 3 ((ssV za2.v xs).map gC))] h fun a w h=>zha [] h Exit.normal (.inr rfl)  rfl trivial ?_
 rfl
theorem tk_4:Zero fT 61 [.d (.raw (.int .i64 0)),.d (.raw (.bool false)),.d (nsl [])]:=⟨(Value.agg #[.int .i64 0,.bool false,.slice none 0 0]),[.int .i64 0,.bool false,.slice none 0 0],by kernel_rfl,rfl,(fun _ _=>⟨DR.raw _ rfl,DR.raw _ rfl,DR.nil _ _ _ (fun _=>rfl) (bK _),trivial⟩)⟩
def idxF (pr:za2->Bool):List za2->Nat->Int
  | [],_=>-1
  | p :: ps,n=>if pr p=true then n else idxF pr ps (n+1)
theorem idxF_at (h:xs[j]?=some p):idxF pr (xs.drop j) j=if pr p=true then (j:Int) else idxF pr (xs.drop (j+1)) (j+1):=by
 obtain ⟨hj,rfl⟩:=cE.1 h
 rw [dD hj];rfl
theorem zgj (pr:za2->Bool):∀ (xs:List za2) (n:Nat),(idxF pr xs n=-1/\xs.filter (fun p=>!pr p)=xs)\/∃ k x,idxF pr xs n=((n+k:Nat):Int)/\xs[k]?=some x/\pr x=true/\(xs.take k).filter (fun p=>!pr p)=xs.take k
 | [],n => .inl ⟨rfl,rfl⟩
 | p :: ps,n=>by
  cases hp:pr p with
  | true=>exact .inr ⟨0,p,by simp [idxF,hp],rfl,hp,rfl⟩
  | false =>
   rcases zgj pr ps (n+1) with ⟨h1,h2⟩ | ⟨k,x,h1,h2,h3,h4⟩
   ·exact .inl ⟨by simp [idxF,hp,h1],by simp [hp,h2]⟩
   ·exact .inr ⟨k+1,x,by simp only [idxF,hp,dE,if_false,h1];omega,h2,h3,by simp [hp,h4]⟩
def isZ (p:za2):Bool:=sgn p.c.val == 0
theorem del_at {pr:za2->Bool} {F:List za2} {x:za2} (hl:F.length+G.length=j) (h:xs[j]?=some x):(F++G++xs.drop j)[j]?=some x:=by
 obtain ⟨hj,rfl⟩:=cE.1 h
 rw [List.getElem?_append_right (by rw [bC];omega),bC,hl,Nat.sub_self,dD hj];rfl
theorem filt_snoc {x:za2} (h:xs[j]?=some x) (hp:pr x=false):((xs.take (j+1)).filter (fun p=>!pr p))=((xs.take j).filter (fun p=>!pr p))++[x]:=by
 have e:xs.take (j+1)=xs.take j++[x]:=by rw [bL,h];rfl
 rw [e,eM]
 simp only [cN,hp,Bool.not_false,if_true,List.filter_nil]
theorem filt_skip {x:za2} (h:xs[j]?=some x) (hp:pr x=true):((xs.take (j+1)).filter (fun p=>!pr p))=((xs.take j).filter (fun p=>!pr p)):=by
 have e:xs.take (j+1)=xs.take j++[x]:=by rw [bL,h];rfl
 rw [e,eM]
 simp only [cN,hp,Bool.not_true,dE,if_false,List.filter_nil,cV]
theorem del_skip {x:za2} (h:xs[j]?=some x) (hp:pr x=true):(((xs.take j).filter (fun p=>!pr p))++G++xs.drop j)=(((xs.take (j+1)).filter (fun p=>!pr p))++(G++[x])++xs.drop (j+1)):=by
 rw [filt_skip h hp]
 obtain ⟨hj,rfl⟩:=cE.1 h
 rw [dD hj]
 simp only [bJ,eN,dV]
theorem del_keep {x:za2} (h:xs[j]?=some x) (hp:pr x=false) (hG:0<G.length):(((xs.take j).filter (fun p=>!pr p))++G++xs.drop j).set ((xs.take j).filter (fun p=>!pr p)).length x=(((xs.take (j+1)).filter (fun p=>!pr p))++(G.tail++[x])++xs.drop (j+1)):=by
 rw [filt_snoc h hp]
 obtain ⟨hj,rfl⟩:=cE.1 h
 obtain ⟨g,G', rfl⟩:∃ g G', G=g :: G':=by
  cases G with
  | nil=>cases hG
  | cons g G'=>exact ⟨g,G', rfl⟩
 rw [dD hj,bJ,fL _ _ (bI _),Nat.sub_self]
 simp only [eN,List.set_cons_zero,bJ,dV,List.tail_cons]
theorem zhi {x:za2} (h:xs[j]?=some x) (hp:pr x=false):((xs.take j).filter (fun p=>!pr p)).length+1=((xs.take (j+1)).filter (fun p=>!pr p)).length:=by
 rw [filt_snoc h hp,bC];rfl
theorem zfu {x:za2} (h:xs[j]?=some x) (hp:pr x=true):((xs.take j).filter (fun p=>!pr p)).length=((xs.take (j+1)).filter (fun p=>!pr p)).length:=by
 rw [filt_skip h hp]
theorem SIndexFZ (pr:za2->Bool) (xs:List za2) (hf:∀ p ∈ xs,Fn fT 75 [] [vd p.d] (vb (pr p)) []) (hl:xs.length<=1000000000000):Fn fT 108 [(0,.row 61 3 (xs.map gC))] [vO 0 xs.length,.t (.c (.fn (.func 75) [] []))] (vI (idxF pr xs 0)) [(0,.row 61 3 (xs.map gC))]:=by
 refine fB Tryz.func108 rfl 19 fun w H B a h=>Jq 1 [] [(0,vO 0 xs.length),(1,.t (.c (.fn (.func 75) [] []))),(4,vI 0)] [(0,.row 61 3 (xs.map gC))] h fun a w h=>qW (Je 1 [] [] [(7,vN xs.length),(8,vI 0)] h fun a w h=>qZ ?_)
 refine zd3 (ι:=(Nat)) (fun j=>j<=xs.length/\idxF pr xs 0=idxF pr (xs.drop j) j)
   [4] (fun j=>[(8,vN j)])
   [] (fun j=>[])
   (fun j=>xs.length - j) 0 ?_ h ?_
 ·exact ⟨bK _,rfl⟩
 clear h;rintro j a w hI h;obtain ⟨hI1,hI2⟩:=hI;refine Je 1 [] [] [(9,vb (decide ((j:Int)<(xs.length:Int))))] h fun a w h=>qW (zaj ((j:Int)<(xs.length:Int)) h (fun hc1 hc1'=>?_) (fun hc4 hc4'=>?_))
 ·refine qU (za3 (qW (qZ (Je 1 [] [9] [(5,vN j)] h fun a w h=>?_))));obtain ⟨x1,hx1⟩:=gl xs j;refine Je 1 [(3,.g (xO 14 12 0 xs.length j zbx (fW 13 _))),(4,.g (fY (d:=15) (t:=14) (n:=0) (i:=j) (fo:=0) (rty:=61) (es:=3) (xs:=[.raw (.int .i64 x1.v),.raw (.bool x1.c.neg),nsl x1.c.abs]) zeq rfl (zab hx1 (f:=gC)) rfl rfl)),(5,.g (Op.callV (d:=16) (t:=11) (cap:=[]) (args:=[vG ([cI x1.v]++zi x1.c)]) (rs:=[(15,vG ([cI x1.v]++zi x1.c))]) (tys:=#[61]) (hf x1 (lM hx1)) th_2 (OVs.cons (fW 15 _) (OVs.nil))))] [] [(16,vb (pr x1))] h fun a w h=>cS (pr x1) h (fun hc2=>?_) (fun hc3=>?_)
  ·refine Je 1 [] [5,16] [(4,vN j)] h fun a w h=>qV (zan (zae (zae (zan (zae (rT (.c (cI (j:Int))) h rfl ?_))))));have hz:idxF pr xs 0=(j:Int):=by rw [hI2,idxF_at hx1,if_pos hc2]
   rw [hz];try rfl
  refine qU (za6 (za3 (Jf 1 [(0,.j1 j)] [5,16] [(8,vI ((j:Int)+1))] h fun a w h=>za3 (za9 (x:=j) (y:=j+1) h ?_ ?_))))
  ·exact ⟨by have:=zad hx1;omega,by rw [hI2,idxF_at hx1,if_neg (by rw [hc3];exact Bool.noConfusion)]⟩
  (try simp);omega
 refine exA (Jp 1 [] [(4,vI (-1))] h fun a w h=>qV (rT (.c (cI (-1))) h rfl ?_));have hz:idxF pr xs 0=-1:=by rw [hI2,List.drop_of_length_le (by omega)];rfl
 rw [hz];try rfl
theorem SDeleteFZ (pr:za2->Bool) (xs:List za2) (hf:∀ p ∈ xs,Fn fT 75 [] [vd p.d] (vb (pr p)) []) (hl:xs.length<=1000000000000):Fn fT 74 [(0,.row 61 3 (xs.map gC))] [.t (.c (.own 0 xs.length)),.t (.c (.fn (.func 75) [] []))] (.t (.c (.own 0 (xs.filter (fun p=>!pr p)).length))) [(0,.row 61 3 ((xs.filter (fun p=>!pr p)).map gC))]:=by
 refine fB Tryz.func74 rfl 42 fun w H B a h=>Jq 1 [] [(0,.t (.c (.own 0 xs.length))),(1,.t (.c (.fn (.func 75) [] []))),(4,.t (.c (.d (.raw zb2))))] [(0,.row 61 3 (xs.map gC))] h fun a w h=>Je 1 [(2,.call (SIndexFZ pr xs  hf hl))] [] [(5,vI (idxF pr xs 0))] h fun a w h=>qW ?_
 rcases zgj pr xs 0 with ⟨hz,hz2⟩ | ⟨k,x0,hz,hk,hk2,hk3⟩
 ·rw [hz] at h;refine Jq 1 [(1,.cmp (op:=.eql) (m:=(-1)) (n:=(-1)) (b:=true) .i64 rfl)] [(0,.t (.c (.own 0 xs.length))),(1,.t (.c (.fn (.func 75) [] []))),(4,.t (.c (.d (.raw zb2)))),(5,vI (-1)),(12,vb true)] [(0,.row 61 3 (xs.map gC))] h fun a w h=>cS true h (fun _=>?_) nofun
  refine Je 1 [] [12] [(4,.t (.c (.own 0 xs.length)))] h fun a w h=>qV (zae ?_);replace h:=cvM [] [(4,.t (.c (.own 0 (xs.filter (fun p=>!pr p)).length)))] [] [] (by rw [hz2]; try kernel_rfl) h;replace h:=cvM [] [] [] [(0,.row 61 3 ((xs.filter (fun p=>!pr p)).map gC))] (by rw [<- show (xs:List za2)=(xs.filter (fun p=>!pr p)) from hz2.symm]; try kernel_rfl) h;refine rT (.c (.own 0 (xs.filter (fun p=>!pr p)).length)) h rfl ?_;rfl
 rw [cF] at hz;have hkl:=zad hk;have hf2:((xs.take (k+1)).filter (fun p=>!pr p))=xs.take k:=by rw [bL,hk];simp [eM,hk2,hk3]
 have hf3:((xs.take (k+1)).filter (fun p=>!pr p)).length=k:=by rw [hf2,cG];omega
 rw [hz] at h;refine Jq 1 [(1,.cmp (op:=.eql) (m:=(k:Int)) (n:=(-1)) (b:=false) .i64 (beq_eq_false_iff_ne.2 (by omega)))] [(0,.t (.c (.own 0 xs.length))),(1,.t (.c (.fn (.func 75) [] []))),(4,.t (.c (.d (.raw zb2)))),(5,vN k),(12,vb false)] [(0,.row 61 3 (xs.map gC))] h fun a w h=>zca h (qU (za3 (qW (Je 1 [(1,.g (fX (op:=.add) (d:=15) (xt:=3) (yt:=3) (k:=.i64) (m:=(k:Int)) (n:=1) (r:=((k+1:Nat):Int)) (fW 14 _) (fV (.int .i64 1) rfl) (.inl ⟨rfl,(by omega)⟩) i6))] [12] [(6,vI ((k+1:Nat):Int))] h fun a w h=>qZ ?_))));replace h:=cvM [] [(5,vI (((xs.take (k+1)).filter (fun p=>!pr p)).length:Int))] [] [] (by rw [hf3]; try kernel_rfl) h;replace h:=cvM [] [] [] [(0,.row 61 3 ((((xs.take (k+1)).filter (fun p=>!pr p))++[x0]++xs.drop (k+1)).map gC))] (by rw [<- show (xs:List za2)=(((xs.take (k+1)).filter (fun p=>!pr p))++[x0]++xs.drop (k+1)) from by rw [hf2];obtain ⟨g1,g2⟩:=cE.1 hk;subst g2;simp]; try kernel_rfl) h
 refine zd3 (ι:=(Nat) × (List za2)) (fun (j,G)=>j<=xs.length/\((xs.take j).filter (fun p=>!pr p)).length+G.length=j/\0<G.length)
   [] (fun (j,G)=>[(5,vI (((xs.take j).filter (fun p=>!pr p)).length:Int)),(6,vN j)])
   [] (fun (j,G)=>[(0,.row 61 3 ((((xs.take j).filter (fun p=>!pr p))++G++xs.drop j).map gC))])
   (fun (j,G)=>xs.length - j) ((k+1),[x0]) ?_ h ?_
 ·exact ⟨by omega,by rw [hf3];rfl,Nat.one_pos⟩
 clear h;rintro ⟨j,G⟩ a w hI h;dsimp only at h;obtain ⟨hI1,hI2,hI3⟩:=hI;have hrl:(((xs.take j).filter (fun p=>!pr p))++G++xs.drop j).length=xs.length:=by simp only [bC,cK];omega
 refine qW (Je 1 [] [] [(19,vb (decide ((j:Int)<(xs.length:Int))))] h fun a w h=>zaj ((j:Int)<(xs.length:Int)) h (fun hc1 hc1'=>?_) (fun hc4 hc4'=>?_))
 ·refine qU (za3 (qW (qZ ?_)));obtain ⟨x,hx⟩:∃ z_:za2,xs[j]?=some z_:=⟨_,dW (by omega)⟩;refine Jg 1 [(2,.g (xO 24 22 0 xs.length j zbx (fW 23 _))),(3,.g (fY (d:=25) (t:=24) (n:=0) (i:=j) (fo:=0) (rty:=61) (es:=3) (xs:=[.raw (.int .i64 x.v),.raw (.bool x.c.neg),nsl x.c.abs]) zeq rfl (zab (show ((((xs.take j).filter (fun p=>!pr p))++G++xs.drop j):List za2)[j]?=some x from del_at (pr:=pr) hI2 hx) (f:=gC)) rfl rfl))] [19] [(7,vp 1 0)] [] [(1,.box ([.d (.raw (.int .i64 x.v))]++zi x.c))] h fun a w h=>Je 2 [(2,.g (Op.callV (d:=28) (t:=26) (cap:=[]) (args:=[.t (.agg ([.d (.raw (.int .i64 x.v))]++zi x.c))]) (rs:=[(27,.t (.agg ([.d (.raw (.int .i64 x.v))]++zi x.c)))]) (tys:=#[61]) (hf x (lM hx)) th_2 (OVs.cons (fW 27 _) (OVs.nil))))] [] [(29,vb (!(pr x)))] h fun a w h=>cS (!(pr x)) h (fun hc2=>?_) (fun hc3=>?_)
  ·obtain ⟨x3,hx3⟩:=gl (((xs.take j).filter (fun p=>!pr p))++G++xs.drop j) (((xs.take j).filter (fun p=>!pr p)).length);refine Jg 2 [(3,.g (xO 33 30 0 xs.length ((xs.take j).filter (fun p=>!pr p)).length zbx (fW 31 _))),(4,.g (fZ (t:=33) (n:=0) (i:=((xs.take j).filter (fun p=>!pr p)).length) (fo:=0) (rty:=61) (es:=3) (r:=gC x3) (ds:=[.raw (.int .i64 x.v),.raw (.bool x.c.neg),nsl x.c.abs]) (rs:=[(32,.t (.agg ([.d (.raw (.int .i64 x.v))]++zi x.c)))]) (rows:=(((xs.take j).filter (fun p=>!pr p))++G++xs.drop j).map gC) (rows':=((((xs.take j).filter (fun p=>!pr p))++G++xs.drop j).set ((xs.take j).filter (fun p=>!pr p)).length x).map gC) zeq (fW 32 _) rfl rfl rfl (zab hx3 (f:=gC)) (by simp [gC]) (zch (xs:=(((xs.take j).filter (fun p=>!pr p))++G++xs.drop j)) (F:=gC) ((xs.take j).filter (fun p=>!pr p)).length _ _ rfl)))] [7,29] [] [1] [(0,.row 61 3 (((((xs.take j).filter (fun p=>!pr p))++G++xs.drop j).set ((xs.take j).filter (fun p=>!pr p)).length x).map gC))] h fun a w h=>Jf 2 [(1,.g (fX (op:=.add) (d:=35) (xt:=3) (yt:=3) (k:=.i64) (m:=(((xs.take j).filter (fun p=>!pr p)).length:Int)) (n:=1) (r:=((((xs.take j).filter (fun p=>!pr p)).length+1:Nat):Int)) (fW 34 _) (fV (.int .i64 1) rfl) (.inl ⟨rfl,(by omega)⟩) i6))] [] [(5,vI ((((xs.take j).filter (fun p=>!pr p)).length+1:Nat):Int))] h fun a w h=>za6 (za3 (Jf 2 [(1,.j1 j)] [] [(6,vI ((j:Int)+1))] h fun a w h=>za3 ?_));have hp:pr x=false:=(by simpa using hc2);replace h:=cvM [] [(5,vI (((xs.take (j+1)).filter (fun p=>!pr p)).length:Int))] [] [] (by rw [<- zhi hx hp]; try kernel_rfl) h;rw [show (((((xs.take j).filter (fun p=>!pr p))++G++xs.drop j).set ((xs.take j).filter (fun p=>!pr p)).length x):List za2)=(((xs.take (j+1)).filter (fun p=>!pr p))++(G.tail++[x])++xs.drop (j+1)) from del_keep hx hp hI3] at h;refine za9 (x:=(j,G)) (y:=((j+1),(G.tail++[x]))) h ?_ ?_
   ·exact ⟨by have:=zad hx;omega,by rw [<- zhi hx hp,bC,List.length_tail];simp only [cL,cD];omega,by rw [bC];simp only [cL,cD];omega⟩
   show xs.length - (j+1)<xs.length - j;have:=zad hx;omega
  refine qU (za6 (za3 (Jh 2 [(1,.j1 j)] [7,29] [(6,vI ((j:Int)+1))] [1] [] h fun a w h=>za3 ?_)));have hp:pr x=true:=(by simpa using hc3);replace h:=cvM [] [(5,vI (((xs.take (j+1)).filter (fun p=>!pr p)).length:Int))] [] [] (by rw [<- zfu hx hp]; try kernel_rfl) h;rw [show ((((xs.take j).filter (fun p=>!pr p))++G++xs.drop j):List za2)=(((xs.take (j+1)).filter (fun p=>!pr p))++(G++[x])++xs.drop (j+1)) from del_skip hx hp] at h;refine za9 (x:=(j,G)) (y:=((j+1),(G++[x]))) h ?_ ?_
  ·exact ⟨by have:=zad hx;omega,by rw [<- zfu hx hp,bC];simp only [cL,cD];omega,by rw [bC];simp only [cL,cD];omega⟩
  show xs.length - (j+1)<xs.length - j;have:=zad hx;omega
 refine exA ?_;have hj:j=xs.length:=by omega
 have hF:((xs.take j).filter (fun p=>!pr p))=(xs.filter (fun p=>!pr p)):=by rw [hj,cC]
 refine Jg 2 [(2,.g (Op.sliceLo (d:=38) (t:=36) (k:=.i64) (n:=0) (len:=xs.length) (l:=((xs.take j).filter (fun p=>!pr p)).length) (rows:=(((xs.take j).filter (fun p=>!pr p))++G++xs.drop j).map gC) (rty:=61) zbx (by first | omega | (simp only [bS,bC,cK];omega)) (fW 37 _) (by first | omega | (simp at *;omega)) rfl)),(3,.g (Op.clearCut' (rows':=((xs.take j).filter (fun p=>!pr p)).map gC) (o:=none) (t:=38) (n:=0) (off:=((xs.take j).filter (fun p=>!pr p)).length*3) (len:=(xs.length - ((xs.take j).filter (fun p=>!pr p)).length)) (l:=((xs.take j).filter (fun p=>!pr p)).length) (es:=3) (rows:=(((xs.take j).filter (fun p=>!pr p))++G++xs.drop j).map gC) (rty:=61) (zs:=[.d (.raw (.int .i64 0)),.d (.raw (.bool false)),.d (nsl [])]) zbx.hu tk_4 rfl rfl (by first | omega | (simp only [bS,bC,cK];omega)) _ rfl (by simp [eO,List.take_append])))] [1,6,19] [] [] [(0,.row 61 3 (((xs.take j).filter (fun p=>!pr p)).map gC))] h fun a w h=>Jp 2 [(2,.g (Op.sliceHi (d:=41) (t:=39) (k:=.i64) (n:=0) (len:=xs.length) (h:=((xs.take j).filter (fun p=>!pr p)).length) (rows:=((xs.take j).filter (fun p=>!pr p)).map gC) (rty:=61) zbx (by first | omega | (simp only [bS,bC,cK];omega)) (fW 40 _)))] [(4,.t (.c (.own 0 ((xs.take j).filter (fun p=>!pr p)).length)))] h fun a w h=>qV ?_;replace h:=cvM [] [(4,.t (.c (.own 0 (xs.filter (fun p=>!pr p)).length)))] [] [] (by rw [hF]; try kernel_rfl) h;rw [show (((xs.take j).filter (fun p=>!pr p)):List za2)=(xs.filter (fun p=>!pr p)) from hF] at h;refine rT (.c (.own 0 (xs.filter (fun p=>!pr p)).length)) h rfl ?_;rfl
def zaz (out:List za2) (p:za2):List za2 :=
  if p.v<0 then out else match out[out.length - 1]? with
    | some q=>if q.v=p.v then out.set (out.length - 1) ⟨q.v,gA (q.c.val+p.c.val)⟩ else out++[⟨p.v,gA p.c.val⟩]
    | none=>out++[⟨p.v,gA p.c.val⟩]
def zgt (s:List za2):List za2:=s.foldl zaz []
theorem zc7 (s:List za2) (p:za2):zgt (s++[p])=zaz (zgt s) p:=by simp [zgt,List.foldl_append]
theorem mrg_neg (h:p.v<0):zaz out p=out:=by simp [zaz,h]
theorem mrg_nil (h:¬ p.v<0) (h0:out.length=0):zaz out p=out++[⟨p.v,gA p.c.val⟩]:=by
 rw [zgh h0];simp [zaz,h]
theorem zhc (h:¬ p.v<0) (hk:out.length=k+1) (hq:out[k]?=some q) (hv:q.v=p.v):zaz out p=out.set k ⟨q.v,gA (q.c.val+p.c.val)⟩:=by
 have:out.length - 1=k:=by omega
 simp only [zaz,this,hq,if_neg h,if_pos hv]
theorem mrg_new (h:¬ p.v<0) (hk:out.length=k+1) (hq:out[k]?=some q) (hv:¬ q.v=p.v):zaz out p=out++[⟨p.v,gA p.c.val⟩]:=by
 have:out.length - 1=k:=by omega
 simp only [zaz,this,hq,if_neg h,if_neg hv]
def MOk (L j:Nat) (out:List za2):Prop:=∀ q ∈ out,q.c=gA q.c.val/\q.c.val.natAbs<=j*pw L
theorem MOk.lb {L:Nat} (h:MOk L j out) (hq:q ∈ out) (hj:j<=1000000000):Lb q.c.abs/\q.c.abs.length<=L+1:=by
 obtain ⟨h1,h2⟩:=h q hq
 rw [h1]
 refine ⟨ZI.lb_of _,ZI.len_of ?_⟩
 have h3:j*pw L<=1000000000*pw L:=bU _ hj
 have h4:=ze9 L
 rw [zai];omega
theorem MOk.step {L:Nat} (h:MOk L j out) (hp:Lb p.c.abs/\p.c.abs.length<=L):MOk L (j+1) (zaz out p):=by
 have hp2:p.c.val.natAbs<=pw L:=by
  have h3:=ZI.abs_lt hp.1
  have h4:=zd2 hp.2
  omega
 have up:∀ q ∈ out,q.c=gA q.c.val/\q.c.val.natAbs<=(j+1)*pw L:=fun q hq=>⟨(h q hq).1,bW (h q hq).2 (bU _ (Nat.le_succ j))⟩
 have new:∀ q ∈ out++[(⟨p.v,gA p.c.val⟩:za2)],q.c=gA q.c.val/\q.c.val.natAbs<=(j+1)*pw L:=by
  intro q hq
  rcases dX.1 hq with hq | hq
  ·exact up q hq
  ·rw [cX.1 hq]
   refine ⟨by rw [gB],?_⟩
   show (gA p.c.val).val.natAbs<=_
   rw [gB,cH];omega
 intro q hq
 by_cases h1:p.v<0
 ·rw [mrg_neg h1] at hq;exact up q hq
 rcases cM out.length with h0 | h0
 ·rw [mrg_nil h1 h0] at hq;exact new q hq
 obtain ⟨k,hk⟩:∃ k,out.length=k+1:=⟨out.length - 1,by omega⟩
 have hk2:out[k]?=some (out[k]'(by omega)):=dW _
 by_cases hv:(out[k]'(by omega)).v=p.v
 ·rw [zhc h1 hk hk2 hv] at hq
  rcases fM hq with hq | rfl
  ·exact up q hq
  ·have:=(h _ (dG hk2)).2
   refine ⟨by rw [gB],?_⟩
   show (gA _).val.natAbs<=_
   rw [gB,cH];omega
 ·rw [mrg_new h1 hk hk2 hv] at hq;exact new q hq
abbrev SR (l:List za2):Prop:=l.Pairwise fun p q=>p.v<q.v
theorem zgm (h:∀ q ∈ l,q.v≠v):zaf l v=0:=by
 induction l with
 | nil=>rfl
 | cons q l ih=>simp only [zaf];rw [ih fun x hx=>h x (by simp [hx]),if_neg fun e=>h q (by simp) e.1];rfl
theorem zee (p:za2) (v:Int):zaf [p] v=if p.v=v/\0<=v then p.c.val else 0:=by simp [zaf]
theorem zgy (l:List za2) (v:Int):zaf (l.filter fun p=>decide (p.v=v)) v=zaf l v:=by
 induction l with
 | nil=>rfl
 | cons p l ih =>
  by_cases h:p.v=v
  ·simp only [cN,h,decide_true,if_true,zaf,ih]
  ·simp only [cN,h,decide_false,dE,if_false,zaf,ih,false_and,Int.zero_add]
theorem coefZ_stb {ys:List za2} (h:Stb za2.v xs ys) (v:Int):zaf xs v=zaf ys v:=by
 rw [<- zgy xs,<- zgy ys,h v]
theorem coefZ_nz (l:List za2) (v:Int):zaf (l.filter fun p=>!isZ p) v=zaf l v:=by
 induction l with
 | nil=>rfl
 | cons p l ih =>
  cases h:isZ p with
  | true =>
   have h0:p.c.val=0:=by simp only [isZ] at h;exact sgn0_t h
   simp only [cN,h,Bool.not_true,dE,if_false,zaf,ih,h0]
   split <;> omega
  | false=>simp only [cN,h,Bool.not_false,if_true,zaf,ih]
theorem SR.head (s:SR (p :: l)) (h0:0<=p.v):zaf (p :: l) p.v=p.c.val:=by
 rw [zaf,if_pos ⟨rfl,h0⟩,zgm (fun q hq=>by have:=(cO.1 s).1 q hq;omega),dC]
theorem SR.below (s:SR (p :: l)) (hv:v<p.v):zaf (p :: l) v=0:=by
 refine zgm fun q hq=>?_
 rcases cP.1 hq with rfl | hq
 ·omega
 ·have:=(cO.1 s).1 q hq;omega
theorem SR.unique:∀ {l m:List za2}, SR l->SR m->(∀ q ∈ l,0<=q.v/\q.c=gA q.c.val/\q.c.val≠0)->(∀ q ∈ m,0<=q.v/\q.c=gA q.c.val/\q.c.val≠0)->(∀ v,zaf l v=zaf m v)->l=m
 | [],[],_,_,_,_,_=>rfl
 | p :: l,[],s1,_,h1,_,h=>by
  have e:=h p.v
  rw [s1.head (h1 p (by simp)).1] at e
  exact absurd e (h1 p (by simp)).2.2
 | [],q :: m,_,s2,_,h2,h=>by
  have e:=h q.v
  rw [s2.head (h2 q (by simp)).1] at e
  exact absurd e.symm (h2 q (by simp)).2.2
 | p :: l,q :: m,s1,s2,h1,h2,h=>by
  obtain ⟨p0,p1,p2⟩:=h1 p (by simp)
  obtain ⟨q0,q1,q2⟩:=h2 q (by simp)
  rcases eP p.v q.v with hv | hv | hv
  ·have e:=h p.v
   rw [s1.head p0,s2.below hv] at e
   exact absurd e p2
  ·have e:=h p.v
   rw [s1.head p0,hv,s2.head q0] at e
   have epq:p=q:=by
    cases p;cases q
    simp only at hv e p1 q1
    subst hv
    rw [p1,q1,e]
   subst epq
   rw [SR.unique (cO.1 s1).2 (cO.1 s2).2 (fun x hx=>h1 x (by simp [hx])) (fun x hx=>h2 x (by simp [hx])) fun v=>by
    have:=h v
    simp only [zaf] at this
    omega]
  ·have e:=h q.v
   rw [s2.head q0,s1.below hv] at e
   exact absurd e.symm q2
theorem SR.last {o:List za2} (h:SR (o++[q])):∀ x ∈ o,x.v<q.v:=fun x hx=>(dY.1 h).2.2 x hx q (by simp)
theorem mrgZ_ok (s:List za2):Ris za2.v s->SR (zgt s)/\(∀ q ∈ zgt s,0<=q.v/\q.c=gA q.c.val/\∃ x ∈ s,x.v=q.v)/\∀ v,zaf (zgt s) v=zaf s v:=by
 refine rev_ind (P:=fun s=>Ris za2.v s->SR (zgt s)/\(∀ q ∈ zgt s,0<=q.v/\q.c=gA q.c.val/\∃ x ∈ s,x.v=q.v)/\∀ v,zaf (zgt s) v=zaf s v) ?_ ?_ s
 ·intro _
  exact ⟨List.Pairwise.nil,fun q hq=>(by cases hq),fun v=>rfl⟩
 ·intro s p ih hR
  obtain ⟨r1,r2,r3⟩:=Ris.app.1 hR
  obtain ⟨i1,i2,i3⟩:=ih r1
  rw [zc7]
  have old:∀ q ∈ zgt s,0<=q.v/\q.c=gA q.c.val/\∃ x ∈ s++[p],x.v=q.v:=fun q hq=>by
   obtain ⟨h1,h2,x,h3,h4⟩:=i2 q hq
   exact ⟨h1,h2,x,by simp [h3],h4⟩
  have le:∀ q ∈ zgt s,q.v<=p.v:=fun q hq=>by
   obtain ⟨_,_,x,h3,h4⟩:=i2 q hq
   have:=r3 x h3 p (by simp);omega
  have cs:∀ v,zaf (s++[p]) v=zaf (zgt s) v+if p.v=v/\0<=v then p.c.val else 0:=fun v=>by rw [zdp,zee,i3 v]
  by_cases hn:p.v<0
  ·rw [mrg_neg hn]
   exact ⟨i1,old,fun v=>by rw [cs v,if_neg (by omega),dC]⟩
  rcases snoc_or (zgt s) with h0 | ⟨o,q,ho⟩
  ·rw [mrg_nil hn (by rw [h0];rfl),h0,dV]
   refine ⟨eQ _ _,fun q hq=>?_,fun v=>?_⟩
   ·rw [cX.1 hq]
    exact ⟨by show 0<=p.v;omega,by rw [gB],p,by simp,rfl⟩
   ·rw [cs v,h0,zee];simp [zaf,gB]
  ·rw [ho] at i1 old le cs ⊢
   have hk:(o++[q]).length=o.length+1:=by simp
   have hq:(o++[q])[o.length]?=some q:=by simp
   have lq:=le q (by simp)
   by_cases hv:q.v=p.v
   ·rw [zhc hn hk hq hv,show (o++[q]).set o.length ⟨q.v,gA (q.c.val+p.c.val)⟩=o++[⟨q.v,gA (q.c.val+p.c.val)⟩] by simp [fL]]
    obtain ⟨j1,j2,j3⟩:=dY.1 i1
    refine ⟨dY.2 ⟨j1,eQ _ _,fun a ha b hb=>?_⟩,fun x hx=>?_,fun v=>?_⟩
    ·rw [cX.1 hb];exact i1.last a ha
    ·rcases dX.1 hx with hx | hx
     ·exact old x (by simp [hx])
     ·rw [cX.1 hx]
      exact ⟨by show 0<=q.v;omega,by rw [gB],p,by simp,hv.symm⟩
    ·rw [cs v,zdp,zdp,zee,zee]
     simp only [gB,hv]
     split <;> omega
   ·rw [mrg_new hn hk hq hv]
    refine ⟨dY.2 ⟨i1,eQ _ _,fun a ha b hb=>?_⟩,fun x hx=>?_,fun v=>?_⟩
    ·rw [cX.1 hb]
     show a.v<p.v
     rcases dX.1 ha with ha | ha
     ·have:=i1.last a ha;omega
     ·rw [cX.1 ha];omega
    ·rcases dX.1 hx with hx | hx
     ·exact old x hx
     ·rw [cX.1 hx]
      exact ⟨by show 0<=p.v;omega,by rw [gB],p,by simp,rfl⟩
    ·rw [cs v,zdp,zee]
     simp only [gB]
def insR (v:Int):List Int->List Int
  | []=>[v]
  | x :: l=>if v<=x then v :: (x :: l).filter (fun y=>decide (y≠v)) else x :: insR v l
theorem zhh (v:Int):∀ (l acc:List Int),l.foldl (zbl v) (acc,true)=(acc++l.filter (fun y=>decide (y≠v)),true)
 | [],acc=>by simp
 | x :: l,acc=>by
  have e:zbl v (acc,true) x=(if x≠v then (acc++[x],true) else (acc,true)):=by simp [zbl]
  rw [eR,e]
  by_cases h:x=v
  ·rw [if_neg (fun g=>g h),zhh v l acc];simp [h]
  ·rw [if_pos h,zhh v l (acc++[x])];simp [h]
theorem insZ_R (v:Int):∀ (l acc:List Int),(if (l.foldl (zbl v) (acc,false)).2=true then (l.foldl (zbl v) (acc,false)).1 else (l.foldl (zbl v) (acc,false)).1++[v])=acc++insR v l
 | [],acc=>by simp [insR]
 | x :: l,acc=>by
  rw [eR]
  by_cases h:v<=x
  ·have e:zbl v (acc,false) x=(if x≠v then (acc++[v]++[x],true) else (acc++[v],true)):=by simp [zbl,h]
   by_cases h2:x=v
   ·rw [if_neg (fun g=>g h2)] at e
    rw [e,zhh];simp [insR,h2]
   ·rw [if_pos h2] at e
    rw [e,zhh];simp [insR,h,h2]
  ·have h2:x≠v:=by omega
   have e:zbl v (acc,false) x=(acc++[x],false):=by simp [zbl,h,h2]
   rw [e,insZ_R v l (acc++[x])]
   simp [insR,h]
theorem insZ_eq (l:List Int) (v:Int):insZ l v=insR v l:=by have:=insZ_R v l [];simpa [insZ] using this
abbrev SRi (l:List Int):Prop:=l.Pairwise fun x y=>x<y
theorem insR_mem (v x:Int):∀ l:List Int,x ∈ insR v l ↔ x=v\/x ∈ l
 | []=>by simp [insR]
 | y :: l=>by
  simp only [insR]
  split
  ·simp only [cP,dZ,decide_eq_true_eq]
   by_cases h:x=v <;> simp [h]
  ·simp only [cP,insR_mem v x l]
   constructor
   ·rintro (h | h | h) <;> simp [h]
   ·rintro (h | h | h) <;> simp [h]
theorem insR_sr (v:Int):∀ {l:List Int}, SRi l->SRi (insR v l)
 | [],_=>by simp [insR]
 | y :: l,h=>by
  obtain ⟨h1,h2⟩:=cO.1 h
  simp only [insR]
  split
  ·rename_i hv
   refine cO.2 ⟨fun z hz=>?_,h.filter _⟩
   obtain ⟨hz1,hz2⟩:=dZ.1 hz
   have hz2:z≠v:=by simpa using hz2
   rcases cP.1 hz1 with rfl | hz1
   ·omega
   ·have:=h1 z hz1;omega
  ·refine cO.2 ⟨fun z hz=>?_,insR_sr v h2⟩
   rcases (insR_mem v z l).1 hz with rfl | hz
   ·omega
   ·exact h1 z hz
theorem varsFold (ps:List za2):∀ (qs:List za2) (out:List Int),SRi out->SRi (qs.foldl (zcz ps) out)/\∀ x,x ∈ qs.foldl (zcz ps) out ↔ x ∈ out\/∃ q ∈ qs,q.v=x/\zaf ps x≠0
 | [],out,h=>⟨h,fun x=>by simp⟩
 | q :: qs,out,h=>by
  have h1:SRi (zcz ps out q):=by
   unfold zcz
   split
   ·rw [insZ_eq];exact insR_sr _ h
   ·exact h
  obtain ⟨i1,i2⟩:=varsFold ps qs _ h1
  refine ⟨i1,fun x=>?_⟩
  rw [eR,i2 x]
  have h2:x ∈ zcz ps out q ↔ x ∈ out\/(q.v=x/\zaf ps x≠0):=by
   unfold zcz
   split
   ·rename_i hc
    rw [insZ_eq,insR_mem]
    constructor
    ·rintro (rfl | h)
     ·exact .inr ⟨rfl,hc⟩
     ·exact .inl h
    ·rintro (h | ⟨rfl,_⟩)
     ·exact .inr h
     ·exact .inl rfl
   ·rename_i hc
    constructor
    ·exact .inl
    ·rintro (h | ⟨rfl,h⟩)
     ·exact h
     ·exact absurd h hc
  rw [h2]
  constructor
  ·rintro ((h | h) | ⟨p,hp,h⟩)
   ·exact .inl h
   ·exact .inr ⟨q,by simp,h⟩
   ·exact .inr ⟨p,by simp [hp],h⟩
  ·rintro (h | ⟨p,hp,h⟩)
   ·exact .inl (.inl h)
   ·rcases cP.1 hp with rfl | hp
    ·exact .inl (.inr h)
    ·exact .inr ⟨p,hp,h⟩
theorem zbk (h:zaf ps v≠0):0<=v/\∃ q ∈ ps,q.v=v:=by
 refine ⟨cW.1 fun hv=>h ?_,?_⟩
 ·induction ps with
  | nil=>rfl
  | cons p ps ih =>
   simp only [zaf] at h ⊢
   rw [if_neg (by omega),Int.zero_add] at h ⊢
   exact ih h
 ·exact Classical.byContradiction fun hq=>h (zgm fun q hq1 hq2=>hq ⟨q,hq1,hq2⟩)
theorem varsZ_ok (ps:List za2):SRi (zb9 ps)/\∀ x,x ∈ zb9 ps ↔ zaf ps x≠0:=by
 obtain ⟨h1,h2⟩:=varsFold ps ps [] List.Pairwise.nil
 refine ⟨h1,fun x=>(h2 x).trans ⟨?_,fun h=>?_⟩⟩
 ·rintro (h | ⟨_,_,_,h⟩)
  ·cases h
  ·exact h
 ·obtain ⟨_,q,hq,e⟩:=zbk h
  exact .inr ⟨q,hq,e,h⟩
def zda (ps:List za2) (v:Int):za2:=⟨v,gA (zaf ps v)⟩
theorem zfw (ps:List za2) (v:Int) (hv:0<=v):∀ {l:List Int}, SRi l->zaf (l.map (zda ps)) v=if v ∈ l then zaf ps v else 0
 | [],_=>rfl
 | x :: l,h=>by
  obtain ⟨h1,h2⟩:=cO.1 h
  simp only [List.map_cons,zaf,zfw ps v hv h2]
  by_cases e:x=v
  ·subst e
   have:x ∉ l:=fun hx=>by have:=h1 x hx;omega
   simp [zda,hv,this,gB]
  ·have e':¬ v=x:=fun g=>e g.symm
   simp [zda,e,e']
theorem plain_law (ps:List za2):(zgt (ssV za2.v ps)).filter (fun p=>!isZ p)=(zb9 ps).map (zda ps):=by
 obtain ⟨m1,m2,m3⟩:=mrgZ_ok (ssV za2.v ps) (zga ps)
 obtain ⟨v1,v2⟩:=varsZ_ok ps
 refine SR.unique (m1.filter _) (eS.2 v1) (fun q hq=>?_) (fun q hq=>?_) fun v=>?_
 ·obtain ⟨h1,h2⟩:=dZ.1 hq
  obtain ⟨h3,h4,_⟩:=m2 q h1
  refine ⟨h3,h4,fun e=>?_⟩
  have:isZ q=true:=by simp [isZ,e,zdt]
  rw [this] at h2;cases h2
 ·obtain ⟨v,hv,rfl⟩:=eA.1 hq
  have hv:=(v2 v).1 hv
  refine ⟨(zbk hv).1,by simp [zda,gB],by simpa [zda,gB] using hv⟩
 ·rw [coefZ_nz,m3 v,coefZ_stb (zf0 ps) v]
  by_cases hv:0<=v
  ·rw [zfw ps v hv v1]
   by_cases h:v ∈ zb9 ps
   ·rw [if_pos h]
   ·rw [if_neg h]
    exact Classical.byContradiction fun e=>h ((v2 v).2 e)
  ·have z1:zaf ps v=0:=Classical.byContradiction fun e=>hv (zbk e).1
   have z2:zaf ((zb9 ps).map (zda ps)) v=0:=Classical.byContradiction fun e=>hv (zbk e).1
   rw [z1,z2]
theorem tl_7:Sz fT 3 1 false:=Sz.mk' (by kernel_rfl) Tryz.underlying3 _ rfl
theorem SClone1 (xs:List za2) (hn:0<xs.length) (hl:xs.length<=1000000000000):Fn fT 68 [] [(vPs xs)] (vO 0 xs.length) [(0,.row 61 3 (xs.map gC))]:=by
 refine fB Tryz.func68 rfl 8 fun w H B a h=>Jq 1 [] [(0,(vPs xs)),(2,vW zb2)] [] h fun a w h=>qW (Jg 1 [(1,.g (Op.eqNilD (d:=4) (t:=3) (es:=3) (xt:=39) (yt:=39) (rows:=xs.map gC) zbx.hu ((by rw [bS];exact hn)) (fV zb2 rfl)))] [] [(4,vb false)] [] [] h fun a w h=>zca h (qU (za3 (Jq 1 [(0,.g (Op.buildE (d:=5) (n:=1) tb_9)),(2,.g (Op.appOD (d:=7) (t:=5) (u:=6) (n:=1) (n':=2) (len:=0) (len':=xs.length) (rows:=[].map gC) (rows2:=xs.map gC) (rows':=xs.map gC) tb_10 (by first | exact (bS _).symm | simp) (by first | (rw [bC,bS];done) | simp) (by simp) (by simp [gC]) (by first | omega | (simp at *;done) | (simp at *;omega))))] [(2,vO 2 xs.length)] [(2,.row 61 3 (xs.map gC))] h fun a w h=>qV ?_))))
 replace h:=zfb 2 0 h;refine rT (.c (.own 0 xs.length)) h rfl ?_;rfl
theorem SClone2 :Fn fT 68 [] [vW zb2] (vO 0 0) [(0,.row 61 3 ([].map gC))]:=by
 refine fB Tryz.func68 rfl 8 fun w H B a h=>Jq 1 [] [(0,vW zb2),(2,vW zb2)] [] h fun a w h=>qW (Jg 1 [(1,.g (Op.eqNilR (d:=4) (xt:=39) (yt:=39) (ao:=none) (n:=0) (c:=0) zbx.hu (fW 3 _) (fV zb2 rfl)))] [] [(4,vb true)] [] [] h fun a w h=>cS true h (fun _=>?_) nofun)
 refine Jg 1 [] [4] [] [] [] h fun a w h=>qV (zae ?_);replace h:=nilOSx 2 0 1 3 61 (vW zb2) h;replace h:=zfb 1 0 h;refine rT (.c (.own 0 0)) h rfl ?_;rfl
theorem SClone3 (ao:Addr) (c:Nat) (hc:c<=maxLen):Fn fT 68 [] [vW (.slice (some ao) 0 c)] (vO 0 0) [(0,.row 61 3 ([].map gC))]:=by
 refine fB Tryz.func68 rfl 8 fun w H B a h=>Jq 1 [] [(0,vW (.slice (some ao) 0 c)),(2,vW zb2)] [] h fun a w h=>qW (Jg 1 [(1,.g (Op.eqNilR (d:=4) (xt:=39) (yt:=39) (ao:=some ao) (n:=0) (c:=c) zbx.hu (fW 3 _) (fV zb2 rfl)))] [] [(4,vb false)] [] [] h fun a w h=>zca h (qU (za3 ?_)))
 replace h:=nilDSr 0 0 3 (vW (.slice (some ao) 0 c)) (some ao) c (fun e=>by cases e) hc [(0,(vPs [])),(2,vW zb2),(4,vb false)] [] h rfl rfl;refine Jq 1 [(0,.g (Op.buildE (d:=5) (n:=1) tb_9)),(2,.g (Op.appOD (d:=7) (t:=5) (u:=6) (n:=1) (n':=2) (len:=0) (len':=0) (rows:=[].map gC) (rows2:=[].map gC) (rows':=[].map gC) tb_10 (by first | exact (bS _).symm | simp) (by first | (rw [bC,bS];done) | simp) (by simp) (by simp [gC]) (by first | omega | (simp at *;done) | (simp at *;omega))))] [(2,vO 2 0)] [(2,.row 61 3 ([].map gC))] h fun a w h=>qV ?_;replace h:=zfb 2 0 h;refine rT (.c (.own 0 0)) h rfl ?_;rfl
theorem SClone (xs:List za2) (hl:xs.length<=1000000000000):Fn fT 68 [] [(vPs xs)] (vO 0 xs.length) [(0,.row 61 3 (xs.map gC))]:=by
 cases xs with
 | nil =>
  refine Fn.rawE fun ao c h1 h2=>?_
  cases ao with
  | none=>obtain rfl:=h1 rfl;exact SClone2
  | some ao=>exact SClone3 ao c h2
 | cons x xs=>exact SClone1 (x :: xs) (by simp) hl
theorem zdh (h:p ∈ ssV za2.v xs):p ∈ xs:=(zf0 xs).mem h
theorem PsOk.get_mem {L:Nat} (h:PsOk L ps) (hp:p ∈ ps):Lb p.c.abs/\p.c.abs.length<=L:=h.2 p hp
theorem SPlain0 (t:zax) (ht:PsOk 40000000 t.parts) (hk:Lb t.k.abs) (lk:t.k.abs.length<=40000000):Fn fT 38 [] [(vT t)] (vd (zaa t).d) []:=by
 have ln:=ht.1;refine fB Tryz.func38 rfl 74 fun w H B a h=>Jq 5 [] [(1,vp 5 0),(2,vp 6 0)] [(5,.box (zT t)),(6,.box zT0)] h fun a w h=>Jg 7 [(2,.call (SClone t.parts (by omega)))] [] [(3,vO 0 t.parts.length)] [] [(0,.row 61 3 (t.parts.map gC))] h fun a w h=>Jg 7 [(1,.call (SSortStable t.parts (by omega)))] [] [] [] [(0,.row 61 3 ((ssV za2.v t.parts).map gC))] h fun a w h=>?_
 obtain ⟨r3,er3,vr3,or3,lr3⟩:=mkZ (v:=t.k.val) (m:=t.k.abs.length) (zcg hk);refine Jg 7 [(2,.call (fU (zeg t.k hk (by omega)) (congrArg vz er3.symm)))] [1] [(4,vp 7 0)] [5] [(7,.box ([nCl]++zi r3))] h fun a w h=>qW ?_;replace h:=zes 7 0 8 3 61 ([nCl]++zi r3) h;refine Je 9 [] [3] [(17,vO 0 t.parts.length),(18,vN t.parts.length),(19,vI 0)] h fun a w h=>qZ ?_
 refine zd3 (ι:=(Nat) × (List za2)) (fun (j,out)=>out=(zgt ((ssV za2.v t.parts).take j))/\j<=(ssV za2.v t.parts).length/\out.length<=j/\MOk 40000000 j out)
   [] (fun (j,out)=>[(19,vN j)])
   [] (fun (j,out)=>[(7,.box ([.own 8 out.length]++zi r3)),(8,.row 61 3 (out.map gC))])
   (fun (j,out)=>(ssV za2.v t.parts).length - j) (0,[]) ?_ h ?_
 ·exact ⟨by simp [zgt],bK _,bK _,fun q hq=>(by cases hq)⟩
 clear h;rintro ⟨j,out⟩ a w hI h;dsimp only at h;obtain ⟨hI1,hI2,hI3,hI4⟩:=hI;have ln:=ht.1;have ls:(ssV za2.v t.parts).length=t.parts.length:=zao _;refine Je 9 [] [] [(20,vb (decide ((j:Int)<(t.parts.length:Int))))] h fun a w h=>qW (zaj ((j:Int)<(t.parts.length:Int)) h (fun hc1 hc1'=>?_) (fun hc6 hc6'=>?_))
 ·refine qU (za3 (qW (qZ ?_)));obtain ⟨x4,hx4⟩:=gl (ssV za2.v t.parts) j;obtain ⟨ox4,lx4⟩:=ht.get_mem (zdh (lM hx4));refine Jg 9 [(0,.g (xO 21 17 0 t.parts.length j zbx (fW 19 _))),(1,.g (fY (d:=22) (t:=21) (n:=0) (i:=j) (fo:=0) (rty:=61) (es:=3) (xs:=[.raw (.int .i64 x4.v),.raw (.bool x4.c.neg),nsl x4.c.abs]) zeq rfl (zab hx4 (f:=gC)) rfl rfl))] [20] [(6,vp 9 0)] [] [(9,.box ([cI x4.v]++zi x4.c))] h fun a w h=>qW (Je 10 [] [] [(25,vb (decide (x4.v<0)))] h fun a w h=>zaj (x4.v<0) h (fun hc2 hc2'=>?_) (fun hc3 hc3'=>?_))
  ·refine wp_exit (zbo (zap (za3 (Jh 10 [(0,.j1 j)] [6,25] [(19,vI ((j:Int)+1))] [9] [] h fun a w h=>za3 ?_))));have hst:(zgt ((ssV za2.v t.parts).take (j+1)))=zaz out x4:=by rw [hI1,show ((ssV za2.v t.parts).take (j+1):List za2)=(ssV za2.v t.parts).take j++[x4] from by rw [bL,hx4];rfl,zc7]
   have hst2:=mrg_neg (out:=out) hc2';refine za9 (x:=(j,out)) (y:=((j+1),out)) h ?_ ?_
   ·exact ⟨by rw [hst,hst2],(by have:=zad hx4;omega),by omega,by have hh:=hI4.step (ht.get_mem (zdh (lM hx4)));rw [hst2] at hh;exact hh⟩
   show (ssV za2.v t.parts).length - (j+1)<(ssV za2.v t.parts).length - j;have:=zad hx4;omega
  refine qU (za3 ?_)
  rcases cM out.length with hz | hz
  ·refine Je 10 [(3,.g (fX (op:=.sub) (d:=29) (xt:=3) (yt:=3) (k:=.i64) (m:=(out.length:Int)) (n:=1) (r:=(-1)) (fW 28 _) (fV (.int .i64 1) rfl) (.inr (.inl ⟨rfl,(by omega)⟩)) i6))] [25] [(7,vI (-1))] h fun a w h=>Je 10 [(1,.cmp (op:=.geq) (m:=(-1)) (n:=0) (b:=false) .i64 rfl)] [] [(42,vb false)] h fun a w h=>zca h ?_;obtain ⟨r5,er5,vr5,or5,lr5⟩:=mkZ (v:=x4.c.val) (m:=x4.c.abs.length) (zcg ox4);refine Jh 10 [(6,.call (fU (zeg x4.c ox4 (by omega)) (congrArg vz er5.symm))),(8,.g (bD 65 ([(za2.mk x4.v r5)].map gC) [(64,vG ([cI x4.v]++zi r5))] tb_9 (.cons (i:=0) (fW 64 _) (.nil)) (by kernel_rfl) (by simp [gC]))),(9,.g (aD 66 58 65 8 10 out [(za2.mk x4.v r5)] gC tb_10 (by simp [gC])))] [6,7,42] [] [8,9] [(7,.box ([.own 10 (out++[(za2.mk x4.v r5)]).length]++zi r3)),(10,.row 61 3 ((out++[(za2.mk x4.v r5)]).map gC))] h fun a w h=>za6 (za3 (Jf 11 [(0,.j1 j)] [] [(19,vI ((j:Int)+1))] h fun a w h=>za3 ?_));have hst:(zgt ((ssV za2.v t.parts).take (j+1)))=zaz out x4:=by rw [hI1,show ((ssV za2.v t.parts).take (j+1):List za2)=(ssV za2.v t.parts).take j++[x4] from by rw [bL,hx4];rfl,zc7]
   have hst2:=mrg_nil hc3' hz;replace h:=zfb 10 8 h;refine za9 (x:=(j,out)) (y:=((j+1),(out++[(za2.mk x4.v r5)]))) h ?_ ?_
   ·have hnew:(out++[(za2.mk x4.v r5)])=zaz out x4:=by rw [hst2,er5]
    exact ⟨by rw [hst];exact hnew,(by have:=zad hx4;omega),by rw [bC];simp only [cL,cD];omega,by rw [hnew];exact hI4.step (ht.get_mem (zdh (lM hx4)))⟩
   show (ssV za2.v t.parts).length - (j+1)<(ssV za2.v t.parts).length - j;have:=zad hx4;omega
  obtain ⟨k,hk1⟩:∃ k,out.length=k+1:=⟨out.length - 1,by omega⟩;refine Je 11 [(3,.g (fX (op:=.sub) (d:=29) (xt:=3) (yt:=3) (k:=.i64) (m:=(out.length:Int)) (n:=1) (r:=(k:Int)) (fW 28 _) (fV (.int .i64 1) rfl) (.inr (.inl ⟨rfl,(by omega)⟩)) i6))] [25] [(7,vN k)] h fun a w h=>?_;obtain ⟨x6,hx6⟩:=gl out k;obtain ⟨ox6,lx6⟩:=hI4.lb (lM hx6) (by omega);refine Je 11 [(1,.cmp (op:=.geq) (m:=(k:Int)) (n:=0) (b:=true) .i64 (show decide ((k:Int)>=0)=true from decide_eq_true (by omega))),(6,.g (xO 36 34 8 out.length k zbx (fW 35 _))),(8,.g (Op.loadR_c (d:=38) (t:=37) (n:=8) (i:=k) (fo:=0) (rty:=61) (es:=3) (x:=(.raw (.int .i64 x6.v))) tl_7 rfl (zab hx6 (f:=gC)) rfl))] [] [(42,vb (x6.v == x4.v))] h fun a w h=>cS (x6.v == x4.v) h (fun hc4=>?_) (fun hc5=>?_)
  ·obtain ⟨r7,er7,vr7,or7,lr7⟩:=mkZ (v:=x6.c.val+x4.c.val) (m:=x6.c.abs.length+x4.c.abs.length+1) (zcn ox6 ox4);refine Jh 11 [(6,.g (xO 49 47 8 out.length k zbx (fW 48 _))),(8,.g (fY (d:=51) (t:=50) (n:=8) (i:=k) (fo:=1) (rty:=61) (es:=3) (xs:=[.raw (.bool x6.c.neg),nsl x6.c.abs]) zct rfl (zab hx6 (f:=gC)) rfl rfl)),(11,.call (fU (SAdd x6.c x4.c ox6 ox4 (by omega) (by omega)) (congrArg vz er7.symm))),(12,.g (xO 55 44 8 out.length k zbx (fW 45 _))),(14,.g (fZ (t:=56) (n:=8) (i:=k) (fo:=1) (rty:=61) (es:=3) (r:=gC x6) (ds:=[.raw (.bool r7.neg),nsl r7.abs]) (rs:=[(54,vz r7)]) (rows:=out.map gC) (rows':=(out.set k (za2.mk x6.v r7)).map gC) zct (fW 54 _) rfl rfl rfl (zab hx6 (f:=gC)) (by simp [gC]) (zch (xs:=out) (F:=gC) k _ _ rfl)))] [6,7,42] [] [9] [(8,.row 61 3 ((out.set k (za2.mk x6.v r7)).map gC))] h fun a w h=>za6 (za3 (Jf 11 [(0,.j1 j)] [] [(19,vI ((j:Int)+1))] h fun a w h=>za3 ?_));have hst:(zgt ((ssV za2.v t.parts).take (j+1)))=zaz out x4:=by rw [hI1,show ((ssV za2.v t.parts).take (j+1):List za2)=(ssV za2.v t.parts).take j++[x4] from by rw [bL,hx4];rfl,zc7]
   replace h:=cvM [] [] [] [(7,.box ([.own 8 (out.set k (za2.mk x6.v r7)).length]++zi r3))] (by rw [bN]; try kernel_rfl) h;have hst2:=zhc hc3' hk1 hx6 (by simpa using hc4);refine za9 (x:=(j,out)) (y:=((j+1),(out.set k (za2.mk x6.v r7)))) h ?_ ?_
   ·have hnew:(out.set k (za2.mk x6.v r7))=zaz out x4:=by rw [hst2,er7]
    exact ⟨by rw [hst];exact hnew,(by have:=zad hx4;omega),by rw [bN];omega,by rw [hnew];exact hI4.step (ht.get_mem (zdh (lM hx4)))⟩
   show (ssV za2.v t.parts).length - (j+1)<(ssV za2.v t.parts).length - j;have:=zad hx4;omega
  obtain ⟨r8,er8,vr8,or8,lr8⟩:=mkZ (v:=x4.c.val) (m:=x4.c.abs.length) (zcg ox4);refine Jh 11 [(6,.call (fU (zeg x4.c ox4 (by omega)) (congrArg vz er8.symm))),(8,.g (bD 65 ([(za2.mk x4.v r8)].map gC) [(64,vG ([cI x4.v]++zi r8))] tb_9 (.cons (i:=0) (fW 64 _) (.nil)) (by kernel_rfl) (by simp [gC]))),(9,.g (aD 66 58 65 8 11 out [(za2.mk x4.v r8)] gC tb_10 (by simp [gC])))] [6,7,42] [] [8,9] [(7,.box ([.own 11 (out++[(za2.mk x4.v r8)]).length]++zi r3)),(11,.row 61 3 ((out++[(za2.mk x4.v r8)]).map gC))] h fun a w h=>za6 (za3 (Jf 12 [(0,.j1 j)] [] [(19,vI ((j:Int)+1))] h fun a w h=>za3 ?_));have hst:(zgt ((ssV za2.v t.parts).take (j+1)))=zaz out x4:=by rw [hI1,show ((ssV za2.v t.parts).take (j+1):List za2)=(ssV za2.v t.parts).take j++[x4] from by rw [bL,hx4];rfl,zc7]
  have hst2:=mrg_new hc3' hk1 hx6 (by simpa using hc5);replace h:=zfb 11 8 h;refine za9 (x:=(j,out)) (y:=((j+1),(out++[(za2.mk x4.v r8)]))) h ?_ ?_
  ·have hnew:(out++[(za2.mk x4.v r8)])=zaz out x4:=by rw [hst2,er8]
   exact ⟨by rw [hst];exact hnew,(by have:=zad hx4;omega),by rw [bC];simp only [cL,cD];omega,by rw [hnew];exact hI4.step (ht.get_mem (zdh (lM hx4)))⟩
  show (ssV za2.v t.parts).length - (j+1)<(ssV za2.v t.parts).length - j;have:=zad hx4;omega
 refine exA ?_;replace h:=atS (sl':=[(2,vp 6 0),(4,vp 7 0)]) (lc':=[(6,.box zT0),(7,.box ([.own 8 out.length]++zi r3)),(8,.row 61 3 (out.map gC))]) h;replace h:=zfb 8 0 h;refine Jg 12 [(2,.call (SDeleteFZ isZ out (fun p hp=>SPlain2 p (hI4.lb hp (by omega)).1 (by have:=(hI4.lb hp (by omega)).2;omega)) (by omega)))] [] [] [] [(7,.box ([.own 0 (out.filter (fun p=>!isZ p)).length]++zi r3)),(0,.row 61 3 ((out.filter (fun p=>!isZ p)).map gC))] h fun a w h=>Jg 12 [] [4] [] [7] [(6,.box ([.own 0 (out.filter (fun p=>!isZ p)).length]++zi r3))] h fun a w h=>qV ?_;replace h:=pubX 0 3 61 ((out.filter (fun p=>!isZ p)).map gC) h [(out.filter (fun p=>!isZ p)).length] ⟨by first | exact (bS _).symm | simp,trivial⟩;refine rA 6 ([cPs (out.filter (fun p=>!isZ p))]++zi r3) h tb_11 rfl ?_;have hj:j=(ssV za2.v t.parts).length:=by omega
 subst hj;rw [hI1,cC,plain_law,er3];try rfl
theorem SPlain (t:zax) {L:Nat} (h:TOk n L t) (hn:n<=1000000000) (hL:L<=40000000):Fn fT 38 [] [vd t.d] (vd (zaa t).d) [] :=
 have h':=h.mono hn hL
 SPlain0 t h'.psok h'.kb h'.kl
section
variable {P:Program}
theorem Op.capR {d:Nat} {x:Operand} {c:Nat} {t:TypeId} {pos af gd} (hu:P.underlying t=some (.slice el)) (h:OV x (.t (.c (.d (.raw (.slice ao n c))))) rs) :
  zav P ⟨some d,.call { callee:=.builtin .cap,args:=#[x],argTypes:=#[t] }, ty,pos,af,gd⟩ { rs:=rs,ws:=[(d,some (vi .i64 (c:Int)))] } :=
 zav.value d _ rfl rfl rfl fun e f H B a w hok hr2=>by
  have h2:=(h.eval hok fun p hp=>hr2.1 p hp).rawI
  refine ⟨goInt c,?_,DR.raw _ rfl⟩
  generalize a.eval=ρ at h2 ⊢
  have e1:(Array.map ρ #[x])=#[ρ x]:=by simp
  simp [execOp,resolve,e1,h2,invoke,builtin,Builtin.cap_,run_underlying hu]
theorem Op.sliceR0 {d:Nat} {x y:Operand} {k:IntKind} {es:Nat} {pos af gd} (hs:SlT P xt el es) (hx:OV x (.t (.c (.d (.raw zb2)))) rs) (hy:OV y (vi k (0:Nat)) rs') :
  zav P ⟨some d,.slice xt x none (some y) none,ty,pos,af,gd⟩ { rs:=rs++rs', ws:=[(d,some (.t (.c (.d (.raw zb2)))))] } :=
 zav.value d _ rfl rfl rfl fun e f H B a w hok hr2=>by
  have hv:a.eval x=zb2:=(hx.eval hok fun p hp=>hr2.1 p (by simp [hp])).rawI
  have hb:=zgc (P:=P) (is:=true) (lo:=none) (hi:=some y) (len:=0) (cap:=0) (BO.no 0) (BO.yes 0 hy) hok (fun p hp=>by cases hp) (fun p hp=>hr2.1 p (by simp [hp])) (bK _) (bI _)
  have hrun:=zgb (ao:=none) hs hb
  refine ⟨zb2,?_,DR.raw _ rfl⟩
  generalize a.eval=ρ at hv hrun ⊢
  have hrun':(Instr.sliceAt xt (ρ x) ((none:Option Operand).map ρ) ((some y).map ρ) ((none:Option Operand).map ρ)).run P w = .ok zb2 w:=by rw [hv];simpa [zb2] using hrun
  simp only [execOp,Sem.run_bind,hrun', Result.andThen_ok,Sem.run_pure]
theorem run_app_make {it:TypeId} {i:TypeInfo} {z:Value} (hu:P.underlying xt=some (.slice el)) (hi:P.underlying it=some (.int .i64)) (hI:P.info? el=some i) (hz:i.zero=some z) (hs:i.size≠0) {L:Nat} (hL0:0<L) (hL:L<=4294967296) (hb:L*i.bytes<=140737488355328) (w:World) :
  (Builtin.append_ #[xt,it] ty #[zb2,.int .i64 (L:Int)]).run P w = .ok (.slice (some ⟨w.heap.size,0,none⟩) L (grownCap w L 0 el)) (w.drew.alloc (.cells (Builtin.zeroCells z.cells L++Builtin.zeroCells z.cells (grownCap w L 0 el - L)) el)):=by
 have wl:IntKind.i64.wrap (L:Int)=(L:Int):=by rw [IntKind.wrap_i64];omega
 have c1:¬ ((L:Int)<0):=by omega
 have c2:¬ (281474976710656<(L:Int)*(i.bytes:Int)):=by
  have:((L*i.bytes:Nat):Int)=(L:Int)*(i.bytes:Int):=eB _ _
  omega
 have c4:¬ (9223372036854775807<(L:Int)):=by omega
 have c5:¬ (281474976710656<Builtin.nextslicecap L 0*i.bytes):=by
  have:=growslice_fits (need:=L) (old:=0) (bytes:=i.bytes) (by omega) hb
  omega
 have hL1:L≠0:=by omega
 have hL2:L*i.size≠0:=Nat.mul_ne_zero hL1 hs
 simp [Builtin.append_,zb2,run_underlying hu,run_underlying hi,sizeOf,typeInfo,zeroValue,hI,hz,hL2,asInt,asIntOf,wl,c1,c2,c4,c5,hL1,Question.forced,run_firstCells_none,newRow,grownCap]
theorem Op.appNM {d t u es bs L:Nat} {it:TypeId} {pos af gd} (hT:ElT P xt el es bs) (hi:P.underlying it=some (.int .i64)) (hL0:0<L) (hL:L<=1000000000) (hb:L*bs<=140737488355328) :
  zav P ⟨some d,.call { callee:=.builtin .append,args:=#[.tmp t,.tmp u],argTypes:=#[xt,it] }, ty,pos,af,gd⟩
   { rs:=[(t,.t (.c (.d (.raw zb2)))),(u,vi .i64 (L:Int))],ws:=[(d,some (.t (.c (.own n L))))],wl:=[(n,some (.row el es []))],nw:=[n] }:=by
 rintro e f a w Q ⟨H,B,hok⟩ hr hnw hb0
 have hnew:=hnw n (by simp)
 have h1:a.eval (.tmp t)=zb2:=VR.rawI (hok.slot t _ (hr.1 (t,.t (.c (.d (.raw zb2)))) (by simp)))
 have h2:a.eval (.tmp u) = .int .i64 (L:Int):=VR.rawI (hok.slot u _ (hr.1 (u,vi .i64 (L:Int)) (by simp)))
 obtain ⟨i,z,hI,hz,hsz,hby,hzs⟩:=hT.ex
 have hrun:=run_app_make (P:=P) (ty:=ty) hT.hu hi hI hz (by rw [hsz];exact Nat.pos_iff_ne_zero.1 hT.pos) hL0 (by omega) (by rw [hby];exact hb) w
 have hge:=grownCap_ge w L 0 el
 have hle:=grownCap_le_maxLen w L 0 el (by simp only [maxLen];omega)
 generalize grownCap w L 0 el=c at hrun hge hle
 have hok2:Ok e f H B a w.drew:=⟨hok.df,hok.n,⟨hok.ext.os,hok.ext.tape,hok.ext.output,hok.ext.size,hok.ext.block⟩,hok.sat,hok.slot,fun m l hm=>LR.mono (Le.refl _) rfl (fun _ _=>rfl) (fun _ _ _=>rfl) (hok.loc m l hm),hok.priv,hok.inj,hok.low,hok.le,hok.keep,hok.tab⟩
 have hlen:(Builtin.zeroCells z.cells L++Builtin.zeroCells z.cells (c - L)).toList.length=c*es:=by
  simp only [Builtin.zeroCells,fN,bC,Array.length_toList,Array.size_map,Array.size_range,hzs]
  rw [<- cH];congr 1;omega
 have hobj:(Builtin.zeroCells z.cells L++Builtin.zeroCells z.cells (c - L))=⟨(Builtin.zeroCells z.cells L++Builtin.zeroCells z.cells (c - L)).toList⟩:=by simp
 rw [hobj] at hrun
 generalize (Builtin.zeroCells z.cells L++Builtin.zeroCells z.cells (c - L)).toList=arr at hrun hlen
 have h3:Ok e ⟨f.s,fun m=>if m=n then some (.row el es []) else f.l m⟩ H (fun m=>if m=n then some (w.drew.heap.size,c) else B m) a (w.drew.alloc (.cells ⟨arr⟩ el)) :=
  hok2.new hnew (.cells ⟨arr⟩ el) c (.row el es []) (fun _=>rfl) (fun _=>rfl) (by
   simp only [LR,if_true]
   exact ⟨arr,heap_alloc_new w.drew _,hlen,bK _,hle,by simp,by simp [zar]⟩)
 refine wp_of_run (d:=d) rfl ?_ ⟨H,_,h3.put (x:=some (.t (.c (.own n L)))) (hb0.1 (d,some (.t (.c (.own n L)))) (by simp)) (zh0 f d _ _ rfl) (fun m=>?_) (v:=.slice (some ⟨w.heap.size,0,none⟩) L c) (fun y hy=>by injection hy with hy;subst hy;simp [VR,TR,CR])⟩
 ·generalize a.eval=ρ at h1 h2 ⊢
  have e1:(Array.map ρ #[.tmp t,.tmp u])=#[ρ (.tmp t),ρ (.tmp u)]:=by simp
  simp only [execOp,resolve,e1,h1,h2,Sem.run_bind,Sem.run_pure,Result.andThen_ok,invoke,builtin,hrun]
 ·simp only [F.app,List.lookup]
  by_cases e1:m=n
  ·simp [e1]
  ·have g1:(m == n)=false:=by simpa using e1
   simp [g1,e1]
end
theorem tm_2:SlT fT 142 39 1:=SlT.mk' Tryz.underlying142 (by kernel_rfl)
theorem tm_4:ElZ fT 142 39 1:=ElZ.mk' Tryz.underlying142 _ _ rfl rfl
theorem SGrow (n:Nat) (hn:n<=1000000000):Fn fT 120 [] [vW zb2,vN n] (vO 0 0) [(0,.row 61 3 ([].map gC))]:=by
 refine fB Tryz.func120 rfl 27 fun w H B a h=>Jq 1 [] [(0,vW zb2),(1,vN n),(4,vW zb2)] [] h fun a w h=>qW (Jg 1 [(1,.cmp (op:=.lss) (m:=(n:Int)) (n:=0) (b:=false) .i64 (show decide ((n:Int)<0)=false from decide_eq_false (by omega)))] [] [(6,vb false)] [] [] h fun a w h=>zca h (qU (za3 (qW (Jg 1 [(2,.g (Op.capR (d:=10) (ao:=none) (n:=0) (c:=0) zbx.hu (fW 9 _))),(5,.g (fX (op:=.sub) (d:=13) (xt:=3) (yt:=3) (k:=.i64) (m:=0) (n:=0) (r:=0) (fW 10 _) (fW 12 _) (.inr (.inl ⟨rfl,rfl⟩)) i6)),(6,.g (fX (op:=.sub) (d:=14) (xt:=3) (yt:=3) (k:=.i64) (m:=(n:Int)) (n:=0) (r:=(n:Int)) (fW 8 _) (fW 13 _) (.inr (.inl ⟨rfl,(Int.sub_zero _).symm⟩)) i6))] [6] [] [] [] h fun a w h=>Jg 1 [] [] [(16,vb (decide ((n:Int)>0)))] [] [] h fun a w h=>zaj ((n:Int)>0) h (fun hc1 hc1'=>?_) (fun hc2 hc2'=>?_))))))
 ·refine Jh 1 [(2,.g (Op.capR (d:=19) (ao:=none) (n:=0) (c:=0) zbx.hu (fW 18 _))),(3,.g (Op.sliceR0 (d:=20) (k:=.i64) zbx (fW 17 _) (fW 19 _))),(5,.g (Op.appNM (d:=22) (t:=20) (u:=21) (n:=1) (L:=n) tb_10 Tryz.underlying3 (by omega) (by omega) (by omega))),(8,.g (Op.sliceHi (d:=25) (t:=22) (k:=.i64) (n:=1) (len:=n) (h:=0) (rows:=[].map gC) (rty:=61) zbx (by first | omega | (simp at *;omega)) (fW 24 _)))] [1,16] [(0,vO 1 0)] [] [(1,.row 61 3 ([].map gC))] h fun a w h=>za3 (Jp 2 [] [(4,vO 1 0)] h fun a w h=>qV ?_);replace h:=zfb 1 0 h;refine rT (.c (.own 0 0)) h rfl ?_;rfl
 refine qU (za3 (Jg 2 [] [0,1,16] [] [] [] h fun a w h=>qV ?_));replace h:=nilOSx 4 0 2 3 61 (vW zb2) h;replace h:=zfb 2 0 h;refine rT (.c (.own 0 0)) h rfl ?_;rfl
theorem zds (l:List Nat):∀ j,(l.take j).sum<=l.sum:=by
 induction l with
 | nil=>intro j;simp
 | cons x l ih =>
  intro j
  cases j with
  | zero=>simp
  | succ j=>simp only [List.take_succ_cons,eV];have:=ih j;omega
theorem flat_sum (l:List (List α)):l.flatten.length=(l.map List.length).sum:=List.length_flatten
theorem sum_mem {l:List Nat} (h:x ∈ l):x<=l.sum:=by
 induction l with
 | nil=>cases h
 | cons y l ih =>
  rw [eV]
  rcases cP.1 h with rfl | h
  ·omega
  ·have:=ih h;omega
theorem SConcat (xss:List (List za2)) (hl:(xss.map List.length).sum<=1000000000) (hn:xss.length<=1000000000):Fn fT 100 [] [vS 1 (xss.map (slD 3 gC))] (vPs xss.flatten) []:=by
 refine fB Tryz.func100 rfl 36 fun w H B a h=>Jq 5 [] [(0,vS 1 (xss.map (slD 3 gC))),(2,vW zb2)] [] h fun a w h=>Jg 5 [] [] [(3,vI 0)] [] [] h fun a w h=>qW (Jg 5 [(1,.len (c:=(.d (.sl 1 (xss.map (slD 3 gC))))) (n:=xss.length) (zac _ _ _))] [] [(9,vS 1 (xss.map (slD 3 gC))),(10,vN xss.length),(11,vI 0)] [] [] h fun a w h=>qZ ?_)
 refine zd3 (ι:=(Nat)) (fun j=>j<=xss.length)
   [] (fun j=>[(3,vI ((((xss.map List.length).take j).sum:Nat):Int)),(11,vN j)])
   [] (fun j=>[])
   (fun j=>xss.length - j) 0 ?_ h ?_
 ·exact bK _
 clear h;rintro j a w hI h;have hs1:=zds (xss.map List.length) j;have hs2:=zds (xss.map List.length) (j+1);refine Jg 5 [] [] [(12,vb (decide ((j:Int)<(xss.length:Int))))] [] [] h fun a w h=>qW (zaj ((j:Int)<(xss.length:Int)) h (fun hc1 hc1'=>?_) (fun hc2 hc2'=>?_))
 ·refine qU (za3 (qW (qZ ?_)));obtain ⟨x1,hx1⟩:=gl xss j
  have hsx:x1.length<=(xss.map List.length).sum:=by
   have:=sum_mem (List.mem_map_of_mem (f:=List.length) (lM hx1));omega
  refine Jg 5 [(0,.g (xD 13 9 tm_2 (zab hx1 (f:=(slD 3 gC))) (fW 11 _)))] [12] [(5,(vPs x1))] [] [] h fun a w h=>Jg 5 [(2,.len (zac 3 gC x1)),(3,.g (fX (op:=.add) (d:=18) (xt:=3) (yt:=3) (k:=.i64) (m:=((((xss.map List.length).take j).sum:Nat):Int)) (n:=(x1.length:Int)) (r:=((((xss.map List.length).take (j+1)).sum:Nat):Int)) (fW 15 _) (fW 17 _) (.inl ⟨rfl,(by rw [bL,eW,hx1];simp)⟩) i6))] [5] [(3,vI ((((xss.map List.length).take (j+1)).sum:Nat):Int))] [] [] h fun a w h=>?_;refine Jg 5 [(1,.cmp (op:=.lss) (m:=((((xss.map List.length).take (j+1)).sum:Nat):Int)) (n:=0) (b:=false) .i64 (show decide (((((xss.map List.length).take (j+1)).sum:Nat):Int)<0)=false from decide_eq_false (by omega)))] [] [(20,vb false)] [] [] h fun a w h=>zca h (qU (za6 (za3 (Jh 5 [(0,.j1 j)] [20] [(11,vI ((j:Int)+1))] [] [] h fun a w h=>za3 (za9 (x:=j) (y:=(j+1)) h ?_ ?_)))))
  ·have:=zad hx1;omega
  show xss.length - (j+1)<xss.length - j;have:=zad hx1;omega
 refine exA ?_;have hj:j=xss.length:=by omega
 refine Jg 5 [(1,.call (SGrow ((xss.map List.length).take j).sum (by omega)))] [3,9,10,11,12] [(6,vO 0 0)] [] [(0,.row 61 3 ([].map gC))] h fun a w h=>qW (Je 5 [(1,.len (c:=(.d (.sl 1 (xss.map (slD 3 gC))))) (n:=xss.length) (zac _ _ _))] [0] [(25,vS 1 (xss.map (slD 3 gC))),(26,vN xss.length),(27,vI 0)] h fun a w h=>qZ ?_)
 refine zd3 (ι:=(Nat)) (fun i=>i<=xss.length)
   [] (fun i=>[(6,vO 0 ((xss.take i).flatten).length),(27,vN i)])
   [] (fun i=>[(0,.row 61 3 (((xss.take i).flatten).map gC))])
   (fun i=>xss.length - i) 0 ?_ h ?_
 ·exact bK _
 clear h;rintro i a w hI h;have hs1:=zds (xss.map List.length) i;have hs2:=zds (xss.map List.length) (i+1);have hf1:((xss.take i).flatten).length=((xss.map List.length).take i).sum:=by rw [flat_sum,eX]
 have hf2:((xss.take (i+1)).flatten).length=((xss.map List.length).take (i+1)).sum:=by rw [flat_sum,eX]
 refine Je 5 [] [] [(28,vb (decide ((i:Int)<(xss.length:Int))))] h fun a w h=>qW (zaj ((i:Int)<(xss.length:Int)) h (fun hc3 hc3'=>?_) (fun hc4 hc4'=>?_))
 ·refine qU (za3 (qW (qZ ?_)));obtain ⟨x3,hx3⟩:=gl xss i
  have hsx:x3.length<=(xss.map List.length).sum:=by
   have:=sum_mem (List.mem_map_of_mem (f:=List.length) (lM hx3));omega
  refine Je 5 [(0,.g (xD 29 25 tm_2 (zab hx3 (f:=(slD 3 gC))) (fW 27 _)))] [28] [(8,(vPs x3))] h fun a w h=>Jh 5 [(2,.g (aD 33 31 32 0 5 ((xss.take i).flatten) x3 gC tb_10 (by simp [gC])))] [8] [(6,vO 5 (((xss.take i).flatten)++x3).length)] [0] [(5,.row 61 3 ((((xss.take i).flatten)++x3).map gC))] h fun a w h=>za6 (za3 (Jf 6 [(0,.j1 i)] [] [(27,vI ((i:Int)+1))] h fun a w h=>za3 ?_));have hnw:(((xss.take i).flatten)++x3)=((xss.take (i+1)).flatten):=by rw [bL,hx3];simp
  replace h:=cvM [] [(6,vO 5 ((xss.take (i+1)).flatten).length)] [] [(5,.row 61 3 (((xss.take (i+1)).flatten).map gC))] (by rw [hnw]; try kernel_rfl) h;replace h:=zfb 5 0 h;refine za9 (x:=i) (y:=(i+1)) h ?_ ?_
  ·have:=zad hx3;omega
  show xss.length - (i+1)<xss.length - i;have:=zad hx3;omega
 refine exA (Jp 6 [] [(2,vO 0 ((xss.take i).flatten).length)] h fun a w h=>qV ?_);replace h:=pubX 0 3 61 (((xss.take i).flatten).map gC) h [((xss.take i).flatten).length] ⟨by first | exact (bS _).symm | simp,trivial⟩;refine rT (.c (cPs ((xss.take i).flatten))) h rfl ?_;have hi:i=xss.length:=by omega
 subst hi;rw [cC];try rfl
theorem STAddG (s t:zax) {L:Nat} (hs:TOk n L s) (ht:TOk m L t) (hnm:n+m<=1000000000) (hL:L<=15000):Fn fT 57 [] [(vT s),(vT t)] (vd (addT s t).d) []:=by
 have ks:=hs.kl;have kt:=ht.kl;have ls:=hs.len;have lt:=ht.len;refine fB Tryz.func57 rfl 18 fun w H B a h=>Jq 0 [] [(2,vp 0 0),(3,vp 1 0),(4,vp 2 0)] [(0,.box (zT s)),(1,.box (zT t)),(2,.box zT0)] h fun a w h=>?_
 obtain ⟨r2,er2,vr2,or2,lr2⟩:=mkZ (v:=s.k.val+t.k.val) (m:=s.k.abs.length+t.k.abs.length+1) (zcn hs.kb ht.kb);refine Jq 3 [(4,.g (Op.buildD (d:=9) (len:=2) (rows:=[s.parts,t.parts].map (slD 3 gC)) (rs:=[(6,(vPs s.parts)),(8,(vPs t.parts))]) tm_4 (.cons (i:=0) (fW 6 _) (.cons (i:=1) (fW 8 _) (.nil))) (by kernel_rfl) rfl (by simp [slD]) (by decide) (by decide))),(5,.call (fU (SConcat [s.parts,t.parts] (by simp only [List.map_cons,List.map_nil,eV,List.sum_nil];omega) (by simp)) (show _=((vPs (s.parts++t.parts)):V) by simp))),(10,.call (fU (SAdd s.k t.k hs.kb ht.kb (by omega) (by omega)) (congrArg vz er2.symm))),(12,.call (SPlain (zax.mk (s.parts++t.parts) r2) (TOk.add hs ht r2 or2 (by have:=hs.kl;have:=ht.kl;omega)) (by omega) (by omega)))] [(4,vp 2 0)] [(2,.box (zT (zaa (zax.mk (s.parts++t.parts) r2))))] h fun a w h=>qV (rA 2 (zT (zaa (zax.mk (s.parts++t.parts) r2))) h tb_11 rfl ?_);rw [er2];try rfl
theorem STAdd (s t:zax) (hs:TOk 400000000 15000 s) (ht:TOk 400000000 15000 t):Fn fT 57 [] [(vT s),(vT t)] (vd (addT s t).d) []:=STAddG s t hs ht (by decide) (by decide)
theorem SNumber (k:ZI) (hk:Lb k.abs) (lk:k.abs.length<=40000):Fn fT 63 [] [vz k] (vd (numT k).d) []:=by
 refine fB Tryz.func63 rfl 6 fun w H B a h=>Jq 0 [] [(1,vp 0 0),(2,vp 1 0)] [(0,.box (zi k)),(1,.box zT0)] h fun a w h=>?_
 obtain ⟨r1,er1,vr1,or1,lr1⟩:=mkZ (v:=k.val) (m:=k.abs.length) (zcg hk);refine Jd 2 [(1,.call (fU (zeg k hk (by omega)) (congrArg vz er1.symm)))] [1] [] [(1,.box ([nCl]++zi r1))] h fun a w h=>qV ?_;replace h:=nilDLx 1 0 3 ([nCl]++zi r1) h;refine rA 1 ([cPs []]++zi r1) h tb_11 rfl ?_;rw [er1];try rfl
theorem SVar (v:Int) :Fn fT 66 [] [vI v] (vd (varT v).d) []:=by
 refine fB Tryz.func66 rfl 9 fun w H B a h=>Jq 0 [] [(0,vI v),(2,vp 0 0)] [(0,.box zT0)] h fun a w h=>?_
 obtain ⟨r1,er1,vr1,or1,lr1⟩:=mkZ (v:=1) (m:=2) (ZI.len_of (by have:=pw2;omega));refine Jd 1 [(1,.call (fU (SOf 1 ⟨by omega,by omega⟩) (congrArg vz er1.symm))),(3,.g (bD 6 ([(za2.mk v r1)].map gC) [(5,vG ([cI v]++zi r1))] tb_9 (.cons (i:=0) (fW 5 _) (.nil)) (by kernel_rfl) (by simp [gC]))),(5,.call ((show Fn _ _ _ [vd (zax.mk [za2.mk v r1] ⟨false,[]⟩).d] _ _ from by rw [er1];exact SPlain (oneT v) TOk.one (by decide) (by decide))))] [0] [] [(0,.box (zT (varT v)))] h fun a w h=>qV (rA 0 (zT (varT v)) h tb_11 rfl ?_);rfl
theorem SScale (t:zax) (q:ZI) {L:Nat} (ht:TOk n L t) (hn:n<=1000000000) (hq:Lb q.abs) (lq:q.abs.length<=M) (hL:L+M<=40000):Fn fT 58 [] [(vT t),vz q] (vd (zba t q).d) []:=by
 have kt:=ht.kl;have nt:=ht.len;refine fB Tryz.func58 rfl 35 fun w H B a h=>Jq 0 [] [(2,vp 0 0),(3,vp 1 0),(4,vp 2 0)] [(0,.box (zT t)),(1,.box (zi q)),(2,.box zT0)] h fun a w h=>?_
 obtain ⟨r1,er1,vr1,or1,lr1⟩:=mkZ (v:=t.k.val*q.val) (m:=t.k.abs.length+q.abs.length) (zdi ht.kb hq);refine Jg 3 [(3,.call (fU (SMul t.k q ht.kb hq (by omega) (by omega)) (congrArg vz er1.symm)))] [] [(5,vp 3 0)] [] [(3,.box ([nCl]++zi r1))] h fun a w h=>qW ?_;replace h:=zes 3 0 4 3 61 ([nCl]++zi r1) h;refine Jg 5 [(2,.len (zac 3 gC t.parts))] [2] [(14,(vPs t.parts)),(15,vN t.parts.length),(16,vI 0)] [0] [] h fun a w h=>qZ ?_
 refine zd3 (ι:=(Nat) × (List za2)) (fun (j,out)=>out=(t.parts.take j).map (fun p=>za2.mk p.v (gA (p.c.val*q.val)))/\j<=t.parts.length/\out.length<=j)
   [] (fun (j,out)=>[(16,vN j)])
   [] (fun (j,out)=>[(3,.box ([.own 4 out.length]++zi r1)),(4,.row 61 3 (out.map gC))])
   (fun (j,out)=>t.parts.length - j) (0,[]) ?_ h ?_
 ·exact ⟨by simp,bK _,bK _⟩
 clear h;rintro ⟨j,out⟩ a w hI h;dsimp only at h;obtain ⟨hI1,hI2,hI3⟩:=hI;refine Je 5 [] [] [(17,vb (decide ((j:Int)<(t.parts.length:Int))))] h fun a w h=>qW (zaj ((j:Int)<(t.parts.length:Int)) h (fun hc1 hc1'=>?_) (fun hc2 hc2'=>?_))
 ·refine qU (za3 (qW (qZ ?_)));obtain ⟨x2,hx2⟩:=gl t.parts j;obtain ⟨ox2,lx2⟩:=ht.get hx2;refine Jg 5 [(0,.g (xD 18 14 zbx (zab hx2 (f:=gC)) (fW 16 _)))] [17] [(7,vp 5 0)] [] [(5,.box ([cI x2.v]++zi x2.c))] h fun a w h=>?_;obtain ⟨r3,er3,vr3,or3,lr3⟩:=mkZ (v:=x2.c.val*q.val) (m:=x2.c.abs.length+q.abs.length) (zdi ox2 hq);refine Jh 6 [(7,.call (fU (SMul x2.c q ox2 hq (by omega) (by omega)) (congrArg vz er3.symm))),(9,.g (bD 29 ([(za2.mk x2.v r3)].map gC) [(28,vG ([cI x2.v]++zi r3))] tb_9 (.cons (i:=0) (fW 28 _) (.nil)) (by kernel_rfl) (by simp [gC]))),(10,.g (aD 30 21 29 4 6 out [(za2.mk x2.v r3)] gC tb_10 (by simp [gC])))] [7] [] [4,5] [(3,.box ([.own 6 (out++[(za2.mk x2.v r3)]).length]++zi r1)),(6,.row 61 3 ((out++[(za2.mk x2.v r3)]).map gC))] h fun a w h=>za6 (za3 (Jf 7 [(0,.j1 j)] [] [(16,vI ((j:Int)+1))] h fun a w h=>za3 ?_));replace h:=zfb 6 4 h;refine za9 (x:=(j,out)) (y:=(j+1,(out++[(za2.mk x2.v r3)]))) h ?_ ?_
  ·refine ⟨?_,by have:=zad hx2;omega,by simp;omega⟩;rw [take_map hx2,<- hI1,er3]
  (try simp);omega
 refine exA ?_;have hj:j=t.parts.length:=by have:=hc2';omega
 rw [hj,cC] at hI1;have hq2:zax.mk out r1=mulT t q:=by rw [hI1,er1];try rfl
 replace h:=pubX 4 3 61 (out.map gC) h [out.length] ⟨by first | exact (bS _).symm | simp,trivial⟩;refine Jq 7 [(1,.call ((show Fn _ _ _ [vd (zax.mk out r1).d] _ _ from by rw [hq2];exact SPlain (mulT t q) (TOk.mul ht hq lq) (by omega) (by omega))))] [(4,vp 2 0)] [(2,.box (zT (zba t q)))] h fun a w h=>qV (rA 2 (zT (zba t q)) h tb_11 rfl ?_);rfl
theorem SNeg3 (t:zax) (ht:TOk 400000000 10000 t):Fn fT 103 [] [(vT t)] (vd (negT t).d) []:=by
 refine fB Tryz.func103 rfl 6 fun w H B a h=>Jq 0 [] [(1,vp 0 0),(2,vp 1 0)] [(0,.box (zT t)),(1,.box zT0)] h fun a w h=>?_
 obtain ⟨r1,er1,vr1,or1,lr1⟩:=mkZ (v:=(-1)) (m:=2) (ZI.len_of (by have:=pw2;omega));refine Jd 2 [(1,.call (fU (SOf (-1) ⟨by omega,by omega⟩) (congrArg vz er1.symm))),(2,.call (SScale t r1 ht (by decide) or1 lr1 (by decide)))] [1] [] [(1,.box (zT (zba t r1)))] h fun a w h=>qV (rA 1 (zT (zba t r1)) h tb_11 rfl ?_);rw [er1];try rfl
theorem STSub (s t:zax) (hs:TOk 400000000 10000 s) (ht:TOk 400000000 10000 t):Fn fT 62 [] [(vT s),(vT t)] (vd (subT s t).d) []:=by
 refine fB Tryz.func62 rfl 9 fun w H B a h=>Jq 0 [] [(2,vp 0 0),(3,vp 1 0),(4,vp 2 0)] [(0,.box (zT s)),(1,.box (zT t)),(2,.box zT0)] h fun a w h=>Jq 3 [(2,.call (SNeg3 t (ht.mono (by decide) (by decide)))),(3,.call (STAdd s (negT t) (hs.mono (by decide) (by decide)) (((TOk.mul ht (ZI.lb_of _) (show (gA (-1)).abs.length<=2 from by decide)).plain (by decide)).mono (by decide) (by decide))))] [(4,vp 2 0)] [(2,.box (zT (addT s (negT t))))] h fun a w h=>qV (rA 2 (zT (addT s (negT t))) h tb_11 rfl ?_)
 rfl
theorem tn_1:SlT fT 69 2 1:=SlT.mk' Tryz.underlying69 (by kernel_rfl)
theorem plainT_eq {u:zax} (h1:SR u.parts) (h2:∀ q ∈ u.parts,0<=q.v/\q.c=gA q.c.val/\q.c.val≠0) (h3:∀ v,zaf t.parts v=zaf u.parts v) (h4:u.k=gA t.k.val):zaa t=u:=by
 obtain ⟨v1,v2⟩:=varsZ_ok t.parts
 have hp:(zb9 t.parts).map (zda t.parts)=u.parts:=by
  refine SR.unique (eS.2 v1) h1 (fun q hq=>?_) h2 fun v=>?_
  ·obtain ⟨v,hv,rfl⟩:=eA.1 hq
   have hv:=(v2 v).1 hv
   exact ⟨(zbk hv).1,by simp [zda,gB],by simpa [zda,gB] using hv⟩
  ·rw [<- h3 v]
   by_cases hv:0<=v
   ·rw [zfw t.parts v hv v1]
    by_cases h:v ∈ zb9 t.parts
    ·rw [if_pos h]
    ·rw [if_neg h];exact (Classical.byContradiction fun e=>h ((v2 v).2 fun e2=>e e2.symm))
   ·have z1:zaf t.parts v=0:=Classical.byContradiction fun e=>hv (zbk e).1
    have z2:zaf ((zb9 t.parts).map (zda t.parts)) v=0:=Classical.byContradiction fun e=>hv (zbk e).1
    rw [z1,z2]
 cases u with
 | mk ps k =>
  simp only at hp h4
  unfold zaa
  rw [h4,<- hp];rfl
theorem zd9 (t:zax):SR (zaa t).parts/\(∀ q ∈ (zaa t).parts,0<=q.v/\q.c=gA q.c.val/\q.c.val≠0)/\∀ v,zaf (zaa t).parts v=zaf t.parts v:=by
 obtain ⟨v1,v2⟩:=varsZ_ok t.parts
 refine ⟨eS.2 v1,fun q hq=>?_,fun v=>?_⟩
 ·obtain ⟨v,hv,rfl⟩:=eA.1 hq
  have hv:=(v2 v).1 hv
  exact ⟨(zbk hv).1,by simp [gB],by simpa [gB] using hv⟩
 ·show zaf ((zb9 t.parts).map (zda t.parts)) v=_
  by_cases hv:0<=v
  ·rw [zfw t.parts v hv v1]
   by_cases h:v ∈ zb9 t.parts
   ·rw [if_pos h]
   ·rw [if_neg h];exact (Classical.byContradiction fun e=>h ((v2 v).2 fun e2=>e e2.symm))
  ·have z1:zaf t.parts v=0:=Classical.byContradiction fun e=>hv (zbk e).1
   have z2:zaf ((zb9 t.parts).map (zda t.parts)) v=0:=Classical.byContradiction fun e=>hv (zbk e).1
   rw [z1,z2]
theorem plain_idem (t:zax):zaa (zaa t)=zaa t:=by
 obtain ⟨h1,h2,h3⟩:=zd9 t
 refine plainT_eq h1 h2 (fun v=>rfl) ?_
 simp [zaa,gB]
def Few1 (t:zax):Prop:=t.parts.length<=30/\t.k.abs.length<=20/\∀ p ∈ t.parts,p.c.abs.length<=20
structure Bd (n M:Nat) (t:zax):Prop where
  pl:zaa t=t
  len:t.parts.length<=n
  cf:∀ v,(zaf t.parts v).natAbs<=M
  kf:t.k.val.natAbs<=M
theorem Bd.mono {n' M':Nat} (h:Bd n M t) (hn:n<=n') (hM:M<=M'):Bd n' M' t:=⟨h.pl,bW h.len hn,fun v=>bW (h.cf v) hM,bW h.kf hM⟩
theorem plainT_len (t:zax):(zaa t).parts.length<=t.parts.length:=by simp only [zaa,bS];exact zfc _
theorem Bd.add {M':Nat} {s:zax} (hs:Bd n M s) (ht:Bd m M' t):Bd (n+m) (M+M') (addT s t):=by
 obtain ⟨_,_,h3⟩:=zd9 ⟨s.parts++t.parts,gA (s.k.val+t.k.val)⟩
 refine ⟨plain_idem _,bW (plainT_len _) (by simp only [bC];have:=hs.len;have:=ht.len;omega),fun v=>?_,?_⟩
 ·show (zaf (zaa _).parts v).natAbs<=_
  rw [h3 v,zdp];have:=hs.cf v;have:=ht.cf v;omega
 ·simp only [addT,zaa,gB];have:=hs.kf;have:=ht.kf;omega
theorem Few1.cf (h:Few1 t) (hl:TLb t) (v:Int):(zaf t.parts v).natAbs<=30*pw 20:=by
 have h1:=zfx (L:=20) (ps:=t.parts) (fun q hq=>⟨hl.2 q hq,h.2.2 q hq⟩) v
 have:t.parts.length*pw 20<=30*pw 20:=bU _ h.1
 omega
theorem Few1.kf (h:Few1 t) (hl:TLb t):t.k.val.natAbs<=pw 20:=by
 have h1:=ZI.abs_lt hl.1
 have h2:=zd2 h.2.1
 omega
def idxI (v:Int):List Int->Nat->Int
  | [],_=>-1
  | x :: xs,n=>if v=x then n else idxI v xs (n+1)
def pickT (vs:List Int) (bys:List zax) (v:Int):zax :=
  match bys[(idxI v vs 0).toNat]? with
  | some b=>if idxI v vs 0<0 then varT v else b
  | none=>varT v
def PkOk (t:zax):Prop:=TOk 30 20 t
theorem PkOk.cf (h:PkOk t) (v:Int):(zaf t.parts v).natAbs<=30*pw 20:=by
 have h1:=zfx (L:=20) (ps:=t.parts) h.ps v
 have:t.parts.length*pw 20<=30*pw 20:=bU _ h.len
 omega
theorem PkOk.kf (h:PkOk t):t.k.val.natAbs<=30*pw 20:=by
 have h1:=ZI.abs_lt h.kb
 have h2:=zd2 h.kl
 omega
theorem PkOk.var (v:Int):PkOk (varT v):=((TOk.one (v:=v)).plain (by decide)).mono (by decide) (by decide)
theorem PkOk.pick {vs:List Int} {bys:List zax} (h:∀ b ∈ bys,PkOk b) (v:Int):PkOk (pickT vs bys v):=by
 unfold pickT
 split
 ·rename_i b hb
  split
  ·exact PkOk.var v
  ·exact h b (dG hb)
 ·exact PkOk.var v
theorem TOk.cf {L:Nat} (h:TOk n L t) (hn:n<=4294967296) (v:Int):(zaf t.parts v).natAbs<=pw (L+1):=by
 have h1:=zfx (L:=L) (ps:=t.parts) h.ps v
 have:t.parts.length*pw L<=4294967296*pw L:=bU _ (bW h.len hn)
 have e:pw (L+1)=4294967296*pw L:=zai L
 omega
theorem TOk.kf {L:Nat} (h:TOk n L t):t.k.val.natAbs<=pw (L+1):=by
 have h1:=ZI.abs_lt h.kb
 have h2:=zd2 h.kl
 have e:pw (L+1)=4294967296*pw L:=zai L
 omega
theorem to_1:ElZ fT 69 2 1:=ElZ.mk' Tryz.underlying69 _ _ rfl rfl
section
variable {P:Program}
theorem Op.raw2c {b:Builtin} {d:Nat} {x y:Operand} {v v' u:Value} {tys:Array TypeId} {pos af gd} (h:OV x (.t (.c (.d (.raw v)))) rs) (h':OV y (.t (.c (.d (.raw v')))) rs') (hf:flat u=true)
  (hrun:∀ (cs:Array Bool) w,(builtin b tys ty cs #[v,v']).run P w = .ok (.value u) w):zav P ⟨some d,.call { callee:=.builtin b,args:=#[x,y],argTypes:=tys }, ty,pos,af,gd⟩ { rs:=rs++rs', ws:=[(d,some (.t (.c (.d (.raw u)))))] } :=
 Op.raw2 rfl h h' hf fun ρ w h1 h2=>by
  have e1:(Array.map ρ #[x,y])=#[ρ x,ρ y]:=by simp
  simp only [execOp,resolve,e1,h1,h2,Sem.run_bind,Sem.run_pure,Result.andThen_ok,invoke,hrun]
theorem Op.max2 {d:Nat} {x y:Operand} {k:IntKind} {m n r:Int} {tys:Array TypeId} {pos af gd} (h:OV x (vi k m) rs) (h':OV y (vi k n) rs') (he:r=max m n) :
  zav P ⟨some d,.call { callee:=.builtin .max,args:=#[x,y],argTypes:=tys }, ty,pos,af,gd⟩ { rs:=rs++rs', ws:=[(d,some (vi k r))] }:=by
 subst he
 refine Op.raw2c h h' rfl fun cs w=>?_
 by_cases hc:m<n
 ·simp [builtin,Builtin.max_,Builtin.max2,hc,Int.max_eq_right (Int.le_of_lt hc)]
 ·simp [builtin,Builtin.max_,Builtin.max2,hc,Int.max_eq_left (cW.1 hc)]
theorem Op.makeF1 {d t:Nat} {fn:Go.Fn} {x:A} {pos af gd} :
  zav P ⟨some d,.makeFunc fn #[] #[.tmp t],ty,pos,af,gd⟩ { rs:=[(t,.t (.c x.c))],ws:=[(d,some (.t (.c (.fn fn [] [x]))))] } :=
 zav.value d _ rfl rfl rfl fun e f H B a w hok hr=>by
  have h1:CR H B x.c (a.eval (.tmp t)):=hok.slot t _ (hr.1 (t,.t (.c x.c)) (by simp))
  refine ⟨.func fn #[] #[a.eval (.tmp t)],?_,[],[a.eval (.tmp t)],rfl,trivial,?_,trivial⟩
  ·simp [execOp,Instr.makeFunc]
  ·cases x <;> exact h1
end
theorem SPlainO0 (t:zax) (ht:PsOk 40000000 t.parts) (hk:Lb t.k.abs) (lk:t.k.abs.length<=40000000):Fn fT 38 [] [(vT t)] (vG ([.own 0 (zaa t).parts.length]++zi (zaa t).k)) [(0,.row 61 3 ((zaa t).parts.map gC))]:=by
 have ln:=ht.1;refine fB Tryz.func38 rfl 74 fun w H B a h=>Jq 5 [] [(1,vp 5 0),(2,vp 6 0)] [(5,.box (zT t)),(6,.box zT0)] h fun a w h=>Jg 7 [(2,.call (SClone t.parts (by omega)))] [] [(3,vO 0 t.parts.length)] [] [(0,.row 61 3 (t.parts.map gC))] h fun a w h=>Jg 7 [(1,.call (SSortStable t.parts (by omega)))] [] [] [] [(0,.row 61 3 ((ssV za2.v t.parts).map gC))] h fun a w h=>?_
 obtain ⟨r3,er3,vr3,or3,lr3⟩:=mkZ (v:=t.k.val) (m:=t.k.abs.length) (zcg hk);refine Jg 7 [(2,.call (fU (zeg t.k hk (by omega)) (congrArg vz er3.symm)))] [1] [(4,vp 7 0)] [5] [(7,.box ([nCl]++zi r3))] h fun a w h=>qW ?_;replace h:=zes 7 0 8 3 61 ([nCl]++zi r3) h;refine Je 9 [] [3] [(17,vO 0 t.parts.length),(18,vN t.parts.length),(19,vI 0)] h fun a w h=>qZ ?_
 refine zd3 (ι:=(Nat) × (List za2)) (fun (j,out)=>out=(zgt ((ssV za2.v t.parts).take j))/\j<=(ssV za2.v t.parts).length/\out.length<=j/\MOk 40000000 j out)
   [] (fun (j,out)=>[(19,vN j)])
   [] (fun (j,out)=>[(7,.box ([.own 8 out.length]++zi r3)),(8,.row 61 3 (out.map gC))])
   (fun (j,out)=>(ssV za2.v t.parts).length - j) (0,[]) ?_ h ?_
 ·exact ⟨by simp [zgt],bK _,bK _,fun q hq=>(by cases hq)⟩
 clear h;rintro ⟨j,out⟩ a w hI h;dsimp only at h;obtain ⟨hI1,hI2,hI3,hI4⟩:=hI;have ln:=ht.1;have ls:(ssV za2.v t.parts).length=t.parts.length:=zao _;refine Je 9 [] [] [(20,vb (decide ((j:Int)<(t.parts.length:Int))))] h fun a w h=>qW (zaj ((j:Int)<(t.parts.length:Int)) h (fun hc1 hc1'=>?_) (fun hc6 hc6'=>?_))
 ·refine qU (za3 (qW (qZ ?_)));obtain ⟨x4,hx4⟩:=gl (ssV za2.v t.parts) j;obtain ⟨ox4,lx4⟩:=ht.get_mem (zdh (lM hx4));refine Jg 9 [(0,.g (xO 21 17 0 t.parts.length j zbx (fW 19 _))),(1,.g (fY (d:=22) (t:=21) (n:=0) (i:=j) (fo:=0) (rty:=61) (es:=3) (xs:=[.raw (.int .i64 x4.v),.raw (.bool x4.c.neg),nsl x4.c.abs]) zeq rfl (zab hx4 (f:=gC)) rfl rfl))] [20] [(6,vp 9 0)] [] [(9,.box ([cI x4.v]++zi x4.c))] h fun a w h=>qW (Je 10 [] [] [(25,vb (decide (x4.v<0)))] h fun a w h=>zaj (x4.v<0) h (fun hc2 hc2'=>?_) (fun hc3 hc3'=>?_))
  ·refine wp_exit (zbo (zap (za3 (Jh 10 [(0,.j1 j)] [6,25] [(19,vI ((j:Int)+1))] [9] [] h fun a w h=>za3 ?_))));have hst:(zgt ((ssV za2.v t.parts).take (j+1)))=zaz out x4:=by rw [hI1,show ((ssV za2.v t.parts).take (j+1):List za2)=(ssV za2.v t.parts).take j++[x4] from by rw [bL,hx4];rfl,zc7]
   have hst2:=mrg_neg (out:=out) hc2';refine za9 (x:=(j,out)) (y:=((j+1),out)) h ?_ ?_
   ·exact ⟨by rw [hst,hst2],(by have:=zad hx4;omega),by omega,by have hh:=hI4.step (ht.get_mem (zdh (lM hx4)));rw [hst2] at hh;exact hh⟩
   show (ssV za2.v t.parts).length - (j+1)<(ssV za2.v t.parts).length - j;have:=zad hx4;omega
  refine qU (za3 ?_)
  rcases cM out.length with hz | hz
  ·refine Je 10 [(3,.g (fX (op:=.sub) (d:=29) (xt:=3) (yt:=3) (k:=.i64) (m:=(out.length:Int)) (n:=1) (r:=(-1)) (fW 28 _) (fV (.int .i64 1) rfl) (.inr (.inl ⟨rfl,(by omega)⟩)) i6))] [25] [(7,vI (-1))] h fun a w h=>Je 10 [(1,.cmp (op:=.geq) (m:=(-1)) (n:=0) (b:=false) .i64 rfl)] [] [(42,vb false)] h fun a w h=>zca h ?_;obtain ⟨r5,er5,vr5,or5,lr5⟩:=mkZ (v:=x4.c.val) (m:=x4.c.abs.length) (zcg ox4);refine Jh 10 [(6,.call (fU (zeg x4.c ox4 (by omega)) (congrArg vz er5.symm))),(8,.g (bD 65 ([(za2.mk x4.v r5)].map gC) [(64,vG ([cI x4.v]++zi r5))] tb_9 (.cons (i:=0) (fW 64 _) (.nil)) (by kernel_rfl) (by simp [gC]))),(9,.g (aD 66 58 65 8 10 out [(za2.mk x4.v r5)] gC tb_10 (by simp [gC])))] [6,7,42] [] [8,9] [(7,.box ([.own 10 (out++[(za2.mk x4.v r5)]).length]++zi r3)),(10,.row 61 3 ((out++[(za2.mk x4.v r5)]).map gC))] h fun a w h=>za6 (za3 (Jf 11 [(0,.j1 j)] [] [(19,vI ((j:Int)+1))] h fun a w h=>za3 ?_));have hst:(zgt ((ssV za2.v t.parts).take (j+1)))=zaz out x4:=by rw [hI1,show ((ssV za2.v t.parts).take (j+1):List za2)=(ssV za2.v t.parts).take j++[x4] from by rw [bL,hx4];rfl,zc7]
   have hst2:=mrg_nil hc3' hz;replace h:=zfb 10 8 h;refine za9 (x:=(j,out)) (y:=((j+1),(out++[(za2.mk x4.v r5)]))) h ?_ ?_
   ·have hnew:(out++[(za2.mk x4.v r5)])=zaz out x4:=by rw [hst2,er5]
    exact ⟨by rw [hst];exact hnew,(by have:=zad hx4;omega),by rw [bC];simp only [cL,cD];omega,by rw [hnew];exact hI4.step (ht.get_mem (zdh (lM hx4)))⟩
   show (ssV za2.v t.parts).length - (j+1)<(ssV za2.v t.parts).length - j;have:=zad hx4;omega
  obtain ⟨k,hk1⟩:∃ k,out.length=k+1:=⟨out.length - 1,by omega⟩;refine Je 11 [(3,.g (fX (op:=.sub) (d:=29) (xt:=3) (yt:=3) (k:=.i64) (m:=(out.length:Int)) (n:=1) (r:=(k:Int)) (fW 28 _) (fV (.int .i64 1) rfl) (.inr (.inl ⟨rfl,(by omega)⟩)) i6))] [25] [(7,vN k)] h fun a w h=>?_;obtain ⟨x6,hx6⟩:=gl out k;obtain ⟨ox6,lx6⟩:=hI4.lb (lM hx6) (by omega);refine Je 11 [(1,.cmp (op:=.geq) (m:=(k:Int)) (n:=0) (b:=true) .i64 (show decide ((k:Int)>=0)=true from decide_eq_true (by omega))),(6,.g (xO 36 34 8 out.length k zbx (fW 35 _))),(8,.g (Op.loadR_c (d:=38) (t:=37) (n:=8) (i:=k) (fo:=0) (rty:=61) (es:=3) (x:=(.raw (.int .i64 x6.v))) tl_7 rfl (zab hx6 (f:=gC)) rfl))] [] [(42,vb (x6.v == x4.v))] h fun a w h=>cS (x6.v == x4.v) h (fun hc4=>?_) (fun hc5=>?_)
  ·obtain ⟨r7,er7,vr7,or7,lr7⟩:=mkZ (v:=x6.c.val+x4.c.val) (m:=x6.c.abs.length+x4.c.abs.length+1) (zcn ox6 ox4);refine Jh 11 [(6,.g (xO 49 47 8 out.length k zbx (fW 48 _))),(8,.g (fY (d:=51) (t:=50) (n:=8) (i:=k) (fo:=1) (rty:=61) (es:=3) (xs:=[.raw (.bool x6.c.neg),nsl x6.c.abs]) zct rfl (zab hx6 (f:=gC)) rfl rfl)),(11,.call (fU (SAdd x6.c x4.c ox6 ox4 (by omega) (by omega)) (congrArg vz er7.symm))),(12,.g (xO 55 44 8 out.length k zbx (fW 45 _))),(14,.g (fZ (t:=56) (n:=8) (i:=k) (fo:=1) (rty:=61) (es:=3) (r:=gC x6) (ds:=[.raw (.bool r7.neg),nsl r7.abs]) (rs:=[(54,vz r7)]) (rows:=out.map gC) (rows':=(out.set k (za2.mk x6.v r7)).map gC) zct (fW 54 _) rfl rfl rfl (zab hx6 (f:=gC)) (by simp [gC]) (zch (xs:=out) (F:=gC) k _ _ rfl)))] [6,7,42] [] [9] [(8,.row 61 3 ((out.set k (za2.mk x6.v r7)).map gC))] h fun a w h=>za6 (za3 (Jf 11 [(0,.j1 j)] [] [(19,vI ((j:Int)+1))] h fun a w h=>za3 ?_));have hst:(zgt ((ssV za2.v t.parts).take (j+1)))=zaz out x4:=by rw [hI1,show ((ssV za2.v t.parts).take (j+1):List za2)=(ssV za2.v t.parts).take j++[x4] from by rw [bL,hx4];rfl,zc7]
   replace h:=cvM [] [] [] [(7,.box ([.own 8 (out.set k (za2.mk x6.v r7)).length]++zi r3))] (by rw [bN]; try kernel_rfl) h;have hst2:=zhc hc3' hk1 hx6 (by simpa using hc4);refine za9 (x:=(j,out)) (y:=((j+1),(out.set k (za2.mk x6.v r7)))) h ?_ ?_
   ·have hnew:(out.set k (za2.mk x6.v r7))=zaz out x4:=by rw [hst2,er7]
    exact ⟨by rw [hst];exact hnew,(by have:=zad hx4;omega),by rw [bN];omega,by rw [hnew];exact hI4.step (ht.get_mem (zdh (lM hx4)))⟩
   show (ssV za2.v t.parts).length - (j+1)<(ssV za2.v t.parts).length - j;have:=zad hx4;omega
  obtain ⟨r8,er8,vr8,or8,lr8⟩:=mkZ (v:=x4.c.val) (m:=x4.c.abs.length) (zcg ox4);refine Jh 11 [(6,.call (fU (zeg x4.c ox4 (by omega)) (congrArg vz er8.symm))),(8,.g (bD 65 ([(za2.mk x4.v r8)].map gC) [(64,vG ([cI x4.v]++zi r8))] tb_9 (.cons (i:=0) (fW 64 _) (.nil)) (by kernel_rfl) (by simp [gC]))),(9,.g (aD 66 58 65 8 11 out [(za2.mk x4.v r8)] gC tb_10 (by simp [gC])))] [6,7,42] [] [8,9] [(7,.box ([.own 11 (out++[(za2.mk x4.v r8)]).length]++zi r3)),(11,.row 61 3 ((out++[(za2.mk x4.v r8)]).map gC))] h fun a w h=>za6 (za3 (Jf 12 [(0,.j1 j)] [] [(19,vI ((j:Int)+1))] h fun a w h=>za3 ?_));have hst:(zgt ((ssV za2.v t.parts).take (j+1)))=zaz out x4:=by rw [hI1,show ((ssV za2.v t.parts).take (j+1):List za2)=(ssV za2.v t.parts).take j++[x4] from by rw [bL,hx4];rfl,zc7]
  have hst2:=mrg_new hc3' hk1 hx6 (by simpa using hc5);replace h:=zfb 11 8 h;refine za9 (x:=(j,out)) (y:=((j+1),(out++[(za2.mk x4.v r8)]))) h ?_ ?_
  ·have hnew:(out++[(za2.mk x4.v r8)])=zaz out x4:=by rw [hst2,er8]
   exact ⟨by rw [hst];exact hnew,(by have:=zad hx4;omega),by rw [bC];simp only [cL,cD];omega,by rw [hnew];exact hI4.step (ht.get_mem (zdh (lM hx4)))⟩
  show (ssV za2.v t.parts).length - (j+1)<(ssV za2.v t.parts).length - j;have:=zad hx4;omega
 refine exA ?_;replace h:=atS (sl':=[(2,vp 6 0),(4,vp 7 0)]) (lc':=[(6,.box zT0),(7,.box ([.own 8 out.length]++zi r3)),(8,.row 61 3 (out.map gC))]) h;replace h:=zfb 8 0 h;refine Jg 12 [(2,.call (SDeleteFZ isZ out (fun p hp=>SPlain2 p (hI4.lb hp (by omega)).1 (by have:=(hI4.lb hp (by omega)).2;omega)) (by omega)))] [] [] [] [(7,.box ([.own 0 (out.filter (fun p=>!isZ p)).length]++zi r3)),(0,.row 61 3 ((out.filter (fun p=>!isZ p)).map gC))] h fun a w h=>Jg 12 [] [4] [] [7] [(6,.box ([.own 0 (out.filter (fun p=>!isZ p)).length]++zi r3))] h fun a w h=>qV ?_;have hj:j=(ssV za2.v t.parts).length:=by omega
 have hpl:(out.filter (fun p=>!isZ p))=(zaa t).parts:=by rw [hI1,hj,cC,plain_law];try rfl
 replace h:=cvM [] [] [] [(6,.box ([.own 0 (zaa t).parts.length]++zi r3))] (by rw [hpl]; try kernel_rfl) h;replace h:=cvM [] [] [] [(0,.row 61 3 ((zaa t).parts.map gC))] (by rw [<- show ((out.filter (fun p=>!isZ p)):List za2)=(zaa t).parts from hpl]; try kernel_rfl) h;refine rA 6 ([.own 0 (zaa t).parts.length]++zi r3) h tb_11 rfl ?_;rw [er3];try rfl
theorem SPlainO (t:zax) {L:Nat} (h:TOk n L t) (hn:n<=1000000000) (hL:L<=40000000):Fn fT 38 [] [vd t.d] (vG ([.own 0 (zaa t).parts.length]++zi (zaa t).k)) [(0,.row 61 3 ((zaa t).parts.map gC))] :=
 have h':=h.mono hn hL
 SPlainO0 t h'.psok h'.kb h'.kl
end S
end Go.Proofs.YtakmnjihdfgolaaGreat
section
namespace Go.Proofs
open Go.Shelf
def Tryz.lays128_ren:Go.Shelf.Ren:=⟨fun | 128=>88 | n=>n,fun | 51=>79 | 3=>3 | 4=>4 | 46=>85 | 5=>5 | 9=>9 | n=>n,fun | n=>n⟩
theorem Tryz.lays128:Go.Proofs.Lays.n128 fT Tryz.lays128_ren:={
 mixed:=by kernel_rfl
 f128:=Tryz.func88.trans (congrArg some (by kernel_rfl))
 t3:=Tryz.underlying3
 a3:=Tryz.isAgg3
 z3:=Tryz.sizeOf3
 v3:=Tryz.zeroValue3
 t4:=Tryz.underlying4
 a4:=Tryz.isAgg4
 z4:=Tryz.sizeOf4
 v4:=Tryz.zeroValue4
 t5:=Tryz.underlying5
 a5:=Tryz.isAgg5
 z5:=Tryz.sizeOf5
 v5:=Tryz.zeroValue5
 t9:=Tryz.underlying9
 a9:=Tryz.isAgg9
 z9:=Tryz.sizeOf9
 v9:=Tryz.zeroValue9
 t46:=Tryz.underlying85
 a46:=Tryz.isAgg85
 z46:=Tryz.sizeOf85
 v46:=Tryz.zeroValue85
 t51:=Tryz.underlying79
 a51:=Tryz.isAgg79
 z51:=Tryz.sizeOf79
 v51:=Tryz.zeroValue79 }
theorem Tryz.bits_Len32 (x:Int) (w:World) (h0:0<=x) (h1:x<=4294967295) :
  Calls fT 88 #[.int .u32 x] w fun e w'=>e = .returned (.int .i64 (Lib.bitLen x.toNat))/\w'=w:=Any.bits_Len32 Tryz.lays128 x w h0 h1
def Tryz.lays133_ren:Go.Shelf.Ren:=⟨fun | 133=>127 | 128=>88 | n=>n,fun | 51=>79 | 3=>3 | 4=>4 | 46=>85 | 5=>5 | 9=>9 | n=>n,fun | n=>n⟩
theorem Tryz.lays133:Go.Proofs.Lays.n133 fT Tryz.lays133_ren:={
 mixed:=by kernel_rfl
 f128:=Tryz.func88.trans (congrArg some (by kernel_rfl))
 f133:=Tryz.func127.trans (congrArg some (by kernel_rfl))
 t3:=Tryz.underlying3
 a3:=Tryz.isAgg3
 z3:=Tryz.sizeOf3
 v3:=Tryz.zeroValue3
 t4:=Tryz.underlying4
 a4:=Tryz.isAgg4
 z4:=Tryz.sizeOf4
 v4:=Tryz.zeroValue4
 t5:=Tryz.underlying5
 a5:=Tryz.isAgg5
 z5:=Tryz.sizeOf5
 v5:=Tryz.zeroValue5
 t9:=Tryz.underlying9
 a9:=Tryz.isAgg9
 z9:=Tryz.sizeOf9
 v9:=Tryz.zeroValue9
 t46:=Tryz.underlying85
 a46:=Tryz.isAgg85
 z46:=Tryz.sizeOf85
 v46:=Tryz.zeroValue85
 t51:=Tryz.underlying79
 a51:=Tryz.isAgg79
 z51:=Tryz.sizeOf79
 v51:=Tryz.zeroValue79 }
theorem Tryz.bits_LeadingZeros32 (x:Int) (w:World) (h0:0<=x) (h1:x<=4294967295) :
  Calls fT 127 #[.int .u32 x] w fun e w'=>e = .returned (.int .i64 (32 - (Lib.bitLen x.toNat:Int)))/\w'=w:=Any.bits_LeadingZeros32 Tryz.lays133 x w h0 h1
end Go.Proofs
end
namespace Go.Proofs.YtakmnjihdfgolaaGreat
variable {x k carry s K b B top u2 d2 n i1 M:Nat} {zs qs ys zs1:List Nat} {w':World} {ao:Option Addr} {er:Int}
def bl (x:Nat):Nat:=Lib.bitLen x
theorem bl_half (h0:x≠0) (h:x<18446744073709551616):bl x=1+bl (x / 2):=Lib.bitLen_half x h0 h
theorem bl_pow:∀ (k x:Nat),k<=63->2 ^ k<=x->x<2 ^ (k+1)->bl x=k+1
 | 0,x,_,h1,h2=>by
  have:x=1:=by omega
  subst this
  decide +kernel
 | k+1,x,hk,h1,h2=>by
  have hlt:x<18446744073709551616:=cJ h2 (by have:=cY (n:=2) (by omega) (show k+1+1<=64 by omega);exact this)
  have hp:0<2 ^ (k+1):=dH _
  rw [bl_half (by omega) hlt]
  rw [Nat.pow_succ] at h1 h2
  have:=bl_pow k (x / 2) (by omega) (by omega) (by rw [Nat.pow_succ] at h2 ⊢;omega)
  omega
theorem bl_spec (h0:x≠0) (h:x<4294967296):1<=bl x/\bl x<=32/\2 ^ (bl x - 1)<=x/\x<2 ^ bl x:=by
 have h1:=Nat.log2_self_le h0
 have h2:x<2 ^ (x.log2+1):=Nat.lt_log2_self
 have h3:x.log2<32:=(Nat.log2_lt h0).2 h
 have h4:=bl_pow x.log2 x (by omega) h1 h2
 rw [h4]
 exact ⟨by omega,by omega,by simpa using h1,h2⟩
theorem Lead32_any (x:Nat) (hx:x<4294967296) (w:World) :
  Calls fT 127 #[.int .u32 x] w fun e w'=>e = .returned (.int .i64 (32 - (bl x:Int)))/\w=w' :=
 (Tryz.bits_LeadingZeros32 x w (by omega) (by omega)).mono fun _ _ ⟨h1,h2⟩=>⟨by rw [h1,dI];rfl,h2.symm⟩
theorem shl_fit (x r:Nat) (hx:x<4294967296) (hr:r<32):x*2 ^ r<9223372036854775808:=by
 have h1:2 ^ r<=2 ^ 31:=cY (by omega) (by omega)
 have h2:x*2 ^ r<=4294967295*2147483648:=eC (by omega) h1
 omega
theorem shl_wrap (x r:Nat) (hx:x<4294967296) (hr:r<32):IntKind.u64.wrap ((x:Int)*2 ^ r)=((x*2 ^ r:Nat):Int):=by
 have h:=shl_fit x r hx hr
 have e:((x:Int)*2 ^ r)=((x*2 ^ r:Nat):Int):=by rw [eB,Int.natCast_pow];rfl
 rw [e,IntKind.wrap_u64]
 omega
theorem or_shift (x r c:Nat) (hx:x<4294967296) (hr:r<32) (hc:c<2 ^ r):bits BinOp.or .u64 ((x*2 ^ r:Nat):Int) (c:Int)=((x*2 ^ r+c:Nat):Int):=by
 have h:=shl_fit x r hx hr
 have h2:2 ^ r<=2 ^ 31:=cY (by omega) (by omega)
 rw [bits_or_u64_nat _ _ (by omega) (by omega)]
 rw [bG,<- Nat.two_pow_add_eq_or_of_lt hc]
theorem left_step {xs:List Nat} {q r:Nat} (hl:zs.length=q+k) (h:nV zs+pw (q+k)*carry=pw q*(2 ^ r*vk xs k)) (hs:s=lim xs k*2 ^ r+carry) :
  Hid (nV (zs++[s % 4294967296])+pw (q+(k+1))*(s / 4294967296)=pw q*(2 ^ r*vk xs (k+1))):=by
 unfold Hid
 rw [zcr,hl,<- cQ,zai,zam]
 have h1:=zck (pw (q+k)) s
 have h2:pw q*(2 ^ r*(vk xs k+pw k*lim xs k))=pw q*(2 ^ r*vk xs k)+pw (q+k)*(lim xs k*2 ^ r):=by
  rw [bE,bE,ze6]
  congr 1
  rw [bF (pw q),cZ (2 ^ r),bG (2 ^ r)]
 have h3:pw (q+k)*s=pw (q+k)*(lim xs k*2 ^ r)+pw (q+k)*carry:=by rw [hs,bE]
 omega
def LeftR (w:World) (xs:List Nat) (q r:Nat) (out cr i:Value) (wr:World):Prop :=
  ∃ (k carry:Nat) (po:Option Addr) (pc:Nat) (zs:List Nat),k<=xs.length/\i = .int .i64 k/\out = .slice po zs.length pc/\cr = .int .u64 carry/\carry<2 ^ r/\Hid (zs.length=q+k)/\Own wr w.heap.size po pc zs/\Ext w wr /\
    Hid (nV zs+pw (q+k)*carry=pw q*(2 ^ r*vk xs k))
def GotE (w:World) (m:Nat) (er:Int) (e:Ending) (w':World):Prop:=∃ ao c zs,e = .returned (.tuple #[.slice ao zs.length c,.int .i64 er])/\Own w' w.heap.size ao c zs/\zbt zs/\nV zs=m/\Ext w w'
set_option maxHeartbeats 2000000 in
theorem Left_any (ao:Option Addr) (n c:Nat) (xs:List Nat) (E:Int) (K:Nat) (w:World) (hn:n=xs.length) (hE:E=(K:Int)) (ha:Rd w ao c xs) (hl:xs.length<=1000000) (hk:K<=1048576) :
  Calls fT 128 #[.slice ao n c,.int .i64 E] w (GotE w (nV xs*2 ^ K) 0):=by
 subst hn hE
 have hA:=ha.trm
 have lA:=ze5 xs
 have mA:=hA.mx
 have cA:=hA.cap
 rw [<- zbn xs]
 obtain ⟨q,hq⟩:∃ q,q=K / 32:=⟨_,rfl⟩
 obtain ⟨r,hr⟩:∃ r,r=K % 32:=⟨_,rfl⟩
 have hq1:(K:Int) / 32=(q:Int):=by omega
 have hr1:(K:Int) % 32=(r:Int):=by omega
 have hqb:q<=32768:=by omega
 have hrb:r<32:=by omega
 have hpk:2 ^ K=pw q*2 ^ r:=by
  unfold pw
  rw [show (4294967296:Nat)=2 ^ 32 from rfl,<- Nat.pow_mul,<- dJ];congr 1;omega
 have Hpk:=Lib.hid hpk
 clear hpk hq hr
 go_enter Tryz.func128,Tryz.ntmps128
 go_wp2_with fail
 refine (zah ao _ c xs w rfl ha).mono ?_
 rintro e w' ⟨rfl,rfl⟩
 go_wp2_with (at_make;refine mkn rfl _ _ rfl _ _ _ _ rfl rfl ?_ ?_ ?_ (Ext.refl w) ?_;omega;omega;omega;intro w1 hown hx0 hext)
 rw [dI] at hown
 go_loopw [8,9,34] (LeftR w (trm xs) q r) (fun _ _ i _=>((trm xs).length - intOf i).toNat)
 case atStart=>exact ⟨0,0,_,_,List.replicate q 0,by omega,rfl,by simp;omega,rfl,dH r,by simp [Hid],hown,hext,by unfold Hid;rw [zb3,zbm];simp⟩
 case round =>
  obtain ⟨k,carry,po,pc,zs,hk,rfl,rfl,rfl,hc,hzl,hown,hext,heq⟩:=hrel
  by_cases hkA:k<(trm xs).length
  ·have hx:=(hA.ext hext).cell k hkA
   have hix:=ixk hA (trm xs).length rfl k hkA wr
   have bx:=zat hA.lb k
   have hwr:=shl_wrap (lim (trm xs) k) r bx hrb
   have hor:=or_shift (lim (trm xs) k) r carry bx hrb hc
   have hft:=shl_fit (lim (trm xs) k) r bx hrb
   have hst:=left_step hzl.out heq.out rfl
   have hcd:(lim (trm xs) k*2 ^ r+carry) / 4294967296<2 ^ r:=by
    rw [eZ (by omega)]
    have h2:(lim (trm xs) k+1)*2 ^ r<=4294967296*2 ^ r:=bU _ bx
    rw [cH] at h2
    rw [bG (2 ^ r)]
    omega
   have hcs:carry<4294967296:=cJ hc (by have:2 ^ r<=2 ^ 31:=cY (by omega) (by omega);omega)
   obtain ⟨X,hX⟩:∃ X,X=lim (trm xs) k*2 ^ r:=⟨_,rfl⟩
   rw [<- hX] at hwr hor hft hst hcd
   have hzb:zs.length<=1100000:=by have:=hzl.out;omega
   have Hcd:=Lib.hid hcd
   clear hX hcd hc heq
   go_wp2_with (at_builtin;refine push (wi:=w) rfl _ _ rfl _ _ zs _ rfl rfl hown _ ?_ ?_ rfl ?_ rfl hext ?_;omega;omega;omega;intro ao' c' w2 hown2 hext2)
   go_roundw
   case rel=>exact ⟨k+1,(X+carry) / 4294967296,ao', c', zs++[(X+carry) % 4294967296],by omega,by go_num,by simp,by go_num,Hcd.out,by unfold Hid;rw [bC,hzl.out];simp;omega,hown2.snocEq (by omega),hext2,hst⟩
   case measure=>simp [intOf];try omega
  ·have hv:nV (zs++[(carry:Int).toNat])=nV (trm xs)*2 ^ K:=by
    have h1:=heq.out
    have h2:=hzl.out
    rw [zay (by omega)] at h1
    rw [zcr,h2,dI,h1,Hpk.out,<- bF,bG]
   have hcs:carry<4294967296:=cJ hc (by have:2 ^ r<=2 ^ 31:=cY (by omega) (by omega);omega)
   have hzb:zs.length<=1100000:=by have:=hzl.out;omega
   have Hv:=Lib.hid hv
   clear hv hc heq
   go_wp2_with (at_builtin;refine push (wi:=w) rfl _ _ rfl _ _ zs _ rfl rfl hown _ ?_ ?_ rfl ?_ rfl hext ?_;omega;omega;omega;intro ao' c' w2 hown2 hext2)
   refine (zcm _ _ _ _ _ (by simp) hown2.rd (by simp;omega)).mono ?_
   intro e w' hg
   rw [Hv.out] at hg
   obtain ⟨ao3,c3,zs3,rfl,h1,h2,h3,h4⟩:=hg.from hext2
   go_wp2_with fail
   go_ret2
   exact ⟨ao3,c3,zs3,rfl,h1,h2,h3,h4⟩
theorem low32 (s:Nat) (hs:s<18446744073709551616):bits BinOp.and .u64 (s:Int) 4294967295=((s % 4294967296:Nat):Int):=by
 have h:=bits_and_u64_nat s 4294967295 hs (by omega)
 have e:s &&& 4294967295=s % 4294967296:=Nat.and_two_pow_sub_one_eq_mod s 32
 rw [e] at h
 exact h
section
variable {w:World} {B g c:Nat} {zs:List Nat}
theorem Own.winCell (h:Own w B (some ⟨g,0,none⟩) c zs) (K i:Nat) (hi:K+i<zs.length):w.cell? ⟨g,K+i,none⟩=some (.int .u32 (lim zs (K+i))):=by
 have:=h.rd.cell (K+i) hi
 simp only [bk,of,cF] at this
 exact this
theorem Own.winFrozen (h:Own w B (some ⟨g,0,none⟩) c zs) (K i:Nat) (hp:0<zs.length):w.frozen? ⟨g,K+i,none⟩=false:=by
 have:=h.frozen hp (K+i)
 simp only [bk,of,cF] at this
 exact this
theorem Own.winStore (h:Own w B (some ⟨g,0,none⟩) c zs) (K i:Nat) (hi:K+i<zs.length) (E:Int) (y:Nat) (hE:E=(y:Int)) (hy:y<4294967296) :
  Own (w.setCell ⟨g,K+i,none⟩ (.int .u32 E)) B (some ⟨g,0,none⟩) c (zs.set (K+i) y)/\w.grownBy (w.setCell ⟨g,K+i,none⟩ (.int .u32 E)) (some g):=by
 have:=h.store (K+i) hi E y hE hy
 simp only [bk,of,cF] at this
 exact this
end
theorem winIx (g K m C i:Nat) (E:Int) (hE:E=(i:Int)) (hi:i<m) (w:World) :
   (Instr.indexAt 31 (.slice (some ⟨g,K,none⟩) m C) (.int .i64 E)).run fT w = .ok (.pointer (some ⟨g,K+i,none⟩)) w:=by
  subst hE
  simp [Instr.indexAt,asIntOf,run_underlying und,hi,go_sem]
def TakeR (w:World) (B g c:Nat) (zs ys:List Nat) (K T:Nat) (cr br i:Value) (wr:World):Prop :=
  ∃ (k carry b:Nat) (qs:List Nat),k<=ys.length/\i = .int .i64 k/\cr = .int .u64 carry/\br = .int .u64 b/\carry<4294967296/\b<=1/\Hid (qs.length=zs.length)/\Own wr B (some ⟨g,0,none⟩) c qs/\w.grownBy wr (some g) /\
    Hid (nV qs+pw K*(T*vk ys k)=nV zs+pw (K+k)*(carry+b))/\Hid (∀ t,K+ys.length<t->lim qs t=lim zs t)
def GotTake (w:World) (B g c:Nat) (zs ys:List Nat) (K T:Nat) (e:Ending) (w':World):Prop :=
  ∃ (b:Bool) (qs:List Nat),e = .returned (.bool b)/\qs.length=zs.length/\Own w' B (some ⟨g,0,none⟩) c qs/\w.grownBy w' (some g) /\
    nV qs+pw K*(T*nV ys)=nV zs+(if b then pw (K+(ys.length+1)) else 0)/\∀ t,K+ys.length<t->lim qs t=lim zs t
theorem take_step {T h y:Nat} (hv:nV qs+pw K*(T*vk ys k)=nV zs+pw (K+k)*(carry+b)) (hK:K+k<qs.length)
  (hy:y+(T*lim ys k+carry) % 4294967296+b=lim qs (K+k)+4294967296*x) (hh:h=(T*lim ys k+carry) / 4294967296) :
  Hid (nV (qs.set (K+k) y)+pw K*(T*vk ys (k+1))=nV zs+pw (K+(k+1))*(h+x)):=by
 unfold Hid
 have h1:=zez (y:=y) hK
 have h3:pw K*(T*vk ys (k+1))=pw K*(T*vk ys k)+pw (K+k)*(T*lim ys k):=by
  rw [zam,bE,bE,ze6]
  congr 1
  rw [<- bF T,bG T,bF (pw k),bF (pw K)]
 rw [<- cQ K k 1,zai,h3]
 have h4:=zck (pw (K+k)) (T*lim ys k+carry)
 rw [<- hh] at h4
 have h5:pw (K+k)*(y+(T*lim ys k+carry) % 4294967296+b)=pw (K+k)*(lim qs (K+k)+4294967296*x):=by rw [hy]
 rw [bE,bE,bE] at h5
 rw [bE (pw (K+k)) (T*lim ys k)] at h4
 rw [bE] at hv
 rw [bE,bF,bF] 
 rw [bF] at h4
 have h6:pw (K+k)*(4294967296*x)=4294967296*(pw (K+k)*x):=cZ _ _ _
 omega
theorem take_end {T y:Nat} (hv:nV qs+pw K*(T*vk ys ys.length)=nV zs+pw (K+ys.length)*(carry+b)) (hK:K+ys.length<qs.length)
  (hy:y+(carry+b)=lim qs (K+ys.length)+4294967296*x) :
  nV (qs.set (K+ys.length) y)+pw K*(T*nV ys)=nV zs+pw (K+(ys.length+1))*x:=by
 have h1:=zez (y:=y) hK
 rw [zay (bI _)] at hv
 rw [<- cQ K,zai]
 have h5:pw (K+ys.length)*(y+(carry+b))=pw (K+ys.length)*(lim qs (K+ys.length)+4294967296*x):=by rw [hy]
 rw [bE,bE,bE] at h5
 rw [bE] at hv
 have h6:pw (K+ys.length)*(4294967296*x)=4294967296*(pw (K+ys.length)*x):=cZ _ _ _
 rw [bF]
 omega
set_option maxHeartbeats 2000000 in
theorem takeAway_any (B g c:Nat) (zs:List Nat) (K m C:Nat) (bo:Option Addr) (n d:Nat) (ys:List Nat) (T:Nat) (w:World) (hn:n=ys.length) (hm:m=ys.length+1) (hK:K+m<=zs.length)
  (hown:Own w B (some ⟨g,0,none⟩) c zs) (hb:Rd w bo d ys) (hne:0<ys.length->bk bo≠g) (hT:T<4294967296) (hl:ys.length<=10000000) :
  Calls fT 130 #[.slice (some ⟨g,K,none⟩) m C,.slice bo n d,.int .u64 T] w (GotTake w B g c zs ys K T):=by
 subst hn hm
 have mB:=hb.mx
 have cB:=hb.cap
 go_enter Tryz.func130,Tryz.ntmps130
 go_wp2_with fail
 go_loopw [7,8,19] (TakeR w B g c zs ys K T) (fun _ _ i _=>(ys.length - intOf i).toNat)
 case atStart=>exact ⟨0,0,0,zs,by omega,rfl,rfl,rfl,by omega,by omega,rfl,hown,World.grownBy.refl _ _,by unfold Hid;simp [zbm],fun _ _=>rfl⟩
 case round =>
  obtain ⟨k,carry,b,qs,hk,rfl,rfl,rfl,hc,hb1,hql,hqo,hqx,hqv,hqt⟩:=hrel
  by_cases hkB:k<ys.length
  ·have hy:=(hb.kept hqx hne).cell k hkB
   have hiy:=ixk hb ys.length rfl k hkB wr
   have bY:=zat hb.lb k
   have hkq:K+k<qs.length:=by have:=hql.out;omega
   have hqc:=hqo.winCell K k hkq
   have hiq:=winIx g K (ys.length+1) C k k rfl (by omega) wr
   have hf:=hqo.winFrozen K k (by omega)
   have bQ:=zat hqo.lb (K+k)
   have bp:=prod_lt hT bY
   obtain ⟨p,hp⟩:∃ p,p=T*lim ys k:=⟨_,rfl⟩
   have hst:=fun h y x=>take_step (h:=h) (y:=y) (x:=x) hqv.out hkq
   rw [<- hp] at bp hst
   have hp':((T:Nat):Int)*((lim ys k:Nat):Int)=(p:Int):=by rw [hp,eB]
   have hlow:bits BinOp.and .u64 ((p:Int)+(carry:Int)) 4294967295=((p:Int)+(carry:Int)) % 4294967296:=by
    have:=low32 (p+carry) (by omega)
    rw [Int.natCast_add] at this
    rw [this];omega
   clear hp hqv
   by_cases hlt:lim qs (K+k)<(p+carry) % 4294967296+b
   ·have hlt':((lim qs (K+k):Nat):Int)<((p:Int)+(carry:Int)) % 4294967296+(b:Int):=by omega
    go_wp2_with fail
    obtain ⟨y,hy⟩:∃ y,y=lim qs (K+k)+4294967296 - ((p+carry) % 4294967296+b):=⟨_,rfl⟩
    have hs1:=hqo.winStore K k hkq ((lim qs (K+k):Int)+4294967296 - (((p:Int)+(carry:Int)) % 4294967296+(b:Int))) y (by omega) (by omega)
    have hst1:=hst ((p+carry) / 4294967296) y 1 (by omega) rfl
    go_roundw
    case rel=>exact ⟨k+1,(p+carry) / 4294967296,1,_,by omega,by go_num,by go_num,by go_num,by omega,by omega,by unfold Hid;rw [bN];exact hql.out,hs1.1,zcj hqx hs1.2,hst1,fun t ht=>by rw [zbi (by omega)];exact hqt.out t ht⟩
    case measure=>simp [intOf];try omega
   ·go_wp2_with fail
    obtain ⟨y,hy⟩:∃ y,y=lim qs (K+k) - ((p+carry) % 4294967296+b):=⟨_,rfl⟩
    have hs1:=hqo.winStore K k hkq ((lim qs (K+k):Int) - (((p:Int)+(carry:Int)) % 4294967296+(b:Int))) y (by omega) (by omega)
    have hst1:=hst ((p+carry) / 4294967296) y 0 (by omega) rfl
    go_roundw
    case rel=>exact ⟨k+1,(p+carry) / 4294967296,0,_,by omega,by go_num,by go_num,by go_num,by omega,by omega,by unfold Hid;rw [bN];exact hql.out,hs1.1,zcj hqx hs1.2,hst1,fun t ht=>by rw [zbi (by omega)];exact hqt.out t ht⟩
    case measure=>simp [intOf];try omega
  ·obtain rfl:k=ys.length:=by omega
   have hkq:K+ys.length<qs.length:=by have:=hql.out;omega
   have hqc:=hqo.winCell K ys.length hkq
   have hiq:=winIx g K (ys.length+1) C ys.length ys.length rfl (by omega) wr
   have hf:=hqo.winFrozen K ys.length (by omega)
   have bQ:=zat hqo.lb (K+ys.length)
   have hst:=fun y x=>take_end (y:=y) (x:=x) hqv.out hkq
   clear hqv
   by_cases hlt:lim qs (K+ys.length)<carry+b
   ·have hlt':((lim qs (K+ys.length):Nat):Int)<(carry:Int)+(b:Int):=by omega
    go_wp2_with fail
    obtain ⟨y,hy⟩:∃ y,y=lim qs (K+ys.length)+4294967296 - (carry+b):=⟨_,rfl⟩
    have hs1:=hqo.winStore K ys.length hkq (IntKind.u64.wrap ((lim qs (K+ys.length):Int) - ((carry:Int)+(b:Int))) % 4294967296) y (by rw [IntKind.wrap_u64];omega) (by omega)
    have hst1:=hst y 1 (by omega)
    go_ret
    exact ⟨true,_,rfl,by rw [bN];exact hql.out,hs1.1,zcj hqx hs1.2,by rw [hst1,dL,if_pos rfl],fun t ht=>by rw [zbi (by omega)];exact hqt.out t ht⟩
   ·have hlt':decide (((lim qs (K+ys.length):Nat):Int)<(carry:Int)+(b:Int))=false:=by simp;omega
    go_wp2_with fail
    obtain ⟨y,hy⟩:∃ y,y=lim qs (K+ys.length) - (carry+b):=⟨_,rfl⟩
    have hs1:=hqo.winStore K ys.length hkq ((lim qs (K+ys.length):Int) - ((carry:Int)+(b:Int))) y (by omega) (by omega)
    have hst1:=hst y 0 (by omega)
    go_ret
    exact ⟨false,_,rfl,by rw [bN];exact hql.out,hs1.1,zcj hqx hs1.2,by rw [hst1,Nat.mul_zero,if_neg Bool.false_ne_true],fun t ht=>by rw [zbi (by omega)];exact hqt.out t ht⟩
def PutR (w:World) (B g c:Nat) (zs ys:List Nat) (K:Nat) (cr i:Value) (wr:World):Prop :=
  ∃ (k carry:Nat) (qs:List Nat),k<=ys.length/\i = .int .i64 k/\cr = .int .u64 carry/\carry<=1/\Hid (qs.length=zs.length)/\Own wr B (some ⟨g,0,none⟩) c qs/\w.grownBy wr (some g) /\
    Hid (nV qs+pw (K+k)*carry=nV zs+pw K*vk ys k)/\Hid (∀ t,K+ys.length<t->lim qs t=lim zs t)
def GotPut (w:World) (B g c:Nat) (zs ys:List Nat) (K:Nat) (e:Ending) (w':World):Prop :=
  ∃ (x:Nat) (qs:List Nat),e = .returned (.tuple #[])/\x<=1/\qs.length=zs.length/\Own w' B (some ⟨g,0,none⟩) c qs/\w.grownBy w' (some g) /\
    nV qs+pw (K+(ys.length+1))*x=nV zs+pw K*nV ys/\∀ t,K+ys.length<t->lim qs t=lim zs t
theorem put_step (hv:nV qs+pw (K+k)*carry=nV zs+pw K*vk ys k) (hK:K+k<qs.length) (hs:s=lim qs (K+k)+lim ys k+carry) :
  Hid (nV (qs.set (K+k) (s % 4294967296))+pw (K+(k+1))*(s / 4294967296)=nV zs+pw K*vk ys (k+1)):=by
 unfold Hid
 have h1:=zez (y:=s % 4294967296) hK
 have h2:=zck (pw (K+k)) s
 have h3:pw K*vk ys (k+1)=pw K*vk ys k+pw (K+k)*lim ys k:=by
  rw [zam,bE,ze6,bF]
 rw [<- cQ K k 1,zai,h3]
 have h4:pw (K+k)*s=pw (K+k)*lim qs (K+k)+pw (K+k)*lim ys k+pw (K+k)*carry:=by rw [hs,bE,bE]
 omega
theorem put_end (hv:nV qs+pw (K+ys.length)*carry=nV zs+pw K*vk ys ys.length) (hK:K+ys.length<qs.length) (hs:s=lim qs (K+ys.length)+carry) :
  nV (qs.set (K+ys.length) (s % 4294967296))+pw (K+(ys.length+1))*(s / 4294967296)=nV zs+pw K*nV ys:=by
 rw [zay (bI _)] at hv
 have h1:=zez (y:=s % 4294967296) hK
 have h2:=zck (pw (K+ys.length)) s
 rw [<- cQ K ys.length 1,zai]
 have h4:pw (K+ys.length)*s=pw (K+ys.length)*lim qs (K+ys.length)+pw (K+ys.length)*carry:=by rw [hs,bE]
 omega
set_option maxHeartbeats 2000000 in
theorem putBack_any (B g c:Nat) (zs:List Nat) (K m C:Nat) (bo:Option Addr) (n d:Nat) (ys:List Nat) (w:World) (hn:n=ys.length) (hm:m=ys.length+1) (hK:K+m<=zs.length)
  (hown:Own w B (some ⟨g,0,none⟩) c zs) (hb:Rd w bo d ys) (hne:0<ys.length->bk bo≠g) (hl:ys.length<=10000000) :
  Calls fT 131 #[.slice (some ⟨g,K,none⟩) m C,.slice bo n d] w (GotPut w B g c zs ys K):=by
 subst hn hm
 have mB:=hb.mx
 have cB:=hb.cap
 go_enter Tryz.func131,Tryz.ntmps131
 go_wp2_with fail
 go_loopw [4,10] (PutR w B g c zs ys K) (fun _ i _=>(ys.length - intOf i).toNat)
 case atStart=>exact ⟨0,0,zs,by omega,rfl,rfl,by omega,rfl,hown,World.grownBy.refl _ _,by unfold Hid;simp [zbm],fun _ _=>rfl⟩
 case round =>
  obtain ⟨k,carry,qs,hk,rfl,rfl,hc,hql,hqo,hqx,hqv,hqt⟩:=hrel
  by_cases hkB:k<ys.length
  ·have hy:=(hb.kept hqx hne).cell k hkB
   have hiy:=ixk hb ys.length rfl k hkB wr
   have bY:=zat hb.lb k
   have hkq:K+k<qs.length:=by have:=hql.out;omega
   have hqc:=hqo.winCell K k hkq
   have hiq:=winIx g K (ys.length+1) C k k rfl (by omega) wr
   have hf:=hqo.winFrozen K k (by omega)
   have bQ:=zat hqo.lb (K+k)
   have hst:=put_step hqv.out hkq rfl
   clear hqv
   go_wp2_with fail
   have hs1:=hqo.winStore K k hkq (((lim qs (K+k):Int)+(lim ys k:Int)+(carry:Int)) % 4294967296) ((lim qs (K+k)+lim ys k+carry) % 4294967296) (by omega) (by omega)
   go_roundw
   case rel=>exact ⟨k+1,(lim qs (K+k)+lim ys k+carry) / 4294967296,_,by omega,by go_num,by go_num,by omega,by unfold Hid;rw [bN];exact hql.out,hs1.1,zcj hqx hs1.2,hst,fun t ht=>by rw [zbi (by omega)];exact hqt.out t ht⟩
   case measure=>simp [intOf];try omega
  ·obtain rfl:k=ys.length:=by omega
   have hkq:K+ys.length<qs.length:=by have:=hql.out;omega
   have hqc:=hqo.winCell K ys.length hkq
   have hiq:=winIx g K (ys.length+1) C ys.length ys.length rfl (by omega) wr
   have hf:=hqo.winFrozen K ys.length (by omega)
   have bQ:=zat hqo.lb (K+ys.length)
   have hst:=put_end hqv.out hkq rfl
   clear hqv
   go_wp2_with fail
   have hs1:=hqo.winStore K ys.length hkq (((lim qs (K+ys.length):Int)+(carry:Int)) % 4294967296) ((lim qs (K+ys.length)+carry) % 4294967296) (by omega) (by omega)
   go_end0
   exact ⟨_,_,rfl,by omega,by rw [bN];exact hql.out,hs1.1,zcj hqx hs1.2,hst,fun t ht=>by rw [zbi (by omega)];exact hqt.out t ht⟩
def ch (s:ByteArray) (i:Nat):Nat:=(s.data.toList.map UInt8.toNat).getD i 0
def isd (s:ByteArray) (i:Nat):Prop:=48<=ch s i/\ch s i<=57
def alld (s:ByteArray) (k:Nat):Prop:=∀ i,i<k->isd s i
instance (s:ByteArray) (i:Nat):Decidable (isd s i):=inferInstanceAs (Decidable (_/\_))
instance (s:ByteArray) (k:Nat):Decidable (alld s k):=Nat.decidableBallLT k (fun i _=>isd s i)
def bytes (s:ByteArray):List Nat:=s.data.toList.map UInt8.toNat
def LbB (zs:List Nat):Prop:=∀ z ∈ zs,z<256
theorem LbB_nil:LbB []:=fun _ h=>by simp at h
theorem LbB_take (h:LbB zs) (k:Nat):LbB (zs.take k):=fun z hz=>h z (fO hz)
theorem LbB_drop (h:LbB zs) (k:Nat):LbB (zs.drop k):=fun z hz=>h z (List.mem_of_mem_drop hz)
structure RdB (w:World) (ao:Option Addr) (c:Nat) (zs:List Nat):Prop where
  cap:zs.length<=c
  mx:c<=9223372036854775807
  nl:ao=none->c=0
  lb:LbB zs
  ad:0<zs.length->ao=some ⟨bk ao,of ao,none⟩
  cell:∀ i,i<zs.length->w.cell? ⟨bk ao,of ao+i,none⟩=some (.int .u8 (lim zs i))
theorem RdB.nil (w:World):RdB w none 0 []:=⟨bI _,by omega,fun _=>rfl,LbB_nil,fun h=>by simp at h,fun i h=>by simp at h⟩
theorem RdB.ext {w:World} {c:Nat} (h:RdB w ao c zs) (k:Ext w w'):RdB w' ao c zs :=
 ⟨h.cap,h.mx,h.nl,h.lb,h.ad,fun i hi=>k.cell (h.cell i hi)⟩
theorem RdB.take {w:World} {c:Nat} (h:RdB w ao c zs) (k:Nat) (_hk:k<=zs.length) (c':Nat) (hc':(zs.take k).length<=c') (hc2:c'<=c):RdB w ao c' (zs.take k):=by
 refine ⟨hc', bW hc2 h.mx,fun e=>by have:=h.nl e;omega,LbB_take h.lb _,?_,?_⟩
 ·intro hp;rw [cG] at hp;exact h.ad (by omega)
 ·intro i hi;rw [cG] at hi;rw [zhf (by omega)];exact h.cell i (by omega)
theorem RdB.drop {w:World} {o c:Nat} (h:RdB w (some ⟨b,o,none⟩) c zs) (k:Nat) (hk:k<=zs.length):RdB w (some ⟨b,o+k,none⟩) (c - k) (zs.drop k):=by
 have h1:=h.cap
 refine ⟨by rw [cK];omega,bW (Nat.sub_le _ _) h.mx,fun e=>by simp at e,LbB_drop h.lb _,fun _=>rfl,?_⟩
 intro i hi
 rw [cK] at hi
 have:=h.cell (k+i) (by omega)
 simp only [bk,of] at this ⊢
 rw [zhg,cQ];exact this
theorem RdB.isAt {w:World} {c:Nat} (h:RdB w ao c zs) (hp:0<zs.length):∃ b o,ao=some ⟨b,o,none⟩:=⟨_,_,h.ad hp⟩
theorem RdB.blt {w:World} {c:Nat} (h:RdB w ao c zs) (hp:0<zs.length):bk ao<w.heap.size :=
 World.block_lt_of_cell? w _ (h.cell 0 hp)
structure OwB (w:World) (B:Nat) (ao:Option Addr) (c:Nat) (zs:List Nat):Prop where
  lb:LbB zs
  row:w.ownsRow B 5 1 (.slice ao zs.length c) zs.length (zs.map fun (x:Nat)=>Value.int .u8 (x:Int))
theorem OwB.nil (w:World) (B:Nat):OwB w B none 0 []:=⟨LbB_nil,World.ownsRow_nil _ _ _ _⟩
theorem OwB.rd {w:World} {c:Nat} (h:OwB w B ao c zs):RdB w ao c zs:=by
 have hr:=h.row
 rcases hr.2 with ⟨hv,hn⟩ | ⟨g,cap,cur,hv,hb,hg,hnc,hcm,hcs,htake⟩
 ·have:zs=[]:=dM.1 hn
  subst this
  simp at hv
  obtain ⟨rfl,rfl⟩:=hv
  exact RdB.nil w
 ·simp only [Value.slice.injEq,true_and] at hv
  obtain ⟨rfl,rfl⟩:=hv
  refine ⟨hnc,by simpa [maxLen] using hcm,fun e=>by simp at e,h.lb,fun _=>rfl,?_⟩
  intro i hi
  have:=hr.cellAt i (by omega)
  simp only [bk,of,cF]
  rw [this,eW,zbj hi]
  rfl
theorem OwB.lt {w:World} {c:Nat} (h:OwB w B ao c zs):∀ k,(Value.slice ao zs.length c).ownBlock=some k->B<=k/\k<w.heap.size:=h.row.lt
theorem OwB.blk {w:World} {c:Nat} (h:OwB w B ao c zs) (hp:0<zs.length):B<=bk ao/\bk ao<w.heap.size/\of ao=0/\ao=some ⟨bk ao,0,none⟩:=by
 rcases h.row.2 with ⟨hv,hn⟩ | ⟨g,cap,cur,hv,hb,hg,hnc,hcm,hcs,htake⟩
 ·omega
 ·simp only [Value.slice.injEq,true_and] at hv
  obtain ⟨rfl,rfl⟩:=hv
  exact ⟨hb,(Array.getElem?_eq_some_iff.1 hg).1,rfl,rfl⟩
theorem OwB.frozen {w:World} {c:Nat} (h:OwB w B ao c zs) (hp:0<zs.length) (i:Nat):w.frozen? ⟨bk ao,of ao+i,none⟩=false:=by
 rcases h.row.2 with ⟨hv,hn⟩ | ⟨g,cap,cur,hv,hb,hg,hnc,hcm,hcs,htake⟩
 ·omega
 ·have hr:=h.row
  simp only [Value.slice.injEq,true_and] at hv
  obtain ⟨rfl,rfl⟩:=hv
  simp only [bk,of,cF]
  exact hr.frozenAt i
theorem OwB.alloc {w:World} {c:Nat} (h:OwB w B ao c zs) (o:Obj):OwB (w.alloc o) B ao c zs:=⟨h.lb,h.row.alloc o⟩
theorem OwB.ext {w:World} {c:Nat} (h:OwB w B ao c zs) (k:Ext w w'):OwB w' B ao c zs :=
 ⟨h.lb,h.row.kept (row:=none) ⟨k.os,k.tape,k.output,k.size,fun i hi _=>k.block i hi⟩ (by cases hv:Value.ownBlock _ <;> simp)⟩
theorem OwB.mono {w:World} {B':Nat} {c:Nat} (h:OwB w B ao c zs) (hB:B'<=B):OwB w B' ao c zs:=by
 refine ⟨h.lb,h.row.1,?_⟩
 rcases h.row.2 with hn | ⟨g,cap,cur,hv,hb,rest⟩
 ·exact .inl hn
 ·exact .inr ⟨g,cap,cur,hv,bW hB hb,rest⟩
theorem OwB.take {w:World} {c:Nat} (h:OwB w B ao c zs) (k:Nat) (hk:k<=zs.length):OwB w B ao c (zs.take k):=by
 refine ⟨LbB_take h.lb _,by simp,?_⟩
 rw [cG,Nat.min_eq_left hk]
 rcases h.row.2 with ⟨hv,hn⟩ | ⟨g,cap,cur,hv,hb,hg,hnc,hcm,hcs,htake⟩
 ·simp at hv
  obtain ⟨rfl,_,rfl⟩:=hv
  refine .inl ⟨?_,by omega⟩
  simp;omega
 ·simp only [Value.slice.injEq,true_and] at hv
  obtain ⟨rfl,rfl⟩:=hv
  refine .inr ⟨g,c,cur,rfl,hb,hg,by omega,hcm,hcs,?_⟩
  rw [eX,<- htake,List.take_take]
  congr 1
  omega
theorem OwB.pop {w:World} {c:Nat} (h:OwB w B ao c (zs.take (k+1))) (hk:k<zs.length):OwB w B ao c (zs.take k):=by
 have:=h.take k (by rw [cG];omega)
 rwa [List.take_take,Nat.min_eq_left (by omega)] at this
theorem RdB.kept {w:World} {c:Nat} {g:Nat} (h:RdB w ao c zs) (k:w.grownBy w' (some g)) (hne:0<zs.length->bk ao≠g):RdB w' ao c zs :=
 ⟨h.cap,h.mx,h.nl,h.lb,h.ad,fun i hi=>k.cell (h.cell i hi) (by simp;exact hne (by omega))⟩
theorem OwB.kept {w:World} {c:Nat} {g:Nat} (h:OwB w B ao c zs) (k:w.grownBy w' (some g)) (hne:(Value.slice ao zs.length c).ownBlock≠some g):OwB w' B ao c zs :=
 ⟨h.lb,h.row.kept k (.inr hne)⟩
theorem OwB.store {w:World} {c:Nat} (h:OwB w B ao c zs) (i:Nat) (hi:i<zs.length) (E:Int) (y:Nat) (hE:E=(y:Int)) (hy:y<256) :
  OwB (w.setCell ⟨bk ao,of ao+i,none⟩ (.int .u8 E)) B ao c (zs.set i y)/\w.grownBy (w.setCell ⟨bk ao,of ao+i,none⟩ (.int .u8 E)) (some (bk ao)):=by
 subst hE
 obtain ⟨h1,h2,h3,h4⟩:=h.blk (by omega)
 have hr:=h.row
 rw [h4] at hr
 have:=hr.stored i (.int .u8 (y:Int))
 rw [h3,cF]
 refine ⟨⟨?_,?_⟩,this.2⟩
 ·intro z hz
  rcases fM hz with hm | hm
  ·exact h.lb z hm
  ·omega
 ·rw [h4,bN,List.map_set]
  exact this.1
def ByR (w:World) (xs:List Nat) (b:Nat) (po:Option Addr) (pc:Nat) (rest i:Value) (wr:World):Prop :=
  ∃ (k R:Nat) (zs:List Nat),k<=xs.length/\i = .int .i64 ((k:Int) - 1)/\rest = .int .u64 R/\R<b/\Hid (zs.length=xs.length)/\Own wr w.heap.size po pc zs/\Ext w wr/\Hid (vd xs k=vd zs k*b+R)
theorem by_step {xs:List Nat} {R:Nat} (h:vd xs (k+1)=vd zs (k+1)*b+R) (hx:k<xs.length) (hz:k<zs.length) :
  Hid (vd xs k=vd (zs.set k ((R*4294967296+lim xs k) / b)) k*b+(R*4294967296+lim xs k) % b):=by
 unfold Hid
 rw [vd_step hx,vd_step (zs:=zs.set k ((R*4294967296+lim xs k) / b)) (by rw [bN];exact hz),lim_set_eq hz,vd_set (by omega),h,cH,bF 4294967296]
 have h1:=eE (R*4294967296+lim xs k) b
 rw [bG b] at h1
 omega
theorem by_lt {R:Nat} (h:R<b) (hx:x<4294967296):(R*4294967296+x) / b<4294967296:=by
 rw [eZ (by omega)]
 have:(R+1)*4294967296<=b*4294967296:=bU _ h
 rw [bG 4294967296 b]
 omega
set_option maxHeartbeats 1000000 in
theorem byLimb_any (ao:Option Addr) (n c:Nat) (xs:List Nat) (E:Int) (b:Nat) (w:World) (hn:n=xs.length) (hE:E=(b:Int)) (ha:Rd w ao c xs) (hl:xs.length<=1000000) (hb:0<b) (hb2:b<4294967296) :
  Calls fT 116 #[.slice ao n c,.int .u32 E] w fun e w'=>∃ po pc zs,e = .returned (.tuple #[.slice po zs.length pc,.int .u32 ((nV xs % b:Nat):Int)])/\Own w' w.heap.size po pc zs/\zbt zs/\nV zs=nV xs / b/\Ext w w':=by
 subst hn hE
 have bA:=ha.cap
 have mA:=ha.mx
 go_enter Tryz.func116,Tryz.ntmps116
 go_wp2_with (at_make;refine mkf rfl _ _ rfl _ _ _ rfl rfl ?_ ?_ (Ext.refl w) ?_;omega;omega;intro w1 hown hx0 hext)
 go_loopw [7,8] (ByR w xs b (some ⟨w.heap.size,0,none⟩) xs.length) (fun _ i _=>(intOf i+1).toNat)
 case atStart=>exact ⟨xs.length,0,List.replicate xs.length 0,bI _,rfl,rfl,hb,by simp [Hid],by simpa using hown,hext,by unfold Hid;rw [vd_end (by omega),vd_end (by simp)];simp⟩
 case round =>
  obtain ⟨k,R,zs,hk,rfl,rfl,hR,hzl,hown,hext,heq⟩:=hrel
  rcases k with _ | k
  ·have hv:nV xs=nV zs*b+R:=by have:=heq.out;rwa [vd_zero,vd_zero] at this
   have hq:nV zs=nV xs / b:=by rw [hv,bG,Nat.mul_add_div hb,dN hR,dO]
   have hm:nV xs % b=R:=by rw [hv,bG,Nat.mul_add_mod,eF hR]
   have Hq:=Lib.hid hq
   have Hm:=Lib.hid hm
   clear hv hq hm heq
   go_wp2_with fail
   refine (zcm _ _ _ zs _ hzl.out.symm hown.rd (by have:=hzl.out;omega)).mono ?_
   intro e w2 hg
   rw [Hq.out] at hg
   obtain ⟨ao3,c3,zs3,rfl,h1,h2,h3,h4⟩:=hg.from hext
   go_wp2_with fail
   go_ret2
   exact ⟨ao3,c3,zs3,by rw [Hm.out];rfl,h1,h2,h3,h4⟩
  ·have hx:=(ha.ext hext).cell k (by omega)
   have hix:=ixk ha xs.length rfl k (by omega) wr
   have bx:=zat ha.lb k
   have hkz:k<zs.length:=by have:=hzl.out;omega
   have hiz:=ixk hown.rd xs.length hzl.out.symm k (by omega) wr
   have hxz:=hown.rd.cell k hkz
   have hf:=hown.frozen (by omega) k
   have hor:=zgf R (lim xs k) (by omega) bx
   have hq1:=by_lt (b:=b) hR bx
   have hm1:(R*4294967296+lim xs k) % b<b:=dA _ hb
   have hs:=by_step heq.out (by omega) hkz
   obtain ⟨H,hH⟩:∃ H,H=R*4294967296+lim xs k:=⟨_,rfl⟩
   rw [<- hH] at hor hq1 hm1 hs
   have bH:H<18446744073709551616:=by omega
   have htd:=tdiv_nat H b
   have htm:=tmod_nat H b
   obtain ⟨q,hq⟩:∃ q,q=H / b:=⟨_,rfl⟩
   obtain ⟨m,hm⟩:∃ m,m=H % b:=⟨_,rfl⟩
   rw [<- hq] at htd hq1 hs
   rw [<- hm] at htm hm1 hs
   have hnd:(H:Int) / (b:Int)=(q:Int):=by rw [hq];push_cast;rfl
   have hnm:(H:Int) % (b:Int)=(m:Int):=by rw [hm];push_cast;rfl
   clear hH hq hm
   go_wp2_with fail
   have hst:=hown.store k hkz (q:Int) q rfl hq1
   go_roundw
   case rel=>exact ⟨k,m,zs.set k q,by omega,by go_num,rfl,hm1,by unfold Hid;rw [bN];exact hzl.out,hst.1,hext.store (show w.heap.size<=w.heap.size by omega) _,hs⟩
   case measure=>simp [intOf]
def gSpec (top u2 first d2 g:Nat):Prop:=g<4294967296/\g*(first*4294967296+d2)<=top*4294967296+u2/\(top*4294967296+u2<(g+1)*(first*4294967296+d2)\/4294967296<=g+1)
def GueR (w:World) (top u2 first d2:Nat) (gu re:Value) (wr:World):Prop :=
  ∃ (g r:Nat),gu = .int .u64 g/\re = .int .u64 r/\g<=4294967297/\r<4294967296/\Hid (g=4294967297->r+first<4294967296)/\Hid (g*first+r=top) /\
    Hid (top*4294967296+u2<(g+1)*(first*4294967296+d2)\/4294967296<=g+1)/\Qt w wr
theorem gue_start {first un u1:Nat} (hf:2147483648<=first) (hf2:first<4294967296) (h2:u2<4294967296) (ht:top=un*4294967296+u1) (h1:u1<4294967296) (hu:un<=first) :
  top / first<=4294967297/\top % first<4294967296/\(top / first=4294967297->top % first+first<4294967296)/\top / first*first+top % first=top /\
   (top*4294967296+u2<(top / first+1)*(first*4294967296+d2)\/4294967296<=top / first+1):=by
 have h3:top / first*first+top % first=top:=by have:=eE top first;rw [bG] at this;exact this
 have h4:top % first<first:=dA _ (by omega)
 obtain ⟨g,hg⟩:∃ g,g=top / first:=⟨_,rfl⟩
 obtain ⟨r,hr⟩:∃ r,r=top % first:=⟨_,rfl⟩
 rw [<- hg,<- hr] at h3 ⊢
 rw [<- hr] at h4
 have h5:g<=4294967297:=by
  rcases cT 4294967297 g with h | h
  ·have:=bU first (show 4294967298<=g by omega)
   omega
  ·exact h
 refine ⟨h5,by omega,?_,h3,.inl ?_⟩
 ·intro e
  rw [e] at h3
  omega
 ·rw [bE,<- bF]
  have:(g+1)*first=g*first+first:=eG _ _
  omega
theorem gue_more {first g r:Nat} (hv:g*first+r=top) :
  g*(first*4294967296+d2)<=top*4294967296+u2 ↔ g*d2<=r*4294967296+u2:=by
 rw [bE,<- bF,<- hv,cH]
 omega
theorem gue_down {first g r:Nat} (hv:g*first+r=top) (hg:1<=g):(g - 1)*first+(r+first)=top:=by
 obtain ⟨h,rfl⟩:∃ h,g=h+1:=⟨g - 1,by omega⟩
 rw [eG] at hv
 simp only [fA]
 omega
theorem gue_break {first g r:Nat} (hv:g*first+r=top) (hg2:g<=4294967296) (hr:4294967296<=r) (hd:d2<4294967296):g*(first*4294967296+d2)<=top*4294967296+u2:=by
 rw [gue_more hv]
 have:=eC hg2 (show d2<=4294967295 by omega)
 omega
set_option maxHeartbeats 2000000 in
set_option maxRecDepth 40000 in
theorem guessed_any (ao:Option Addr) (m c:Nat) (us:List Nat) (bo:Option Addr) (n d:Nat) (ys:List Nat) (i1 i2:Nat) (w:World) (hm:m=us.length) (hn:n=ys.length) (h1:i1+1=n) (h2:i2+2=n) (hlen:n<m)
  (ha:Rd w ao c us) (hb:Rd w bo d ys) (hf:2147483648<=lim ys i1) (hu:lim us n<=lim ys i1) :
  Calls fT 129 #[.slice ao m c,.slice bo n d] w
   (fun e w'=>∃ g:Nat,e = .returned (.int .u64 g)/\gSpec (lim us n*4294967296+lim us i1) (lim us i2) (lim ys i1) (lim ys i2) g/\Qt w w'):=by
 have mA:=ha.mx
 have mB:=hb.mx
 have cA:=ha.cap
 have cB:=hb.cap
 have xun:=ixk ha m hm n hlen
 have xu1:=ixe ha m hm ((n:Int) - 1) i1 (by omega) (by omega)
 have xu2:=ixe ha m hm ((n:Int) - 2) i2 (by omega) (by omega)
 have xd1:=ixe hb n hn ((n:Int) - 1) i1 (by omega) (by omega)
 have xd2:=ixe hb n hn ((n:Int) - 2) i2 (by omega) (by omega)
 have kun:=fun wr (q:Qt w wr)=>(ha.ext q.ext).cell n (by omega)
 have ku1:=fun wr (q:Qt w wr)=>(ha.ext q.ext).cell i1 (by omega)
 have ku2:=fun wr (q:Qt w wr)=>(ha.ext q.ext).cell i2 (by omega)
 have kd1:=fun wr (q:Qt w wr)=>(hb.ext q.ext).cell i1 (by omega)
 have kd2:=fun wr (q:Qt w wr)=>(hb.ext q.ext).cell i2 (by omega)
 have bun:=zat ha.lb n
 have bu1:=zat ha.lb i1
 have bu2:=zat ha.lb i2
 have bd1:=zat hb.lb i1
 have bd2:=zat hb.lb i2
 have hbl:n<=9223372036854775807:=by omega
 have hn2:2<=n:=by omega
 clear hm hn h1 h2 hlen cA cB
 generalize lim us n=un at *
 generalize lim us i1=u1 at *
 generalize lim us i2=u2 at *
 generalize lim ys i1=first at *
 generalize lim ys i2=d2 at *
 have hor:=zgf un u1 bun bu1
 obtain ⟨top,htop⟩:∃ top,top=un*4294967296+u1:=⟨_,rfl⟩
 obtain ⟨s1,s2,s3,s4,s5⟩:=gue_start (u2:=u2) (d2:=d2) hf bd1 bu2 htop bu1 hu
 rw [<- htop] at hor ⊢
 have bT:top<18446744073709551616:=by omega
 have htd:=tdiv_nat top first
 have htm:=tmod_nat top first
 obtain ⟨q,hq⟩:∃ q,q=top / first:=⟨_,rfl⟩
 obtain ⟨r0,hr⟩:∃ r0,r0=top % first:=⟨_,rfl⟩
 rw [<- hq] at htd s1 s3 s4 s5
 rw [<- hr] at htm s2 s3 s4
 have hnd:(top:Int) / (first:Int)=(q:Int):=by rw [hq];push_cast;rfl
 have hnm:(top:Int) % (first:Int)=(r0:Int):=by rw [hr];push_cast;rfl
 have S3:=Lib.hid s3
 have S4:=Lib.hid s4
 have S5:=Lib.hid s5
 clear hq hr s3 s4 s5 htop
 go_enter Tryz.func129,Tryz.ntmps129
 have k0:=kun w (Qt.refl w)
 have k1:=ku1 w (Qt.refl w)
 have k3:=kd1 w (Qt.refl w)
 have wn1:IntKind.i64.wrap ((n:Int) - 1)=(n:Int) - 1:=IntWalk.i64_in _ (by omega)
 have wn2:IntKind.i64.wrap ((n:Int) - 2)=(n:Int) - 2:=IntWalk.i64_in _ (by omega)
 have wsh:IntKind.u64.wrap ((un:Int)*4294967296)=(un:Int)*4294967296:=by rw [IntKind.wrap_u64];omega
 go_wp2_with fail
 go_quiet (fail)
 have k4:=kd1 _ ((Qt.refl w).drewN nq)
 go_wp2_with fail
 have wq:IntKind.u64.wrap (q:Int)=(q:Int):=by rw [IntKind.wrap_u64];omega
 have wr0:IntKind.u64.wrap (r0:Int)=(r0:Int):=by rw [IntKind.wrap_u64];omega
 go_quiet (fail)
 go_wp2_with fail
 go_loopw [8,9] (GueR w top u2 first d2) (fun g _ _=>(intOf g).toNat)
 case atStart=>exact ⟨q,r0,rfl,rfl,s1,s2,S3,S4,S5,((Qt.refl w).drewN _).drewN _⟩
 case round =>
  obtain ⟨g,r,rfl,rfl,hg,hr,H3,H4,H5,hqt⟩:=hrel
  by_cases hbig:4294967296<=g
  ·have hd1:decide ((4294967296:Int)<=(g:Int))=true:=by simp;omega
   have hb1:(4294967296:Int)<=(g:Int):=by omega
   have hdn:=gue_down H4.out (by omega)
   have h6:top*4294967296+u2<(g - 1+1)*(first*4294967296+d2)\/4294967296<=g - 1+1:=.inr (by omega)
   by_cases hbr:4294967296<=r+first
   ·have h7:g<=4294967296:=by
     rcases cT 4294967296 g with h | h
     ·have:=H3.out (by omega);omega
     ·exact h
    have h8:=gue_break (u2:=u2) hdn (by omega) hbr bd2
    have F:=Lib.hid (show gSpec top u2 first d2 (g - 1) from ⟨by omega,h8,h6⟩)
    clear h6 h8 hdn H3 H4 H5
    have hbr1:(4294967296:Int)<=(r:Int)+(first:Int):=by omega
    go_wp2_with fail
    go_quiet (fail)
    go_wp2_with fail
    go_ret
    exact ⟨g - 1,by go_num,F.out,hqt.drewN _⟩
   ·have hbr1:decide ((4294967296:Int)<=(r:Int)+(first:Int))=false:=by simp;omega
    have Hd:=Lib.hid hdn
    have H6:=Lib.hid h6
    clear hdn h6 H3 H4 H5
    go_wp2_with fail
    go_quiet (fail)
    go_wp2_with fail
    go_roundw
    case rel=>exact ⟨g - 1,r+first,by go_num,by go_num,by omega,by omega,by unfold Hid;omega,Hd,H6,hqt.drewN _⟩
    case measure=>simp [intOf];try omega
  ·have hd1:decide ((4294967296:Int)<=(g:Int))=false:=by simp;omega
   have hb1:¬ (4294967296:Int)<=(g:Int):=by omega
   have k1:=kd2 _ hqt
   have k2:=ku2 _ hqt
   have hor:=zgf r u2 hr bu2
   have bp:=prod_lt (show g<4294967296 by omega) bd2
   have hmore:=gue_more (u2:=u2) (d2:=d2) H4.out
   obtain ⟨p,hp⟩:∃ p,p=g*d2:=⟨_,rfl⟩
   obtain ⟨R,hR⟩:∃ R,R=r*4294967296+u2:=⟨_,rfl⟩
   rw [<- hR] at hor hmore
   rw [<- hp] at bp hmore
   have bR:R<18446744073709551616:=by omega
   have hp':(g:Int)*(d2:Int)=(p:Int):=by rw [hp,eB]
   have wp':IntKind.u64.wrap (p:Int)=(p:Int):=by rw [IntKind.wrap_u64];omega
   have wsh2:IntKind.u64.wrap ((r:Int)*4294967296)=(r:Int)*4294967296:=by rw [IntKind.wrap_u64];omega
   clear hR
   by_cases hgt:R<p
   ·have hdn:=gue_down H4.out (by rcases g with _ | g;simp at hp;omega;omega)
    have h6:top*4294967296+u2<(g - 1+1)*(first*4294967296+d2)\/4294967296<=g - 1+1:=by
     rcases g with _ | g
     ·simp at hp;omega
     ·left
      simp only [fA]
      rcases cT (top*4294967296+u2) ((g+1)*(first*4294967296+d2)) with h | h
      ·exact h
      ·have:=hmore.1 h;omega
    have hg1:1<=g:=by rcases g with _ | g;simp at hp;omega;omega
    have hgt1:(R:Int)<(p:Int):=by omega
    have hgt2:decide ((R:Int)<(p:Int))=true:=by simp;omega
    by_cases hbr:4294967296<=r+first
    ·have h8:=gue_break (u2:=u2) hdn (by omega) hbr bd2
     have F:=Lib.hid (show gSpec top u2 first d2 (g - 1) from ⟨by omega,h8,h6⟩)
     clear h6 h8 hdn hmore H3 H4 H5 hp
     have hbr1:(4294967296:Int)<=(r:Int)+(first:Int):=by omega
     go_wp2_with fail
     go_quiet (fail)
     go_wp2_with fail
     go_ret
     exact ⟨g - 1,by go_num,F.out,hqt.drewN _⟩
    ·have hbr1:decide ((4294967296:Int)<=(r:Int)+(first:Int))=false:=by simp;omega
     have Hd:=Lib.hid hdn
     have H6:=Lib.hid h6
     clear hdn h6 hmore hp H3 H4 H5
     go_wp2_with fail
     go_quiet (fail)
     go_wp2_with fail
     go_roundw
     case rel=>exact ⟨g - 1,r+first,by go_num,by go_num,by omega,by omega,by unfold Hid;omega,Hd,H6,hqt.drewN _⟩
     case measure=>simp [intOf];try omega
   ·have F:=Lib.hid (show gSpec top u2 first d2 g from ⟨by omega,hmore.2 (by omega),H5.out⟩)
    clear hmore H3 H4 H5 hp
    have hgt1:¬ (R:Int)<(p:Int):=by omega
    have hgt2:decide ((R:Int)<(p:Int))=false:=by simp;omega
    go_wp2_with fail
    go_quiet (fail)
    go_wp2_with fail
    go_ret
    exact ⟨g,rfl,F.out,hqt.drewN _⟩
theorem zei (h:nV zs<pw k):vk zs k=nV zs:=by
 by_cases hk:k<=zs.length
 ·have h1:=zdr zs k hk
  rcases cM (nV (zs.drop k)) with h0 | h0
  ·rw [h0] at h1;omega
  ·have:=bP (pw k) h0
   omega
 ·exact zay (by omega)
theorem zet {t:Nat} (h:nV zs<pw k) (ht:k<=t):lim zs t=0:=by
 by_cases hk:t<zs.length
 ·have h1:=zei h
  have h2:vk zs (t+1)=nV zs:=zei (cJ h (zd2 (by omega)))
  have h3:vk zs t=nV zs:=zei (cJ h (zd2 ht))
  rw [zam,h3] at h2
  have h4:pw t*lim zs t=0:=by omega
  rcases Nat.mul_eq_zero.1 h4 with h5 | h5
  ·have:=ze9 t;omega
  ·exact h5
 ·exact zbe (by omega)
theorem lt_of_lims (hl:Lb zs) (h:∀ t,k<=t->lim zs t=0):nV zs<pw k:=by
 have h1:∀ j,vk zs (k+j)=vk zs k:=by
  intro j
  induction j with
  | zero=>rfl
  | succ j ih=>rw [<- cQ,zam,ih,h (k+j) (by omega)];simp
 have h2:=h1 zs.length
 rw [zay (by omega)] at h2
 rw [h2]
 exact vk_lt hl k
theorem guess_fits {us:List Nat} {i2 g:Nat} (hu:Lb us) (hy:Lb ys) (hn:n=ys.length) (h1:i1+1=n) (h2:i2+2=n) (hf:2147483648<=lim ys i1) (hT:nV us<nV ys*4294967296)
  (hg:gSpec (lim us n*4294967296+lim us i1) (lim us i2) (lim ys i1) (lim ys i2) g):nV us / nV ys<=g/\g<=nV us / nV ys+1:=by
 obtain rfl:i1=i2+1:=by omega
 obtain rfl:n=i2+2:=by omega
 obtain ⟨g1,g2,g3⟩:=hg
 have hyp:nV ys<pw (i2+2):=by rw [hn];exact zau hy
 have hT2:nV us<pw (i2+3):=by
  rw [zai]
  have:=bP 4294967296 (Nat.le_of_lt hyp)
  omega
 have eU:=zei hT2
 have eY:=zei hyp
 rw [zam,zam,zam,zai (i2+1),zai i2] at eU
 rw [zam,zam,zai i2] at eY
 have hlo:=vk_lt hu i2
 have hdl:=vk_lt hy i2
 generalize vk us i2=lo at *
 generalize vk ys i2=dl at *
 generalize pw i2=P at *
 generalize lim us (i2+2)=un at *
 generalize lim us (i2+1)=u1 at *
 generalize lim us i2=u2 at *
 generalize lim ys (i2+1)=first at *
 generalize lim ys i2=d2 at *
 obtain ⟨U3,hU3⟩:∃ U3,U3=(un*4294967296+u1)*4294967296+u2:=⟨_,rfl⟩
 obtain ⟨V,hV⟩:∃ V,V=first*4294967296+d2:=⟨_,rfl⟩
 rw [<- hU3,<- hV] at g2 g3
 have eT:nV us=lo+P*U3:=by
  rw [<- eU,hU3]
  have e1:P*((un*4294967296+u1)*4294967296+u2)=P*u2+4294967296*(P*u1)+4294967296*(4294967296*(P*un)):=by
   rw [bE,cH,bE,<- bF P u1,<- bF P (un*4294967296),<- bF P un]
   omega
  rw [e1,bF 4294967296 P u1,bF 4294967296 (4294967296*P) un,bF 4294967296 P un]
  omega
 have eD:nV ys=dl+P*V:=by
  rw [<- eY,hV,bE,<- bF P first,bF 4294967296 P first]
  omega
 have hVb:4294967296<=V:=by omega
 have hP:0<P:=by omega
 have hD:0<nV ys:=by
  have:=eC hP hVb
  omega
 constructor
 ·refine Nat.le_of_lt_succ (Nat.div_lt_of_lt_mul ?_)
  rcases g3 with h | h
  ·have e1:=bP P (dP h)
   have e2:P*((g+1)*V)<=(g+1)*nV ys:=by
    rw [cZ]
    exact bP _ (by omega)
   have e3:P*(U3+1)=P*U3+P:=dQ _ _
   rw [bG (nV ys)]
   simp only [Nat.succ_eq_add_one] at *
   omega
  ·have:=bP (nV ys) h
   simp only [Nat.succ_eq_add_one]
   omega
 ·rcases g with _ | h
  ·exact bK _
  ·refine Nat.succ_le_succ ((Nat.le_div_iff_mul_le hD).2 ?_)
   have e1:=bP P g2
   rw [eG,bE] at e1
   have e2:h*nV ys=h*dl+P*(h*V):=by rw [eD,bE,cZ]
   have e3:h*dl<=4294967296*P:=eC (by omega) (by omega)
   have e4:=bP P hVb
   rw [bG P 4294967296] at e4
   omega
theorem top_le {us:List Nat} (hy:Lb ys) (hn:n=ys.length) (h1:i1+1=n) (hT:nV us<nV ys*4294967296):lim us n<=lim ys i1:=by
 subst h1
 have eY:vk ys (i1+1)=nV ys:=by rw [hn];exact zay (bI _)
 rw [zam] at eY
 have hdl:=vk_lt hy i1
 have h3:pw (i1+1)*lim us (i1+1)<=nV us:=by
  by_cases hk:i1+1<us.length
  ·have h5:=zdr us (i1+1+1) (by omega)
   rw [zam] at h5
   omega
  ·rw [zbe (by omega)];simp
 rcases cT (lim ys i1) (lim us (i1+1)) with h | h
 ·have e1:=bP (pw (i1+1)) (dP h)
  rw [zai] at e1 h3
  have e2:4294967296*pw i1*(lim ys i1).succ=4294967296*(pw i1*lim ys i1)+4294967296*pw i1:=by rw [dQ,bF]
  omega
 ·exact h
theorem took {g:Nat} (hz:Lb zs) (hk:k<=zs.length) (hT:nV zs<nV ys*pw (k+1)) (hg:nV (zs.drop k) / nV ys<=g/\g<=nV (zs.drop k) / nV ys+1)
  (hv:nV zs1+pw k*(g*nV ys)=nV zs):nV zs1<nV ys*pw k:=by
 have h1:=zdr zs k hk
 have h2:=vk_lt hz k
 have hD:0<nV ys:=by
  rcases cM (nV ys) with h | h
  ·rw [h] at hT;omega
  ·exact h
 generalize nV (zs.drop k)=T at *
 have h3:T<(T / nV ys+1)*nV ys:=by
  have:=Nat.lt_div_mul_add (a:=T) hD
  rw [cH,Nat.one_mul];exact this
 have h4:T<(g+1)*nV ys:=cJ h3 (bU _ (by omega))
 have h5:=bP (pw k) (dP h4)
 rw [cH,Nat.one_mul,bE] at h5
 have h6:pw k*T.succ=pw k*T+pw k:=dQ _ _
 rw [bG (nV ys)]
 omega
theorem take_zero {g:Nat} (hz:Lb zs) (hz1:Lb zs1) (hk:k<=zs.length) (hy:Lb ys) (hT:nV zs<nV ys*pw (k+1))
  (hg:nV (zs.drop k) / nV ys<=g/\g<=nV (zs.drop k) / nV ys+1) (hlim:∀ t,k+ys.length<t->lim zs1 t=lim zs t)
  (hv:nV zs1+pw k*(g*nV ys)=nV zs+pw (k+(ys.length+1))):nV zs1<pw (k+(ys.length+1))/\1<=g/\g - 1=nV (zs.drop k) / nV ys/\pw k*((g - 1)*nV ys)<=nV zs:=by
 have h0:nV zs<pw (k+(ys.length+1)):=by
  have e:pw (k+(ys.length+1))=pw ys.length*pw (k+1):=by rw [<- ze6];congr 1;omega
  rw [e]
  exact cJ hT (bU _ (Nat.le_of_lt (zau hy)))
 have hD:0<nV ys:=by
  rcases cM (nV ys) with h | h
  ·rw [h] at hT;omega
  ·exact h
 have hz2:nV zs1<pw (k+(ys.length+1)):=lt_of_lims hz1 (fun t ht=>by rw [hlim t (by omega)];exact zet h0 ht)
 have h1:=zdr zs k hk
 have h2:=vk_lt hz k
 generalize nV (zs.drop k)=T at *
 have h3:T<g*nV ys:=by
  rcases cT T (g*nV ys) with h | h
  ·exact h
  ·have:=bP (pw k) h
   omega
 have h4:T / nV ys<g:=(eZ hD).2 h3
 have h6:=bP (pw k) (Nat.div_mul_le_self T (nV ys))
 generalize T / nV ys=q at *
 have h5:g - 1=q:=by have:=hg.2;omega
 refine ⟨hz2,by omega,h5,?_⟩
 rw [h5]
 omega
theorem put_val {zs2:List Nat} {g:Nat} (hx:x<=1) (hg:1<=g)
  (hv:nV zs1+pw k*(g*nV ys)=nV zs+pw (k+(ys.length+1))) (hle:pw k*((g - 1)*nV ys)<=nV zs) (h2:nV zs2<pw (k+(ys.length+1)))
  (hp:nV zs2+pw (k+(ys.length+1))*x=nV zs1+pw k*nV ys):nV zs2+pw k*((g - 1)*nV ys)=nV zs:=by
 obtain ⟨h,rfl⟩:∃ h,g=h+1:=⟨g - 1,by omega⟩
 rw [fA] at hle ⊢
 rw [eG,bE] at hv
 rcases x with _ | x
 ·omega
 ·obtain rfl:x=0:=by omega
  omega
theorem undInt:Tryz.prog.underlying 3=some (.int .i64):=Tryz.underlying3
theorem zeroCells32 (n:Nat):Builtin.zeroCells (Value.int .u32 0).cells n=((List.replicate n 0).map fun (x:Nat)=>Value.int .u32 (x:Int)).toArray:=by
 unfold Builtin.zeroCells
 apply Array.ext
 ·simp [Value.cells]
 ·intro i h1 h2
  simp [Value.cells,Nat.mod_one]
theorem cells32:(Value.int .u32 0).cells=#[Value.int .u32 0]:=rfl
section
variable (w:World) (ty:TypeId) (L:Nat)
theorem app_room (g n cap:Nat) (cur:Array Value) (hg:w.heap[g]?=some (.cells cur 79 (0,0))) (hL:L<=4294967296) (hroom:n+L<=cap) (hfit:n+L<=cur.size) :
  (Builtin.append_ #[31,3] ty #[.slice (some ⟨g,0,none⟩) n cap,.int .i64 (L:Int)]).run fT w =
   .ok (.slice (some ⟨g,0,none⟩) (n+L) cap) (w.setRow g (cur.toList.take n++((List.replicate L 0).map fun (x:Nat)=>Value.int .u32 (x:Int))++cur.toList.drop (n+L)).toArray):=by
 obtain ⟨i0,hi,hz0,hz1,hz2⟩:=info_parts zgw
 have wl:IntKind.i64.wrap (L:Int)=(L:Int):=by rw [IntKind.wrap_i64];omega
 have c1:¬ ((L:Int)<0):=by omega
 have c2:¬ (281474976710656<(L:Int)*4):=by omega
 have hst:=run_storeCells_at fT g n 79 ((List.replicate L 0).map fun (x:Nat)=>Value.int .u32 (x:Int)) 0 cur w hg (by simpa using hfit) (fun u hu=>by simp at hu;obtain ⟨_,rfl⟩:=hu;rfl)
 simp only [dO] at hst
 rcases cM L with h0 | hp
 ·subst h0
  have w0:IntKind.i64.wrap 0=0:=by decide
  simp [Builtin.append_,run_underlying und,run_underlying undInt,sizeOf,typeInfo,hi,hz1,hz2,asInt,asIntOf,w0]
  have hn:n<=cap:=by omega
  simp at hst
  simp [hn,storeCells] at hst ⊢
  exact hst
 ·have hp':¬ L=0:=by omega
  simp [Builtin.append_,run_underlying und,run_underlying undInt,sizeOf,typeInfo,zeroValue,hi,hz0,hz1,hz2,asInt,asIntOf,wl,c1,c2,hroom,hp', zeroCells32,Addr.add_lit]
  simp at hst
  simp [hst]
theorem app_grow (ao:Option Addr) (n cap:Nat) (olds:List Value) (hao:ao=none->n=0) (hlo:olds.length=n) (holds:∀ b,ao=some b->∀ j v,olds[j]?=some v->w.cell? (b.add j)=some v)
  (hL:L<=4294967296) (hn:n<=4294967296) (hg:cap<n+L) :
  (Builtin.append_ #[31,3] ty #[.slice ao n cap,.int .i64 (L:Int)]).run fT w =
   .ok (.slice (some ⟨w.heap.size,0,none⟩) (n+L) (grownCap w (n+L) cap 79))
    (w.drew.alloc (.cells (olds.toArray++((List.replicate L 0).map fun (x:Nat)=>Value.int .u32 (x:Int)).toArray++Builtin.zeroCells (Value.int .u32 0).cells (grownCap w (n+L) cap 79 - (n+L))) 79)):=by
 obtain ⟨i0,hi,hz0,hz1,hz2⟩:=info_parts zgw
 have wl:IntKind.i64.wrap (L:Int)=(L:Int):=by rw [IntKind.wrap_i64];omega
 have c1:¬ ((L:Int)<0):=by omega
 have c2:¬ (281474976710656<(L:Int)*4):=by omega
 have c3:¬ (n+L<=cap):=by omega
 have c4:¬ (9223372036854775807<((n:Int)+(L:Int))):=by omega
 have c5:¬ (281474976710656<Builtin.nextslicecap (n+L) cap*4):=by
  have:=growslice_fits (need:=n+L) (old:=cap) (bytes:=4) (by omega) (by omega)
  omega
 have hf:(Builtin.firstCells 1 n (.slice ao n cap)).run fT w.drew = .ok olds.toArray w.drew:=by
  rcases ao with _ | b
  ·have:olds=[]:=dM.1 (by rw [hlo];exact hao rfl)
   subst this
   simp [Builtin.firstCells,Sem.run_pure]
  ·exact run_firstCells_some (P:=fT) w.drew 1 n b n cap olds (by simpa using hlo) (by simpa using holds b rfl)
 by_cases hL0:L=0
 ·subst hL0
  have w0:IntKind.i64.wrap 0=0:=by decide
  simp [Builtin.append_,run_underlying und,run_underlying undInt,sizeOf,typeInfo,zeroValue,hi,hz0,hz1,hz2,asInt,asIntOf,w0] 
  have c3':¬ (n<=cap):=by omega
  have c4':¬ (9223372036854775807<(n:Int)):=by omega
  simp at c5
  simp [c3', c4', Question.forced,hf,newRow,grownCap]
  omega
 ·simp [Builtin.append_,run_underlying und,run_underlying undInt,sizeOf,typeInfo,zeroValue,hi,hz0,hz1,hz2,asInt,asIntOf,wl,c1,c2,c3,c4,c5,hL0,Question.forced,hf,newRow,grownCap,zeroCells32]
end
theorem pushZ {wi w:World} {ops:Array Oper} {rest:List Oper} {o:Oper} {a:Act} {Q:Exit->Act->World->Prop} (hgd:o.guard=none) (s x:Operand)
  (ho:o.op = .call { callee:=.builtin .append,args:=#[s,x],argTypes:=#[31,3] })
  (ao:Option Addr) (c:Nat) (zs:List Nat) (n:Nat) (hn:n=zs.length) (hs:a.eval s = .slice ao n c) (hown:Own w B ao c zs)
  (E:Int) (hx:a.eval x = .int .i64 E) (hE:0<=E) (hlen:(zs.length:Int)+E<=4294967296) (hB:wi.heap.size<=B) (hext:Ext wi w) (hBw:B<=w.heap.size)
  (h:∀ ao' c' w', Own w' B ao' c' (zs++List.replicate E.toNat 0)->Ext wi w'->w.grownBy w' (Value.slice ao zs.length c).ownBlock->wpList fT ops Q rest (a.put o.dst (.slice ao' (zs.length+E.toNat) c')) w') :
  wpList fT ops Q (o :: rest) a w:=by
 subst hn
 obtain ⟨L,rfl⟩:=fC hE
 have hll:(zs++List.replicate L 0).length=zs.length+L:=by simp
 have hlb:Lb (zs++List.replicate L 0):=Lb_append hown.lb (fun z hz=>by have:=List.eq_of_mem_replicate hz;omega)
 have key:∃ ao' c' w', (Builtin.append_ #[31,3] o.type #[.slice ao zs.length c,.int .i64 (L:Int)]).run fT w = .ok (.slice ao' (zs.length+L) c') w'/\Own w' B ao' c' (zs++List.replicate L 0)/\w.grownBy w' (Value.slice ao zs.length c).ownBlock:=by
  by_cases hroom:zs.length+L<=c/\ao≠none
  ·obtain ⟨hroom,hne⟩:=hroom
   rcases hown.row.2 with ⟨hv,hn⟩ | ⟨g,cap,cur,hv,hb,hg,hnc,hcm,hcs,htake⟩
   ·simp at hv;exact absurd hv.1 hne
   ·simp only [Value.slice.injEq,true_and] at hv
    obtain ⟨rfl,rfl⟩:=hv
    have hcu:cur.toList.length=cur.size:=rfl
    have hz1:((List.replicate L 0).map fun (x:Nat)=>Value.int .u32 (x:Int)).length=L:=by simp
    generalize hzz:((List.replicate L 0).map fun (x:Nat)=>Value.int .u32 (x:Int))=zz at hz1
    have har:=app_room w o.type L g zs.length c cur hg (by omega) hroom (by rw [hcs];omega)
    rw [hzz] at har
    refine ⟨_,_,_,har,⟨hlb,by simp,.inr ⟨g,c,_,by rw [hll],hb,setRow_heap w g cur _ _ _ hg,by omega,hcm,?_,?_⟩⟩,⟨rfl,rfl,rfl,by simp,fun k _ hk=>setRow_other w g k _ (fun e=>hk (by simp [Value.ownBlock,e]))⟩⟩
    ·rw [List.size_toArray,bC,bC,cG,cK,hz1,hcu]
     omega
    ·simp only [dL] at htake
     rw [hll,dL,eO,hzz,htake]
     have h1:(zs.map fun (x:Nat)=>Value.int .u32 (x:Int)).length=zs.length:=by simp
     show List.take (zs.length+L) ((zs.map fun (x:Nat)=>Value.int .u32 (x:Int))++zz++List.drop (zs.length+L) cur.toList)=_
     rw [fP (by rw [bC,h1,hz1];omega),fD (by rw [bC,h1,hz1];omega)]
  ·have hgrow:c<zs.length+L\/(ao=none/\L=0):=by
    by_cases hc:c<zs.length+L
    ·exact .inl hc
    ·right
     have hnone:ao=none:=by
      cases ao with
      | none=>rfl
      | some a=>exact absurd ⟨by omega,by simp⟩ hroom
     have:=hown.rd.nl hnone
     exact ⟨hnone,by omega⟩
   rcases hgrow with hc | ⟨rfl,rfl⟩
   ·have hge:=grownCap_ge w (zs.length+L) c 79
    have hle:=grownCap_le_maxLen w (zs.length+L) c 79 (by unfold maxLen;omega)
    refine ⟨_,_,_,app_grow w o.type L ao zs.length c (zs.map fun (x:Nat)=>Value.int .u32 (x:Int)) ?_ (by simp) ?_ (by omega) (by omega) hc,⟨hlb,by simp,.inr ⟨w.heap.size,_,_,by rw [hll],hBw,heap_alloc_new w.drew _,by omega,hle,?_,?_⟩⟩,⟨rfl,rfl,rfl,by simp,fun k hk _=>heap_alloc_old w.drew _ (by simpa using hk)⟩⟩
    ·intro e
     rcases cM zs.length with h0 | hp
     ·exact h0
     ·have:=hown.rd.ad hp
      rw [e] at this;simp at this
    ·intro b hb j v hj
     have hlt:j<zs.length:=by have:=(cE.1 hj).1;simpa using this
     rw [eW,zbj hlt] at hj
     simp at hj
     subst hj
     have h0:=hown.rd.cell j hlt
     have h1:=hown.rd.ad (by omega)
     rw [hb] at h0 h1
     simp only [bk,of,Option.some.injEq] at h0 h1
     have h2:b.add j=⟨b.block,b.off+j,none⟩:=by
      unfold Addr.add
      split
      ·subst_vars;exact h1
      ·rfl
     rw [h2];exact h0
    ·simp [size_zeroCells,cells32]
     omega
    ·rw [hll,dL]
     simp only [fN,eO]
     rw [fP (by simp)]
     rw [fD (by simp)]
   ·have hz:=hown.rd.ad
    have e1:zs=[]:=by
     rcases cM zs.length with h0 | hp
     ·exact dM.1 h0
     ·have:=hz hp;simp at this
    subst e1
    have ec:=hown.rd.nl rfl
    subst ec
    obtain ⟨i0,hi,hz0,hz1,hz2⟩:=info_parts zgw
    have w0:IntKind.i64.wrap 0=0:=by decide
    refine ⟨none,0,w,?_,Own.nil _ _,World.grownBy.refl _ _⟩
    simp [Builtin.append_,run_underlying und,run_underlying undInt,sizeOf,typeInfo,hi,hz2,asInt,asIntOf,w0]
 obtain ⟨ao', c', w', hrun,hown', hg'⟩:=key
 refine wpList_plain hgd fun K hK=>?_
 unfold Oper.wp
 simp [execOp,ho,resolve,invoke,builtin,hs,hx,hrun,Result.andThen]
 refine hK _ _ (h ao' c' w' hown' (hext.grown hg' (fun k hk=>by have:=(hown.lt k hk).1;omega)) hg')
theorem vd_div {xs:List Nat} (hx:Lb xs) (k:Nat):nV xs / pw k=vd xs k:=by
 by_cases h:k<=xs.length
 ·have h1:=zdr xs k h
  have h2:=vk_lt hx k
  rw [h1,fE _ _ (ze9 k),dN h2,cF]
  rfl
 ·rw [vd_end (by omega)]
  exact dN (cJ (zau hx) (zd2 (by omega)))
theorem mod_step (Q k:Nat):Q % pw (k+1)=Q % pw k+pw k*(Q / pw k % 4294967296):=by
 rw [zai,bG 4294967296,Nat.mod_mul]
theorem right_limb {xs:List Nat} (hx:Lb xs) (r k:Nat) (hr:r<32):nV xs / 2 ^ r / pw k % 4294967296=(lim xs (k+1)*4294967296+lim xs k) / 2 ^ r % 4294967296:=by
 rw [fF,bG,<- fF,vd_div hx]
 have e:∀ j,vd xs j=lim xs j+4294967296*vd xs (j+1):=by
  intro j
  by_cases h:j<xs.length
  ·exact vd_step h
  ·rw [vd_end (by omega),vd_end (by omega),zbe (by omega)]
 have h32:(4294967296:Nat)=2 ^ r*2 ^ (32 - r):=by
  rw [<- dJ]
  have:r+(32 - r)=32:=by omega
  rw [this]
 have h1:vd xs k=(lim xs (k+1)*4294967296+lim xs k)+2 ^ r*(2 ^ (32 - r)*4294967296*vd xs (k+1+1)):=by
  rw [e k,e (k+1),<- bF,<- bF (2 ^ r),<- h32,bE,<- bF]
  omega
 rw [h1,fE _ _ (dH r)]
 rw [show 2 ^ (32 - r)*4294967296*vd xs (k+1+1)=4294967296*(2 ^ (32 - r)*vd xs (k+1+1)) by rw [bG (2 ^ (32 - r)),bF],fQ]
theorem Own.capEq {w:World} {c c':Nat} (h:Own w B ao c zs) (e:c=c'):Own w B ao c' zs:=e ▸ h
def RightR (w:World) (xs:List Nat) (q r:Nat) (out i:Value) (wr:World):Prop :=
  ∃ (j:Nat) (po:Option Addr) (pc:Nat) (zs:List Nat),q<=j/\j<=xs.length/\i = .int .i64 j/\out = .slice po zs.length pc/\Hid (q+zs.length=j)/\Own wr w.heap.size po pc zs/\Ext w wr /\
    Hid (nV zs=nV (xs.drop q) / 2 ^ r % pw zs.length)
theorem right_val {xs:List Nat} (hx:Lb xs) {q r:Nat} (hq:q=K / 32) (hr:r=K % 32):nV xs / 2 ^ K=nV (xs.drop q) / 2 ^ r:=by
 have h1:nV (xs.drop q)=nV xs / pw q:=(vd_div hx q).symm
 have h2:2 ^ K=pw q*2 ^ r:=by
  unfold pw
  rw [show (4294967296:Nat)=2 ^ 32 from rfl,<- Nat.pow_mul,<- dJ];congr 1;omega
 rw [h1,h2,fF]
set_option maxHeartbeats 2000000 in
theorem Right_max (ao:Option Addr) (n c:Nat) (xs:List Nat) (E:Int) (K:Nat) (w:World) (hn:n=xs.length) (hE:max E 0=(K:Int)) (hE2:K<9223372036854775808) (ha:Rd w ao c xs) (hl:xs.length<=1000000) :
  Calls fT 132 #[.slice ao n c,.int .i64 E] w (GotN w (nV xs / 2 ^ K)):=by
 subst hn
 have hA:=ha.trm
 have lA:=ze5 xs
 have mA:=hA.mx
 have cA:=hA.cap
 rw [<- zbn xs]
 obtain ⟨q,hq⟩:∃ q,q=K / 32:=⟨_,rfl⟩
 obtain ⟨r,hr⟩:∃ r,r=K % 32:=⟨_,rfl⟩
 have hq1:(K:Int) / 32=(q:Int):=by omega
 have hr1:(K:Int) % 32=(r:Int):=by omega
 have hqb:q<9223372036854775808:=by omega
 have hrb:r<32:=by omega
 have hv:=right_val hA.lb hq hr
 have Hv:=Lib.hid hv
 have hK0:¬ (K:Int)<0:=by omega
 clear hv hq hr
 by_cases hql:q<(trm xs).length
 ·go_enter Tryz.func132,Tryz.ntmps132
  go_wp2_with fail
  refine (zah ao _ c xs w rfl ha).mono ?_
  rintro e w' ⟨rfl,rfl⟩
  go_wp2_with (at_make;refine mk0 rfl _ _ rfl _ _ _ rfl rfl ?_ ?_ (Ext.refl w) ?_;omega;omega;intro w1 hown hext)
  go_loopw [7,8] (RightR w (trm xs) q r) (fun _ i _=>((trm xs).length - intOf i).toNat)
  case atStart=>exact ⟨q,_,_,[],by omega,by omega,rfl,rfl,rfl,hown.capEq (by omega),hext,by unfold Hid;simp [nV,pw,Nat.mod_one]⟩
  case round =>
   obtain ⟨j,po,pc,zs,hqj,hk,rfl,rfl,hzl,hown,hext,heq⟩:=hrel
   have hzb:zs.length<=1100000:=by have:=hzl.out;omega
   by_cases hkA:j<(trm xs).length
   ·have hx:=(hA.ext hext).cell j hkA
    have hix:=ixk hA (trm xs).length rfl j hkA wr
    have bx:=zat hA.lb j
    have bx2:=zat hA.lb (j+1)
    have hrl:=right_limb (Lb_drop hA.lb q) r zs.length hrb
    rw [zhg,zhg,<- cQ,hzl.out] at hrl
    have hor:=zgf (lim (trm xs) (j+1)) (lim (trm xs) j) bx2 bx
    have hor0:=zgf 0 (lim (trm xs) j) (by omega) bx
    have hst:nV (zs++[(lim (trm xs) (j+1)*4294967296+lim (trm xs) j) / 2 ^ r % 4294967296])=nV ((trm xs).drop q) / 2 ^ r % pw (zs.length+1):=by
     rw [zcr,mod_step,heq.out,hrl]
    have Hst:=Lib.hid hst
    obtain ⟨H,hH⟩:∃ H,H=lim (trm xs) (j+1)*4294967296+lim (trm xs) j:=⟨_,rfl⟩
    have hHb:H<18446744073709551616:=by omega
    obtain ⟨G,hG⟩:∃ G,G=H / 2 ^ r:=⟨_,rfl⟩
    have hGb:G<18446744073709551616:=by rw [hG];exact dR (eH _ _) hHb
    have hG1:(H:Int) / 2 ^ r=(G:Int):=by rw [hG,Int.natCast_ediv,Int.natCast_pow];rfl
    rw [<- hH] at hor Hst
    rw [<- hG] at Hst
    clear hst hrl heq hG
    by_cases hkB:j+1<(trm xs).length
    ·have hx2:=(hA.ext hext).cell (j+1) hkB
     have hix2:=ixe hA (trm xs).length rfl ((j:Int)+1) (j+1) (by omega) hkB wr
     clear hor0 hH
     go_wp2_with (at_builtin;refine push (wi:=w) rfl _ _ rfl _ _ zs _ rfl rfl hown _ ?_ ?_ rfl ?_ rfl hext ?_;omega;omega;omega;intro ao' c' w2 hown2 hext2)
     go_roundw
     case rel=>exact ⟨j+1,ao', c', zs++[G % 4294967296],by omega,by omega,by go_num,by simp,by unfold Hid;have:=hzl.out;simp;omega,hown2.snocEq (by omega),hext2,by unfold Hid;rw [bC];exact Hst.out⟩
     case measure=>simp [intOf];try omega
    ·have hl0:lim (trm xs) (j+1)=0:=zbe (by omega)
     rw [hl0] at hH
     have hH2:H=lim (trm xs) j:=by omega
     rw [<- hH2] at hx bx
     clear hH hor hor0 hl0 hH2 bx2
     have hor1:bits BinOp.or .u64 0 (H:Int)=(H:Int):=by have:=zgf 0 H (by omega) bx;simpa using this
     go_wp2_with (at_builtin;refine push (wi:=w) rfl _ _ rfl _ _ zs _ rfl rfl hown _ ?_ ?_ rfl ?_ rfl hext ?_;omega;omega;omega;intro ao' c' w2 hown2 hext2)
     go_roundw
     case rel=>exact ⟨j+1,ao', c', zs++[G % 4294967296],by omega,by omega,by go_num,by simp,by unfold Hid;have:=hzl.out;simp;omega,hown2.snocEq (by omega),hext2,by unfold Hid;rw [bC];exact Hst.out⟩
     case measure=>simp [intOf];try omega
   ·have hv:nV zs=nV (trm xs) / 2 ^ K:=by
     rw [heq.out,Hv.out]
     apply eF
     refine dR (eH _ _) (zas (Lb_drop hA.lb q) ?_)
     have:=hzl.out
     rw [cK];omega
    have HV:=Lib.hid hv
    clear hv heq
    go_wp2_with fail
    refine (zcm _ _ _ _ _ rfl hown.rd (by omega)).mono ?_
    intro e w' hg
    rw [HV.out] at hg
    obtain ⟨ao3,c3,zs3,rfl,h3⟩:=hg.from hext
    go_wp2_with fail
    go_ret
    exact ⟨ao3,c3,zs3,rfl,h3⟩
 ·have hv:nV (trm xs) / 2 ^ K=0:=by
   rw [Hv.out,List.drop_eq_nil_of_le (by omega)];simp [nV]
  rw [hv]
  clear hv
  go_enter Tryz.func132,Tryz.ntmps132
  go_wp2_with fail
  refine (zah ao _ c xs w rfl ha).mono ?_
  rintro e w' ⟨rfl,rfl⟩
  go_wp2_with fail
  go_ret
  exact ⟨none,0,[],rfl,Own.nil _ _,zbw,rfl,Ext.refl _⟩
theorem Right_any (ao:Option Addr) (n c:Nat) (xs:List Nat) (E:Int) (K:Nat) (w:World) (hn:n=xs.length) (hE:E=(K:Int)) (hE2:K<9223372036854775808) (ha:Rd w ao c xs) (hl:xs.length<=1000000) :
  Calls fT 132 #[.slice ao n c,.int .i64 E] w (GotN w (nV xs / 2 ^ K)):=Right_max ao n c xs E K w hn (by omega) hE2 ha hl
theorem Own.at0 {w:World} {c:Nat} (h:Own w B ao c zs) (hp:0<zs.length):∃ g,ao=some ⟨g,0,none⟩/\B<=g/\g<w.heap.size:=by
 obtain ⟨h1,h2,h3,h4⟩:=h.blk hp
 exact ⟨_,h4,h1,h2⟩
theorem ownB_ne {g h c:Nat} (hne:h≠g):(Value.slice (some ⟨h,0,none⟩) n c).ownBlock≠some g:=by simpa [Value.ownBlock] using hne
theorem norm_len {ds:List Nat} (hy:Lb ys) (hn:n=ys.length) (h1:i1+1=n) (hx:x=lim ys i1) (h0:x≠0) (hd:zbt ds) (hv:nV ds=nV ys*2 ^ (32 - bl x)) :
  ds.length=n/\2147483648<=lim ds i1:=by
 subst h1
 have bx:x<4294967296:=by rw [hx];exact zat hy _
 obtain ⟨b1,b2,b3,b4⟩:=bl_spec h0 bx
 have eY:vk ys (i1+1)=nV ys:=by rw [hn];exact zay (bI _)
 rw [zam,<- hx] at eY
 have hl:=vk_lt hy i1
 obtain ⟨s,hs⟩:∃ s,s=32 - bl x:=⟨_,rfl⟩
 rw [<- hs] at hv
 have e31:2 ^ (bl x - 1)*2 ^ s=2147483648:=by rw [<- dJ,show bl x - 1+s=31 by omega]
 have e32:2 ^ bl x*2 ^ s=4294967296:=by rw [<- dJ,show bl x+s=32 by omega]
 have lo:2147483648*pw i1<=nV ds:=by
  rw [hv,<- e31,Nat.mul_right_comm]
  refine bU _ ?_
  have:=bP (pw i1) b3
  rw [bG]
  omega
 have hi:nV ds<pw (i1+1):=by
  rw [zai,hv,<- e32,Nat.mul_right_comm]
  refine Nat.mul_lt_mul_of_pos_right ?_ (dH s)
  have:=bP (pw i1) (dP b4)
  rw [dQ] at this
  rw [bG (2 ^ bl x)]
  omega
 have hlen:ds.length=i1+1:=by
  have h1:=zaq hd hi
  rcases cT ds.length (i1+1) with h | h
  ·have h2:=zas hd.1 (show ds.length<=i1 by omega)
   have:=ze9 i1
   omega
  ·omega
 refine ⟨hlen,?_⟩
 have eD:vk ds (i1+1)=nV ds:=zay (by omega)
 rw [zam] at eD
 have hl2:=vk_lt hd.1 i1
 rcases cT (lim ds i1) 2147483648 with h | h
 ·have:=bP (pw i1) (dP h)
  rw [dQ] at this
  rw [bG] at lo
  omega
 ·exact h
def LongR (w1 w3:World) (g uc gq qc N U:Nat) (ds:List Nat) (k:Value) (wr:World):Prop :=
  ∃ (j:Nat) (zs qs:List Nat),k = .int .i64 ((j:Int) - 1)/\j+ds.length<=N/\Hid (zs.length=N)/\Hid (qs.length+ds.length=N)/\Own wr w1.heap.size (some ⟨g,0,none⟩) uc zs/\Own wr w3.heap.size (some ⟨gq,0,none⟩) qc qs/\Ext w1 wr /\
    Hid (nV zs+nV ds*nV qs=U)/\Hid (nV zs<nV ds*pw j)/\Hid (∀ t,t<j->lim qs t=0)
def Got2 (w:World) (p r:Nat) (e:Ending) (w':World):Prop :=
  ∃ ao c xs bo d ys,e = .returned (.tuple #[.slice ao xs.length c,.slice bo ys.length d])/\Own w' w.heap.size ao c xs/\zbt xs/\nV xs=p/\Own w' w.heap.size bo d ys/\zbt ys/\nV ys=r/\Ext w w'
theorem quot_step {z1:List Nat} {g D U:Nat} (hq:lim qs k=0) (hk:k<qs.length) (hv:nV z1+pw k*(g*D)=nV zs) (hu:nV zs+D*nV qs=U):Hid (nV z1+D*nV (qs.set k g)=U):=by
 unfold Hid
 have h1:=zez (y:=g) hk
 rw [hq,Nat.mul_zero,dO] at h1
 rw [h1,bE,<- hu,<- hv]
 have:D*(pw k*g)=pw k*(g*D):=by rw [cZ,bG D]
 omega
theorem quot_end {z q X Y P:Nat} (hP:0<P) (hv:z+(Y*P)*q=X*P) (hz:z<Y*P):q=X / Y/\z / P=X % Y:=by
 have hYP:0<Y*P:=by omega
 have h1:X*P / (Y*P)=q:=by rw [<- hv,fE _ _ hYP,dN hz,cF]
 have h2:X*P % (Y*P)=z:=by rw [<- hv,fQ,eF hz]
 rw [Nat.mul_div_mul_right _ _ hP] at h1
 rw [Nat.mul_mod_mul_right] at h2
 exact ⟨h1.symm,by rw [<- h2,Nat.mul_div_cancel _ hP]⟩
theorem long_any (ao:Option Addr) (n c:Nat) (xs:List Nat) (bo:Option Addr) (m d:Nat) (ys:List Nat) (i1:Nat) (w:World) (hn:n=xs.length) (hm:m=ys.length) (h1:i1+1=m) (h2:2<=m) (hmn:m<=n)
  (ha:Rd w ao c xs) (hb:Rd w bo d ys) (h0:lim ys i1≠0) (hl:n<=900000) :
  Calls fT 117 #[.slice ao n c,.slice bo m d] w (Got2 w (nV xs / nV ys) (nV xs % nV ys)):=by
 have mA:=ha.mx
 have cA:=ha.cap
 have mB:=hb.mx
 have cB:=hb.cap
 have xb:=ixe hb m hm ((m:Int) - 1) i1 (by omega) (by omega)
 have kb:=hb.cell i1 (by omega)
 have bx:=zat hb.lb i1
 obtain ⟨x,hx⟩:∃ x,x=lim ys i1:=⟨_,rfl⟩
 have hno:=fun ds=>norm_len (ds:=ds) hb.lb hm h1 hx (by omega)
 rw [<- hx] at h0 bx kb
 obtain ⟨b1,b2,b3,b4⟩:=bl_spec h0 bx
 clear b3 b4
 obtain ⟨s,hs⟩:∃ s,s=32 - bl x:=⟨_,rfl⟩
 have hs1:(32:Int) - (bl x:Int)=(s:Int):=by omega
 have hs2:s<=31:=by omega
 rw [<- hs] at hno
 have Hn:=Lib.hid hn
 have Hm:=Lib.hid hm
 have H1:=Lib.hid h1
 clear hs hx hn hm h1
 go_enter Tryz.func117,Tryz.ntmps117
 go_wp2_with fail
 refine (Lead32_any x bx _).mono ?_
 rintro e w' ⟨rfl,rfl⟩
 rw [hs1]
 clear hs1
 go_wp2_with fail
 refine (Left_any bo _ d ys _ s _ Hm.out rfl hb (by have:=Hm.out;omega) (by omega)).mono ?_
 rintro e w1 ⟨dao,dc,ds,rfl,od,cd,vd1,ed⟩
 obtain ⟨dl,df⟩:=hno ds cd vd1
 have Dl:=Lib.hid dl
 have dle:ds.length<=n:=by omega
 have dge:2<=ds.length:=by omega
 have Vd:=Lib.hid vd1
 clear dl vd1 hno
 go_wp2_with fail
 refine (Left_any ao _ c xs _ s _ Hn.out rfl (ha.ext ed) (by have:=Hn.out;omega) (by omega)).mono ?_
 rintro e w2 ⟨mao,mc,ms,rfl,om,cm,vm,em⟩
 have lm:ms.length<=n+1:=by
  refine zaq cm ?_
  rw [vm,zai,bG]
  have h3:=zas ha.lb (show xs.length<=n by have:=Hn.out;omega)
  have h4:2 ^ s<=2 ^ 31:=cY (by omega) hs2
  exact Nat.mul_lt_mul_of_le_of_lt (by omega) h3 (by omega)
 have Vm:=Lib.hid vm
 clear vm
 go_wp2_with (first
  | (at_builtin;refine pushZ (wi:=w1) rfl _ _ rfl _ _ ms _ rfl rfl om _ rfl ?_ ?_ (bI _) em em.size ?_;omega;omega;intro uao uc w3 ou eu gu)
  | (at_make;refine mkf (wi:=w1) rfl _ _ rfl _ _ _ rfl rfl ?_ ?_ eu ?_;omega;omega;intro w4 oq eq e14))
 obtain ⟨us,hus⟩:∃ us,us=ms++List.replicate (((n:Int)+1 - (ms.length:Int))).toNat 0:=⟨_,rfl⟩
 have lus:us.length=n+1:=by rw [hus,bC,fR];omega
 have vus:nV us=nV xs*2 ^ s:=by rw [hus,zej,zb3,Vm.out];simp
 rw [<- hus] at ou
 obtain ⟨g,rfl,g1,g2⟩:=ou.at0 (by omega)
 have U0:nV us<nV ds*pw (n+1 - ds.length):=by
  have Dl':=Dl.out
  have h3:=zas ha.lb (show xs.length<=n by have:=Hn.out;omega)
  have h4:2 ^ s<=2 ^ 31:=cY (by omega) hs2
  have h5:2147483648*pw i1<=nV ds:=by
   have h6:vk ds (i1+1)=nV ds:=zay (by have:=H1.out;omega)
   rw [zam] at h6
   have:=bP (pw i1) df
   rw [bG]
   omega
  have h7:pw n=pw i1*pw (n+1 - ds.length):=by rw [<- ze6];congr 1;have:=H1.out;omega
  have h8:=bU (pw (n+1 - ds.length)) h5
  rw [bF,<- h7] at h8
  rw [vus]
  have h9:nV xs*2 ^ s<pw n*2 ^ 31:=Nat.mul_lt_mul_of_lt_of_le h3 h4 (by omega)
  omega
 have Vus:=Lib.hid vus
 have Lus:=Lib.hid lus
 have HU0:=Lib.hid U0
 clear vus U0 lus hus
 go_loopw [13] (LongR w1 w3 g uc w3.heap.size (n+1 - ds.length) (n+1) (nV xs*2 ^ s) ds) (fun k _=>(intOf k+1).toNat)
 case atStart=>exact ⟨n+1 - ds.length,us,List.replicate (((n:Int)+1 - (ds.length:Int))).toNat 0,by go_num,by omega,Lus,by unfold Hid;rw [fR];omega,ou.ext eq,oq.capEq (by omega),e14,by unfold Hid;rw [zb3,Vus.out];simp,HU0,fun t _=>zdc _ t⟩
 case round =>
  obtain ⟨j,zs,qs,rfl,hj,hzl,hql,oz,oq,e1r,hv,hlt,hq0⟩:=hrel
  rcases j with _ | k
  ·have zl:=hzl.out
   have czl:=oz.rd.cap
   have hv0:=hv.out
   rw [Vd.out] at hv0
   have hz0:nV zs<nV ys*2 ^ s:=by have:=hlt.out;rw [pw_zero,dL,Vd.out] at this;exact this
   obtain ⟨r1,r2⟩:=quot_end (dH s) hv0 hz0
   have hzt:nV (zs.take ds.length)=nV zs:=zei (dS hz0 (by rw [<- Vd.out];exact zau cd.1))
   have oT:=oz.rd.take ds.length (by omega) uc (by rw [cG];omega) (bI _)
   have lT:ds.length=(zs.take ds.length).length:=by rw [cG];omega
   have R1:=Lib.hid r1
   have R2:=Lib.hid r2
   have Hzt:=Lib.hid hzt
   have LT:=Lib.hid lT
   have hb1:(ds.length:Int)<=(uc:Int):=by omega
   have hb2:ds.length<=uc:=by omega
   have hqb:qs.length<=1000000:=by have:=hql.out;omega
   clear zl czl hv0 hz0 r1 r2 hzt lT hv hlt
   go_wp2_with fail
   go_region_with (first
    | (go_at_call 114;refine (zcm _ _ _ qs _ (by have:=hql.out;omega) ?_ (by omega)).mono ?_;(first | exact oq.rd.ext (Ext.refl _) | exact oq.rd.ext (Ext.refl _).drew);rintro e wa ⟨qo,qc,qz,rfl,p1,p2,p3,p4⟩;replace p3:=Lib.hid p3)
    | (go_at_call 132;refine (Right_any _ _ _ (zs.take ds.length) _ s _ LT.out rfl (by omega) ?_ (by rw [cG];omega)).mono ?_;(first | exact oT.ext p4 | exact (oT.ext (Ext.refl _).drew).ext p4);rintro e wb ⟨ro,rc,rz,rfl,t1,t2,t3,t4⟩;replace t3:=Lib.hid t3))
   all_goals
    go_wp2_with fail
    go_ret2
    have ew:=ed.trans e1r
    have hw0:w.heap.size<=wr.heap.size:=ew.size
    have hw1:=p4.size
    refine ⟨qo,qc,qz,ro,rc,rz,rfl,(p1.ext t4).mono hw0,p2,by rw [p3.out];exact R1.out,t1.mono (bW hw0 hw1),t2,by rw [t3.out,Hzt.out];exact R2.out,?_⟩
    first
    | exact (ew.trans p4).trans t4
    | exact (ew.drew.trans p4).trans t4
    | exact ((ew.trans p4).drew).trans t4
  ·have cz:=oz.rd.cap
   have zl:=hzl.out
   have ql:=hql.out
   have hkc:¬ uc=k:=by omega
   have hkl:k+1+ds.length<=n+1:=hj
   have hT:nV (zs.drop k)<nV ds*4294967296:=by
    have h3:=zdr zs k (by omega)
    have h4:=hlt.out
    rw [zai,cZ,<- bF,bG] at h4
    rw [bG 4294967296] at h4
    exact Nat.lt_of_mul_lt_mul_left (a:=pw k) (by omega)
   have htl:=top_le (i1:=i1) cd.1 rfl (by have:=Dl.out;have:=H1.out;omega) hT
   have czl:n+1<=uc:=by omega
   have zl2:zs.length=(n+1):=zl
   clear zl cz ql zl2
   have HT:=Lib.hid hT
   have Htl:=Lib.hid htl
   have hdm:ds.length=m:=Dl.out
   have hi1:i1+1=m:=H1.out
   obtain ⟨i2,hi2⟩:∃ i2,i2+2=ds.length:=⟨ds.length - 2,by omega⟩
   have Hi1:=Lib.hid (show i1+1=ds.length by omega)
   have Hi2:=Lib.hid hi2
   clear hT htl hi2 hi1 hdm
   have od':=od.rd.ext e1r
   have dne:0<ds.length->bk dao≠g:=fun h=>by have:=(od.blk h).2.1;omega
   have o5:=oz.rd.drop k (by have:=hzl.out;omega)
   rw [cF] at o5
   go_wp2_with fail
   refine (guessed_any _ _ _ (zs.drop k) _ _ _ ds i1 i2 _ (by rw [cK,hzl.out]) rfl Hi1.out Hi2.out (by omega) o5 od' df Htl.out).mono ?_
   rintro e w5 ⟨gg,rfl,gs,qt5⟩
   have gf:=guess_fits (Lb_drop oz.lb k) cd.1 rfl Hi1.out Hi2.out df HT.out gs
   have gb:=gs.1
   have Gf:=Lib.hid gf
   clear gs gf
   have oz5:=oz.ext qt5.ext
   have oq5:=oq.ext qt5.ext
   have e15:=e1r.trans qt5.ext
   go_wp2_with fail
   refine (takeAway_any _ g uc zs k _ _ _ _ _ ds gg _ rfl ?_ ?_ oz5 (od'.ext qt5.ext) dne gb ?_).mono ?_
   ·omega
   ·have:=hzl.out;omega
   ·omega
   rintro e w6 ⟨b,z1,rfl,hl1,oz6,gr6,v1,t1⟩
   have oq6:=oq5.kept gr6 (ownB_ne (by omega))
   have e16:=e15.grown gr6 (fun k hk=>by cases hk;exact g1)
   have zl:=hzl.out
   rcases b with _ | _
   ·have hlt1:=took oz5.lb (by omega) hlt.out Gf.out (by simpa using v1)
    have V1:=Lib.hid (show nV z1+pw k*(gg*nV ds)=nV zs by simpa using v1)
    have Hlt1:=Lib.hid hlt1
    have Hl1:=Lib.hid hl1
    clear v1 hlt1 hl1 zl t1
    have xq:=ixe oq6.rd (n+1 - ds.length) (by have:=hql.out;omega) (k:Int) k rfl (by omega)
    have kq:=oq6.rd.cell k (by have:=hql.out;omega)
    have fq:=oq6.frozen (by have:=hql.out;omega) k
    have hq1:=oq6.store k (by have:=hql.out;omega) (gg:Int) gg rfl gb
    go_wp2_with fail
    go_roundw
    case rel=>exact ⟨k,z1,qs.set k gg,by go_num,by omega,by unfold Hid;rw [Hl1.out];exact hzl.out,by unfold Hid;rw [bN];exact hql.out,oz6.kept hq1.2 (ownB_ne (by simp only [bk];omega)),hq1.1,e16.grown hq1.2 (fun k hk=>by cases hk;simp only [bk];omega),quot_step (hq0.out k (by omega)) (by have:=hql.out;omega) V1.out hv.out,Hlt1,fun t ht=>by rw [zbi (by omega)];exact hq0.out t (by omega)⟩
    case measure=>simp [intOf];try omega
   ·have tz:=take_zero oz5.lb oz6.lb (by omega) cd.1 hlt.out Gf.out t1 (by simpa using v1)
    obtain ⟨tz1,tz2,tz3,tz4⟩:=tz
    have V1:=Lib.hid (show nV z1+pw k*(gg*nV ds)=nV zs+pw (k+(ds.length+1)) by simpa using v1)
    have Tz4:=Lib.hid tz4
    have Tz3:=Lib.hid tz3
    have Tz1:=Lib.hid tz1
    have Hl1:=Lib.hid hl1
    have T1:=Lib.hid t1
    clear v1 tz1 tz3 tz4 hl1 zl t1
    go_wp2_with fail
    refine (putBack_any _ g uc z1 k _ _ _ _ _ ds _ rfl ?_ ?_ oz6 ((od'.ext qt5.ext).kept gr6 dne) dne ?_).mono ?_
    ·omega
    ·have:=hzl.out;have:=Hl1.out;omega
    ·omega
    rintro e w7 ⟨y,z2,rfl,hy1,hl2,oz7,gr7,v2,t2⟩
    have oq7:=oq6.kept gr7 (ownB_ne (by omega))
    have e17:=e16.grown gr7 (fun k hk=>by cases hk;exact g1)
    have h7:nV z2<pw (k+(ds.length+1)):=lt_of_lims oz7.lb (fun t ht=>by rw [t2 t (by omega)];exact zet Tz1.out ht)
    have V2:=Lib.hid (put_val hy1 tz2 V1.out Tz4.out h7 v2)
    have Hlt2:=Lib.hid (took oz5.lb (by have:=hzl.out;omega) hlt.out ⟨Nat.le_of_eq Tz3.out.symm,by rw [Tz3.out];exact Nat.le_succ _⟩ V2.out)
    have Hl2:=Lib.hid hl2
    clear v2 t2 h7 hl2
    have gb1:gg - 1<4294967296:=by omega
    have xq:=ixe oq7.rd (n+1 - ds.length) (by have:=hql.out;omega) (k:Int) k rfl (by omega)
    have kq:=oq7.rd.cell k (by have:=hql.out;omega)
    have fq:=oq7.frozen (by have:=hql.out;omega) k
    have hq1:=oq7.store k (by have:=hql.out;omega) ((gg:Int) - 1) (gg - 1) (by omega) gb1
    go_wp2_with fail
    go_roundw
    case rel=>exact ⟨k,z2,qs.set k (gg - 1),by go_num,by omega,by unfold Hid;rw [Hl2.out,Hl1.out];exact hzl.out,by unfold Hid;rw [bN];exact hql.out,oz7.kept hq1.2 (ownB_ne (by simp only [bk];omega)),hq1.1,e17.grown hq1.2 (fun k hk=>by cases hk;simp only [bk];omega),quot_step (hq0.out k (by omega)) (by have:=hql.out;omega) V2.out hv.out,Hlt2,fun t ht=>by rw [zbi (by omega)];exact hq0.out t (by omega)⟩
    case measure=>simp [intOf];try omega
def GotD (w:World) (p r:Nat) (er:Int) (e:Ending) (w':World):Prop :=
  ∃ ao c xs bo d ys,e = .returned (.tuple #[.slice ao xs.length c,.slice bo ys.length d,.int .i64 er])/\Own w' w.heap.size ao c xs/\zbt xs/\nV xs=p/\Own w' w.heap.size bo d ys/\zbt ys/\nV ys=r/\Ext w w'
theorem GotD.from {w0 w:World} {p r:Nat} {e:Ending} (h:GotD w p r er e w') (k:Ext w0 w):GotD w0 p r er e w':=by
 obtain ⟨ao,c,xs,bo,d,ys,h1,h2,h3,h4,h5,h6,h7,h8⟩:=h
 exact ⟨ao,c,xs,bo,d,ys,h1,h2.mono k.size,h3,h4,h5.mono k.size,h6,h7,k.trans h8⟩
set_option maxHeartbeats 2000000 in
theorem Div_any (ao:Option Addr) (n c:Nat) (xs:List Nat) (bo:Option Addr) (m d:Nat) (ys:List Nat) (w:World) (hn:n=xs.length) (hm:m=ys.length)
  (ha:Rd w ao c xs) (hb:Rd w bo d ys) (hl:xs.length<=900000) :
  Calls fT 95 #[.slice ao n c,.slice bo m d] w (if nV ys=0 then GotD w 0 0 10 else GotD w (nV xs / nV ys) (nV xs % nV ys) 0):=by
 subst hn hm
 have hA:=ha.trm
 have hB:=hb.trm
 have kA:=zcb ha.lb
 have kB:=zcb hb.lb
 have lA:=ze5 xs
 have cA:=hA.cap
 have cB:=hB.cap
 have mA:=hA.mx
 have mB:=hB.mx
 rw [<- zbn xs,<- zbn ys]
 by_cases h0:(trm ys).length=0
 ·have e0:trm ys=[]:=dM.1 h0
  have hv:nV (trm ys)=0:=by rw [e0];rfl
  rw [if_pos hv]
  clear hv
  go_enter Tryz.func95,Tryz.ntmps95
  go_wp2_with fail
  refine (zah ao _ c xs w rfl ha).mono ?_
  rintro e w' ⟨rfl,rfl⟩
  go_wp2_with fail
  refine (zah bo _ d ys w rfl hb).mono ?_
  rintro e w' ⟨rfl,rfl⟩
  rw [e0]
  clear e0 h0
  go_wp2_with fail
  go_ret3
  exact ⟨none,0,[],none,0,[],rfl,Own.nil _ _,zbw,rfl,Own.nil _ _,zbw,rfl,Ext.refl _⟩
 ·have hv:nV (trm ys)≠0:=fun e=>h0 (by rw [canon_zero kB e];rfl)
  rw [if_neg hv]
  have hb0:((((trm ys).length:Nat):Int) == 0)=false:=beq_eq_false_iff_ne.2 (by omega)
  by_cases hlt:nV (trm xs)<nV (trm ys)
  ·have hc:=zgn hlt
   have r1:nV (trm xs) / nV (trm ys)=0:=dN hlt
   have r2:nV (trm xs) % nV (trm ys)=nV (trm xs):=eF hlt
   rw [r1,r2]
   clear r1 r2 hlt
   go_enter Tryz.func95,Tryz.ntmps95
   go_wp2_with fail
   refine (zah ao _ c xs w rfl ha).mono ?_
   rintro e w' ⟨rfl,rfl⟩
   go_wp2_with fail
   refine (zah bo _ d ys w rfl hb).mono ?_
   rintro e w' ⟨rfl,rfl⟩
   go_wp2_with fail
   refine (zgp _ _ _ (trm xs) _ _ _ (trm ys) _ rfl rfl hA hB).mono ?_
   rintro e w1 ⟨rfl,q1⟩
   rw [hc]
   clear hc
   go_wp2_with fail
   refine (zcm _ _ _ (trm xs) _ rfl (hA.ext q1.ext) (by omega)).mono ?_
   intro e w2 hg
   obtain ⟨ro,rc,rz,rfl,p1,p2,p3,p4⟩:=hg.from q1.ext
   go_wp2_with fail
   go_ret3
   exact ⟨none,0,[],ro,rc,rz,rfl,Own.nil _ _,zbw,rfl,p1,p2,p3,p4⟩
  ·have hc:decide (zhk (nV (trm xs)) (nV (trm ys))<0)=false:=by
    unfold zhk
    rw [if_neg hlt]
    split <;> decide
   by_cases h1:(trm ys).length=1
   ·have hb1:((((trm ys).length:Nat):Int) == 1)=true:=by simp;omega
    have hx0:=ixe hB (trm ys).length rfl 0 0 rfl (by omega)
    simp only [dO] at hx0
    have k0:=fun wr (q:Qt w wr)=>(hB.ext q.ext).cell 0 (by omega)
    have b0:=zat kB.1 0
    have ey:nV (trm ys)=lim (trm ys) 0:=by
     rw [<- zay (zs:=trm ys) (k:=1) (by omega),zam,zbm,pw_zero];omega
    have Ey:=Lib.hid ey
    have b1:lim (trm ys) 0≠0:=by rw [<- ey];exact hv
    clear ey hv hlt h1 h0
    go_enter Tryz.func95,Tryz.ntmps95
    go_wp2_with fail
    refine (zah ao _ c xs w rfl ha).mono ?_
    rintro e w' ⟨rfl,rfl⟩
    go_wp2_with fail
    refine (zah bo _ d ys w rfl hb).mono ?_
    rintro e w' ⟨rfl,rfl⟩
    go_wp2_with fail
    refine (zgp _ _ _ (trm xs) _ _ _ (trm ys) _ rfl rfl hA hB).mono ?_
    rintro e w1 ⟨rfl,q1⟩
    have k1:=k0 w1 q1
    simp only [dO] at k1
    go_wp2_with fail
    refine (byLimb_any _ _ _ (trm xs) _ (lim (trm ys) 0) _ rfl rfl (hA.ext q1.ext) (by omega) (by omega) b0).mono ?_
    rintro e w2 ⟨qo,qc,qz,rfl,p1,p2,p3,p4⟩
    have P3:=Lib.hid p3
    clear p3
    obtain ⟨M,hM⟩:∃ M,M=nV (trm xs) % lim (trm ys) 0:=⟨_,rfl⟩
    have bM:M<4294967296:=by rw [hM];exact dS (dA _ (by omega)) b0
    rw [<- hM]
    have HM:=Lib.hid hM
    clear hM
    go_wp2_with fail
    refine (Of_any (M:Int) (by omega) (by omega) _).mono ?_
    intro e w3 hg
    obtain ⟨ro,rc,rz,rfl,t1,t2,t3,t4⟩:=hg
    go_wp2_with fail
    go_ret3
    have e2:=q1.ext.trans p4
    exact ⟨qo,qc,qz,ro,rc,rz,rfl,(p1.ext t4).mono q1.ext.size,p2,by rw [P3.out,Ey.out],t1.mono e2.size,t2,by rw [t3,dI,HM.out,Ey.out],e2.trans t4⟩
   ·have hb1:((((trm ys).length:Nat):Int) == 1)=false:=beq_eq_false_iff_ne.2 (by omega)
    obtain ⟨i1,hi1⟩:∃ i1,i1+1=(trm ys).length:=⟨(trm ys).length - 1,by omega⟩
    have hlen:(trm ys).length<=(trm xs).length:=by
     rcases cT (trm xs).length (trm ys).length with h | h
     ·exact absurd (zc1 kA.1 kB h) hlt
     ·exact h
    have hlast:lim (trm ys) i1≠0:=by
     have:=kB.2 (by omega)
     rwa [show (trm ys).length - 1=i1 by omega] at this
    have Hi1:=Lib.hid hi1
    have hge:2<=(trm ys).length:=by omega
    clear hi1 hv hlt h1 h0
    go_enter Tryz.func95,Tryz.ntmps95
    go_wp2_with fail
    refine (zah ao _ c xs w rfl ha).mono ?_
    rintro e w' ⟨rfl,rfl⟩
    go_wp2_with fail
    refine (zah bo _ d ys w rfl hb).mono ?_
    rintro e w' ⟨rfl,rfl⟩
    go_wp2_with fail
    refine (zgp _ _ _ (trm xs) _ _ _ (trm ys) _ rfl rfl hA hB).mono ?_
    rintro e w1 ⟨rfl,q1⟩
    go_wp2_with fail
    refine (long_any _ _ _ (trm xs) _ _ _ (trm ys) i1 _ rfl rfl Hi1.out hge hlen (hA.ext q1.ext) (hB.ext q1.ext) hlast (by omega)).mono ?_
    rintro e w2 ⟨qo,qc,qz,ro,rc,rz,rfl,p1,p2,p3,p4,p5,p6,p7⟩
    go_wp2_with fail
    go_ret3
    exact ⟨qo,qc,qz,ro,rc,rz,rfl,p1.mono q1.ext.size,p2,p3,p4.mono q1.ext.size,p5,p6,q1.ext.trans p7⟩
theorem Div_pos (ao:Option Addr) (n c:Nat) (xs:List Nat) (bo:Option Addr) (m d:Nat) (ys:List Nat) (w:World) (hn:n=xs.length) (hm:m=ys.length)
  (ha:Rd w ao c xs) (hb:Rd w bo d ys) (hl:xs.length<=900000) (hv:nV ys≠0) :
  Calls fT 95 #[.slice ao n c,.slice bo m d] w (GotD w (nV xs / nV ys) (nV xs % nV ys) 0):=by
 have h:=Div_any ao n c xs bo m d ys w hn hm ha hb hl
 rwa [if_neg hv] at h
def tb (v i:Nat):Bool:=decide (v / 2 ^ i % 2=1)
def GotDM (w:World) (p r:Nat) (L M:Nat) (er:Int) (e:Ending) (w':World):Prop :=
  ∃ ao c xs B bo d ys C,e = .returned (.tuple #[.slice ao xs.length c,.slice bo ys.length d,.int .i64 er])/\w.heap.size<=B/\Own w' B ao c xs/\Hid (zbt xs)/\Hid (nV xs=p)/\xs.length<=L /\
    w.heap.size<=C/\Own w' C bo d ys/\Hid (zbt ys)/\Hid (nV ys=r)/\ys.length<=M/\Ext w w'
theorem GotD.len {w:World} {p r L:Nat} {e:Ending} (h:GotD w p r er e w') (hp:p<pw L) (hr:r<pw M):GotDM w p r L M er e w':=by
 obtain ⟨ao,c,xs,bo,d,ys,he,h1,h2,h3,h4,h5,h6,h7⟩:=h
 exact ⟨ao,c,xs,_,bo,d,ys,_,he,bI _,h1,h2,h3,zcl h2 h3 hp,bI _,h4,h5,h6,zcl h5 h6 hr,h7⟩
section
variable (ao:Option Addr) (n c:Nat) (xs:List Nat) (bo:Option Addr) (m d:Nat) (ys:List Nat) (w:World)
theorem DivM (hn:n=xs.length) (hm:m=ys.length) (ha:Rd w ao c xs) (hb:Rd w bo d ys) (hl1:xs.length<=100000) (_hl2:ys.length<=100000) (h:nV ys≠0) :
  Calls fT 95 #[.slice ao n c,.slice bo m d] w (GotDM w (nV xs / nV ys) (nV xs % nV ys) xs.length ys.length 0) :=
 (Div_pos ao n c xs bo m d ys w hn hm ha hb (by omega) h).mono fun _ _ k=>k.len (dR (eH _ _) (zau ha.lb)) (dS (dA _ (eI h)) (zau hb.lb))
end
namespace S
variable {X Y x0 x1 v:Int} {y:ZI} {ps:List za2} {j:Nat} {p:za2} {t:zax} {α:Type} {ty:TypeId}
theorem postDM {w:World} {H:Im} {B:Bl} {p r L:Nat} {en:Ending} (hs:∀ b o,H b=some o->w.heap[b]?=some o) (h:GotDM w p r L M er en w'):∃ v H' B', en = .returned v/\Post [] w H B (.tup [.c (.d (nsl (lbs p))),.c (.d (nsl (lbs r))),.c (.d (.raw (.int .i64 er)))]) [] v w' H' B':=by
 obtain ⟨ao,c,xs,Bk,bo,d,ys,Ck,rfl,hb,ho,hc,hv,_,hb2,ho2,hc2,hv2,_,hx⟩:=h
 exact ⟨_,_,_,rfl,postE hx hs ⟨_,rfl,own_vn (Bb:=B) ho hb hc.out hv.out,own_vn (Bb:=B) ho2 hb2 hc2.out hv2.out,DR.raw _ rfl,trivial⟩⟩
section
variable (xs ys:List Nat)
theorem SnDiv (hx:Lb xs) (hy:Lb ys) (lx:xs.length<=50000) (ly:ys.length<=50000) (h0:nV ys≠0):Fn fT 95 [] [vn xs,vn ys] (.tup [.c (.d (nsl (lbs (nV xs / nV ys)))),.c (.d (nsl (lbs (nV xs % nV ys)))),.c (cI 0)]) []:=by
 intro w H B vals pre
 obtain ⟨a,b,rfl,h1,h2⟩:=args2 pre.arg
 obtain ⟨ao,c,rfl,r1⟩:=zdn h1 hx
 obtain ⟨bo,d,rfl,r2⟩:=zdn h2 hy
 exact (DivM ao _ c xs bo _ d ys w rfl rfl (r1 w pre.sat) (r2 w pre.sat) (by omega) (by omega) h0).mono fun _ _ h=>postDM pre.sat h
end
theorem ZI.val_abs (x:ZI):nV x.abs=x.val.natAbs:=(iv_abs x.neg x.abs).symm
theorem zeu (a:Int) {b:Int} (h:b<0):b<a.fmod b/\a.fmod b<=0:=by
 have h1:=fG (-a) (b:=-b) (by omega)
 have h2:=fH (-a) (b:=-b) (by omega)
 rw [Int.neg_fmod_neg] at h1 h2
 omega
theorem ze1 {a b q r:Int} (h:a=q*b+r) (hp:0<b->0<=r/\r<b) (hn:b<0->b<r/\r<=0) (hb:b≠0):q=a.fdiv b/\r=a.fmod b:=by
 have h1:=fS a b
 rcases fI hb with hlt | hgt
 ·obtain ⟨h2,h3⟩:=hn hlt
  obtain ⟨h4,h5⟩:=zeu a hlt
  have hq:q=a.fdiv b:=by
   have e:b*(a.fdiv b - q)=r - a.fmod b:=by
    have:b*(a.fdiv b - q)=b*a.fdiv b - q*b:=by rw [eJ,bV b q]
    omega
   rcases eP (a.fdiv b - q) 0 with g | g | g
   ·have:b*(a.fdiv b - q)≥-b:=by
     have h6:(-b)*1<=(-b)*(-(a.fdiv b - q)):=cU (by omega) (by omega)
     rw [Int.neg_mul_neg] at h6;omega
    omega
   ·omega
   ·have:b*(a.fdiv b - q)<=b:=by
     have h6:(-b)*1<=(-b)*(a.fdiv b - q):=cU (by omega) (by omega)
     rw [bX b (a.fdiv b - q)] at h6;omega
    omega
  refine ⟨hq,?_⟩
  rw [hq,bV] at h
  omega
 ·obtain ⟨h2,h3⟩:=hp hgt
  have h4:a.fmod b<b:=fG a hgt
  have h5:0<=a.fmod b:=fH a hgt
  have hq:q=a.fdiv b:=by
   have e:b*(a.fdiv b - q)=r - a.fmod b:=by
    have:b*(a.fdiv b - q)=b*a.fdiv b - q*b:=by rw [eJ,bV b q]
    omega
   rcases eP (a.fdiv b - q) 0 with g | g | g
   ·have h6:b*1<=b*(-(a.fdiv b - q)):=cU (by omega) (by omega)
    rw [Int.mul_neg] at h6;omega
   ·omega
   ·have h6:b*1<=b*(a.fdiv b - q):=cU (by omega) (by omega)
    omega
  refine ⟨hq,?_⟩
  rw [hq,bV] at h
  omega
theorem zeo (a:Int) {b:Int} (_hb:b≠0):(0<b->0<=a.fmod b/\a.fmod b<b)/\(b<0->b<a.fmod b/\a.fmod b<=0) :=
 ⟨fun h=>⟨fH a h,fG a h⟩,fun h=>zeu a h⟩
theorem zfv (a b:Int):a=a.fdiv b*b+a.fmod b:=by have:=fS a b;rw [bV] at this;exact this.symm
theorem fdiv_same (hY:Y≠0) {s t:Bool} (hs:s=decide (X<0)) (ht:t=decide (Y<0)) {zq zr:List Nat} (hq:nV zq=X.natAbs / Y.natAbs) (hr:nV zr=X.natAbs % Y.natAbs) (h:(s != t)=true->nV zr=0) :
  iv (s != t) zq=X.fdiv Y/\iv s zr=X.fmod Y:=by
 have hm:=dA X.natAbs (eI (by omega:Y.natAbs≠0))
 have hd:=eE X.natAbs Y.natAbs
 generalize X.natAbs / Y.natAbs=q at *
 generalize X.natAbs % Y.natAbs=r at *
 subst hs ht
 refine ze1 ?_ ?_ ?_ hY
 ·unfold iv
  rw [hq,hr]
  have hd2:((Y.natAbs:Int)*(q:Int)+(r:Int))=(X.natAbs:Int):=by rw [<- hd];simp
  by_cases h1:X<0 <;> by_cases h2:Y<0
  ·have e1:(X.natAbs:Int)=-X:=by omega
   have e2:(Y.natAbs:Int)=-Y:=by omega
   rw [e1,e2,bX] at hd2
   simp [h1,h2]
   rw [bV];omega
  ·have e1:(X.natAbs:Int)=-X:=by omega
   have e2:(Y.natAbs:Int)=Y:=by omega
   rw [e1,e2] at hd2
   simp [h1,h2]
   rw [bX,bV];omega
  ·have e1:(X.natAbs:Int)=X:=by omega
   have e2:(Y.natAbs:Int)=-Y:=by omega
   rw [e1,e2,bX] at hd2
   simp [h1,h2]
   rw [bX,bV];omega
  ·have e1:(X.natAbs:Int)=X:=by omega
   have e2:(Y.natAbs:Int)=Y:=by omega
   rw [e1,e2] at hd2
   simp [h1,h2]
   rw [bV];omega
 ·intro hp
  unfold iv
  have h2:¬ Y<0:=by omega
  by_cases h1:X<0
  ·have:=h (by simp [h1,h2])
   simp [h1,this];omega
  ·simp [h1,hr];omega
 ·intro hp
  unfold iv
  by_cases h1:X<0
  ·simp [h1,hr];omega
  ·have:=h (by simp [h1,hp])
   simp [h1,this];omega
theorem fdiv_other (hY:Y≠0) {s t:Bool} (hs:s=decide (X<0)) (ht:t=decide (Y<0)) {zq zr:List Nat} (hq:nV zq=X.natAbs / Y.natAbs) (hr:nV zr=X.natAbs % Y.natAbs) (h:(s != t)=true) (h0:nV zr≠0) :
  iv (s != t) zq - 1=X.fdiv Y/\iv s zr+Y=X.fmod Y:=by
 have hm:=dA X.natAbs (eI (by omega:Y.natAbs≠0))
 have hd:=eE X.natAbs Y.natAbs
 generalize X.natAbs / Y.natAbs=q at *
 generalize X.natAbs % Y.natAbs=r at *
 subst hs ht
 rw [hr] at h0
 have hd2:((Y.natAbs:Int)*(q:Int)+(r:Int))=(X.natAbs:Int):=by rw [<- hd];simp
 rw [h]
 refine ze1 ?_ ?_ ?_ hY
 ·unfold iv
  rw [hq,hr]
  by_cases h1:X<0 <;> by_cases h2:Y<0
  ·simp [h1,h2] at h
  ·have e1:(X.natAbs:Int)=-X:=by omega
   have e2:(Y.natAbs:Int)=Y:=by omega
   rw [e1,e2] at hd2
   simp [h1]
   rw [dU,bX,bV];omega
  ·have e1:(X.natAbs:Int)=X:=by omega
   have e2:(Y.natAbs:Int)=-Y:=by omega
   rw [e1,e2,bX] at hd2
   simp [h1]
   rw [dU,bX,bV];omega
  ·simp [h1,h2] at h
 ·intro hp
  unfold iv
  have h2:¬ Y<0:=by omega
  by_cases h1:X<0
  ·simp [h1,hr];omega
  ·simp [h1,h2] at h
 ·intro hp
  unfold iv
  by_cases h1:X<0
  ·simp [h1,hp] at h
  ·simp [h1,hr];omega
theorem val_zero (h:zbt zs):nV zs=0 ↔ zs.length=0 :=
 ⟨fun e=>by rw [canon_zero h e];rfl,fun e=>by rw [dM.1 e];rfl⟩
theorem zew (X:Int) (hY:Y≠0):(X.fdiv Y).natAbs<=X.natAbs:=by
 have h:=zfv X Y
 obtain ⟨h1,h2⟩:=zeo X hY
 rcases fI hY with g | g
 ·obtain ⟨h3,h4⟩:=h2 g
  by_cases hq:0<=X.fdiv Y
  ·have:X.fdiv Y*Y<=X.fdiv Y*(-1):=cU (by omega) hq
   omega
  ·have:(-X.fdiv Y - 1)*1<=(-X.fdiv Y - 1)*(-Y):=cU (by omega) (by omega)
   have e:(-X.fdiv Y - 1)*(-Y)=X.fdiv Y*Y+Y:=by rw [dU,Int.neg_mul_neg];omega
   omega
 ·obtain ⟨h3,h4⟩:=h1 g
  by_cases hq:0<=X.fdiv Y
  ·have:X.fdiv Y*1<=X.fdiv Y*Y:=cU (by omega) hq
   omega
  ·have:(-X.fdiv Y - 1)*1<=(-X.fdiv Y - 1)*Y:=cU (by omega) (by omega)
   have e:(-X.fdiv Y - 1)*Y=-(X.fdiv Y*Y) - Y:=by rw [dU,bX];omega
   omega
theorem zev (X:Int) (hY:Y≠0):(X.fmod Y).natAbs<Y.natAbs:=by
 obtain ⟨h1,h2⟩:=zeo X hY
 rcases fI hY with g | g
 ·have:=h2 g;omega
 ·have:=h1 g;omega
theorem zfq {x:ZI} (hx:Lb x.abs) (h:y.val≠0):(gA (x.val.fdiv y.val)).abs.length<=x.abs.length:=ZI.len_of (dR (zew _ h) (ZI.abs_lt hx))
theorem len_fmod {x:ZI} (hy:Lb y.abs) (h:y.val≠0):(gA (x.val.fmod y.val)).abs.length<=y.abs.length:=ZI.len_of (dS (zev _ h) (ZI.abs_lt hy))
theorem ceil_stay (hY:Y≠0) (h:X.fmod Y=0):X.fdiv Y=-((-X).fdiv Y):=by
 have h1:=zfv X Y
 have e:(-X.fdiv Y)*Y=-(X.fdiv Y*Y):=bX _ _
 have:=(ze1 (a:=-X) (b:=Y) (q:=-X.fdiv Y) (r:=0) (by omega) (fun _=>by omega) (fun _=>by omega) hY).1
 omega
theorem ceil_turn (hY:Y≠0) (h:X.fmod Y≠0):X.fdiv Y+1=-((-X).fdiv Y):=by
 have h1:=zfv X Y
 obtain ⟨h2,h3⟩:=zeo X hY
 have e:(-X.fdiv Y - 1)*Y=-(X.fdiv Y*Y) - Y:=by rw [dU,bX];omega
 have:=(ze1 (a:=-X) (b:=Y) (q:=-X.fdiv Y - 1) (r:=Y - X.fmod Y) (by omega) (fun _=>by omega) (fun _=>by omega) hY).1
 omega
def bez (r0 x0 y0 r1 x1 y1:Int):Int × Int × Int :=
  if _h:r1<=0 then (r0,x0,y0) else bez r1 x1 y1 (r0.fmod r1) (x0 - r0.fdiv r1*x1) (y0 - r0.fdiv r1*y1)
  termination_by r1.natAbs
  decreasing_by exact zev _ (by omega)
theorem bez_step {r0 y0 r1 y1:Int} (h:¬ r1<=0):bez r0 x0 y0 r1 x1 y1=bez r1 x1 y1 (r0.fmod r1) (x0 - r0.fdiv r1*x1) (y0 - r0.fdiv r1*y1):=by rw [bez,dif_neg h]
structure BzI (A B r0 x0 y0 r1 x1 y1:Int):Prop where
  a:0<=A
  b:0<=B
  p0:0<=r0
  p1:0<=r1
  g:Nat.gcd r0.natAbs r1.natAbs=Nat.gcd A.natAbs B.natAbs
  e0:r0=A*x0+B*y0
  e1:r1=A*x1+B*y1
  sx:(0<=x0/\x1<=0)\/(x0<=0/\0<=x1)
  sy:(0<=y0/\y1<=0)\/(y0<=0/\0<=y1)
  bx:r0*(x1.natAbs:Int)+r1*(x0.natAbs:Int)=B
  byy:r0*(y1.natAbs:Int)+r1*(y0.natAbs:Int)=A
  lx:(x1.natAbs:Int)<=B+1
  ly:(y1.natAbs:Int)<=A+1
  z:bez r0 x0 y0 r1 x1 y1=bez A 1 0 B 0 1
theorem alt_abs {q:Int} (hq:0<=q) (h:(0<=x0/\x1<=0)\/(x0<=0/\0<=x1)):((x0 - q*x1).natAbs:Int)=x0.natAbs+q*x1.natAbs/\((0<=x1/\x0 - q*x1<=0)\/(x1<=0/\0<=x0 - q*x1)):=by
 rcases h with ⟨h1,h2⟩ | ⟨h1,h2⟩
 ·have h3:0<=q*(-x1):=eK hq (by omega)
  have e1:(x1.natAbs:Int)=-x1:=by omega
  rw [e1]
  rw [Int.mul_neg] at h3 ⊢
  omega
 ·have h3:0<=q*x1:=eK hq h2
  have e1:(x1.natAbs:Int)=x1:=by omega
  rw [e1]
  omega
theorem zgv {r a b B:Int} (hr:0<r) (ha:0<=a) (hb:0<=b) (h:r*a+b=B):a<=B:=by
 have:1*a<=r*a:=Int.mul_le_mul_of_nonneg_right (by omega) ha
 omega
theorem BzI.step {A B r0 y0 r1 y1:Int} (h:BzI A B r0 x0 y0 r1 x1 y1) (hr:r1≠0) :
  BzI A B r1 x1 y1 (r0.fmod r1) (x0 - r0.fdiv r1*x1) (y0 - r0.fdiv r1*y1):=by
 obtain ⟨ha,hb,p0,p1,g,e0,e1,sx,sy,bx,by_,lx,ly,z⟩:=h
 have hpos:0<r1:=by omega
 have hq:0<=r0.fdiv r1:=Int.fdiv_nonneg p0 p1
 obtain ⟨m1,m2⟩:=(zeo r0 hr).1 hpos
 have hd:=zfv r0 r1
 obtain ⟨k1,k2⟩:=alt_abs hq sx
 obtain ⟨j1,j2⟩:=alt_abs hq sy
 have ex:r1*((x0 - r0.fdiv r1*x1).natAbs:Int)+r0.fmod r1*(x1.natAbs:Int)=B:=by
  rw [k1,Int.mul_add,<- bx]
  have:r0*(x1.natAbs:Int)=r0.fdiv r1*r1*(x1.natAbs:Int)+r0.fmod r1*(x1.natAbs:Int):=by rw [<- Int.add_mul,<- hd]
  have e2:r1*(r0.fdiv r1*(x1.natAbs:Int))=r0.fdiv r1*r1*(x1.natAbs:Int):=by rw [<- Int.mul_assoc,bV r1]
  omega
 have ey:r1*((y0 - r0.fdiv r1*y1).natAbs:Int)+r0.fmod r1*(y1.natAbs:Int)=A:=by
  rw [j1,Int.mul_add,<- by_]
  have:r0*(y1.natAbs:Int)=r0.fdiv r1*r1*(y1.natAbs:Int)+r0.fmod r1*(y1.natAbs:Int):=by rw [<- Int.add_mul,<- hd]
  have e2:r1*(r0.fdiv r1*(y1.natAbs:Int))=r0.fdiv r1*r1*(y1.natAbs:Int):=by rw [<- Int.mul_assoc,bV r1]
  omega
 refine ⟨ha,hb,p1,m1,?_,e1,?_,k2,j2,ex,ey,?_,?_,?_⟩
 ·have:(r0.fmod r1).natAbs=r0.natAbs % r1.natAbs:=by
   obtain ⟨u,hu⟩:=fC p0
   obtain ⟨v,hv⟩:=fC p1
   rw [hu,hv,<- Int.ofNat_fmod,fJ,fJ,fJ]
  rw [this,Nat.gcd_comm,<- Nat.gcd_rec,Nat.gcd_comm,g]
 ·have:r0.fmod r1=r0 - r0.fdiv r1*r1:=by omega
  rw [this]
  have h1:A*(x0 - r0.fdiv r1*x1)=A*x0 - r0.fdiv r1*(A*x1):=by rw [eJ,Int.mul_left_comm]
  have h2:B*(y0 - r0.fdiv r1*y1)=B*y0 - r0.fdiv r1*(B*y1):=by rw [eJ,Int.mul_left_comm]
  have h3:r0.fdiv r1*r1=r0.fdiv r1*(A*x1)+r0.fdiv r1*(B*y1):=by rw [<- Int.mul_add,<- e1]
  omega
 ·have:=zgv hpos (by omega) (eK m1 (by omega)) ex;omega
 ·have:=zgv hpos (by omega) (eK m1 (by omega)) ey;omega
 ·rw [<- z];exact (bez_step (by omega)).symm
theorem SSub (x y:ZI) (hx:Lb x.abs) (hy:Lb y.abs) (lx:x.abs.length<=49000000) (ly:y.abs.length<=49000000):Fn fT 61 [] [vz x,vz y] (vz (gA (x.val - y.val))) []:=by
 refine fB Tryz.func61 rfl 9 fun w H B a h=>Jq 0 [] [(2,vp 0 0),(3,vp 1 0),(4,vp 2 0)] [(0,.box (zi x)),(1,.box (zi y)),(2,.box [cB false,.d (nsl [])])] h fun a w h=>?_
 obtain ⟨r1,er1,vr1,or1,lr1⟩:=mkZ (v:=-y.val) (m:=y.abs.length) (len_neg hy);obtain ⟨r2,er2,vr2,or2,lr2⟩:=mkZ (v:=x.val+r1.val) (m:=x.abs.length+r1.abs.length+1) (zcn hx or1);refine Jq 3 [(2,.call (fU (SNeg y hy (by omega)) (congrArg vz er1.symm))),(3,.call (fU (SAdd x r1 hx or1 (by omega) (by omega)) (congrArg vz er2.symm)))] [(4,vp 2 0)] [(2,.box (zi r2))] h fun a w h=>qV (rA 2 (zi r2) h zct rfl (congrArg (fun z=>vz z) (er2.trans (congrArg gA ?_))));rw [vr1];omega
theorem zhj (x y:ZI):(sgn x.val<sgn y.val->(-1:Int)=zcp x.val y.val)/\(¬ sgn x.val<sgn y.val->sgn x.val>sgn y.val->(1:Int)=zcp x.val y.val)/\(¬ sgn x.val<sgn y.val->¬ sgn x.val>sgn y.val->sgn x.val<0->zhk (nV y.abs) (nV x.abs)=zcp x.val y.val)/\(¬ sgn x.val<sgn y.val->¬ sgn x.val>sgn y.val->¬ sgn x.val<0->zhk (nV x.abs) (nV y.abs)=zcp x.val y.val):=by
 have e1:∀ z:Int,(0<z->sgn z=1)/\(z<0->sgn z=-1)/\(z=0->sgn z=0):=fun z=>⟨sgn_pos,zf2,zdt⟩
 rcases zfl x with ⟨h1,h2⟩ | ⟨h1,h2,h3⟩ | ⟨h1,h2⟩ <;> rcases zfl y with ⟨k1,k2⟩ | ⟨k1,k2,k3⟩ | ⟨k1,k2⟩ <;>
  have a1:=e1 x.val <;> have a2:=e1 y.val <;> rw [h1,k1] <;> rw [h1] at a1 <;> rw [k1] at a2 <;> unfold zcp zhk <;> refine ⟨fun _=>?_,fun _ _=>?_,fun _ _ _=>?_,fun _ _ _=>?_⟩ <;> first | omega | (split <;> first | omega | (split <;> first | omega | (split <;> first | omega | (split <;> omega))))
theorem SCmp (x y:ZI) (hx:Lb x.abs) (hy:Lb y.abs) (lx:x.abs.length<=49000000) (ly:y.abs.length<=49000000):Fn fT 26 [] [vz x,vz y] (vI (zcp x.val y.val)) []:=by
 refine fB Tryz.func26 rfl 32 fun w H B a h=>Jq 0 [] [(2,vp 0 0),(3,vp 1 0),(4,vI 0)] [(0,.box (zi x)),(1,.box (zi y))] h fun a w h=>Je 2 [(1,.call (SSign x hx (by omega))),(3,.call (SSign y hy (by omega)))] [] [(5,vI (sgn x.val)),(6,vI (sgn y.val))] h fun a w h=>qW (qZ (Je 2 [] [] [(11,vb (decide (sgn x.val<sgn y.val)))] h fun a w h=>zaj (sgn x.val<sgn y.val) h (fun hc1 hc1'=>?_) (fun hc2 hc2'=>?_)))
 ·refine Je 2 [] [5,6,11] [(4,vI (-1))] h fun a w h=>qV (zan (zae (rT (.c (cI (-1))) h rfl ?_)));exact congrArg (vi .i64) ((zhj x y).1 hc1')
 refine Je 2 [] [6,11] [(15,vb (decide (sgn x.val>sgn y.val)))] h fun a w h=>zaj (sgn x.val>sgn y.val) h (fun hc3 hc3'=>?_) (fun hc4 hc4'=>?_)
 ·refine Je 2 [] [5,15] [(4,vI 1)] h fun a w h=>qV (zan (zae (rT (.c (cI 1)) h rfl ?_)));exact congrArg (vi .i64) ((zhj x y).2.1 hc2' hc3')
 refine Je 2 [] [5,15] [(19,vb (decide (sgn x.val<0)))] h fun a w h=>zaj (sgn x.val<0) h (fun hc5 hc5'=>?_) (fun hc6 hc6'=>?_)
 ·refine Je 2 [(4,.call (SnCmp y.abs x.abs hy hx))] [19] [(4,vI (zhk (nV y.abs) (nV x.abs)))] h fun a w h=>qV (zan (zae (rT (.c (cI (zhk (nV y.abs) (nV x.abs)))) h rfl ?_)));exact congrArg (vi .i64) ((zhj x y).2.2.1 hc2' hc4' hc5')
 refine qU (za6 (za3 (Jq 2 [(4,.call (SnCmp x.abs y.abs hx hy))] [(4,vI (zhk (nV x.abs) (nV y.abs)))] [] h fun a w h=>qV (rT (.c (cI (zhk (nV x.abs) (nV y.abs)))) h rfl ?_))));exact congrArg (vi .i64) ((zhj x y).2.2.2 hc2' hc4' hc6')
theorem SDiv (x y:ZI) (hx:Lb x.abs) (hy:Lb y.abs) (lx:x.abs.length<=40000) (ly:y.abs.length<=40000) (h0:y.val≠0):Fn fT 54 [] [vz x,vz y] (.tup [.agg (zi (gA (x.val.fdiv y.val))),.agg (zi (gA (x.val.fmod y.val))),.c (.d (.raw (.int .i64 0)))]) []:=by
 refine fB Tryz.func54 rfl 56 fun w H B a h=>Jq 0 [] [(2,vp 0 0),(3,vp 1 0),(4,vp 2 0),(5,vp 3 0),(6,vI 0)] [(0,.box (zi x)),(1,.box (zi y)),(2,.box [.d (.raw (.bool false)),.d (nsl [])]),(3,.box [.d (.raw (.bool false)),.d (nsl [])])] h fun a w h=>?_
 obtain ⟨r1,er1,vr1,or1,lr1⟩:=mkZ (v:=x.val) (m:=x.abs.length) (zcg hx);obtain ⟨r2,er2,vr2,or2,lr2⟩:=mkZ (v:=y.val) (m:=y.abs.length) (zcg hy);refine Jg 4 [(1,.call (fU (SClean x hx (by omega)) (congrArg vz er1.symm))),(3,.call (fU (SClean y hy (by omega)) (congrArg vz er2.symm)))] [] [] [] [(0,.box (zi r1)),(1,.box (zi r2))] h fun a w h=>?_;obtain ⟨n3q,en3q,vn3q,on3q,ln3q⟩:=mkN (v:=nV r1.abs / nV r2.abs) (m:=r1.abs.length) (dR (eH _ _) (zau or1));obtain ⟨n3r,en3r,vn3r,on3r,ln3r⟩:=mkN (v:=nV r1.abs % nV r2.abs) (m:=r2.abs.length) (dS (dA _ (eI (by rw [ZI.val_abs,vr2];omega))) (zau or2));refine Je 4 [(4,.call (fU (SnDiv r1.abs r2.abs or1 or2 (by omega) (by omega) (by rw [ZI.val_abs,vr2];omega)) (show _=(.tup [.c (.d (nsl n3q)),.c (.d (nsl n3r)),.c (.d (.raw (.int .i64 0)))]:V) by rw [en3q,en3r];try rfl)))] [] [(7,vn n3q),(8,vn n3r)] h fun a w h=>qW (Je 4 [(1,.cmp (op:=.neq) (m:=0) (n:=0) (b:=false) .i64 rfl)] [] [(23,vb false)] h fun a w h=>zca h (qU (za3 ?_)));obtain ⟨r4,er4,vr4,or4,lr4⟩:=mkZ (v:=iv (r1.neg != r2.neg) n3q) (m:=n3q.length) (zc0 on3q);obtain ⟨r5,er5,vr5,or5,lr5⟩:=mkZ (v:=iv r1.neg n3r) (m:=n3r.length) (zc0 on3r);refine Jg 4 [(6,.call (fU (zh6 (r1.neg != r2.neg) n3q on3q (by omega)) (congrArg vz er4.symm))),(10,.call (fU (zh6 r1.neg n3r on3r (by omega)) (congrArg vz er5.symm)))] [7,23] [] [] [(2,.box (zi r4)),(3,.box (zi r5))] h fun a w h=>qW ?_
 rcases dB (r1.neg != r2.neg) with hc1 | hc4
 ·refine Jg 4 [(4,.cmpb .neq (m:=r1.neg) (n:=r2.neg) (b:=true) (.inr ⟨rfl,hc1.symm⟩)),(7,.len (zec n3r))] [2,8] [(47,vb (decide ((n3r.length:Int)>0)))] [0] [] h fun a w h=>zaj ((n3r.length:Int)>0) h (fun hc2 hc2'=>?_) (fun hc3 hc3'=>?_)
  ·obtain ⟨r6,er6,vr6,or6,lr6⟩:=mkZ (v:=1) (m:=2) (ZI.len_of (by have:=pw2;omega));obtain ⟨r7,er7,vr7,or7,lr7⟩:=mkZ (v:=r4.val - r6.val) (m:=r4.abs.length+r6.abs.length+1) (zdy or4 or6);obtain ⟨r8,er8,vr8,or8,lr8⟩:=mkZ (v:=r5.val+r2.val) (m:=r5.abs.length+r2.abs.length+1) (zcn or5 or2);refine Jh 4 [(1,.call (fU (SOf 1 ⟨by omega,by omega⟩) (congrArg vz er6.symm))),(2,.call (fU (SSub r4 r6 or4 or6 (by omega) (by omega)) (congrArg vz er7.symm))),(5,.call (fU (SAdd r5 r2 or5 or2 (by omega) (by omega)) (congrArg vz er8.symm)))] [3,47] [] [1] [(2,.box (zi r7)),(3,.box (zi r8))] h fun a w h=>za3 (Je 4 [] [] [] h fun a w h=>qV (zha [.agg (zi r7),.agg (zi r8),.c (.d (.raw (.int .i64 0)))] h Exit.ret (.inl rfl)  rfl ⟨RV.agg _ 2 0 _ _ _ _ zct rfl rfl rfl rfl,RV.agg _ 3 0 _ _ _ _ zct rfl rfl rfl rfl,vT9,trivial⟩ ?_));have f1:r1.neg=decide (x.val<0):=by rw [er1];rfl
   have f2:r2.neg=decide (y.val<0):=by rw [er2];rfl
   have f3:nV n3q=x.val.natAbs / y.val.natAbs:=by rw [vn3q,ZI.val_abs,ZI.val_abs,vr1,vr2]
   have f4:nV n3r=x.val.natAbs % y.val.natAbs:=by rw [vn3r,ZI.val_abs,ZI.val_abs,vr1,vr2]
   have f5:nV n3r=0 ↔ n3r.length=0:=by rw [en3r];exact val_zero (zbu _)
   obtain ⟨e1,e2⟩:=fdiv_other h0 f1 f2 f3 f4 hc1 (fun h=>by have:=f5.1 h;omega);rw [er7,er8,vr4,vr5,vr6,vr2,e1,e2];try rfl
  refine qU (za3 (Jg 4 [] [3,47] [] [1] [] h fun a w h=>qV (zha [.agg (zi r4),.agg (zi r5),.c (.d (.raw (.int .i64 0)))] h Exit.ret (.inl rfl)  rfl ⟨RV.agg _ 2 0 _ _ _ _ zct rfl rfl rfl rfl,RV.agg _ 3 0 _ _ _ _ zct rfl rfl rfl rfl,vT9,trivial⟩ ?_)));have f1:r1.neg=decide (x.val<0):=by rw [er1];rfl
  have f2:r2.neg=decide (y.val<0):=by rw [er2];rfl
  have f3:nV n3q=x.val.natAbs / y.val.natAbs:=by rw [vn3q,ZI.val_abs,ZI.val_abs,vr1,vr2]
  have f4:nV n3r=x.val.natAbs % y.val.natAbs:=by rw [vn3r,ZI.val_abs,ZI.val_abs,vr1,vr2]
  have f5:nV n3r=0 ↔ n3r.length=0:=by rw [en3r];exact val_zero (zbu _)
  obtain ⟨e1,e2⟩:=fdiv_same h0 f1 f2 f3 f4 (fun _=>f5.2 (by omega));rw [er4,er5,e1,e2];try rfl
 refine Jg 4 [(4,.cmpb .neq (m:=r1.neg) (n:=r2.neg) (b:=false) (.inr ⟨rfl,hc4.symm⟩))] [2,8] [(47,vb false)] [0] [] h fun a w h=>zca h (qU (za3 (Jg 4 [] [3,47] [] [1] [] h fun a w h=>qV (zha [.agg (zi r4),.agg (zi r5),.c (.d (.raw (.int .i64 0)))] h Exit.ret (.inl rfl)  rfl ⟨RV.agg _ 2 0 _ _ _ _ zct rfl rfl rfl rfl,RV.agg _ 3 0 _ _ _ _ zct rfl rfl rfl rfl,vT9,trivial⟩ ?_))));have f1:r1.neg=decide (x.val<0):=by rw [er1];rfl
 have f2:r2.neg=decide (y.val<0):=by rw [er2];rfl
 have f3:nV n3q=x.val.natAbs / y.val.natAbs:=by rw [vn3q,ZI.val_abs,ZI.val_abs,vr1,vr2]
 have f4:nV n3r=x.val.natAbs % y.val.natAbs:=by rw [vn3r,ZI.val_abs,ZI.val_abs,vr1,vr2]
 have f5:nV n3r=0 ↔ n3r.length=0:=by rw [en3r];exact val_zero (zbu _)
 obtain ⟨e1,e2⟩:=fdiv_same h0 f1 f2 f3 f4 (fun h=>by rw [hc4] at h;cases h);rw [er4,er5,e1,e2];try rfl
theorem sgn_eq0 {z:Int}:sgn z=0 ↔ z=0:=by unfold sgn;split <;> (try split) <;> omega
theorem tt_6:SlT fT 23 33 2:=SlT.mk' Tryz.underlying23 (by kernel_rfl)
theorem STCoef (t:zax) (v:Int) (ht:PsOk 40000000 t.parts):Fn fT 45 [] [(vT t),vI v] (vz (gA (zaf t.parts v))) []:=by
 refine fB Tryz.func45 rfl 30 fun w H B a h=>Jq 0 [] [(1,vI v),(2,vp 0 0),(4,vp 1 0)] [(0,.box (zT t)),(1,.box [cB false,.d (nsl [])])] h fun a w h=>Jg 2 [] [] [(5,vp 2 0)] [] [(2,.box [cB false,.d (nsl [])])] h fun a w h=>qW (Jg 3 [(2,.len (zac 3 gC t.parts))] [2] [(10,(vPs t.parts)),(11,vN t.parts.length),(12,vI 0)] [0] [] h fun a w h=>qZ ?_)
 refine zd3 (ι:=(Nat) × (ZI)) (fun (j,out)=>out=gA (zaf (t.parts.take j) v)/\j<=t.parts.length)
   [] (fun (j,out)=>[(12,vN j)])
   [] (fun (j,out)=>[(2,.box (zi out))])
   (fun (j,out)=>t.parts.length - j) (0,(gA 0)) ?_ h ?_
 ·exact ⟨by simp [zaf],bK _⟩
 clear h;rintro ⟨j,out⟩ a w hI h;dsimp only at h;obtain ⟨hI1,hI2⟩:=hI;have ln:=ht.1;have lo:out.abs.length<=40000001:=by rw [hI1];exact zde (ht.take j) v
 have ho:Lb out.abs:=by rw [hI1];exact ZI.lb_of _
 have vo:out.val=zaf (t.parts.take j) v:=by rw [hI1];exact gB _
 refine Je 3 [] [] [(13,vb (decide ((j:Int)<(t.parts.length:Int))))] h fun a w h=>qW (zaj ((j:Int)<(t.parts.length:Int)) h (fun hc1 hc1'=>?_) (fun hc6 hc6'=>?_))
 ·refine qU (za3 (qW (qZ ?_)));obtain ⟨x1,hx1⟩:=gl t.parts j;obtain ⟨ox1,lx1⟩:=ht.get hx1;refine Jg 3 [(0,.g (xD 14 10 zbx (zab hx1 (f:=gC)) (fW 12 _)))] [13] [(7,vp 3 0)] [] [(3,.box ([cI x1.v]++zi x1.c))] h fun a w h=>?_
  rcases dB (x1.v == v) with hc2 | hc5
  ·refine Je 4 [(3,.cmp (op:=.eql) (m:=x1.v) (n:=v) (b:=true) .i64 hc2)] [] [(23,vb (decide (v>=0)))] h fun a w h=>zaj (v>=0) h (fun hc3 hc3'=>?_) (fun hc4 hc4'=>?_)
   ·obtain ⟨r2,er2,vr2,or2,lr2⟩:=mkZ (v:=out.val+x1.c.val) (m:=out.abs.length+x1.c.abs.length+1) (zcn ho ox1);refine Jh 4 [(3,.call (fU (SAdd out x1.c ho ox1 (by omega) (by omega)) (congrArg vz er2.symm)))] [7,23] [] [3] [(2,.box (zi r2))] h fun a w h=>za6 (za3 (Jf 4 [(0,.j1 j)] [] [(12,vI ((j:Int)+1))] h fun a w h=>za3 (za9 (x:=(j,out)) (y:=(j+1,r2)) h ?_ ?_)))
    ·have hc:x1.v=v/\0<=v:=⟨by simpa using hc2,by have:=hc3';omega⟩;exact ⟨by rw [er2,vo,zcy hx1,if_pos hc],by have:=(cE.1 hx1).1;omega⟩
    (try simp);omega
   refine qU (za6 (za3 (Jh 4 [(0,.j1 j)] [7,23] [(12,vI ((j:Int)+1))] [3] [] h fun a w h=>za3 (za9 (x:=(j,out)) (y:=(j+1,out)) h ?_ ?_))))
   ·exact ⟨by rw [hI1,zcy hx1,if_neg (fun hc=>absurd hc.2 (by have:=hc4';omega)),dC],by have:=(cE.1 hx1).1;omega⟩
   (try simp);omega
  refine Je 4 [(3,.cmp (op:=.eql) (m:=x1.v) (n:=v) (b:=false) .i64 hc5)] [] [(23,vb false)] h fun a w h=>zca h (qU (za6 (za3 (Jh 4 [(0,.j1 j)] [7,23] [(12,vI ((j:Int)+1))] [3] [] h fun a w h=>za3 (za9 (x:=(j,out)) (y:=(j+1,out)) h ?_ ?_)))))
  ·exact ⟨by rw [hI1,zcy hx1,if_neg (fun hc=>absurd hc.1 (by simpa using hc5)),dC],by have:=(cE.1 hx1).1;omega⟩
  (try simp);omega
 refine exA (Jq 4 [] [(4,vp 1 0)] [(1,.box (zi out))] h fun a w h=>qV (rA 1 (zi out) h zct rfl ?_));have hj:j=t.parts.length:=by have:=hc6';omega
 subst hj;rw [hI1,cC];try rfl
def zd0 (vs:List ZI) (v:Int):Int:=if 0<=v then ((vs[v.toNat]?).map ZI.val).getD 0 else 0
def zcd (vs:List ZI):List za2->Int
  | []=>0
  | p :: ps=>p.c.val*zd0 vs p.v+zcd vs ps
theorem valP_app (vs:List ZI) (ps qs:List za2):zcd vs (ps++qs)=zcd vs ps+zcd vs qs:=by
 induction ps with
 | nil=>simp [zcd]
 | cons p ps ih=>simp only [eN,zcd,ih];omega
theorem valP_take {vs:List ZI} (h:ps[j]?=some p):zcd vs (ps.take (j+1))=zcd vs (ps.take j)+p.c.val*zd0 vs p.v:=by
 have:ps.take (j+1)=ps.take j++[p]:=by rw [bL,h];rfl
 rw [this,valP_app];simp [zcd]
theorem valAt_some {vs:List ZI} (h:v=(k:Int)) (hy:vs[k]?=some y):zd0 vs v=y.val:=by
 subst h
 unfold zd0
 rw [if_pos (by omega),dI,hy];rfl
theorem ze8 {vs:List ZI} (h:¬ v>=0):zd0 vs v=0:=by unfold zd0;rw [if_neg (by omega)]
theorem valAt_out {vs:List ZI} (h:¬ v<(vs.length:Int)):zd0 vs v=0:=by
 unfold zd0
 split
 ·rw [List.getElem?_eq_none (by omega)];rfl
 ·rfl
def zcc (t:zax) (vs:List ZI):Int:=t.k.val+zcd vs t.parts
def VOk (M:Nat) (vs:List ZI):Prop:=vs.length<=2000/\∀ y ∈ vs,Lb y.abs/\y.abs.length<=M
theorem VOk.get {vs:List ZI} (h:VOk M vs) (hy:vs[j]?=some y):Lb y.abs/\y.abs.length<=M:=h.2 y (dG hy)
theorem valAt_lt {vs:List ZI} (h:VOk M vs) (v:Int):(zd0 vs v).natAbs<pw M:=by
 unfold zd0
 split
 ·cases hy:vs[v.toNat]? with
  | none=>exact ze9 M
  | some y =>
   obtain ⟨h1,h2⟩:=h.get hy
   have h3:=ZI.abs_lt h1
   have h4:=zd2 h2
   show y.val.natAbs<_
   omega
 ·exact ze9 M
theorem valP_lt {L:Nat} {vs:List ZI} (hv:VOk M vs):∀ {ps:List za2}, (∀ p ∈ ps,Lb p.c.abs/\p.c.abs.length<=L)->(zcd vs ps).natAbs<=ps.length*pw (L+M)
 | [],_=>by simp [zcd]
 | p :: ps,h=>by
  have ih:=valP_lt hv (fun q hq=>h q (by simp [hq])) (ps:=ps)
  obtain ⟨h1,h2⟩:=h p (by simp)
  have h3:=cJ (ZI.abs_lt h1) (zd2 h2)
  have h4:(p.c.val*zd0 vs p.v).natAbs<pw (L+M):=by
   rw [Int.natAbs_mul,ze6]
   exact Nat.mul_lt_mul'' h3 (valAt_lt hv p.v)
  simp only [zcd,cL,cH]
  omega
theorem val_len {L:Nat} {vs:List ZI} (ht:TOk n L t) (hn:n<=1000000000) (hv:VOk M vs) (hp:∀ p ∈ ps,p ∈ t.parts) (hl:ps.length<=t.parts.length):(gA (t.k.val+zcd vs ps)).abs.length<=L+M+1:=by
 refine ZI.len_of ?_
 have h1:=valP_lt hv (fun p h=>ht.ps p (hp p h)) (L:=L)
 have h2:ps.length*pw (L+M)<=1000000000*pw (L+M):=bU _ (by have:=ht.len;omega)
 have h3:=cJ (ZI.abs_lt ht.kb) (zd2 ht.kl)
 have h4:=zd2 (show L<=L+M by omega)
 rw [zai]
 omega
theorem SValue (t:zax) (vs:List ZI) {L:Nat} (ht:TOk n L t) (hn:n<=1000000000) (hL:L+M<=20000) (hv:VOk M vs):Fn fT 52 [] [(vT t),(vZs vs)] (vz (gA (zcc t vs))) []:=by
 have kt:=ht.kl;have lnv:=hv.1;refine fB Tryz.func52 rfl 40 fun w H B a h=>Jq 0 [] [(1,(vZs vs)),(2,vp 0 0),(4,vp 1 0)] [(0,.box (zT t)),(1,.box [cB false,.d (nsl [])])] h fun a w h=>?_
 obtain ⟨r1,er1,vr1,or1,lr1⟩:=mkZ (v:=t.k.val) (m:=t.k.abs.length) (zcg ht.kb);refine Jg 2 [(2,.call (fU (zeg t.k ht.kb (by omega)) (congrArg vz er1.symm)))] [] [(5,vp 2 0)] [] [(2,.box (zi r1))] h fun a w h=>qW (Jg 3 [(2,.len (zac 3 gC t.parts))] [2] [(12,(vPs t.parts)),(13,vN t.parts.length),(14,vI 0)] [0] [] h fun a w h=>qZ ?_)
 refine zd3 (ι:=(Nat) × (ZI)) (fun (j,out)=>out=gA (t.k.val+zcd vs (t.parts.take j))/\j<=t.parts.length)
   [] (fun (j,out)=>[(14,vN j)])
   [] (fun (j,out)=>[(2,.box (zi out))])
   (fun (j,out)=>t.parts.length - j) (0,r1) ?_ h ?_
 ·exact ⟨by rw [er1];simp [zcd],bK _⟩
 clear h;rintro ⟨j,out⟩ a w hI h;dsimp only at h;obtain ⟨hI1,hI2⟩:=hI;have ln:=ht.len;have lo:out.abs.length<=L+M+1:=by rw [hI1];exact val_len ht hn hv (fun p hp=>fO hp) (by rw [cG];omega)
 have ho:Lb out.abs:=by rw [hI1];exact ZI.lb_of _
 have vo:out.val=t.k.val+zcd vs (t.parts.take j):=by rw [hI1];exact gB _
 refine Je 3 [] [] [(15,vb (decide ((j:Int)<(t.parts.length:Int))))] h fun a w h=>qW (zaj ((j:Int)<(t.parts.length:Int)) h (fun hc1 hc1'=>?_) (fun hc6 hc6'=>?_))
 ·refine qU (za3 (qW (qZ ?_)));obtain ⟨x2,hx2⟩:=gl t.parts j;obtain ⟨ox2,lx2⟩:=ht.get hx2;refine Jg 3 [(0,.g (xD 16 12 zbx (zab hx2 (f:=gC)) (fW 14 _)))] [15] [(7,vp 3 0)] [] [(3,.box ([cI x2.v]++zi x2.c))] h fun a w h=>?_
  rcases dB (decide (x2.v>=0)) with hc2 | hc5
  ·have hc2':=dT hc2;refine Je 4 [(2,.cmp (op:=.geq) (m:=x2.v) (n:=0) (b:=true) .i64 hc2),(7,.len (zac 2 ziD vs))] [] [(27,vb (decide (x2.v<(vs.length:Int))))] h fun a w h=>zaj (x2.v<(vs.length:Int)) h (fun hc3 hc3'=>?_) (fun hc4 hc4'=>?_)
   ·obtain ⟨k,hk⟩:∃ k:Nat,x2.v=(k:Int):=⟨_,(Int.toNat_of_nonneg (by omega)).symm⟩;replace h:=cvM [] [] [] [(3,.box ([cI (k:Int)]++zi x2.c))] (by rw [hk]; try kernel_rfl) h;obtain ⟨x3,hx3⟩:=gl vs k;obtain ⟨ox3,lx3⟩:=hv.get hx3;obtain ⟨r4,er4,vr4,or4,lr4⟩:=mkZ (v:=x2.c.val*x3.val) (m:=x2.c.abs.length+x3.abs.length) (zdi ox2 ox3);obtain ⟨r5,er5,vr5,or5,lr5⟩:=mkZ (v:=out.val+r4.val) (m:=out.abs.length+r4.abs.length+1) (zcn ho or4);refine Jh 4 [(6,.g (xD 34 31 tt_6 (zab hx3 (f:=ziD)) (fW 33 _))),(8,.call (fU (SMul x2.c x3 ox2 ox3 (by omega) (by omega)) (congrArg vz er4.symm))),(9,.call (fU (SAdd out r4 ho or4 (by omega) (by omega)) (congrArg vz er5.symm)))] [7,27] [] [3] [(2,.box (zi r5))] h fun a w h=>za6 (za3 (Jf 4 [(0,.j1 j)] [] [(14,vI ((j:Int)+1))] h fun a w h=>za3 (za9 (x:=(j,out)) (y:=((j+1),r5)) h ?_ ?_)))
    ·have:=zad hx2;exact ⟨by rw [er5,vr4,vo,valP_take hx2,valAt_some hk hx3,<- Int.add_assoc],by omega⟩
    show t.parts.length - (j+1)<t.parts.length - j;have:=zad hx2;omega
   refine qU (za6 (za3 (Jh 4 [(0,.j1 j)] [7,27] [(14,vI ((j:Int)+1))] [3] [] h fun a w h=>za3 (za9 (x:=(j,out)) (y:=((j+1),out)) h ?_ ?_))))
   ·have:=zad hx2;exact ⟨by rw [hI1,valP_take hx2,valAt_out hc4', Int.mul_zero,dC],by omega⟩
   show t.parts.length - (j+1)<t.parts.length - j;have:=zad hx2;omega
  have hc5':=dF hc5;refine Je 4 [(2,.cmp (op:=.geq) (m:=x2.v) (n:=0) (b:=false) .i64 hc5)] [] [(27,vb false)] h fun a w h=>zca h (qU (za6 (za3 (Jh 4 [(0,.j1 j)] [7,27] [(14,vI ((j:Int)+1))] [3] [] h fun a w h=>za3 (za9 (x:=(j,out)) (y:=((j+1),out)) h ?_ ?_)))))
  ·have:=zad hx2;exact ⟨by rw [hI1,valP_take hx2,ze8 hc5', Int.mul_zero,dC],by omega⟩
  show t.parts.length - (j+1)<t.parts.length - j;have:=zad hx2;omega
 refine exA (Jq 4 [] [(4,vp 1 0)] [(1,.box (zi out))] h fun a w h=>qV (rA 1 (zi out) h zct rfl ?_));have hj:j=t.parts.length:=by omega
 subst hj;rw [hI1,cC];try rfl
theorem plain_vars (t:zax):(zaa t).parts.map za2.v=zb9 t.parts:=by
 show ((zb9 t.parts).map (zda t.parts)).map za2.v=_
 rw [List.map_map]
 exact (List.map_congr_left fun v _=>rfl).trans (List.map_id _)
theorem STVars (t:zax) {L:Nat} (ht:TOk n L t) (hn:n<=1000000000) (hL:L<=20000000):Fn fT 42 [] [(vT t)] (vIs (zb9 t.parts)) []:=by
 have lpp:=(ht.plain hn).len;refine fB Tryz.func42 rfl 21 fun w H B a h=>Jq 0 [] [(1,vp 0 0),(2,vW zb2)] [(0,.box (zT t))] h fun a w h=>Je 1 [] [] [(3,vW zb2)] h fun a w h=>qW ?_
 replace h:=nilOSx 3 0 1 1 3 (vW zb2) h;refine Jg 2 [(1,.call (SPlain t ht (by omega) (by omega))),(3,.len (zac 3 gC ((zaa t).parts)))] [1] [(8,(vPs (zaa t).parts)),(9,vI ((zaa t).parts.length:Int)),(10,vI 0)] [0] [] h fun a w h=>qZ ?_
 refine zd3 (ι:=(Nat) × (List Int)) (fun (j,out)=>out=((zaa t).parts.take j).map za2.v/\j<=(zaa t).parts.length/\out.length<=j)
   [] (fun (j,out)=>[(3,vO 1 out.length),(10,vN j)])
   [] (fun (j,out)=>[(1,.row 3 1 (out.map zc4))])
   (fun (j,out)=>(zaa t).parts.length - j) (0,[]) ?_ h ?_
 ·exact ⟨by simp,bK _,bK _⟩
 clear h;rintro ⟨j,out⟩ a w hI h;dsimp only at h;obtain ⟨hI1,hI2,hI3⟩:=hI;refine Je 2 [] [] [(11,vb (decide ((j:Int)<((zaa t).parts.length:Int))))] h fun a w h=>qW (zaj ((j:Int)<((zaa t).parts.length:Int)) h (fun hc1 hc1'=>?_) (fun hc2 hc2'=>?_))
 ·refine qU (za3 (qW (qZ ?_)));obtain ⟨x2,hx2⟩:=gl ((zaa t).parts) j;refine Jg 2 [(0,.g (xD 12 8 zbx (zab hx2 (f:=gC)) (fW 10 _)))] [11] [(5,vp 2 0)] [] [(2,.box ([cI x2.v]++zi x2.c))] h fun a w h=>Jh 3 [(3,.g (bD 17 ([x2.v].map zc4) [(16,vI x2.v)] tb_0 (.cons (i:=0) (fW 16 _) (.nil)) (by kernel_rfl) (by simp [zc4]))),(4,.g (aD 18 14 17 1 3 out [x2.v] zc4 tb_2 (by simp [zc4])))] [5] [(3,vO 3 (out++[x2.v]).length)] [1,2] [(3,.row 3 1 ((out++[x2.v]).map zc4))] h fun a w h=>za6 (za3 (Jf 4 [(0,.j1 j)] [] [(10,vI ((j:Int)+1))] h fun a w h=>za3 ?_));replace h:=zfb 3 1 h;refine za9 (x:=(j,out)) (y:=((j+1),(out++[x2.v]))) h ?_ ?_
  ·refine ⟨?_,by have:=zad hx2;omega,by simp;omega⟩;rw [take_map hx2,<- hI1]
  show (zaa t).parts.length - (j+1)<(zaa t).parts.length - j;have:=zad hx2;omega
 refine exA ?_;have hj:j=(zaa t).parts.length:=by omega
 rw [hj,cC,plain_vars] at hI1;replace h:=cvM [] [] [] [(1,.row 3 1 ((zb9 t.parts).map zc4))] (by rw [<- show (out:List Int)=(zb9 t.parts) from hI1]; try kernel_rfl) h;replace h:=cvM [] [(3,vO 1 (zb9 t.parts).length)] [] [] (by rw [hI1]; try kernel_rfl) h;replace h:=pubX 1 1 3 ((zb9 t.parts).map zc4) h [(zb9 t.parts).length] ⟨by first | exact (bS _).symm | simp,trivial⟩;refine Jq 4 [] [(2,(vIs (zb9 t.parts)))] [] h fun a w h=>qV (rT (.c (cIs (zb9 t.parts))) h rfl ?_);rfl
def allN:Nat->(Nat->Bool)->Bool
  | 0,_=>true
  | n+1,p=>allN n p && p n
def idxB {α:Type} (pr:α->Bool):List α->Nat->Int
  | [],_=>-1
  | p :: ps,n=>if pr p=true then n else idxB pr ps (n+1)
theorem idxB_at {pr:α->Bool} {xs:List α} {p:α} (h:xs[j]?=some p):idxB pr (xs.drop j) j=if pr p=true then (j:Int) else idxB pr (xs.drop (j+1)) (j+1):=by
 obtain ⟨hj,rfl⟩:=cE.1 h
 rw [dD hj];rfl
theorem idxB_cases (pr:α->Bool):∀ (xs:List α) (n:Nat),(idxB pr xs n=-1/\∀ x ∈ xs,pr x=false)\/∃ k x,idxB pr xs n=((n+k:Nat):Int)/\xs[k]?=some x/\pr x=true/\∀ y ∈ xs.take k,pr y=false
 | [],n => .inl ⟨rfl,fun x hx=>(by cases hx)⟩
 | p :: ps,n=>by
  cases hp:pr p with
  | true=>exact .inr ⟨0,p,by simp [idxB,hp],rfl,hp,fun y hy=>by simp at hy⟩
  | false =>
   rcases idxB_cases pr ps (n+1) with ⟨h1,h2⟩ | ⟨k,x,h1,h2,h3,h4⟩
   ·exact .inl ⟨by simp [idxB,hp,h1],fun x hx=>(cP.1 hx).elim (fun e=>e ▸ hp) (h2 x)⟩
   ·exact .inr ⟨k+1,x,by simp only [idxB,hp,dE,if_false,h1];omega,h2,h3,fun y hy=>by rw [List.take_succ_cons] at hy;exact (cP.1 hy).elim (fun e=>e ▸ hp) (h4 y)⟩
theorem idxB_any (pr:α->Bool) (xs:List α):decide (idxB pr xs 0>=0)=xs.any pr:=by
 rcases idxB_cases pr xs 0 with ⟨h1,h2⟩ | ⟨k,x,h1,h2,h3,_⟩
 ·rw [h1]
  cases h:xs.any pr with
  | false=>rfl
  | true=>obtain ⟨x,hx,hp⟩:=List.any_eq_true.1 h;rw [h2 x hx] at hp;cases hp
 ·rw [h1,decide_eq_true (by omega)]
  exact (List.any_eq_true.2 ⟨x,dG h2,h3⟩).symm
structure za8 where
  t:zax
  eq:Bool
def za8.d (x:za8):List D:=[.sl 3 (x.t.parts.map gC),.raw (.bool x.t.k.neg),nsl x.t.k.abs,.raw (.bool x.eq)]
inductive zbh where
  | mk (kind:Int) (r:za8) (kids:List zbh)
def zbh.kind:zbh->Int | ⟨k,_,_⟩=>k
def zbh.r:zbh->za8 | ⟨_,r,_⟩=>r
def zbh.kids:zbh->List zbh | ⟨_,_,ks⟩=>ks
def zbh.fold {α:Type} (g:Int->za8->List zbh->List α->α):zbh->α
  | ⟨k,r,ks⟩=>g k r ks (ks.attach.map fun x=>zbh.fold g x.1)
  termination_by f=>SizeOf.sizeOf f
  decreasing_by have:=List.sizeOf_lt_of_mem x.2;simp;omega
def zbh.d (f:zbh):List D:=f.fold fun k r _ ds=>[.raw (.int .i64 k),.sl 3 (r.t.parts.map gC),.raw (.bool r.t.k.neg),nsl r.t.k.abs,.raw (.bool r.eq),.sl 6 ds]
structure zh2 where
  is_:Bool
  lo:ZI
  hi:ZI
def zh2.d (x:zh2):List D:=[.raw (.bool x.is_),.raw (.bool x.lo.neg),nsl x.lo.abs,.raw (.bool x.hi.neg),nsl x.hi.abs]
structure MoveD where
  v:Int
  any:Bool
  t:zax
def MoveD.d (x:MoveD):List D:=[.raw (.int .i64 x.v),.raw (.bool x.any),.sl 3 (x.t.parts.map gC),.raw (.bool x.t.k.neg),nsl x.t.k.abs]
structure ActD where
  proc:Int
  from_:Int
  to_:Int
  guard:zbh
  moves:List MoveD
def ActD.d (x:ActD):List D:=[.raw (.int .i64 x.proc),.raw (.int .i64 x.from_),.raw (.int .i64 x.to_),.raw (.int .i64 x.guard.kind),.sl 3 (x.guard.r.t.parts.map gC),.raw (.bool x.guard.r.t.k.neg),nsl x.guard.r.t.k.abs,.raw (.bool x.guard.r.eq),.sl 6 (x.guard.kids.map zbh.d),.sl 5 (x.moves.map MoveD.d)]
structure ProcD where
  name:ByteArray
  locs:List ByteArray
  cmds:D
def ProcD.d (x:ProcD):List D:=[.raw (.string x.name),.sl 1 (x.locs.map strD),x.cmds]
structure zhl where
  vars:List ByteArray
  bounds:List zh2
  init:zbh
  procs:List ProcD
  acts:List ActD
def zhl.d (x:zhl):List D:=[.sl 1 (x.vars.map strD),.sl 5 (x.bounds.map zh2.d),.raw (.int .i64 x.init.kind),.sl 3 (x.init.r.t.parts.map gC),.raw (.bool x.init.r.t.k.neg),nsl x.init.r.t.k.abs,.raw (.bool x.init.r.eq),.sl 6 (x.init.kids.map zbh.d),.sl 3 (x.procs.map ProcD.d),.sl 10 (x.acts.map ActD.d)]
structure StD where
  locs:List Int
  vals:List ZI
def StD.d (x:StD):List D:=[.sl 1 (x.locs.map zc4),.sl 2 (x.vals.map ziD)]
structure RunD where
  stem:List StD
  cycle:List StD
  acts:List Int
def RunD.d (x:RunD):List D:=[.sl 2 (x.stem.map StD.d),.sl 2 (x.cycle.map StD.d),.sl 1 (x.acts.map zc4)]
structure PropD where
  at_:Bool
  proc:Int
  loc:Int
  f:zbh
def PropD.d (x:PropD):List D:=[.raw (.bool x.at_),.raw (.int .i64 x.proc),.raw (.int .i64 x.loc),.raw (.int .i64 x.f.kind),.sl 3 (x.f.r.t.parts.map gC),.raw (.bool x.f.r.t.k.neg),nsl x.f.r.t.k.abs,.raw (.bool x.f.r.eq),.sl 6 (x.f.kids.map zbh.d)]
structure WordD where
  stem:List (List Bool)
  cycle:List (List Bool)
def WordD.d (x:WordD):List D:=[.sl 1 (x.stem.map (slD 1 boolD)),.sl 1 (x.cycle.map (slD 1 boolD))]
abbrev sysC (s:zhl):List C:=([.d (.sl 1 (s.vars.map strD)),.d (.sl 5 (s.bounds.map zh2.d)),.d (.raw (.int .i64 s.init.kind)),.d (.sl 3 (s.init.r.t.parts.map gC))]++zi s.init.r.t.k++[.d (.raw (.bool s.init.r.eq)),.d (.sl 6 (s.init.kids.map zbh.d)),.d (.sl 3 (s.procs.map ProcD.d)),.d (.sl 10 (s.acts.map ActD.d))])
abbrev acC (x:ActD):List C:=[.d (.raw (.int .i64 x.proc)),.d (.raw (.int .i64 x.from_)),.d (.raw (.int .i64 x.to_)),.d (.raw (.int .i64 x.guard.kind)),.d (.sl 3 (x.guard.r.t.parts.map gC))]++zi x.guard.r.t.k++[.d (.raw (.bool x.guard.r.eq)),.d (.sl 6 (x.guard.kids.map zbh.d)),.d (.sl 5 (x.moves.map MoveD.d))]
abbrev zF (x:zbh):List C:=[.d (.raw (.int .i64 x.kind)),.d (.sl 3 (x.r.t.parts.map gC))]++zi x.r.t.k++[.d (.raw (.bool x.r.eq)),.d (.sl 6 (x.kids.map zbh.d))]
abbrev zR_ (x:za8):List C:=[.d (.sl 3 (x.t.parts.map gC))]++zi x.t.k++[.d (.raw (.bool x.eq))]
abbrev vF (x:zbh):V:=.t (.agg (zF x))
abbrev vR (x:za8):V:=.t (.agg (zR_ x))
abbrev vFs (x:List zbh):V:=.t (.c (.d (.sl 6 (x.map zbh.d))))
abbrev vRs (x:List za8):V:=.t (.c (.d (.sl 4 (x.map za8.d))))
abbrev cFs (x:List zbh):C:=.d (.sl 6 (x.map zbh.d))
abbrev cRs (x:List za8):C:=.d (.sl 4 (x.map za8.d))
section
variable {P:Program}
theorem TyOk.fnc {t:TypeId} {z:C} {dd:TypeDesc} (hu:P.underlying t=some dd) (ha:(match dd with | .struct _ | .array _ _=>true | _=>false)=false) (hs:(P.info? t).map (·.size)=some 1) (hz:Zero P t [z]):TyOk P t ⟨1,false,[],[z],4⟩ :=
 ⟨Sz.mk' hs hu _ ha.symm,fun k off n ag h=>(by simp at h),fun _=>hz,fun h=>absurd rfl h,fun h=>(by cases h),fun h=>(by cases h),fun h=>(by cases h),fun k h=>(by cases h)⟩
theorem Op.makeFs {d:Nat} {fn:Go.Fn} (ts:List (Nat × Nat × Nat)) {pos af gd} :
  zav P ⟨some d,.makeFunc fn #[] ⟨ts.map fun p => .tmp p.1⟩,ty,pos,af,gd⟩ { rs:=ts.map fun p=>(p.1,vp p.2.1 p.2.2),ws:=[(d,some (.t (.c (.fn fn [] (ts.map fun p=>A.ptr p.2.1 p.2.2)))))] } :=
 zav.value d _ rfl rfl rfl fun e f H B a w hok hr=>by
  refine ⟨.func fn #[] ⟨ts.map fun p=>a.eval (.tmp p.1)⟩,?_,[],ts.map fun p=>a.eval (.tmp p.1),rfl,trivial,?_⟩
  ·simp [execOp,Instr.makeFunc,Function.comp_def]
  ·have h1:∀ p ∈ ts,AR H B (.ptr p.2.1 p.2.2) (a.eval (.tmp p.1)):=fun p hp=>hok.slot p.1 _ (hr.1 (p.1,vp p.2.1 p.2.2) (eA.2 ⟨p,hp,rfl⟩))
   clear hr
   induction ts with
   | nil=>trivial
   | cons p ts ih=>exact ⟨h1 p (by simp),ih fun q hq=>h1 q (by simp [hq])⟩
end
theorem all_take {q:α->Bool} {xs:List α} {x:α} (h:xs[j]?=some x):(xs.take (j+1)).all q=((xs.take j).all q && q x):=by
 have e:xs.take (j+1)=xs.take j++[x]:=by rw [bL,h];rfl
 rw [e,List.all_append];simp
theorem zg2 {q:α->Bool} {xs:List α} {x:α} (h:xs[j]?=some x) (h1:(xs.take j).all q=true) (h2:q x=true):(xs.take (j+1)).all q=true:=by rw [all_take h,h1,h2];rfl
theorem ze2 {q:α->Bool} {xs:List α} {x:α} (h:xs[j]?=some x) (h2:q x=false):xs.all q=false:=by
 cases h3:xs.all q with
 | false=>rfl
 | true=>rw [List.all_eq_true.1 h3 x (dG h)] at h2;cases h2
theorem zgo {q:α->Bool} {xs:List α} (hj:¬ (j:Int)<(xs.length:Int)) (h1:(xs.take j).all q=true):xs.all q=true:=by rwa [fD (by omega)] at h1
def cnt {α:Type} (k:Int) (xs:List α):List α:=if k=4\/k=5 then xs else if k=3 then xs.take 1 else []
def sizeGo (lim:Int):List (Int->Int)->Int->Int
  | [],n=>n
  | s :: ss,n=>if n<=lim then sizeGo lim ss (n+s (lim - n)) else n
def zbh.size (f:zbh):Int->Int:=f.fold fun k _ _ ss lim=>sizeGo lim (cnt k ss) 1
def fewR (L:Int) (r:za8):Bool:=decide ((r.t.parts.length:Int)<=20) && decide ((r.t.k.abs.length:Int)<=L) && r.t.parts.all fun p=>decide ((p.c.abs.length:Int)<=L)
def zf3 (vs:List ZI) (r:za8):Bool:=if r.eq=true then sgn (zcc r.t vs) == 0 else decide (sgn (zcc r.t vs)>=0)
def zbh.holds (vs:List ZI) (f:zbh):Bool:=f.fold fun k r _ bs=>if k=0 then true else if k=2 then zf3 vs r else if k=3 then (match bs with | []=>false | b :: _=>!b) else if k=4 then bs.all id else if k=5 then bs.any id else false
def TokR (L:Nat) (r:za8):Prop:=TOk 20 L r.t
def zbh.ok (L:Nat) (f:zbh):Prop:=f.fold fun k r _ ps=>(k=2->TokR L r)/\∀ p ∈ cnt k ps,p
def zbh.lb (f:zbh):Prop:=f.fold fun _ r ks ps=>(TLb r.t/\ks.length<=9223372036854775807)/\∀ p ∈ ps,p
theorem fewR_ok {L:Nat} {r:za8} (h:fewR L r=true) (hl:TLb r.t):TokR L r:=by
 simp only [fewR,Bool.and_eq_true,decide_eq_true_eq,List.all_eq_true] at h
 exact ⟨by omega,fun p hp=>⟨hl.2 p hp,by have:=h.2 p hp;omega⟩,hl.1,by omega⟩
theorem kc_3:SlT fT 22 43 4:=SlT.mk' Tryz.underlying22 (by kernel_rfl)
theorem kc_5:ElZ fT 22 43 4:=ElZ.mk' Tryz.underlying22 _ _ rfl rfl
def fltV (j:Nat) (ps:List za2):List za2:=ps.filter fun p=>decide (0<=p.v/\p.v<(j:Int))
theorem fltV_succ (vs:List ZI) (j:Nat):∀ ps:List za2,zcd vs (fltV (j+1) ps)=zcd vs (fltV j ps)+zaf ps j*zd0 vs j
 | []=>by simp [fltV,zcd,zaf]
 | p :: ps=>by
  have ih:=fltV_succ vs j ps
  simp only [fltV] at ih ⊢
  simp only [cN,zaf,Int.add_mul]
  by_cases h1:0<=p.v/\p.v<(j:Int)
  ·rw [if_pos (decide_eq_true (by omega)),if_pos (decide_eq_true h1),if_neg (by omega)]
   simp only [zcd,ih];omega
  ·by_cases h2:p.v=(j:Int)
   ·rw [if_pos (decide_eq_true (by omega)),if_neg (by simpa using h1),if_pos (by omega)]
    simp only [zcd,ih,h2];omega
   ·rw [if_neg (by rw [decide_eq_true_eq];omega),if_neg (by simpa using h1),if_neg (by omega),ih];omega
theorem fltV_all (vs:List ZI):∀ ps:List za2,zcd vs (fltV vs.length ps)=zcd vs ps
 | []=>rfl
 | p :: ps=>by
  have ih:=fltV_all vs ps
  simp only [fltV] at ih ⊢
  simp only [cN]
  by_cases h1:0<=p.v/\p.v<(vs.length:Int)
  ·rw [if_pos (decide_eq_true h1)];simp only [zcd,ih]
  ·rw [if_neg (by simpa using h1),ih,zcd]
   by_cases h2:0<=p.v
   ·rw [valAt_out (by omega)];omega
   ·rw [ze8 (by omega)];omega
theorem fltV_zero (ps:List za2):fltV 0 ps=[]:=by
 unfold fltV;rw [List.filter_eq_nil_iff];intro p _;rw [decide_eq_true_eq];omega
theorem fltV_mem:∀ p ∈ fltV j ps,p ∈ ps:=fun p hp=>(dZ.1 hp).1
theorem fltV_len (j:Nat) (ps:List za2):(fltV j ps).length<=ps.length:=List.length_filter_le _ _
def zf8 (rs:List za8) (most L:Int):Bool:=decide ((rs.length:Int)<=most) && rs.all (fewR L)
theorem SRValue (t:zax) (vs:List ZI) {L:Nat} (ht:TOk n L t) (hn:n<=1000000000) (hL:L+M<=20000) (hv:VOk M vs):Fn fT 56 [] [(vT t),(vZs vs)] (vz (gA (zcc t vs))) []:=by
 have kt:=ht.kl;have lnv:=hv.1;refine fB Tryz.func56 rfl 27 fun w H B a h=>Jq 0 [] [(1,(vZs vs)),(2,vp 0 0),(4,vp 1 0)] [(0,.box (zT t)),(1,.box [cB false,.d (nsl [])])] h fun a w h=>Jg 2 [] [] [(5,vp 2 0)] [] [(2,.box (zi t.k))] h fun a w h=>qW (Je 3 [] [] [(6,vI 0)] h fun a w h=>qZ ?_)
 refine zd3 (ι:=(Nat) × (ZI)) (fun (j,out)=>j<=vs.length/\out.val=t.k.val+zcd vs (fltV j t.parts)/\Lb out.abs/\out.abs.length<=L+M+2)
   [] (fun (j,out)=>[(6,vN j)])
   [] (fun (j,out)=>[(2,.box (zi out))])
   (fun (j,out)=>vs.length - j) (0,t.k) ?_ h ?_
 ·exact ⟨bK _,by rw [fltV_zero];simp [zcd],ht.kb,by omega⟩
 clear h;rintro ⟨j,out⟩ a w hI h;dsimp only at h;obtain ⟨hI1,vo,ho,lo⟩:=hI;refine qW (Je 3 [(2,.len (zac 2 ziD vs))] [] [(12,vb (decide ((j:Int)<(vs.length:Int))))] h fun a w h=>zaj ((j:Int)<(vs.length:Int)) h (fun hc1 hc1'=>?_) (fun hc2 hc2'=>?_))
 ·refine qU (za3 (qW (qZ ?_)));obtain ⟨r1,er1,vr1,or1,lr1⟩:=mkZ (v:=zaf t.parts (j:Int)) (m:=L+1) (zde (ht.mono hn (bI L)).psok (j:Int));obtain ⟨x2,hx2⟩:=gl vs j;obtain ⟨ox2,lx2⟩:=hv.get hx2;obtain ⟨r3,er3,vr3,or3,lr3⟩:=mkZ (v:=r1.val*x2.val) (m:=r1.abs.length+x2.abs.length) (zdi or1 ox2);obtain ⟨r4,er4,vr4,or4,lr4⟩:=mkZ (v:=out.val+r3.val) (m:=out.abs.length+r3.abs.length+1) (zcn ho or3);refine Jh 3 [(3,.call (fU (SCoef t (j:Int) (ht.mono hn (show L<=40000 by omega)).psok) (congrArg vz er1.symm))),(6,.g (xD 21 19 tt_6 (zab hx2 (f:=ziD)) (fW 20 _))),(8,.call (fU (SRMul r1 x2 or1 ox2 (by omega) (by omega)) (congrArg vz er3.symm))),(9,.call (fU (SRAdd out r3 ho or3 (by omega) (by omega)) (congrArg vz er4.symm)))] [12] [] [] [(2,.box (zi r4))] h fun a w h=>za6 (za3 (Jf 3 [(1,.j1 j)] [] [(6,vI ((j:Int)+1))] h fun a w h=>za3 (za9 (x:=(j,out)) (y:=((j+1),r4)) h ?_ ?_)))
  ·have:=zad hx2;have hvz:r4.val=t.k.val+zcd vs (fltV (j+1) t.parts):=by rw [vr4,vr3,vr1,vo,fltV_succ,valAt_some (v:=(j:Int)) rfl hx2,Int.add_assoc]
   exact ⟨by omega,hvz,or4,by rw [er4];exact bW (by rw [<- vr4,hvz];exact val_len ht hn hv fltV_mem (fltV_len _ _)) (by omega)⟩
  show vs.length - (j+1)<vs.length - j;have:=zad hx2;omega
 refine exA ?_;obtain ⟨r5,er5,vr5,or5,lr5⟩:=mkZ (v:=out.val) (m:=out.abs.length) (zcg ho);refine Jq 3 [(1,.call (fU (SRClean out ho (by omega)) (congrArg vz er5.symm)))] [(4,vp 1 0)] [(1,.box (zi r5))] h fun a w h=>qV (rA 1 (zi r5) h zct rfl ?_);have hz:out.val=zcc t vs:=by rw [vo,show j=vs.length by first | omega | (simp_all;omega),fltV_all];rfl
 first | (rw [er5,hz];done) | (rw [er5,hz];rfl) | (rw [hz];done) | (rw [hz];rfl)
end S
end Go.Proofs.YtakmnjihdfgolaaGreat
