/-
  The proof of the statement ShadowExact. It holds for every input.
-/
import Derived.Test.YtakmnjihdfgolaaGreatSE3
import Derived.Laws.Strings
import Derived.Laws.MakeOwn
import Derived.Test.YtakmnjihdfgolaaGreatSE2
import Derived.Lib.RowBridge
import Derived.Test.YtakmnjihdfgolaaGreatSE1
import Derived.Test.YtakmnjihdfgolaaGreatRows
import Derived.ProofKit
import Derived.OpenShut
import Derived.JoinedCond
set_option maxRecDepth 100000
set_option maxHeartbeats 20000000
open Go.RowKit
open Nat renaming le_trans->bC,zero_le->bF,le_refl->bJ,zero_add->cP,le_succ->cU,eq_zero_or_pos->dA
open List renaming length_map->bE,mem_singleton->bG,length_append->bI,take_of_length_le->bL,getElem?_eq_getElem->bN,length_cons->bP,mem_flatMap->bS,length_take->bU,take_length->bV,mem_cons_self->bW,take_add_one->bX,mem_cons->cC,length_nil->cD,append_assoc->cE,length_eq_zero_iff->cF,mem_cons_of_mem->cH,mem_append->cJ,mem_map->cN,all_eq_true->cO,length_drop->cQ,drop_of_length_le->cW,getElem?_eq_some_iff->cX,mem_filter->dD,map_append->dE,append_nil->dH,flatMap_cons->dI,foldl_append->dJ,any_eq_true->dM,getElem?_toArray->dP,getElem?_append_left->dQ,length_replicate->dS,pairwise_cons->dU,mem_iff_getElem->dV,getElem_take->dW,pairwise_iff_getElem->dX,filter_cons->dY,any_eq_false->dZ,getElem_map->eA,length_filter_le->eB,reverse_reverse->eC,getElem?_append_right->eE,pairwise_singleton->eG,mem_iff_getElem?->eI
open Bool renaming eq_false_or_eq_true->bK,and_false->cM,and_eq_true->cT,eq_iff_iff->dN,or_eq_true->dO
open Int renaming zero_mul->cG,neg_mul->cK,mul_comm->cL,zero_add->cV,add_mul->cY,mul_assoc->cZ,mul_le_mul_of_nonneg_left->dB,sub_mul->dC,add_zero->dG,mul_le_mul_of_nonneg_right->eH
open Option renaming getD_some->dL
open Array renaming getElem?_eq_some_iff->dR,getElem?_modify->eF
open Go.Proofs.Tryz renaming prog->eJ
open Go.Proofs.YtakmnjihdfgolaaGreat.S.Fn renaming cast->eK
open Go.Proofs.YtakmnjihdfgolaaGreat.S.OV renaming const->eM,tmp->eN
open Go.Proofs.YtakmnjihdfgolaaGreat.S.Op renaming buildD->eO
open Go.Proofs.YtakmnjihdfgolaaGreat.S.ZI renaming lb_of->eP,len_of->eQ,of->eR,val_of->eS
open Go.Proofs.YtakmnjihdfgolaaGreat.S.za2 renaming d->eV
open Go.Proofs.YtakmnjihdfgolaaGreat.S.za8 renaming d->eW
namespace Go.Proofs.YtakmnjihdfgolaaGreat
variable {z:Int}
namespace S
variable {n M j k b:Nat} {t:zax} {rs:List za8} {α β:Type} {z v:Int} {x y:ZI} {H:Im} {ys xs:List Int} {os:Array Obj} {B:Bl} {args:List V} {vals:List Value} {res:V}
theorem tv_2:zc2 eJ 91:=zc2.mk' (by kernel_rfl)
def zcf (v:Int) (p:za2):Bool:=p.v == v
theorem zgx (v:Int) (ps:List za2) (u:Int):zaf (ps.filter fun p=>!zcf v p) u=if u=v then 0 else zaf ps u:=by
 induction ps with
 | nil=>simp [zaf]
 | cons p ps ih =>
  by_cases h:p.v=v
  ·rw [List.filter_cons_of_neg (by simp [zcf,h]),ih]
   by_cases hu:u=v
   ·rw [if_pos hu,if_pos hu]
   ·rw [if_neg hu,if_neg hu]
    simp only [zaf]
    rw [if_neg (fun e=>hu (e.1.symm.trans h)),cV]
  ·rw [List.filter_cons_of_pos (by simpa [zcf] using h)]
   simp only [zaf]
   rw [ih]
   by_cases hu:u=v
   ·rw [if_pos hu,if_pos hu,if_neg (fun e=>h (e.1.trans hu)),cV]
   ·rw [if_neg hu,if_neg hu]
def woT (t:zax) (v:Int):zax:=zaa ⟨t.parts.filter fun p=>!zcf v p,t.k⟩
theorem wo_law (t:zax) (v:Int):(⟨(zaa t).parts.filter fun p=>!zcf v p,(zaa t).k⟩:zax)=woT t v:=by
 obtain ⟨h1,h2,h3⟩:=zd9 t
 refine (plainT_eq ?_ (fun q hq=>h2 q (dD.1 hq).1) (fun u=>?_) rfl).symm
 ·exact List.Pairwise.filter _ h1
 ·show zaf (t.parts.filter fun p=>!zcf v p) u=zaf ((zaa t).parts.filter fun p=>!zcf v p) u
  rw [zgx,zgx,h3]
theorem SWo1 (p:za2) (v:Int) :Fn eJ 91 [(1,.box [cI v])] [vG ([cI p.v]++zi p.c),vp 1 0] (vb (zcf v p)) [(1,.box [cI v])]:=by
 refine fB Tryz.func91 rfl 8 fun w H B a h=>Jq 2 [] [(1,vp 1 0),(2,vp 2 0),(3,vb false)] [(1,.box [cI v]),(2,.box ([cI p.v]++zi p.c))] h fun a w h=>Jg 3 [] [1,2] [(3,vb (p.v == v))] [2] [] h fun a w h=>qV (rT (.c (cB (p.v == v))) h rfl ?_)
 rfl
theorem SIndexFV (pr:za2->Bool) (xs:List za2) (v:Int) (hf:∀ p ∈ xs,Fn eJ 91 [(1,.box [cI v])] [vd p.d,vp 1 0] (vb (pr p)) [(1,.box [cI v])]) (hl:xs.length<=1000000000000):Fn eJ 108 [(0,.row 61 3 (xs.map eV)),(1,.box [cI v])] [vO 0 xs.length,.t (.c (.fn (.func 91) [] [.ptr 1 0]))] (vI (idxF pr xs 0)) [(0,.row 61 3 (xs.map eV)),(1,.box [cI v])]:=by
 refine fB Tryz.func108 rfl 19 fun w H B a h=>Jq 2 [] [(0,vO 0 xs.length),(1,.t (.c (.fn (.func 91) [] [.ptr 1 0]))),(4,vI 0)] [(0,.row 61 3 (xs.map eV)),(1,.box [cI v])] h fun a w h=>qW (Je 2 [] [] [(7,vN xs.length),(8,vI 0)] h fun a w h=>qZ ?_)
 refine zd3 (ι:=(Nat)) (fun j=>j<=xs.length/\idxF pr xs 0=idxF pr (xs.drop j) j)
   [4] (fun j=>[(8,vN j)])
   [] (fun j=>[])
   (fun j=>xs.length - j) 0 ?_ h ?_
 ·exact ⟨bF _,rfl⟩
 clear h;rintro j a w hI h;obtain ⟨hI1,hI2⟩:=hI;refine Je 2 [] [] [(9,vb (decide ((j:Int)<(xs.length:Int))))] h fun a w h=>qW (zaj ((j:Int)<(xs.length:Int)) h (fun hc1 hc1'=>?_) (fun hc4 hc4'=>?_))
 ·refine qU (za3 (qW (qZ (Je 2 [] [9] [(5,vN j)] h fun a w h=>?_))));obtain ⟨x1,hx1⟩:=gl xs j;refine Je 2 [(3,.g (xO 14 12 0 xs.length j zbx (eN 13 _))),(4,.g (Op.loadR_agg (d:=15) (t:=14) (n:=0) (i:=j) (fo:=0) (rty:=61) (es:=3) (xs:=[.raw (.int .i64 x1.v),.raw (.bool x1.c.neg),nsl x1.c.abs]) zeq rfl (zab hx1 (f:=eV)) rfl rfl)),(5,.g (Op.callV (d:=16) (t:=11) (cap:=[.ptr 1 0]) (args:=[vG ([cI x1.v]++zi x1.c)]) (rs:=[(15,vG ([cI x1.v]++zi x1.c))]) (tys:=#[61]) (hf x1 (lM hx1)) tv_2 (OVs.cons (eN 15 _) (OVs.nil))))] [] [(16,vb (pr x1))] h fun a w h=>cS (pr x1) h (fun hc2=>?_) (fun hc3=>?_)
  ·refine Je 2 [] [5,16] [(4,vN j)] h fun a w h=>qV (zan (zae (zae (zan (zae (rT (.c (cI (j:Int))) h rfl ?_))))));have hz:idxF pr xs 0=(j:Int):=by rw [hI2,idxF_at hx1,if_pos hc2]
   rw [hz];try rfl
  refine qU (za6 (za3 (Jf 2 [(0,.j1 j)] [5,16] [(8,vI ((j:Int)+1))] h fun a w h=>za3 (za9 (x:=j) (y:=j+1) h ?_ ?_))))
  ·exact ⟨by have:=zad hx1;omega,by rw [hI2,idxF_at hx1,if_neg (by rw [hc3];exact Bool.noConfusion)]⟩
  (try simp);omega
 refine exA (Jp 2 [] [(4,vI (-1))] h fun a w h=>qV (rT (.c (cI (-1))) h rfl ?_));have hz:idxF pr xs 0=-1:=by rw [hI2,cW (by omega)];rfl
 rw [hz];try rfl
theorem SDeleteFV (pr:za2->Bool) (xs:List za2) (v:Int) (hf:∀ p ∈ xs,Fn eJ 91 [(1,.box [.d (.raw (.int .i64 v))])] [vd p.d,vp 1 0] (vb (pr p)) [(1,.box [.d (.raw (.int .i64 v))])]) (hl:xs.length<=1000000000000):Fn eJ 74 [(0,.row 61 3 (xs.map eV)),(1,.box [.d (.raw (.int .i64 v))])] [.t (.c (.own 0 xs.length)),.t (.c (.fn (.func 91) [] [.ptr 1 0]))] (.t (.c (.own 0 (xs.filter (fun p=>!pr p)).length))) [(0,.row 61 3 ((xs.filter (fun p=>!pr p)).map eV)),(1,.box [.d (.raw (.int .i64 v))])]:=by
 refine fB Tryz.func74 rfl 42 fun w H B a h=>Jq 2 [] [(0,.t (.c (.own 0 xs.length))),(1,.t (.c (.fn (.func 91) [] [.ptr 1 0]))),(4,.t (.c (.d (.raw zb2))))] [(0,.row 61 3 (xs.map eV)),(1,.box [.d (.raw (.int .i64 v))])] h fun a w h=>Je 2 [(2,.call (SIndexFV pr xs v hf hl))] [] [(5,vI (idxF pr xs 0))] h fun a w h=>qW ?_
 rcases zgj pr xs 0 with ⟨hz,hz2⟩ | ⟨k,x0,hz,hk,hk2,hk3⟩
 ·rw [hz] at h;refine Jq 2 [(1,.cmp (op:=.eql) (m:=(-1)) (n:=(-1)) (b:=true) .i64 rfl)] [(0,.t (.c (.own 0 xs.length))),(1,.t (.c (.fn (.func 91) [] [.ptr 1 0]))),(4,.t (.c (.d (.raw zb2)))),(5,vI (-1)),(12,vb true)] [(0,.row 61 3 (xs.map eV)),(1,.box [.d (.raw (.int .i64 v))])] h fun a w h=>cS true h (fun _=>?_) nofun
  refine Je 2 [] [12] [(4,.t (.c (.own 0 xs.length)))] h fun a w h=>qV (zae ?_);replace h:=cvM [] [(4,.t (.c (.own 0 (xs.filter (fun p=>!pr p)).length)))] [] [] (by rw [hz2]; try kernel_rfl) h;replace h:=cvM [] [] [] [(0,.row 61 3 ((xs.filter (fun p=>!pr p)).map eV))] (by rw [<- show (xs:List za2)=(xs.filter (fun p=>!pr p)) from hz2.symm]; try kernel_rfl) h;refine rT (.c (.own 0 (xs.filter (fun p=>!pr p)).length)) h rfl ?_;rfl
 rw [cP] at hz;have hkl:=zad hk;have hf2:((xs.take (k+1)).filter (fun p=>!pr p))=xs.take k:=by rw [bX,hk];simp [List.filter_append,hk2,hk3]
 have hf3:((xs.take (k+1)).filter (fun p=>!pr p)).length=k:=by rw [hf2,bU];omega
 rw [hz] at h;refine Jq 2 [(1,.cmp (op:=.eql) (m:=(k:Int)) (n:=(-1)) (b:=false) .i64 (beq_eq_false_iff_ne.2 (by omega)))] [(0,.t (.c (.own 0 xs.length))),(1,.t (.c (.fn (.func 91) [] [.ptr 1 0]))),(4,.t (.c (.d (.raw zb2)))),(5,vN k),(12,vb false)] [(0,.row 61 3 (xs.map eV)),(1,.box [.d (.raw (.int .i64 v))])] h fun a w h=>zca h (qU (za3 (qW (Je 2 [(1,.g (Op.arith (op:=.add) (d:=15) (xt:=3) (yt:=3) (k:=.i64) (m:=(k:Int)) (n:=1) (r:=((k+1:Nat):Int)) (eN 14 _) (eM (.int .i64 1) rfl) (.inl ⟨rfl,(by omega)⟩) i6))] [12] [(6,vI ((k+1:Nat):Int))] h fun a w h=>qZ ?_))));replace h:=cvM [] [(5,vI (((xs.take (k+1)).filter (fun p=>!pr p)).length:Int))] [] [] (by rw [hf3]; try kernel_rfl) h;replace h:=cvM [] [] [] [(0,.row 61 3 ((((xs.take (k+1)).filter (fun p=>!pr p))++[x0]++xs.drop (k+1)).map eV))] (by rw [<- show (xs:List za2)=(((xs.take (k+1)).filter (fun p=>!pr p))++[x0]++xs.drop (k+1)) from by rw [hf2];obtain ⟨g1,g2⟩:=cX.1 hk;subst g2;simp]; try kernel_rfl) h
 refine zd3 (ι:=(Nat) × (List za2)) (fun (j,G)=>j<=xs.length/\((xs.take j).filter (fun p=>!pr p)).length+G.length=j/\0<G.length)
   [] (fun (j,G)=>[(5,vI (((xs.take j).filter (fun p=>!pr p)).length:Int)),(6,vN j)])
   [] (fun (j,G)=>[(0,.row 61 3 ((((xs.take j).filter (fun p=>!pr p))++G++xs.drop j).map eV))])
   (fun (j,G)=>xs.length - j) ((k+1),[x0]) ?_ h ?_
 ·exact ⟨by omega,by rw [hf3];rfl,Nat.one_pos⟩
 clear h;rintro ⟨j,G⟩ a w hI h;dsimp only at h;obtain ⟨hI1,hI2,hI3⟩:=hI;have hrl:(((xs.take j).filter (fun p=>!pr p))++G++xs.drop j).length=xs.length:=by simp only [bI,cQ];omega
 refine qW (Je 2 [] [] [(19,vb (decide ((j:Int)<(xs.length:Int))))] h fun a w h=>zaj ((j:Int)<(xs.length:Int)) h (fun hc1 hc1'=>?_) (fun hc4 hc4'=>?_))
 ·refine qU (za3 (qW (qZ ?_)));obtain ⟨x,hx⟩:∃ z_:za2,xs[j]?=some z_:=⟨_,bN (by omega)⟩;refine Jg 2 [(2,.g (xO 24 22 0 xs.length j zbx (eN 23 _))),(3,.g (Op.loadR_agg (d:=25) (t:=24) (n:=0) (i:=j) (fo:=0) (rty:=61) (es:=3) (xs:=[.raw (.int .i64 x.v),.raw (.bool x.c.neg),nsl x.c.abs]) zeq rfl (zab (show ((((xs.take j).filter (fun p=>!pr p))++G++xs.drop j):List za2)[j]?=some x from del_at (pr:=pr) hI2 hx) (f:=eV)) rfl rfl))] [19] [(7,vp 2 0)] [] [(2,.box ([.d (.raw (.int .i64 x.v))]++zi x.c))] h fun a w h=>Je 3 [(2,.g (Op.callV (d:=28) (t:=26) (cap:=[.ptr 1 0]) (args:=[.t (.agg ([.d (.raw (.int .i64 x.v))]++zi x.c))]) (rs:=[(27,.t (.agg ([.d (.raw (.int .i64 x.v))]++zi x.c)))]) (tys:=#[61]) (hf x (lM hx)) tv_2 (OVs.cons (eN 27 _) (OVs.nil))))] [] [(29,vb (!(pr x)))] h fun a w h=>cS (!(pr x)) h (fun hc2=>?_) (fun hc3=>?_)
  ·obtain ⟨x3,hx3⟩:=gl (((xs.take j).filter (fun p=>!pr p))++G++xs.drop j) (((xs.take j).filter (fun p=>!pr p)).length);refine Jg 3 [(3,.g (xO 33 30 0 xs.length ((xs.take j).filter (fun p=>!pr p)).length zbx (eN 31 _))),(4,.g (Op.storeR (t:=33) (n:=0) (i:=((xs.take j).filter (fun p=>!pr p)).length) (fo:=0) (rty:=61) (es:=3) (r:=eV x3) (ds:=[.raw (.int .i64 x.v),.raw (.bool x.c.neg),nsl x.c.abs]) (rs:=[(32,.t (.agg ([.d (.raw (.int .i64 x.v))]++zi x.c)))]) (rows:=(((xs.take j).filter (fun p=>!pr p))++G++xs.drop j).map eV) (rows':=((((xs.take j).filter (fun p=>!pr p))++G++xs.drop j).set ((xs.take j).filter (fun p=>!pr p)).length x).map eV) zeq (eN 32 _) rfl rfl rfl (zab hx3 (f:=eV)) (by simp [eV]) (zch (xs:=(((xs.take j).filter (fun p=>!pr p))++G++xs.drop j)) (F:=eV) ((xs.take j).filter (fun p=>!pr p)).length _ _ rfl)))] [7,29] [] [2] [(0,.row 61 3 (((((xs.take j).filter (fun p=>!pr p))++G++xs.drop j).set ((xs.take j).filter (fun p=>!pr p)).length x).map eV))] h fun a w h=>Jf 3 [(1,.g (Op.arith (op:=.add) (d:=35) (xt:=3) (yt:=3) (k:=.i64) (m:=(((xs.take j).filter (fun p=>!pr p)).length:Int)) (n:=1) (r:=((((xs.take j).filter (fun p=>!pr p)).length+1:Nat):Int)) (eN 34 _) (eM (.int .i64 1) rfl) (.inl ⟨rfl,(by omega)⟩) i6))] [] [(5,vI ((((xs.take j).filter (fun p=>!pr p)).length+1:Nat):Int))] h fun a w h=>za6 (za3 (Jf 3 [(1,.j1 j)] [] [(6,vI ((j:Int)+1))] h fun a w h=>za3 ?_));have hp:pr x=false:=(by simpa using hc2);replace h:=cvM [] [(5,vI (((xs.take (j+1)).filter (fun p=>!pr p)).length:Int))] [] [] (by rw [<- zhi hx hp]; try kernel_rfl) h;replace h:=cvM [] [] [] [(0,.row 61 3 ((((xs.take (j+1)).filter (fun p=>!pr p))++(G.tail++[x])++xs.drop (j+1)).map eV))] (by rw [<- show (((((xs.take j).filter (fun p=>!pr p))++G++xs.drop j).set ((xs.take j).filter (fun p=>!pr p)).length x):List za2)=(((xs.take (j+1)).filter (fun p=>!pr p))++(G.tail++[x])++xs.drop (j+1)) from del_keep hx hp hI3]; try kernel_rfl) h;refine za9 (x:=(j,G)) (y:=((j+1),(G.tail++[x]))) h ?_ ?_
   ·exact ⟨by have:=zad hx;omega,by rw [<- zhi hx hp,bI,List.length_tail];simp only [bP,cD];omega,by rw [bI];simp only [bP,cD];omega⟩
   show xs.length - (j+1)<xs.length - j;have:=zad hx;omega
  refine qU (za6 (za3 (Jh 3 [(1,.j1 j)] [7,29] [(6,vI ((j:Int)+1))] [2] [] h fun a w h=>za3 ?_)));have hp:pr x=true:=(by simpa using hc3);replace h:=cvM [] [(5,vI (((xs.take (j+1)).filter (fun p=>!pr p)).length:Int))] [] [] (by rw [<- zfu hx hp]; try kernel_rfl) h;replace h:=cvM [] [] [] [(0,.row 61 3 ((((xs.take (j+1)).filter (fun p=>!pr p))++(G++[x])++xs.drop (j+1)).map eV))] (by rw [<- show ((((xs.take j).filter (fun p=>!pr p))++G++xs.drop j):List za2)=(((xs.take (j+1)).filter (fun p=>!pr p))++(G++[x])++xs.drop (j+1)) from del_skip hx hp]; try kernel_rfl) h;refine za9 (x:=(j,G)) (y:=((j+1),(G++[x]))) h ?_ ?_
  ·exact ⟨by have:=zad hx;omega,by rw [<- zfu hx hp,bI];simp only [bP,cD];omega,by rw [bI];simp only [bP,cD];omega⟩
  show xs.length - (j+1)<xs.length - j;have:=zad hx;omega
 refine exA ?_;have hj:j=xs.length:=by omega
 have hF:((xs.take j).filter (fun p=>!pr p))=(xs.filter (fun p=>!pr p)):=by rw [hj,bV]
 refine Jg 3 [(2,.g (Op.sliceLo (d:=38) (t:=36) (k:=.i64) (n:=0) (len:=xs.length) (l:=((xs.take j).filter (fun p=>!pr p)).length) (rows:=(((xs.take j).filter (fun p=>!pr p))++G++xs.drop j).map eV) (rty:=61) zbx (by first | omega | (simp only [bE,bI,cQ];omega)) (eN 37 _) (by first | omega | (simp at *;omega)) rfl)),(3,.g (Op.clearCut' (rows':=((xs.take j).filter (fun p=>!pr p)).map eV) (o:=none) (t:=38) (n:=0) (off:=((xs.take j).filter (fun p=>!pr p)).length*3) (len:=(xs.length - ((xs.take j).filter (fun p=>!pr p)).length)) (l:=((xs.take j).filter (fun p=>!pr p)).length) (es:=3) (rows:=(((xs.take j).filter (fun p=>!pr p))++G++xs.drop j).map eV) (rty:=61) (zs:=[.d (.raw (.int .i64 0)),.d (.raw (.bool false)),.d (nsl [])]) zbx.hu tk_4 rfl rfl (by first | omega | (simp only [bE,bI,cQ];omega)) _ rfl (by simp [dE,List.take_append])))] [1,6,19] [] [] [(0,.row 61 3 (((xs.take j).filter (fun p=>!pr p)).map eV))] h fun a w h=>Jp 3 [(2,.g (Op.sliceHi (d:=41) (t:=39) (k:=.i64) (n:=0) (len:=xs.length) (h:=((xs.take j).filter (fun p=>!pr p)).length) (rows:=((xs.take j).filter (fun p=>!pr p)).map eV) (rty:=61) zbx (by first | omega | (simp only [bE,bI,cQ];omega)) (eN 40 _)))] [(4,.t (.c (.own 0 ((xs.take j).filter (fun p=>!pr p)).length)))] h fun a w h=>qV ?_;replace h:=cvM [] [(4,.t (.c (.own 0 (xs.filter (fun p=>!pr p)).length)))] [] [] (by rw [hF]; try kernel_rfl) h;replace h:=cvM [] [] [] [(0,.row 61 3 ((xs.filter (fun p=>!pr p)).map eV))] (by rw [<- show (((xs.take j).filter (fun p=>!pr p)):List za2)=(xs.filter (fun p=>!pr p)) from hF]; try kernel_rfl) h;refine rT (.c (.own 0 (xs.filter (fun p=>!pr p)).length)) h rfl ?_;rfl
theorem SWithout (t:zax) (v:Int) {L:Nat} (ht:TOk n L t) (hn:n<=1000000000) (hL:L<=20000000):Fn eJ 47 [] [(vT t),vI v] (vd (woT t v).d) []:=by
 have lnp:=(ht.plain hn).len;have lnf:((zaa t).parts.filter (fun p=>!zcf v p)).length<=(zaa t).parts.length:=eB _ _;refine fB Tryz.func47 rfl 14 fun w H B a h=>Jq 5 [] [(2,vp 5 0),(3,vp 6 0),(4,vp 7 0)] [(5,.box (zT t)),(6,.box [cI v]),(7,.box zT0)] h fun a w h=>Jg 8 [(1,.call (SPlainO t ht (by omega) (by omega)))] [2] [(5,vp 8 0)] [5] [(0,.row 61 3 ((zaa t).parts.map eV)),(8,.box ([.own 0 (zaa t).parts.length]++zi (zaa t).k))] h fun a w h=>?_
 replace h:=zfb 6 1 h;refine Jg 9 [(2,.g (Op.makeF1 (d:=10) (t:=3) (fn:=.func 91) (x:=.ptr 1 0))),(3,.call (SDeleteFV (zcf v) (zaa t).parts v (fun p _=>SWo1 p v) (by omega)))] [3] [] [1] [(0,.row 61 3 (((zaa t).parts.filter (fun p=>!zcf v p)).map eV)),(8,.box ([.own 0 ((zaa t).parts.filter (fun p=>!zcf v p)).length]++zi (zaa t).k))] h fun a w h=>?_;replace h:=pubX 0 3 61 (((zaa t).parts.filter (fun p=>!zcf v p)).map eV) h [((zaa t).parts.filter (fun p=>!zcf v p)).length] ⟨by first | exact (bE _).symm | simp,trivial⟩;refine Jd 9 [] [5] [] [(7,.box ([cPs ((zaa t).parts.filter (fun p=>!zcf v p))]++zi (zaa t).k))] h fun a w h=>qV (rA 7 ([cPs ((zaa t).parts.filter (fun p=>!zcf v p))]++zi (zaa t).k) h tb_11 rfl ?_);rw [<- wo_law];try rfl
theorem ty_5:ElZ eJ 23 33 2:=ElZ.mk' Tryz.underlying23 _ _ rfl rfl
def sumV (f:Int->Int):Nat->Int
  | 0=>0
  | n+1=>sumV f n+f (n:Int)
theorem sumV_add (f g:Int->Int):∀ n,sumV (fun v=>f v+g v) n=sumV f n+sumV g n
 | 0=>rfl
 | n+1=>by simp only [sumV,sumV_add f g n];omega
theorem zg9 {f g:Int->Int}:∀ n:Nat,(∀ v:Int,f v=g v)->sumV f n=sumV g n
 | 0,_=>rfl
 | n+1,h=>by simp only [sumV,zg9 n h,h]
theorem sumV_one (a c:Int) (g:Int->Int):∀ n:Nat,sumV (fun v=>(if a=v/\0<=v then c else 0)*g v) n=if 0<=a/\a<(n:Int) then c*g a else 0
 | 0=>by rw [if_neg (by omega)];rfl
 | n+1=>by
  simp only [sumV,sumV_one a c g n]
  by_cases h:a=(n:Int)
  ·subst h
   rw [if_neg (by omega),if_pos ⟨rfl,by omega⟩,if_pos (by omega),cV]
  ·rw [if_neg (show ¬(a=(n:Int)/\0<=(n:Int)) from fun e=>h e.1),cG,dG]
   by_cases k:0<=a/\a<(n:Int)
   ·rw [if_pos k,if_pos (by omega)]
   ·rw [if_neg k,if_neg (by omega)]
theorem valP_sum (vs:List ZI):∀ ps:List za2,zcd vs ps=sumV (fun v=>zaf ps v*zd0 vs v) vs.length
 | []=>by
  have:∀ n:Nat,sumV (fun v=>zaf [] v*zd0 vs v) n=0:=by
   intro n
   induction n with
   | zero=>rfl
   | succ n ih=>simp only [sumV,zaf,cG] at ih ⊢;omega
  rw [this];rfl
 | p :: ps=>by
  rw [zg9 (g:=fun v=>(if p.v=v/\0<=v then p.c.val else 0)*zd0 vs v+zaf ps v*zd0 vs v) _ (fun v=>by simp only [zaf];rw [cY]),sumV_add,sumV_one,<- valP_sum vs ps]
  simp only [zcd]
  congr 1
  by_cases h:0<=p.v/\p.v<(vs.length:Int)
  ·rw [if_pos h]
  ·rw [if_neg h]
   by_cases k:0<=p.v
   ·rw [valAt_out (fun e=>h ⟨k,e⟩),Int.mul_zero]
   ·rw [ze8 k,Int.mul_zero]
theorem valP_congr {ps qs:List za2} (vs:List ZI) (h:∀ v,zaf ps v=zaf qs v):zcd vs ps=zcd vs qs:=by
 rw [valP_sum,valP_sum];exact zg9 _ fun v=>by rw [h]
theorem zfd (t:zax) (vs:List ZI):zcc (zaa t) vs=zcc t vs:=by
 unfold zcc
 rw [valP_congr vs (zd9 t).2.2,show (zaa t).k.val=t.k.val from eS _]
theorem val_add (s t:zax) (vs:List ZI):zcc (addT s t) vs=zcc s vs+zcc t vs:=by
 unfold addT
 rw [zfd]
 unfold zcc
 rw [valP_app,eS];omega
theorem valP_mul (vs:List ZI) (q:ZI):∀ ps:List za2,zcd vs (ps.map fun p=>⟨p.v,eR (p.c.val*q.val)⟩)=zcd vs ps*q.val
 | []=>by simp [zcd]
 | p :: ps=>by
  simp only [List.map_cons,zcd,valP_mul vs q ps,eS,cY]
  congr 1
  rw [cZ,cZ,cL q.val]
theorem val_scale (t:zax) (q:ZI) (vs:List ZI):zcc (zba t q) vs=zcc t vs*q.val:=by
 unfold zba
 rw [zfd]
 unfold zcc mulT
 rw [valP_mul,eS,cY]
theorem val_sub (s t:zax) (vs:List ZI):zcc (subT s t) vs=zcc s vs - zcc t vs:=by
 unfold subT
 rw [val_add,val_scale,eS];omega
theorem zff {L:Nat} {vs:List ZI} (ht:TOk n L t) (hn:n<=1000000000) (hv:VOk M vs):(eR (zcc t vs)).abs.length<=L+M+1:=val_len ht hn hv (fun _ h=>h) (bJ _)
theorem ha_1:Sz eJ 43 4 true:=Sz.mk' (by kernel_rfl) Tryz.underlying43 _ rfl
theorem ha_7:ElZ eJ 56 63 5:=ElZ.mk' Tryz.underlying56 _ _ rfl rfl
theorem ha_8:ElT eJ 56 63 5 88:=ElT.mk' Tryz.underlying56 _ _ rfl rfl
theorem ha_11:ElT eJ 22 43 4 64:=ElT.mk' Tryz.underlying22 _ _ rfl rfl
theorem ha_12:Sz eJ 58 3 true:=Sz.mk' (by kernel_rfl) Tryz.underlying58 _ rfl
structure za4 where
  times:ZI
  rest:zax
def za4.d (x:za4):List D:=[.raw (.bool x.times.neg),nsl x.times.abs,.sl 3 (x.rest.parts.map eV),.raw (.bool x.rest.k.neg),nsl x.rest.k.abs]
structure SidesD where
  lows:List za4
  highs:List za4
  others:List za8
def SidesD.d (x:SidesD):List D:=[.sl 5 (x.lows.map za4.d),.sl 5 (x.highs.map za4.d),.sl 4 (x.others.map eW)]
def zb1 (t:zax):za8:=⟨zaa t,false⟩
def zbz (v:Int) (r:za8):za4:=⟨eR ((zaf r.t.parts v).natAbs:Int),woT r.t v⟩
def zdb (v:Int) (r:za8):List za4:=if 0<zaf r.t.parts v then [zbz v r] else []
def zb6 (v:Int) (r:za8):List za4:=if zaf r.t.parts v<0 then [zbz v r] else []
def zdj (v:Int) (r:za8):List za8:=if zaf r.t.parts v=0 then [zb1 r.t] else []
def za1 (rs:List za8) (v:Int):List za4:=rs.flatMap (zdb v)
def za0 (rs:List za8) (v:Int):List za4:=rs.flatMap (zb6 v)
def za5 (rs:List za8) (v:Int):List za8:=rs.flatMap (zdj v)
def zbp (rs:List za8) (v:Int):SidesD:=⟨za1 rs v,za0 rs v,za5 rs v⟩
def zg3 (rs:List za8):Prop:=rs.length<=20/\∀ r ∈ rs,TokR 8 r
def RsB (rs:List za8):Prop:=rs.length<=1048576/\∀ r ∈ rs,TOk 1048576 1048576 r.t
theorem RsB.of (h:zg3 rs):RsB rs:=⟨bC h.1 (by decide),fun r hr=>TOk.mono (h.2 r hr) (by decide) (by decide)⟩
theorem zbv {g:α->List β} {xs:List α} {x:α} {ys:List β} (h:xs[j]?=some x) (e:g x=ys):(xs.take j).flatMap g++ys=(xs.take (j+1)).flatMap g:=by
 rw [bX,h,List.flatMap_append];simp [e]
theorem zbf {g:α->List β} {xs:List α} {x:α} (h:xs[j]?=some x) (e:g x=[]):(xs.take j).flatMap g=(xs.take (j+1)).flatMap g:=by
 rw [<- zbv h e,dH]
theorem zco {g:α->List β} (hg:∀ x,(g x).length<=1):∀ xs:List α,(xs.flatMap g).length<=xs.length
 | []=>bJ _
 | x :: xs=>by
  rw [dI,bI,bP]
  have:=zco hg xs;have:=hg x;omega
theorem low_le (v:Int) (r:za8):(zdb v r).length<=1:=by unfold zdb;split <;> simp
theorem high_le (v:Int) (r:za8):(zb6 v r).length<=1:=by unfold zb6;split <;> simp
theorem oth_le (v:Int) (r:za8):(zdj v r).length<=1:=by unfold zdj;split <;> simp
theorem sgn1_t (h:(sgn z == 1)=true):0<z:=sgn_gt_zero.1 (by have h1:sgn z=1:=(by simpa using h);omega)
theorem sgn1_f (h:(sgn z == 1)=false):¬ 0<z:=fun e=>by rw [sgn_pos e] at h;cases h
theorem sgnm_t (h:(sgn z == (-1))=true):z<0:=zbd.1 (by have h1:sgn z=-1:=(by simpa using h);omega)
theorem sgnm_f (h:(sgn z == (-1))=false):¬ z<0:=fun e=>by rw [zf2 e] at h;cases h
theorem wo_ok {L:Nat} (h:TOk n L t) (hn:n<=1000000000) (v:Int):TOk n (L+1) (woT t v) :=
 TOk.plain (t:=⟨t.parts.filter fun p=>!zcf v p,t.k⟩) ⟨bC (eB _ _) h.len,fun p hp=>h.ps p (dD.1 hp).1,h.kb,h.kl⟩ hn
structure zbg (s:za4):Prop where
  lb:Lb s.times.abs
  len:s.times.abs.length<=9
  rest:TOk 20 9 s.rest
theorem side_ok {r:za8} (h:TokR 8 r) (v:Int):zbg (zbz v r):=⟨eP _,by
 have h1:=zde (L:=8) (h.mono (show 20<=1000000000 by decide) (bJ 8)).psok v
 have h2:=len_abs (eP (zaf r.t.parts v))
 rw [eS] at h2
 exact bC h2 h1,wo_ok h (by decide) v⟩
theorem zf6 (h:zg3 rs) (v:Int):∀ s ∈ za1 rs v,zbg s:=fun s hs=>by
 obtain ⟨r,hr,hm⟩:=bS.1 hs
 unfold zdb at hm
 split at hm
 ·rw [bG.1 hm];exact side_ok (h.2 r hr) v
 ·cases hm
theorem zdd (h:zg3 rs) (v:Int):∀ s ∈ za0 rs v,zbg s:=fun s hs=>by
 obtain ⟨r,hr,hm⟩:=bS.1 hs
 unfold zb6 at hm
 split at hm
 ·rw [bG.1 hm];exact side_ok (h.2 r hr) v
 ·cases hm
theorem zfp (h:zg3 rs) (v:Int):(za1 rs v).length<=20:=bC (zco (low_le v) rs) h.1
theorem zed (h:zg3 rs) (v:Int):(za0 rs v).length<=20:=bC (zco (high_le v) rs) h.1
theorem zge (h:zg3 rs) (v:Int):(za5 rs v).length<=20:=bC (zco (oth_le v) rs) h.1
structure SideW (s:za4):Prop where
  lb:Lb s.times.abs
  len:s.times.abs.length<=1048577
variable {s:za4}
theorem zbg.w (h:zbg s):SideW s:=⟨h.lb,bC h.len (by decide)⟩
theorem side_w {r:za8} (h:TOk 1048576 1048576 r.t) (v:Int):SideW (zbz v r):=⟨eP _,by
 have h1:=zde (L:=1048576) (h.mono (show 1048576<=1000000000 by decide) (bJ _)).psok v
 have h2:=len_abs (eP (zaf r.t.parts v))
 rw [eS] at h2
 exact bC h2 h1⟩
theorem lows_w (h:RsB rs) (v:Int):∀ s ∈ za1 rs v,SideW s:=fun s hs=>by
 obtain ⟨r,hr,hm⟩:=bS.1 hs
 unfold zdb at hm
 split at hm
 ·rw [bG.1 hm];exact side_w (h.2 r hr) v
 ·cases hm
theorem highs_w (h:RsB rs) (v:Int):∀ s ∈ za0 rs v,SideW s:=fun s hs=>by
 obtain ⟨r,hr,hm⟩:=bS.1 hs
 unfold zb6 at hm
 split at hm
 ·rw [bG.1 hm];exact side_w (h.2 r hr) v
 ·cases hm
theorem lows_lenB (h:RsB rs) (v:Int):(za1 rs v).length<=1048576:=bC (zco (low_le v) rs) h.1
theorem zgk (h:RsB rs) (v:Int):(za0 rs v).length<=1048576:=bC (zco (high_le v) rs) h.1
theorem SLeast (t:zax) (ht:TOk 400000000 10000000 t):Fn eJ 48 [] [(vT t)] (vR (zb1 t)) []:=by
 refine fB Tryz.func48 rfl 6 fun w H B a h=>Jq 0 [] [(1,vp 0 0),(2,vp 1 0)] [(0,.box (zT t)),(1,.box zR0)] h fun a w h=>Jd 2 [(1,.call (SPlain t ht (by decide) (by decide)))] [1] [] [(1,.box ((zT (zaa t))++[cB false]))] h fun a w h=>qV (rA 1 ((zT (zaa t))++[cB false]) h ha_1 rfl ?_)
 rfl
theorem SsplitB (rs:List za8) (v:Int) (hrs:RsB rs):Fn eJ 23 [] [(vRs rs),vI v] (vG [.d (.sl 5 ((za1 rs v).map za4.d)),.d (.sl 5 ((za0 rs v).map za4.d)),cRs (za5 rs v)]) []:=by
 have lrs:=hrs.1;refine fB Tryz.func23 rfl 55 fun w H B a h=>Jq 5 [] [(0,(vRs rs)),(1,vI v),(4,vp 5 0)] [(5,.box [nCl,nCl,nCl])] h fun a w h=>Jg 6 [] [] [(5,vp 6 0)] [] [(6,.box [nCl,nCl,nCl])] h fun a w h=>qW ?_
 replace h:=zes 6 0 7 5 63 [nCl,nCl,nCl] h;replace h:=zes 6 1 8 5 63 [.own 7 0,nCl,nCl] h;replace h:=zes 6 2 9 4 43 [.own 7 0,.own 8 0,nCl] h;refine Je 10 [(1,.len (zac 4 eW rs))] [0] [(10,(vRs rs)),(11,vN rs.length),(12,vI 0)] h fun a w h=>qZ ?_
 refine zd3 (ι:=(Nat)) (fun j=>j<=rs.length)
   [] (fun j=>[(12,vN j)])
   [] (fun j=>[(6,.box [.own 7 ((rs.take j).flatMap (zdb v)).length,.own 8 ((rs.take j).flatMap (zb6 v)).length,.own 9 ((rs.take j).flatMap (zdj v)).length]),(7,.row 63 5 (((rs.take j).flatMap (zdb v)).map za4.d)),(8,.row 63 5 (((rs.take j).flatMap (zb6 v)).map za4.d)),(9,.row 43 4 (((rs.take j).flatMap (zdj v)).map eW))])
   (fun j=>rs.length - j) 0 ?_ h ?_
 ·exact bF _
 clear h;rintro j a w hI h;have fl1:=zco (low_le v) (rs.take j);have fl2:=zco (high_le v) (rs.take j);have fl3:=zco (oth_le v) (rs.take j);rw [bU] at fl1 fl2 fl3;refine Je 10 [] [] [(13,vb (decide ((j:Int)<(rs.length:Int))))] h fun a w h=>qW (zaj ((j:Int)<(rs.length:Int)) h (fun hc1 hc1'=>?_) (fun hc6 hc6'=>?_))
 ·refine qU (za3 (qW (qZ ?_)));obtain ⟨x1,hx1⟩:=gl rs j;have gx1:TOk 1048576 1048576 x1.t:=hrs.2 x1 (lM hx1);refine Jg 10 [(0,.g (xD 14 10 kc_3 (zab hx1 (f:=eW)) (eN 12 _)))] [13] [(7,vp 10 0)] [] [(10,.box (zR_ x1))] h fun a w h=>?_;obtain ⟨r2,er2,vr2,or2,lr2⟩:=mkZ (v:=zaf x1.t.parts v) (m:=1048577) (zde (TOk.mono gx1 (show 1048576<=1000000000 by decide) (bJ 1048576)).psok v);refine Jg 11 [(3,.call (eK (STCoef x1.t v (TOk.mono (n':=1000000000) (L':=40000000) gx1 (by decide) (by decide)).psok) (congrArg vz er2.symm)))] [] [(8,vp 11 0)] [] [(11,.box (zi r2))] h fun a w h=>?_;obtain ⟨r3,er3,vr3,or3,lr3⟩:=mkZ (v:=(r2.val.natAbs:Int)) (m:=r2.abs.length) (len_abs or2);refine Jg 12 [(1,.call (eK (SAbs r2 or2 (by omega)) (congrArg vz er3.symm))),(5,.call (SWithout x1.t v gx1 (by decide) (by decide)))] [] [(9,vp 12 0)] [] [(12,.box (zi r3++(zT (woT x1.t v))))] h fun a w h=>Jg 13 [(1,.call (SSign r2 or2 (by omega)))] [8] [(28,vI (sgn r2.val))] [11] [] h fun a w h=>qZ (Je 13 [] [] [(37,vb (sgn r2.val == 1))] h fun a w h=>cS (sgn r2.val == 1) h (fun hc2=>?_) (fun hc3=>?_))
  ·refine Jh 13 [(3,.g (bD 42 ([(za4.mk r3 (woT x1.t v))].map za4.d) [(41,vG (zi r3++(zT (woT x1.t v))))] ha_7 (.cons (i:=0) (eN 41 _) (.nil)) (by kernel_rfl) (by simp [za4.d]))),(4,.g (aD 43 40 42 7 13 ((rs.take j).flatMap (zdb v)) [(za4.mk r3 (woT x1.t v))] za4.d ha_8 (by simp [za4.d])))] [7,9,28,37] [] [7,10,12] [(6,.box ([.own 13 (((rs.take j).flatMap (zdb v))++[(za4.mk r3 (woT x1.t v))]).length,.own 8 ((rs.take j).flatMap (zb6 v)).length,.own 9 ((rs.take j).flatMap (zdj v)).length])),(13,.row 63 5 ((((rs.take j).flatMap (zdb v))++[(za4.mk r3 (woT x1.t v))]).map za4.d))] h fun a w h=>za6 (za6 (za3 (Jf 14 [(0,.j1 j)] [] [(12,vI ((j:Int)+1))] h fun a w h=>za3 ?_)));have hcz:=sgn1_t hc2;rw [vr2] at hcz;rw [show ((((rs.take j).flatMap (zdb v))++[(za4.mk r3 (woT x1.t v))]):List za4)=((rs.take (j+1)).flatMap (zdb v)) from (zbv hx1 (by unfold zdb;rw [if_pos (by omega)];unfold zbz;rw [er3,vr2]))] at h;rw [show (((rs.take j).flatMap (zb6 v)):List za4)=((rs.take (j+1)).flatMap (zb6 v)) from (zbf hx1 (by unfold zb6;rw [if_neg (by omega)]))] at h;rw [show (((rs.take j).flatMap (zdj v)):List za8)=((rs.take (j+1)).flatMap (zdj v)) from (zbf hx1 (by unfold zdj;rw [if_neg (by omega)]))] at h;replace h:=zfb 13 7 h;refine za9 (x:=j) (y:=j+1) h ?_ ?_
   ·have:=zad hx1;show j+1<=rs.length;omega
   show rs.length - (j+1)<rs.length - j;have:=zad hx1;omega
  refine Je 14 [] [28,37] [(45,vb (sgn r2.val == (-1)))] h fun a w h=>cS (sgn r2.val == (-1)) h (fun hc4=>?_) (fun hc5=>?_)
  ·refine Jh 14 [(3,.g (bD 50 ([(za4.mk r3 (woT x1.t v))].map za4.d) [(49,vG (zi r3++(zT (woT x1.t v))))] ha_7 (.cons (i:=0) (eN 49 _) (.nil)) (by kernel_rfl) (by simp [za4.d]))),(4,.g (aD 51 48 50 8 14 ((rs.take j).flatMap (zb6 v)) [(za4.mk r3 (woT x1.t v))] za4.d ha_8 (by simp [za4.d])))] [7,9,45] [] [8,10,12] [(6,.box ([.own 7 ((rs.take j).flatMap (zdb v)).length,.own 14 (((rs.take j).flatMap (zb6 v))++[(za4.mk r3 (woT x1.t v))]).length,.own 9 ((rs.take j).flatMap (zdj v)).length])),(14,.row 63 5 ((((rs.take j).flatMap (zb6 v))++[(za4.mk r3 (woT x1.t v))]).map za4.d))] h fun a w h=>za6 (za6 (za3 (Jf 15 [(0,.j1 j)] [] [(12,vI ((j:Int)+1))] h fun a w h=>za3 ?_)));have hcz:=sgn1_f hc3;rw [vr2] at hcz;have hcy:=sgnm_t hc4;rw [vr2] at hcy;rw [show (((rs.take j).flatMap (zdb v)):List za4)=((rs.take (j+1)).flatMap (zdb v)) from (zbf hx1 (by unfold zdb;rw [if_neg (by omega)]))] at h;rw [show ((((rs.take j).flatMap (zb6 v))++[(za4.mk r3 (woT x1.t v))]):List za4)=((rs.take (j+1)).flatMap (zb6 v)) from (zbv hx1 (by unfold zb6;rw [if_pos (by omega)];unfold zbz;rw [er3,vr2]))] at h;rw [show (((rs.take j).flatMap (zdj v)):List za8)=((rs.take (j+1)).flatMap (zdj v)) from (zbf hx1 (by unfold zdj;rw [if_neg (by omega)]))] at h;replace h:=zfb 14 8 h;refine za9 (x:=j) (y:=j+1) h ?_ ?_
   ·have:=zad hx1;show j+1<=rs.length;omega
   show rs.length - (j+1)<rs.length - j;have:=zad hx1;omega
  refine Jh 15 [(4,.call (SLeast x1.t (gx1.mono (by decide) (by decide)))),(5,.g (bD 34 ([(zb1 x1.t)].map eW) [(33,(vR (zb1 x1.t)))] kc_5 (.cons (i:=0) (eN 33 _) (.nil)) (by kernel_rfl) (by simp [eW]))),(6,.g (aD 35 30 34 9 15 ((rs.take j).flatMap (zdj v)) [(zb1 x1.t)] eW ha_11 (by simp [eW])))] [7,9,45] [] [9,10,12] [(6,.box ([.own 7 ((rs.take j).flatMap (zdb v)).length,.own 8 ((rs.take j).flatMap (zb6 v)).length,.own 15 (((rs.take j).flatMap (zdj v))++[(zb1 x1.t)]).length])),(15,.row 43 4 ((((rs.take j).flatMap (zdj v))++[(zb1 x1.t)]).map eW))] h fun a w h=>za6 (za6 (za3 (Jf 16 [(0,.j1 j)] [] [(12,vI ((j:Int)+1))] h fun a w h=>za3 ?_)));have hcz:=sgn1_f hc3;rw [vr2] at hcz;have hcy:=sgnm_f hc5;rw [vr2] at hcy;rw [show (((rs.take j).flatMap (zdb v)):List za4)=((rs.take (j+1)).flatMap (zdb v)) from (zbf hx1 (by unfold zdb;rw [if_neg (by omega)]))] at h;rw [show (((rs.take j).flatMap (zb6 v)):List za4)=((rs.take (j+1)).flatMap (zb6 v)) from (zbf hx1 (by unfold zb6;rw [if_neg (by omega)]))] at h;rw [show ((((rs.take j).flatMap (zdj v))++[(zb1 x1.t)]):List za8)=((rs.take (j+1)).flatMap (zdj v)) from (zbv hx1 (by unfold zdj;rw [if_pos (by omega)]))] at h;replace h:=zfb 15 9 h;refine za9 (x:=j) (y:=j+1) h ?_ ?_
  ·have:=zad hx1;show j+1<=rs.length;omega
  show rs.length - (j+1)<rs.length - j;have:=zad hx1;omega
 refine exA (Jg 16 [] [1,5,10,11,12,13] [] [6] [(5,.box [.own 7 ((rs.take j).flatMap (zdb v)).length,.own 8 ((rs.take j).flatMap (zb6 v)).length,.own 9 ((rs.take j).flatMap (zdj v)).length])] h fun a w h=>qV ?_);rw [show (((rs.take j).flatMap (zdb v)):List za4)=(za1 rs v) from (by unfold za1;rw [bL (by omega)])] at h;rw [show (((rs.take j).flatMap (zb6 v)):List za4)=(za0 rs v) from (by unfold za0;rw [bL (by omega)])] at h;rw [show (((rs.take j).flatMap (zdj v)):List za8)=(za5 rs v) from (by unfold za5;rw [bL (by omega)])] at h;replace h:=pubX 7 5 63 ((za1 rs v).map za4.d) h [(za1 rs v).length] ⟨by first | exact (bE _).symm | (simp;done) | (simp;omega),trivial⟩;replace h:=pubX 8 5 63 ((za0 rs v).map za4.d) h [(za0 rs v).length] ⟨by first | exact (bE _).symm | (simp;done) | (simp;omega),trivial⟩;replace h:=pubX 9 4 43 ((za5 rs v).map eW) h [(za5 rs v).length] ⟨by first | exact (bE _).symm | (simp;done) | (simp;omega),trivial⟩;refine rA 5 [.d (.sl 5 ((za1 rs v).map za4.d)),.d (.sl 5 ((za0 rs v).map za4.d)),cRs (za5 rs v)] h ha_12 rfl ?_;rfl
theorem Ssplit (rs:List za8) (v:Int) (hrs:zg3 rs):Fn eJ 23 [] [(vRs rs),vi .i64 v] (vG [.d (.sl 5 ((za1 rs v).map za4.d)),.d (.sl 5 ((za0 rs v).map za4.d)),cRs (za5 rs v)]) []:=SsplitB rs v (RsB.of hrs)
theorem SsplitO (rs:List za8) (v:Int) (hrs:zg3 rs):Fn eJ 23 [] [(vRs rs),vI v] (vG [.d (.sl 5 ((za1 rs v).map za4.d)),.d (.sl 5 ((za0 rs v).map za4.d)),.own 0 (za5 rs v).length]) [(0,.row 43 4 ((za5 rs v).map eW))]:=by
 have lrs:=hrs.1;refine fB Tryz.func23 rfl 55 fun w H B a h=>Jq 5 [] [(0,(vRs rs)),(1,vI v),(4,vp 5 0)] [(5,.box [nCl,nCl,nCl])] h fun a w h=>Jg 6 [] [] [(5,vp 6 0)] [] [(6,.box [nCl,nCl,nCl])] h fun a w h=>qW ?_
 replace h:=zes 6 0 7 5 63 [nCl,nCl,nCl] h;replace h:=zes 6 1 8 5 63 [.own 7 0,nCl,nCl] h;replace h:=zes 6 2 9 4 43 [.own 7 0,.own 8 0,nCl] h;refine Je 10 [(1,.len (zac 4 eW rs))] [0] [(10,(vRs rs)),(11,vN rs.length),(12,vI 0)] h fun a w h=>qZ ?_
 refine zd3 (ι:=(Nat)) (fun j=>j<=rs.length)
   [] (fun j=>[(12,vN j)])
   [] (fun j=>[(6,.box [.own 7 ((rs.take j).flatMap (zdb v)).length,.own 8 ((rs.take j).flatMap (zb6 v)).length,.own 9 ((rs.take j).flatMap (zdj v)).length]),(7,.row 63 5 (((rs.take j).flatMap (zdb v)).map za4.d)),(8,.row 63 5 (((rs.take j).flatMap (zb6 v)).map za4.d)),(9,.row 43 4 (((rs.take j).flatMap (zdj v)).map eW))])
   (fun j=>rs.length - j) 0 ?_ h ?_
 ·exact bF _
 clear h;rintro j a w hI h;have fl1:=zco (low_le v) (rs.take j);have fl2:=zco (high_le v) (rs.take j);have fl3:=zco (oth_le v) (rs.take j);rw [bU] at fl1 fl2 fl3;refine Je 10 [] [] [(13,vb (decide ((j:Int)<(rs.length:Int))))] h fun a w h=>qW (zaj ((j:Int)<(rs.length:Int)) h (fun hc1 hc1'=>?_) (fun hc6 hc6'=>?_))
 ·refine qU (za3 (qW (qZ ?_)));obtain ⟨x1,hx1⟩:=gl rs j;have gx1:TOk 20 8 x1.t:=hrs.2 x1 (lM hx1);refine Jg 10 [(0,.g (xD 14 10 kc_3 (zab hx1 (f:=eW)) (eN 12 _)))] [13] [(7,vp 10 0)] [] [(10,.box (zR_ x1))] h fun a w h=>?_;obtain ⟨r2,er2,vr2,or2,lr2⟩:=mkZ (v:=zaf x1.t.parts v) (m:=9) (zde (TOk.mono gx1 (show 20<=1000000000 by decide) (bJ 8)).psok v);refine Jg 11 [(3,.call (eK (STCoef x1.t v (TOk.mono (n':=1000000000) (L':=40000000) gx1 (by decide) (by decide)).psok) (congrArg vz er2.symm)))] [] [(8,vp 11 0)] [] [(11,.box (zi r2))] h fun a w h=>?_;obtain ⟨r3,er3,vr3,or3,lr3⟩:=mkZ (v:=(r2.val.natAbs:Int)) (m:=r2.abs.length) (len_abs or2);refine Jg 12 [(1,.call (eK (SAbs r2 or2 (by omega)) (congrArg vz er3.symm))),(5,.call (SWithout x1.t v gx1 (by decide) (by decide)))] [] [(9,vp 12 0)] [] [(12,.box (zi r3++(zT (woT x1.t v))))] h fun a w h=>Jg 13 [(1,.call (SSign r2 or2 (by omega)))] [8] [(28,vI (sgn r2.val))] [11] [] h fun a w h=>qZ (Je 13 [] [] [(37,vb (sgn r2.val == 1))] h fun a w h=>cS (sgn r2.val == 1) h (fun hc2=>?_) (fun hc3=>?_))
  ·refine Jh 13 [(3,.g (bD 42 ([(za4.mk r3 (woT x1.t v))].map za4.d) [(41,vG (zi r3++(zT (woT x1.t v))))] ha_7 (.cons (i:=0) (eN 41 _) (.nil)) (by kernel_rfl) (by simp [za4.d]))),(4,.g (aD 43 40 42 7 13 ((rs.take j).flatMap (zdb v)) [(za4.mk r3 (woT x1.t v))] za4.d ha_8 (by simp [za4.d])))] [7,9,28,37] [] [7,10,12] [(6,.box ([.own 13 (((rs.take j).flatMap (zdb v))++[(za4.mk r3 (woT x1.t v))]).length,.own 8 ((rs.take j).flatMap (zb6 v)).length,.own 9 ((rs.take j).flatMap (zdj v)).length])),(13,.row 63 5 ((((rs.take j).flatMap (zdb v))++[(za4.mk r3 (woT x1.t v))]).map za4.d))] h fun a w h=>za6 (za6 (za3 (Jf 14 [(0,.j1 j)] [] [(12,vI ((j:Int)+1))] h fun a w h=>za3 ?_)));have hcz:=sgn1_t hc2;rw [vr2] at hcz;rw [show ((((rs.take j).flatMap (zdb v))++[(za4.mk r3 (woT x1.t v))]):List za4)=((rs.take (j+1)).flatMap (zdb v)) from (zbv hx1 (by unfold zdb;rw [if_pos (by omega)];unfold zbz;rw [er3,vr2]))] at h;rw [show (((rs.take j).flatMap (zb6 v)):List za4)=((rs.take (j+1)).flatMap (zb6 v)) from (zbf hx1 (by unfold zb6;rw [if_neg (by omega)]))] at h;rw [show (((rs.take j).flatMap (zdj v)):List za8)=((rs.take (j+1)).flatMap (zdj v)) from (zbf hx1 (by unfold zdj;rw [if_neg (by omega)]))] at h;replace h:=zfb 13 7 h;refine za9 (x:=j) (y:=j+1) h ?_ ?_
   ·have:=zad hx1;show j+1<=rs.length;omega
   show rs.length - (j+1)<rs.length - j;have:=zad hx1;omega
  refine Je 14 [] [28,37] [(45,vb (sgn r2.val == (-1)))] h fun a w h=>cS (sgn r2.val == (-1)) h (fun hc4=>?_) (fun hc5=>?_)
  ·refine Jh 14 [(3,.g (bD 50 ([(za4.mk r3 (woT x1.t v))].map za4.d) [(49,vG (zi r3++(zT (woT x1.t v))))] ha_7 (.cons (i:=0) (eN 49 _) (.nil)) (by kernel_rfl) (by simp [za4.d]))),(4,.g (aD 51 48 50 8 14 ((rs.take j).flatMap (zb6 v)) [(za4.mk r3 (woT x1.t v))] za4.d ha_8 (by simp [za4.d])))] [7,9,45] [] [8,10,12] [(6,.box ([.own 7 ((rs.take j).flatMap (zdb v)).length,.own 14 (((rs.take j).flatMap (zb6 v))++[(za4.mk r3 (woT x1.t v))]).length,.own 9 ((rs.take j).flatMap (zdj v)).length])),(14,.row 63 5 ((((rs.take j).flatMap (zb6 v))++[(za4.mk r3 (woT x1.t v))]).map za4.d))] h fun a w h=>za6 (za6 (za3 (Jf 15 [(0,.j1 j)] [] [(12,vI ((j:Int)+1))] h fun a w h=>za3 ?_)));have hcz:=sgn1_f hc3;rw [vr2] at hcz;have hcy:=sgnm_t hc4;rw [vr2] at hcy;rw [show (((rs.take j).flatMap (zdb v)):List za4)=((rs.take (j+1)).flatMap (zdb v)) from (zbf hx1 (by unfold zdb;rw [if_neg (by omega)]))] at h;rw [show ((((rs.take j).flatMap (zb6 v))++[(za4.mk r3 (woT x1.t v))]):List za4)=((rs.take (j+1)).flatMap (zb6 v)) from (zbv hx1 (by unfold zb6;rw [if_pos (by omega)];unfold zbz;rw [er3,vr2]))] at h;rw [show (((rs.take j).flatMap (zdj v)):List za8)=((rs.take (j+1)).flatMap (zdj v)) from (zbf hx1 (by unfold zdj;rw [if_neg (by omega)]))] at h;replace h:=zfb 14 8 h;refine za9 (x:=j) (y:=j+1) h ?_ ?_
   ·have:=zad hx1;show j+1<=rs.length;omega
   show rs.length - (j+1)<rs.length - j;have:=zad hx1;omega
  refine Jh 15 [(4,.call (SLeast x1.t (gx1.mono (by decide) (by decide)))),(5,.g (bD 34 ([(zb1 x1.t)].map eW) [(33,(vR (zb1 x1.t)))] kc_5 (.cons (i:=0) (eN 33 _) (.nil)) (by kernel_rfl) (by simp [eW]))),(6,.g (aD 35 30 34 9 15 ((rs.take j).flatMap (zdj v)) [(zb1 x1.t)] eW ha_11 (by simp [eW])))] [7,9,45] [] [9,10,12] [(6,.box ([.own 7 ((rs.take j).flatMap (zdb v)).length,.own 8 ((rs.take j).flatMap (zb6 v)).length,.own 15 (((rs.take j).flatMap (zdj v))++[(zb1 x1.t)]).length])),(15,.row 43 4 ((((rs.take j).flatMap (zdj v))++[(zb1 x1.t)]).map eW))] h fun a w h=>za6 (za6 (za3 (Jf 16 [(0,.j1 j)] [] [(12,vI ((j:Int)+1))] h fun a w h=>za3 ?_)));have hcz:=sgn1_f hc3;rw [vr2] at hcz;have hcy:=sgnm_f hc5;rw [vr2] at hcy;rw [show (((rs.take j).flatMap (zdb v)):List za4)=((rs.take (j+1)).flatMap (zdb v)) from (zbf hx1 (by unfold zdb;rw [if_neg (by omega)]))] at h;rw [show (((rs.take j).flatMap (zb6 v)):List za4)=((rs.take (j+1)).flatMap (zb6 v)) from (zbf hx1 (by unfold zb6;rw [if_neg (by omega)]))] at h;rw [show ((((rs.take j).flatMap (zdj v))++[(zb1 x1.t)]):List za8)=((rs.take (j+1)).flatMap (zdj v)) from (zbv hx1 (by unfold zdj;rw [if_pos (by omega)]))] at h;replace h:=zfb 15 9 h;refine za9 (x:=j) (y:=j+1) h ?_ ?_
  ·have:=zad hx1;show j+1<=rs.length;omega
  show rs.length - (j+1)<rs.length - j;have:=zad hx1;omega
 refine exA (Jg 16 [] [1,5,10,11,12,13] [] [6] [(5,.box [.own 7 ((rs.take j).flatMap (zdb v)).length,.own 8 ((rs.take j).flatMap (zb6 v)).length,.own 9 ((rs.take j).flatMap (zdj v)).length])] h fun a w h=>qV ?_);rw [show (((rs.take j).flatMap (zdb v)):List za4)=(za1 rs v) from (by unfold za1;rw [bL (by omega)])] at h;rw [show (((rs.take j).flatMap (zb6 v)):List za4)=(za0 rs v) from (by unfold za0;rw [bL (by omega)])] at h;rw [show (((rs.take j).flatMap (zdj v)):List za8)=(za5 rs v) from (by unfold za5;rw [bL (by omega)])] at h;replace h:=zfb 9 0 h;replace h:=pubX 7 5 63 ((za1 rs v).map za4.d) h [(za1 rs v).length] ⟨by first | exact (bE _).symm | (simp;done) | (simp;omega),trivial⟩;replace h:=pubX 8 5 63 ((za0 rs v).map za4.d) h [(za0 rs v).length] ⟨by first | exact (bE _).symm | (simp;done) | (simp;omega),trivial⟩;refine rA 5 [.d (.sl 5 ((za1 rs v).map za4.d)),.d (.sl 5 ((za0 rs v).map za4.d)),.own 0 (za5 rs v).length] h ha_12 rfl ?_;rfl
section
variable {w0:World} {H0:Im} {B0:Bl} {K:List Nat} {N:Nat} {a:Act} {w:World} {sl:List (Nat × V)} {lc:List (Nat × L)}
theorem St.anyL {e:E} {f:F} (h:St e f a w) (m j:Nat) {cs:List C} {c:C} (hv:f.l m=some (.box cs)) (hg:cs[j]?=some c):St e (f.setL m (.box (cs.set j .any))) a w:=by
 obtain ⟨H,B,hok⟩:=h
 exact ⟨H,B,hok.setL m (.box cs) _ hv fun hu=>LR.setC hg (fun _ hx=>CR.flat hx) hu⟩
theorem anyLs (m j:Nat) (cs:List C) (c:C) (sl':List (Nat × V)) (lc':List (Nat × L)) (h:St ⟨w0,H0,B0,K,N⟩ (F.of sl lc) a w) (hv:lc.lookup m=some (.box cs)) (hg:cs[j]?=some c)
  (h3:leS ((F.of sl lc).setL m (.box (cs.set j .any))) sl'=sl'.map fun p=>some p.2:=by kernel_rfl) (h4:leN ((F.of sl lc).setL m (.box (cs.set j .any))) lc'=lc'.map fun p=>some p.2:=by kernel_rfl):St ⟨w0,H0,B0,K,N⟩ (F.of sl' lc') a w :=
 (h.anyL m j hv hg).weaken (zh4 h3 h4)
theorem anyLx (m j:Nat) (cs:List C) (c:C) (h:St ⟨w0,H0,B0,K,N⟩ (F.of sl lc) a w) (hv:lc.lookup m=some (.box cs):=by kernel_rfl) (hg:cs[j]?=some c:=by kernel_rfl) (h3:leS ((F.of sl lc).setL m (.box (cs.set j .any))) sl=sl.map fun p=>some p.2:=by kernel_rfl) (h4:leN ((F.of sl lc).setL m (.box (cs.set j .any))) (uL [] [(m,.box (cs.set j .any))] lc)=(uL [] [(m,.box (cs.set j .any))] lc).map fun p=>some p.2:=by kernel_rfl):St ⟨w0,H0,B0,K,N⟩ (F.of sl (uL [] [(m,.box (cs.set j .any))] lc)) a w:=anyLs m j cs c sl (uL [] [(m,.box (cs.set j .any))] lc) h hv hg h3 h4
end
theorem hb_1:SlT eJ 56 63 5:=SlT.mk' Tryz.underlying56 (by kernel_rfl)
theorem hb_2:zc2 eJ 93:=zc2.mk' (by kernel_rfl)
theorem hb_12:zc2 eJ 30:=zc2.mk' (by kernel_rfl)
theorem hb_19:zc2 eJ 31:=zc2.mk' (by kernel_rfl)
def onesS (l:List za4):Bool:=!l.any fun s=>zcp s.times.val 1 != 0
def zb8 (s:SidesD):Bool:=onesS s.lows || onesS s.highs
def za7 (l h:za4):zax:=addT (zba h.rest l.times) (zba l.rest h.times)
def zak (l h:za4):zax:=subT (za7 l h) (numT (eR ((l.times.val - 1)*(h.times.val - 1))))
def zb0 (sh:za4->za4->zax) (rs:List za8) (v:Int):List za8:=za5 rs v++(za1 rs v).flatMap fun l=>(za0 rs v).map fun h=>zb1 (sh l h)
def maxS (l:List za4):Int:=l.foldl (fun m s=>max m s.times.val) 0
def zep (a b:Int):Int:=(b*a - b - a).fdiv b
def eqR (l:za4) (v i:Int):za8:=⟨zaa (subT (addT (zba (varT v) l.times) l.rest) (numT (eR i))),true⟩
def zbc (s:za4) (vs:List ZI):Int:=-((-(-zcc s.rest vs)).fdiv s.times.val)
def zc3 (s:za4) (vs:List ZI):Int:=(zcc s.rest vs).fdiv s.times.val
theorem mapSnoc {f:α->β} {xs:List α} {x:α} (h:xs[j]?=some x):(xs.take j).map f++[f x]=(xs.take (j+1)).map f:=by rw [bX,h,dE];rfl
theorem subT_ok {m L:Nat} {s:zax} (hs:TOk n L s) (ht:TOk m L t) (hnm:n+m<=1000000000):TOk (n+m) (L+L+8) (subT s t):=by
 have h1:TOk m (L+2+1) (zba t (eR (-1))):=(TOk.mul (M:=2) ht (eP _) (by decide)).plain (by omega)
 exact (addT_ok (L:=L+3) (hs.mono (bJ _) (by omega)) (h1.mono (bJ _) (by omega)) hnm).mono (bJ _) (by omega)
theorem zd1 {L:Nat} {q:ZI} (ht:TOk n L t) (hq:Lb q.abs) (lq:q.abs.length<=M) (hn:n<=1000000000):TOk n (L+M+1) (zba t q):=(TOk.mul ht hq lq).plain hn
variable {h:za4}
theorem zfz {l:za4} (hl:zbg l) (hh:zbg h):TOk 40 40 (za7 l h):=addT_ok (n:=20) (m:=20) (L:=19) (zd1 hh.rest hl.lb hl.len (by decide)) (zd1 hl.rest hh.lb hh.len (by decide)) (by decide)
theorem gap_len {l:za4} (hl:zbg l) (hh:zbg h):(eR ((l.times.val - 1)*(h.times.val - 1))).abs.length<=24:=by
 have h1:=zdy (x:=l.times) (y:=eR 1) hl.lb (eP 1)
 have h2:=zdy (x:=h.times) (y:=eR 1) hh.lb (eP 1)
 have h3:=zdi (x:=eR (l.times.val - (eR 1).val)) (y:=eR (h.times.val - (eR 1).val)) (eP _) (eP _)
 rw [eS,eS,eS] at h3
 rw [eS] at h1 h2
 have e:(eR 1).abs.length<=1:=by decide
 have:=hl.len;have:=hh.len
 omega
theorem dark_ok {l:za4} (hl:zbg l) (hh:zbg h):TOk 40 88 (zak l h):=(subT_ok (n:=40) (m:=0) (L:=40) (zfz hl hh) ((TOk.num (eP _) (bJ _)).mono (bJ 0) (show (eR (eR ((l.times.val - 1)*(h.times.val - 1))).val).abs.length<=40 by rw [eS];exact bC (gap_len hl hh) (by decide))) (by decide)).mono (by decide) (by decide)
theorem flat_bd {g:α->List β} (hg:∀ x,(g x).length<=k):∀ xs:List α,(xs.flatMap g).length<=xs.length*k
 | []=>by simp
 | x :: xs=>by
  rw [dI,bI,bP,Nat.add_mul]
  have:=flat_bd hg xs;have:=hg x;omega
theorem max_len {L:Nat} (hx:Lb x.abs) (hy:Lb y.abs) (lx:x.abs.length<=L) (ly:y.abs.length<=L):(eR (max x.val y.val)).abs.length<=L:=by
 rcases Int.le_total x.val y.val with h | h
 ·rw [Int.max_eq_right h];exact bC (zcg hy) ly
 ·rw [Int.max_eq_left h];exact bC (zcg hx) lx
variable {l:List za4}
theorem max_take (h:l[j]?=some s):maxS (l.take (j+1))=max (maxS (l.take j)) s.times.val:=by
 unfold maxS;rw [bX,h,dJ];rfl
theorem SOnes1 (s:za4) (one:ZI) (hs:SideW s) (ho:Lb one.abs) (lo:one.abs.length<=9):Fn eJ 93 [(1,.box (zi one))] [vG (zi s.times++(zT s.rest)),vp 1 0] (vb (zcp s.times.val one.val != 0)) [(1,.box (zi one))]:=by
 have ls:=hs.len;refine fB Tryz.func93 rfl 9 fun w H B a h=>Jq 5 [] [(1,vp 1 0),(2,vp 5 0),(3,vb false)] [(1,.box (zi one)),(5,.box (zi s.times++(zT s.rest)))] h fun a w h=>Jg 6 [(3,.call (SCmp s.times one hs.lb ho (by omega) (by omega)))] [1,2] [(3,vb (zcp s.times.val one.val != 0))] [5] [] h fun a w h=>qV (rT (.c (cB (zcp s.times.val one.val != 0))) h rfl ?_)
 rfl
theorem SIdxOn (pr:za4->Bool) (xs:List za4) (one:ZI) (hf:∀ x ∈ xs,Fn eJ 93 [(1,.box (zi one))] [vG (zi x.times++(zT x.rest)),vp 1 0] (vb (pr x)) [(1,.box (zi one))]) (hl:xs.length<=9223372036854775807):Fn eJ 115 [(1,.box (zi one))] [vS 5 (xs.map za4.d),.t (.c (.fn (.func 93) [] [.ptr 1 0]))] (vI (idxB pr xs 0)) [(1,.box (zi one))]:=by
 refine fB Tryz.func115 rfl 19 fun w H B a h=>Jq 5 [] [(0,vS 5 (xs.map za4.d)),(1,.t (.c (.fn (.func 93) [] [.ptr 1 0]))),(4,vI 0)] [(1,.box (zi one))] h fun a w h=>qW (Je 5 [(1,.len (zac 5 za4.d xs))] [] [(7,vN xs.length),(8,vI 0)] h fun a w h=>qZ ?_)
 refine zd3 (ι:=(Nat)) (fun j=>j<=xs.length/\idxB pr xs 0=idxB pr (xs.drop j) j)
   [4] (fun j=>[(8,vN j)])
   [] (fun j=>[])
   (fun j=>xs.length - j) 0 ?_ h ?_
 ·exact ⟨bF _,rfl⟩
 clear h;rintro j a w hI h;obtain ⟨hI1,hI2⟩:=hI;refine Je 5 [] [] [(9,vb (decide ((j:Int)<(xs.length:Int))))] h fun a w h=>qW (zaj ((j:Int)<(xs.length:Int)) h (fun hc1 hc1'=>?_) (fun hc4 hc4'=>?_))
 ·refine qU (za3 (qW (qZ (Je 5 [] [9] [(5,vN j)] h fun a w h=>?_))));obtain ⟨x1,hx1⟩:=gl xs j;refine Je 5 [(3,.g (xD 14 12 hb_1 (zab hx1 (f:=za4.d)) (eN 13 _))),(5,.g (Op.callV (d:=16) (t:=11) (cap:=[.ptr 1 0]) (args:=[vG (zi x1.times++(zT x1.rest))]) (rs:=[(15,vG (zi x1.times++(zT x1.rest)))]) (tys:=#[63]) (hf x1 (lM hx1)) hb_2 (OVs.cons (eN 15 _) (OVs.nil))))] [] [(16,vb (pr x1))] h fun a w h=>cS (pr x1) h (fun hc2=>?_) (fun hc3=>?_)
  ·refine Je 5 [] [5,16] [(4,vN j)] h fun a w h=>qV (zan (zae (zae (zan (zae (rT (.c (cI (j:Int))) h rfl ?_))))));have hz:idxB pr xs 0=(j:Int):=by rw [hI2,idxB_at hx1,if_pos hc2]
   rw [hz];try rfl
  refine qU (za6 (za3 (Jf 5 [(0,.j1 j)] [5,16] [(8,vI ((j:Int)+1))] h fun a w h=>za3 (za9 (x:=j) (y:=j+1) h ?_ ?_))))
  ·exact ⟨by have:=zad hx1;omega,by rw [hI2,idxB_at hx1,if_neg (by rw [hc3];exact Bool.noConfusion)]⟩
  (try simp);omega
 refine exA (Jp 5 [] [(4,vI (-1))] h fun a w h=>qV (rT (.c (cI (-1))) h rfl ?_));have hz:idxB pr xs 0=-1:=by rw [hI2,cW (by omega)];rfl
 rw [hz];try rfl
theorem SAnyOn (pr:za4->Bool) (xs:List za4) (one:ZI) (hf:∀ x ∈ xs,Fn eJ 93 [(1,.box (zi one))] [vG (zi x.times++(zT x.rest)),vp 1 0] (vb (pr x)) [(1,.box (zi one))]) (hl:xs.length<=9223372036854775807):Fn eJ 92 [(1,.box (zi one))] [vS 5 (xs.map za4.d),.t (.c (.fn (.func 93) [] [.ptr 1 0]))] (vb (xs.any pr)) [(1,.box (zi one))]:=by
 refine fB Tryz.func92 rfl 9 fun w H B a h=>Jq 5 [] [(0,vS 5 (xs.map za4.d)),(1,.t (.c (.fn (.func 93) [] [.ptr 1 0]))),(4,vb false)] [(1,.box (zi one))] h fun a w h=>Jp 5 [(2,.call (SIdxOn pr xs one hf  hl))] [(4,vb (decide (idxB pr xs 0>=0)))] h fun a w h=>qV (rT (.c (cB (decide (idxB pr xs 0>=0)))) h rfl ?_)
 rw [<- idxB_any];try rfl
theorem SOnes (l:List za4) (hl:∀ s ∈ l,SideW s) (hn:l.length<=1048576):Fn eJ 49 [] [vS 5 (l.map za4.d)] (vb (onesS l)) []:=by
 refine fB Tryz.func49 rfl 9 fun w H B a h=>Jq 1 [] [(0,vS 5 (l.map za4.d)),(2,vb false)] [] h fun a w h=>?_
 obtain ⟨r1,er1,vr1,or1,lr1⟩:=mkZ (v:=1) (m:=2) (eQ (by have:=pw2;omega));refine Jg 1 [(0,.call (eK (SOf 1 ⟨by omega,by omega⟩) (congrArg vz er1.symm)))] [] [(3,vp 1 0)] [] [(1,.box (zi r1))] h fun a w h=>Jq 2 [(1,.g (Op.makeFs (d:=6) (fn:=.func 93) [(3,1,0)])),(2,.call (SAnyOn (fun s=>zcp s.times.val r1.val != 0) l r1 (fun x hx=>SOnes1 x r1 (hl x hx) or1 (by omega)) (by omega)))] [(2,vb (!(l.any (fun s=>zcp s.times.val r1.val != 0))))] [] h fun a w h=>qV (rT (.c (cB (!(l.any (fun s=>zcp s.times.val r1.val != 0))))) h rfl ?_);unfold onesS;simp only [vr1];try rfl
theorem SExact (s:SidesD) (hl:∀ x ∈ s.lows,SideW x) (hh:∀ x ∈ s.highs,SideW x) (nl:s.lows.length<=1048576) (nh:s.highs.length<=1048576):Fn eJ 24 [] [vG [.d (.sl 5 (s.lows.map za4.d)),.d (.sl 5 (s.highs.map za4.d)),cRs s.others]] (vb (zb8 s)) []:=by
 refine fB Tryz.func24 rfl 11 fun w H B a h=>Jq 0 [] [(1,vp 0 0),(2,vb false)] [(0,.box [.d (.sl 5 (s.lows.map za4.d)),.d (.sl 5 (s.highs.map za4.d)),cRs s.others])] h fun a w h=>?_
 rcases bK (onesS s.lows) with hc1 | hc2
 ·refine Jq 1 [(2,.call (eK (SOnes s.lows hl nl) (congrArg vb hc1)))] [(2,vb true)] [] h fun a w h=>qV (rT (.c (cB true)) h rfl ?_);have hz:zb8 s=(true):=by unfold zb8;rw [hc1];rfl
  rw [hz];try rfl
 refine Jq 1 [(2,.call (eK (SOnes s.lows hl nl) (congrArg vb hc2))),(6,.call (SOnes s.highs hh nh))] [(2,vb (onesS s.highs))] [] h fun a w h=>qV (rT (.c (cB (onesS s.highs))) h rfl ?_);have hz:zb8 s=(onesS s.highs):=by unfold zb8;rw [hc2];rfl
 rw [hz];try rfl
theorem SBright (low high:za4) (hlow:zbg low) (hhigh:zbg high):Fn eJ 30 [] [vG (zi low.times++(zT low.rest)),vG (zi high.times++(zT high.rest))] (vT (za7 low high)) []:=by
 have ll:=hlow.len;have lh:=hhigh.len;refine fB Tryz.func30 rfl 16 fun w H B a h=>Jq 0 [] [(2,vp 0 0),(3,vp 1 0),(4,vp 2 0)] [(0,.box (zi low.times++(zT low.rest))),(1,.box (zi high.times++(zT high.rest))),(2,.box zT0)] h fun a w h=>Jq 3 [(4,.call (SScale high.rest low.times hhigh.rest (by decide) hlow.lb hlow.len (by decide))),(9,.call (SScale low.rest high.times hlow.rest (by decide) hhigh.lb hhigh.len (by decide))),(10,.call (STAdd (zba high.rest low.times) (zba low.rest high.times) ((zd1 hhigh.rest hlow.lb hlow.len (by decide)).mono (by decide) (by decide)) ((zd1 hlow.rest hhigh.lb hhigh.len (by decide)).mono (by decide) (by decide))))] [(4,vp 2 0)] [(2,.box (zT (addT (zba high.rest low.times) (zba low.rest high.times))))] h fun a w h=>qV (rA 2 (zT (addT (zba high.rest low.times) (zba low.rest high.times))) h tb_11 rfl ?_)
 rfl
theorem num_len {k:ZI} {L:Nat} (hk:Lb k.abs) (lk:k.abs.length<=L):(eR k.val).abs.length<=L:=bC (zcg hk) lk
theorem SDark (low high:za4) (hlow:zbg low) (hhigh:zbg high):Fn eJ 31 [] [vG (zi low.times++(zT low.rest)),vG (zi high.times++(zT high.rest))] (vT (zak low high)) []:=by
 have ll:=hlow.len;have lh:=hhigh.len;refine fB Tryz.func31 rfl 23 fun w H B a h=>Jq 0 [] [(2,vp 0 0),(3,vp 1 0),(4,vp 2 0)] [(0,.box (zi low.times++(zT low.rest))),(1,.box (zi high.times++(zT high.rest))),(2,.box zT0)] h fun a w h=>?_
 obtain ⟨r1,er1,vr1,or1,lr1⟩:=mkZ (v:=1) (m:=2) (eQ (by have:=pw2;omega));refine Jg 3 [(0,.call (eK (SOf 1 ⟨by omega,by omega⟩) (congrArg vz er1.symm)))] [] [(5,vp 3 0)] [] [(3,.box (zi r1))] h fun a w h=>?_;obtain ⟨r2,er2,vr2,or2,lr2⟩:=mkZ (v:=low.times.val - r1.val) (m:=low.times.abs.length+r1.abs.length+1) (zdy hlow.lb or1);obtain ⟨r3,er3,vr3,or3,lr3⟩:=mkZ (v:=high.times.val - r1.val) (m:=high.times.abs.length+r1.abs.length+1) (zdy hhigh.lb or1);obtain ⟨r4,er4,vr4,or4,lr4⟩:=mkZ (v:=r2.val*r3.val) (m:=r2.abs.length+r3.abs.length) (zdi or2 or3);refine Jg 4 [(3,.call (eK (SSub low.times r1 hlow.lb or1 (by omega) (by omega)) (congrArg vz er2.symm))),(7,.call (eK (SSub high.times r1 hhigh.lb or1 (by omega) (by omega)) (congrArg vz er3.symm))),(8,.call (eK (SMul r2 r3 or2 or3 (by omega) (by omega)) (congrArg vz er4.symm)))] [5] [(6,vp 4 0)] [3] [(4,.box (zi r4))] h fun a w h=>Jq 5 [(2,.call (SBright low high hlow hhigh)),(4,.call (SNumber r4 or4 (by omega))),(5,.call (STSub (za7 low high) (numT r4) ((zfz hlow hhigh).mono (by decide) (by decide)) ((TOk.num (L:=40) (eP _) (num_len or4 (show r4.abs.length<=40 by omega))).mono (by decide) (by decide))))] [(4,vp 2 0)] [(2,.box (zT (subT (za7 low high) (numT r4))))] h fun a w h=>qV (rA 2 (zT (subT (za7 low high) (numT r4))) h tb_11 rfl ?_);have hz:zak low high=subT (za7 low high) (numT r4):=by unfold zak;rw [er4];congr 3;simp only [vr1,vr2,vr3,vr4]
 rw [hz];try rfl
variable {sh:za4->za4->zax}
theorem each_len (h:zg3 rs) (v:Int) (j:Nat):(za5 rs v++((za1 rs v).take j).flatMap fun l=>(za0 rs v).map fun h=>zb1 (sh l h)).length<=420:=by
 have h1:=zfp h v;have h2:=zed h v;have h3:=zge h v
 have h4:=flat_bd (g:=fun l=>(za0 rs v).map fun h=>zb1 (sh l h)) (k:=20) (fun x=>by rw [bE];exact h2) ((za1 rs v).take j)
 rw [bU] at h4
 rw [bI]
 have h5:min j (za1 rs v).length*20<=20*20:=Nat.mul_le_mul_right 20 (by omega)
 omega
theorem SEachBright (rs:List za8) (v:Int) (hrs:zg3 rs):Fn eJ 29 [] [(vRs rs),vI v,.t (.c (.fn (.func 30) [] []))] (vRs (zb0 za7 rs v)) []:=by
 have lrs:=hrs.1;have nl:=zfp hrs v;have nh:=zed hrs v;have no:=zge hrs v;refine fB Tryz.func29 rfl 43 fun w H B a h=>Jq 5 [] [(0,(vRs rs)),(1,vI v),(2,.t (.c (.fn (.func 30) [] []))),(6,vW zb2)] [] h fun a w h=>Jg 5 [(2,.call (SsplitO rs v hrs))] [0,1] [(7,vp 5 0)] [] [(0,.row 43 4 ((za5 rs v).map eW)),(5,.box [.d (.sl 5 ((za1 rs v).map za4.d)),.d (.sl 5 ((za0 rs v).map za4.d)),.own 0 (za5 rs v).length])] h fun a w h=>Je 6 [] [] [(8,vO 0 (za5 rs v).length)] h fun a w h=>qW ?_
 replace h:=anyLx 5 2 [.d (.sl 5 ((za1 rs v).map za4.d)),.d (.sl 5 ((za0 rs v).map za4.d)),.own 0 (za5 rs v).length] (.own 0 (za5 rs v).length) h;refine Je 6 [(2,.len (zac 5 za4.d (za1 rs v)))] [] [(19,vS 5 ((za1 rs v).map za4.d)),(20,vI ((za1 rs v).length:Int)),(21,vI 0)] h fun a w h=>qZ ?_;replace h:=cvM [] [(8,vO 0 ((za5 rs v)++((za1 rs v).take 0).flatMap (fun l=>(za0 rs v).map fun h=>zb1 (za7 l h))).length)] [] [(0,.row 43 4 (((za5 rs v)++((za1 rs v).take 0).flatMap (fun l=>(za0 rs v).map fun h=>zb1 (za7 l h))).map eW))] (by rw [<- show ((za5 rs v):List za8)=((za5 rs v)++((za1 rs v).take 0).flatMap (fun l=>(za0 rs v).map fun h=>zb1 (za7 l h))) from (by simp)]; try kernel_rfl) h
 refine zd3 (ι:=(Nat)) (fun j=>j<=(za1 rs v).length)
   [] (fun j=>[(8,vO 0 ((za5 rs v)++((za1 rs v).take j).flatMap (fun l=>(za0 rs v).map fun h=>zb1 (za7 l h))).length),(21,vN j)])
   [] (fun j=>[(0,.row 43 4 (((za5 rs v)++((za1 rs v).take j).flatMap (fun l=>(za0 rs v).map fun h=>zb1 (za7 l h))).map eW))])
   (fun j=>(za1 rs v).length - j) 0 ?_ h ?_
 ·exact bF _
 clear h;rintro j a w hI h;have oj:=each_len (sh:=za7) hrs v j;refine Je 6 [] [] [(22,vb (decide ((j:Int)<((za1 rs v).length:Int))))] h fun a w h=>qW (zaj ((j:Int)<((za1 rs v).length:Int)) h (fun hc1 hc1'=>?_) (fun hc4 hc4'=>?_))
 ·refine qU (za3 (qW (qZ ?_)));obtain ⟨x2,hx2⟩:=gl (za1 rs v) j;have hx2_:=zf6 hrs v x2 (lM hx2);refine Jg 6 [(0,.g (xD 23 19 hb_1 (zab hx2 (f:=za4.d)) (eN 21 _)))] [22] [(10,vp 6 0)] [] [(6,.box (zi x2.times++(zT x2.rest)))] h fun a w h=>Je 7 [(2,.len (zac 5 za4.d (za0 rs v)))] [] [(26,vS 5 ((za0 rs v).map za4.d)),(27,vI ((za0 rs v).length:Int)),(28,vI 0)] h fun a w h=>qZ ?_;replace h:=cvM [] [(8,vO 0 (((za5 rs v)++((za1 rs v).take j).flatMap (fun l=>(za0 rs v).map fun h=>zb1 (za7 l h)))++((za0 rs v).take 0).map (fun h=>zb1 (za7 x2 h))).length)] [] [(0,.row 43 4 ((((za5 rs v)++((za1 rs v).take j).flatMap (fun l=>(za0 rs v).map fun h=>zb1 (za7 l h)))++((za0 rs v).take 0).map (fun h=>zb1 (za7 x2 h))).map eW))] (by rw [<- show (((za5 rs v)++((za1 rs v).take j).flatMap (fun l=>(za0 rs v).map fun h=>zb1 (za7 l h))):List za8)=(((za5 rs v)++((za1 rs v).take j).flatMap (fun l=>(za0 rs v).map fun h=>zb1 (za7 l h)))++((za0 rs v).take 0).map (fun h=>zb1 (za7 x2 h))) from (by simp)]; try kernel_rfl) h
  refine zd3 (ι:=(Nat)) (fun i=>i<=(za0 rs v).length)
    [] (fun i=>[(8,vO 0 (((za5 rs v)++((za1 rs v).take j).flatMap (fun l=>(za0 rs v).map fun h=>zb1 (za7 l h)))++((za0 rs v).take i).map (fun h=>zb1 (za7 x2 h))).length),(28,vN i)])
    [] (fun i=>[(0,.row 43 4 ((((za5 rs v)++((za1 rs v).take j).flatMap (fun l=>(za0 rs v).map fun h=>zb1 (za7 l h)))++((za0 rs v).take i).map (fun h=>zb1 (za7 x2 h))).map eW))])
    (fun i=>(za0 rs v).length - i) 0 ?_ h ?_
  ·exact bF _
  clear h;rintro i a w hI h;have ij:(((za5 rs v)++((za1 rs v).take j).flatMap (fun l=>(za0 rs v).map fun h=>zb1 (za7 l h)))++((za0 rs v).take i).map (fun h=>zb1 (za7 x2 h))).length<=500:=by rw [bI,bE,bU];omega
  refine Je 7 [] [] [(29,vb (decide ((i:Int)<((za0 rs v).length:Int))))] h fun a w h=>qW (zaj ((i:Int)<((za0 rs v).length:Int)) h (fun hc2 hc2'=>?_) (fun hc3 hc3'=>?_))
  ·refine qU (za3 (qW (qZ ?_)));obtain ⟨x3,hx3⟩:=gl (za0 rs v) i;have hx3_:=zdd hrs v x3 (lM hx3);refine Jg 7 [(0,.g (xD 30 26 hb_1 (zab hx3 (f:=za4.d)) (eN 28 _)))] [29] [(12,vp 7 0)] [] [(7,.box (zi x3.times++(zT x3.rest)))] h fun a w h=>Jh 8 [(4,.g (Op.callV (d:=36) (t:=33) (cap:=[]) (args:=[vG (zi x2.times++(zT x2.rest)),vG (zi x3.times++(zT x3.rest))]) (rs:=[(34,vG (zi x2.times++(zT x2.rest))),(35,vG (zi x3.times++(zT x3.rest)))]) (tys:=#[63,63]) (SBright x2 x3 hx2_ hx3_) hb_12 (OVs.cons (eN 34 _) (OVs.cons (eN 35 _) (OVs.nil))))),(5,.call (SLeast (za7 x2 x3) ((zfz hx2_ hx3_).mono (by decide) (by decide)))),(6,.g (bD 38 ([(zb1 (za7 x2 x3))].map eW) [(37,(vR (zb1 (za7 x2 x3))))] kc_5 (.cons (i:=0) (eN 37 _) (.nil)) (by kernel_rfl) (by simp [eW]))),(7,.g (aD 39 32 38 0 8 (((za5 rs v)++((za1 rs v).take j).flatMap (fun l=>(za0 rs v).map fun h=>zb1 (za7 l h)))++((za0 rs v).take i).map (fun h=>zb1 (za7 x2 h))) [(zb1 (za7 x2 x3))] eW ha_11 (by simp [eW])))] [12] [(8,vO 8 ((((za5 rs v)++((za1 rs v).take j).flatMap (fun l=>(za0 rs v).map fun h=>zb1 (za7 l h)))++((za0 rs v).take i).map (fun h=>zb1 (za7 x2 h)))++[(zb1 (za7 x2 x3))]).length)] [0,7] [(8,.row 43 4 (((((za5 rs v)++((za1 rs v).take j).flatMap (fun l=>(za0 rs v).map fun h=>zb1 (za7 l h)))++((za0 rs v).take i).map (fun h=>zb1 (za7 x2 h)))++[(zb1 (za7 x2 x3))]).map eW))] h fun a w h=>za6 (za3 (Jf 9 [(0,.j1 i)] [] [(28,vI ((i:Int)+1))] h fun a w h=>za3 ?_));rw [show (((((za5 rs v)++((za1 rs v).take j).flatMap (fun l=>(za0 rs v).map fun h=>zb1 (za7 l h)))++((za0 rs v).take i).map (fun h=>zb1 (za7 x2 h)))++[(zb1 (za7 x2 x3))]):List za8)=(((za5 rs v)++((za1 rs v).take j).flatMap (fun l=>(za0 rs v).map fun h=>zb1 (za7 l h)))++((za0 rs v).take (i+1)).map (fun h=>zb1 (za7 x2 h))) from (by rw [cE];congr 1;exact mapSnoc (f:=fun h=>zb1 (za7 x2 h)) hx3)] at h;replace h:=zfb 8 0 h;refine za9 (x:=i) (y:=i+1) h ?_ ?_
   ·have:=zad hx3;show i+1<=(za0 rs v).length;omega
   show (za0 rs v).length - (i+1)<(za0 rs v).length - i;have:=zad hx3;omega
  refine wp_exit (zbo (zbo (zap (za6 (za3 (Jh 9 [(0,.j1 j)] [10,26,27,28,29] [(21,vI ((j:Int)+1))] [6] [] h fun a w h=>za3 ?_))))));rw [show ((((za5 rs v)++((za1 rs v).take j).flatMap (fun l=>(za0 rs v).map fun h=>zb1 (za7 l h)))++((za0 rs v).take i).map (fun h=>zb1 (za7 x2 h))):List za8)=((za5 rs v)++((za1 rs v).take (j+1)).flatMap (fun l=>(za0 rs v).map fun h=>zb1 (za7 l h))) from (by rw [show (za0 rs v).take i=(za0 rs v) from bL (by omega),cE];congr 1;exact zbv (g:=(fun l=>(za0 rs v).map fun h=>zb1 (za7 l h))) hx2 rfl)] at h;refine za9 (x:=j) (y:=j+1) h ?_ ?_
  ·have:=zad hx2;show j+1<=(za1 rs v).length;omega
  show (za1 rs v).length - (j+1)<(za1 rs v).length - j;have:=zad hx2;omega
 refine exA (Jg 9 [] [2,7,8,19,20,21,22] [(6,vO 0 ((za5 rs v)++((za1 rs v).take j).flatMap (fun l=>(za0 rs v).map fun h=>zb1 (za7 l h))).length)] [5] [] h fun a w h=>qV ?_);rw [show (((za5 rs v)++((za1 rs v).take j).flatMap (fun l=>(za0 rs v).map fun h=>zb1 (za7 l h))):List za8)=(zb0 za7 rs v) from (by unfold zb0;rw [bL (by omega)])] at h;replace h:=pubX 0 4 43 ((zb0 za7 rs v).map eW) h [(zb0 za7 rs v).length] ⟨by first | exact (bE _).symm | (simp;done) | (simp;omega),trivial⟩;refine rT (.c (cRs (zb0 za7 rs v))) h rfl ?_;rfl
theorem SEachDark (rs:List za8) (v:Int) (hrs:zg3 rs):Fn eJ 29 [] [(vRs rs),vI v,.t (.c (.fn (.func 31) [] []))] (vRs (zb0 zak rs v)) []:=by
 have lrs:=hrs.1;have nl:=zfp hrs v;have nh:=zed hrs v;have no:=zge hrs v;refine fB Tryz.func29 rfl 43 fun w H B a h=>Jq 5 [] [(0,(vRs rs)),(1,vI v),(2,.t (.c (.fn (.func 31) [] []))),(6,vW zb2)] [] h fun a w h=>Jg 5 [(2,.call (SsplitO rs v hrs))] [0,1] [(7,vp 5 0)] [] [(0,.row 43 4 ((za5 rs v).map eW)),(5,.box [.d (.sl 5 ((za1 rs v).map za4.d)),.d (.sl 5 ((za0 rs v).map za4.d)),.own 0 (za5 rs v).length])] h fun a w h=>Je 6 [] [] [(8,vO 0 (za5 rs v).length)] h fun a w h=>qW ?_
 replace h:=anyLx 5 2 [.d (.sl 5 ((za1 rs v).map za4.d)),.d (.sl 5 ((za0 rs v).map za4.d)),.own 0 (za5 rs v).length] (.own 0 (za5 rs v).length) h;refine Je 6 [(2,.len (zac 5 za4.d (za1 rs v)))] [] [(19,vS 5 ((za1 rs v).map za4.d)),(20,vI ((za1 rs v).length:Int)),(21,vI 0)] h fun a w h=>qZ ?_;replace h:=cvM [] [(8,vO 0 ((za5 rs v)++((za1 rs v).take 0).flatMap (fun l=>(za0 rs v).map fun h=>zb1 (zak l h))).length)] [] [(0,.row 43 4 (((za5 rs v)++((za1 rs v).take 0).flatMap (fun l=>(za0 rs v).map fun h=>zb1 (zak l h))).map eW))] (by rw [<- show ((za5 rs v):List za8)=((za5 rs v)++((za1 rs v).take 0).flatMap (fun l=>(za0 rs v).map fun h=>zb1 (zak l h))) from (by simp)]; try kernel_rfl) h
 refine zd3 (ι:=(Nat)) (fun j=>j<=(za1 rs v).length)
   [] (fun j=>[(8,vO 0 ((za5 rs v)++((za1 rs v).take j).flatMap (fun l=>(za0 rs v).map fun h=>zb1 (zak l h))).length),(21,vN j)])
   [] (fun j=>[(0,.row 43 4 (((za5 rs v)++((za1 rs v).take j).flatMap (fun l=>(za0 rs v).map fun h=>zb1 (zak l h))).map eW))])
   (fun j=>(za1 rs v).length - j) 0 ?_ h ?_
 ·exact bF _
 clear h;rintro j a w hI h;have oj:=each_len (sh:=zak) hrs v j;refine Je 6 [] [] [(22,vb (decide ((j:Int)<((za1 rs v).length:Int))))] h fun a w h=>qW (zaj ((j:Int)<((za1 rs v).length:Int)) h (fun hc1 hc1'=>?_) (fun hc4 hc4'=>?_))
 ·refine qU (za3 (qW (qZ ?_)));obtain ⟨x2,hx2⟩:=gl (za1 rs v) j;have hx2_:=zf6 hrs v x2 (lM hx2);refine Jg 6 [(0,.g (xD 23 19 hb_1 (zab hx2 (f:=za4.d)) (eN 21 _)))] [22] [(10,vp 6 0)] [] [(6,.box (zi x2.times++(zT x2.rest)))] h fun a w h=>Je 7 [(2,.len (zac 5 za4.d (za0 rs v)))] [] [(26,vS 5 ((za0 rs v).map za4.d)),(27,vI ((za0 rs v).length:Int)),(28,vI 0)] h fun a w h=>qZ ?_;replace h:=cvM [] [(8,vO 0 (((za5 rs v)++((za1 rs v).take j).flatMap (fun l=>(za0 rs v).map fun h=>zb1 (zak l h)))++((za0 rs v).take 0).map (fun h=>zb1 (zak x2 h))).length)] [] [(0,.row 43 4 ((((za5 rs v)++((za1 rs v).take j).flatMap (fun l=>(za0 rs v).map fun h=>zb1 (zak l h)))++((za0 rs v).take 0).map (fun h=>zb1 (zak x2 h))).map eW))] (by rw [<- show (((za5 rs v)++((za1 rs v).take j).flatMap (fun l=>(za0 rs v).map fun h=>zb1 (zak l h))):List za8)=(((za5 rs v)++((za1 rs v).take j).flatMap (fun l=>(za0 rs v).map fun h=>zb1 (zak l h)))++((za0 rs v).take 0).map (fun h=>zb1 (zak x2 h))) from (by simp)]; try kernel_rfl) h
  refine zd3 (ι:=(Nat)) (fun i=>i<=(za0 rs v).length)
    [] (fun i=>[(8,vO 0 (((za5 rs v)++((za1 rs v).take j).flatMap (fun l=>(za0 rs v).map fun h=>zb1 (zak l h)))++((za0 rs v).take i).map (fun h=>zb1 (zak x2 h))).length),(28,vN i)])
    [] (fun i=>[(0,.row 43 4 ((((za5 rs v)++((za1 rs v).take j).flatMap (fun l=>(za0 rs v).map fun h=>zb1 (zak l h)))++((za0 rs v).take i).map (fun h=>zb1 (zak x2 h))).map eW))])
    (fun i=>(za0 rs v).length - i) 0 ?_ h ?_
  ·exact bF _
  clear h;rintro i a w hI h;have ij:(((za5 rs v)++((za1 rs v).take j).flatMap (fun l=>(za0 rs v).map fun h=>zb1 (zak l h)))++((za0 rs v).take i).map (fun h=>zb1 (zak x2 h))).length<=500:=by rw [bI,bE,bU];omega
  refine Je 7 [] [] [(29,vb (decide ((i:Int)<((za0 rs v).length:Int))))] h fun a w h=>qW (zaj ((i:Int)<((za0 rs v).length:Int)) h (fun hc2 hc2'=>?_) (fun hc3 hc3'=>?_))
  ·refine qU (za3 (qW (qZ ?_)));obtain ⟨x3,hx3⟩:=gl (za0 rs v) i;have hx3_:=zdd hrs v x3 (lM hx3);refine Jg 7 [(0,.g (xD 30 26 hb_1 (zab hx3 (f:=za4.d)) (eN 28 _)))] [29] [(12,vp 7 0)] [] [(7,.box (zi x3.times++(zT x3.rest)))] h fun a w h=>Jh 8 [(4,.g (Op.callV (d:=36) (t:=33) (cap:=[]) (args:=[vG (zi x2.times++(zT x2.rest)),vG (zi x3.times++(zT x3.rest))]) (rs:=[(34,vG (zi x2.times++(zT x2.rest))),(35,vG (zi x3.times++(zT x3.rest)))]) (tys:=#[63,63]) (SDark x2 x3 hx2_ hx3_) hb_19 (OVs.cons (eN 34 _) (OVs.cons (eN 35 _) (OVs.nil))))),(5,.call (SLeast (zak x2 x3) ((dark_ok hx2_ hx3_).mono (by decide) (by decide)))),(6,.g (bD 38 ([(zb1 (zak x2 x3))].map eW) [(37,(vR (zb1 (zak x2 x3))))] kc_5 (.cons (i:=0) (eN 37 _) (.nil)) (by kernel_rfl) (by simp [eW]))),(7,.g (aD 39 32 38 0 8 (((za5 rs v)++((za1 rs v).take j).flatMap (fun l=>(za0 rs v).map fun h=>zb1 (zak l h)))++((za0 rs v).take i).map (fun h=>zb1 (zak x2 h))) [(zb1 (zak x2 x3))] eW ha_11 (by simp [eW])))] [12] [(8,vO 8 ((((za5 rs v)++((za1 rs v).take j).flatMap (fun l=>(za0 rs v).map fun h=>zb1 (zak l h)))++((za0 rs v).take i).map (fun h=>zb1 (zak x2 h)))++[(zb1 (zak x2 x3))]).length)] [0,7] [(8,.row 43 4 (((((za5 rs v)++((za1 rs v).take j).flatMap (fun l=>(za0 rs v).map fun h=>zb1 (zak l h)))++((za0 rs v).take i).map (fun h=>zb1 (zak x2 h)))++[(zb1 (zak x2 x3))]).map eW))] h fun a w h=>za6 (za3 (Jf 9 [(0,.j1 i)] [] [(28,vI ((i:Int)+1))] h fun a w h=>za3 ?_));rw [show (((((za5 rs v)++((za1 rs v).take j).flatMap (fun l=>(za0 rs v).map fun h=>zb1 (zak l h)))++((za0 rs v).take i).map (fun h=>zb1 (zak x2 h)))++[(zb1 (zak x2 x3))]):List za8)=(((za5 rs v)++((za1 rs v).take j).flatMap (fun l=>(za0 rs v).map fun h=>zb1 (zak l h)))++((za0 rs v).take (i+1)).map (fun h=>zb1 (zak x2 h))) from (by rw [cE];congr 1;exact mapSnoc (f:=fun h=>zb1 (zak x2 h)) hx3)] at h;replace h:=zfb 8 0 h;refine za9 (x:=i) (y:=i+1) h ?_ ?_
   ·have:=zad hx3;show i+1<=(za0 rs v).length;omega
   show (za0 rs v).length - (i+1)<(za0 rs v).length - i;have:=zad hx3;omega
  refine wp_exit (zbo (zbo (zap (za6 (za3 (Jh 9 [(0,.j1 j)] [10,26,27,28,29] [(21,vI ((j:Int)+1))] [6] [] h fun a w h=>za3 ?_))))));rw [show ((((za5 rs v)++((za1 rs v).take j).flatMap (fun l=>(za0 rs v).map fun h=>zb1 (zak l h)))++((za0 rs v).take i).map (fun h=>zb1 (zak x2 h))):List za8)=((za5 rs v)++((za1 rs v).take (j+1)).flatMap (fun l=>(za0 rs v).map fun h=>zb1 (zak l h))) from (by rw [show (za0 rs v).take i=(za0 rs v) from bL (by omega),cE];congr 1;exact zbv (g:=(fun l=>(za0 rs v).map fun h=>zb1 (zak l h))) hx2 rfl)] at h;refine za9 (x:=j) (y:=j+1) h ?_ ?_
  ·have:=zad hx2;show j+1<=(za1 rs v).length;omega
  show (za1 rs v).length - (j+1)<(za1 rs v).length - j;have:=zad hx2;omega
 refine exA (Jg 9 [] [2,7,8,19,20,21,22] [(6,vO 0 ((za5 rs v)++((za1 rs v).take j).flatMap (fun l=>(za0 rs v).map fun h=>zb1 (zak l h))).length)] [5] [] h fun a w h=>qV ?_);rw [show (((za5 rs v)++((za1 rs v).take j).flatMap (fun l=>(za0 rs v).map fun h=>zb1 (zak l h))):List za8)=(zb0 zak rs v) from (by unfold zb0;rw [bL (by omega)])] at h;replace h:=pubX 0 4 43 ((zb0 zak rs v).map eW) h [(zb0 zak rs v).length] ⟨by first | exact (bE _).symm | (simp;done) | (simp;omega),trivial⟩;refine rT (.c (cRs (zb0 zak rs v))) h rfl ?_;rfl
theorem SSReal (rs:List za8) (v:Int) (hrs:zg3 rs):Fn eJ 13 [] [(vRs rs),vI v] (vRs (zb0 za7 rs v)) []:=by
 refine fB Tryz.func13 rfl 8 fun w H B a h=>Jq 0 [] [(0,(vRs rs)),(1,vI v),(4,vW zb2)] [] h fun a w h=>Jq 0 [(2,.call (SEachBright rs v hrs))] [(4,(vRs (zb0 za7 rs v)))] [] h fun a w h=>qV (rT (.c (cRs (zb0 za7 rs v))) h rfl ?_)
 rfl
theorem SSDark (rs:List za8) (v:Int) (hrs:zg3 rs):Fn eJ 14 [] [(vRs rs),vI v] (vRs (zb0 zak rs v)) []:=by
 refine fB Tryz.func14 rfl 8 fun w H B a h=>Jq 0 [] [(0,(vRs rs)),(1,vI v),(4,vW zb2)] [] h fun a w h=>Jq 0 [(2,.call (SEachDark rs v hrs))] [(4,(vRs (zb0 zak rs v)))] [] h fun a w h=>qV (rT (.c (cRs (zb0 zak rs v))) h rfl ?_)
 rfl
theorem SMaxN (x y:ZI) (hx:Lb x.abs) (hy:Lb y.abs) (lx:x.abs.length<=1000) (ly:y.abs.length<=1000):Fn eJ 64 [] [vz x,vz y] (vz (eR (max x.val y.val))) []:=by
 refine fB Tryz.func64 rfl 13 fun w H B a h=>Jq 0 [] [(2,vp 0 0),(3,vp 1 0),(4,vp 2 0)] [(0,.box (zi x)),(1,.box (zi y)),(2,.box [cB false,.d (nsl [])])] h fun a w h=>qW (Je 3 [(2,.call (SCmp x y hx hy (by omega) (by omega)))] [] [(8,vb (decide (zcp x.val y.val>=0)))] h fun a w h=>zaj (zcp x.val y.val>=0) h (fun hc1 hc1'=>?_) (fun hc2 hc2'=>?_))
 ·obtain ⟨r2,er2,vr2,or2,lr2⟩:=mkZ (v:=x.val) (m:=x.abs.length) (zcg hx);refine Jg 3 [(1,.call (eK (SClean x hx (by omega)) (congrArg vz er2.symm)))] [2,8] [] [0] [(2,.box (zi r2))] h fun a w h=>qV (zae (rA 2 (zi r2) h zct rfl ?_));have hz:max x.val y.val=x.val:=by have:=dT hc1;unfold zcp at this;(split at this;omega;split at this <;> omega)
  rw [hz];first | (rw [er2];done) | (rw [er2];rfl)
 refine qU (za3 ?_);obtain ⟨r3,er3,vr3,or3,lr3⟩:=mkZ (v:=y.val) (m:=y.abs.length) (zcg hy);refine Jq 3 [(1,.call (eK (SClean y hy (by omega)) (congrArg vz er3.symm)))] [(4,vp 2 0)] [(2,.box (zi r3))] h fun a w h=>qV (rA 2 (zi r3) h zct rfl ?_);have hz:max x.val y.val=y.val:=by have:=dF hc2;unfold zcp at this;(split at this;omega;split at this <;> omega)
 rw [hz];first | (rw [er3];done) | (rw [er3];rfl)
theorem SGreatest (l:List za4) (hl:∀ s ∈ l,zbg s) (hn:l.length<=1000):Fn eJ 33 [] [vS 5 (l.map za4.d)] (vz (eR (maxS l))) []:=by
 refine fB Tryz.func33 rfl 19 fun w H B a h=>Jq 0 [] [(0,vS 5 (l.map za4.d)),(2,vp 0 0)] [(0,.box [cB false,.d (nsl [])])] h fun a w h=>Jg 1 [] [] [(3,vp 1 0)] [] [(1,.box [cB false,.d (nsl [])])] h fun a w h=>qW (Je 2 [(1,.len (zac 5 za4.d l))] [0] [(7,vS 5 (l.map za4.d)),(8,vN l.length),(9,vI 0)] h fun a w h=>qZ ?_)
 refine zd3 (ι:=(Nat) × (ZI)) (fun (j,out)=>j<=l.length/\out=eR (maxS (l.take j))/\out.abs.length<=9)
   [] (fun (j,out)=>[(9,vN j)])
   [] (fun (j,out)=>[(1,.box (zi out))])
   (fun (j,out)=>l.length - j) (0,(eR 0)) ?_ h ?_
 ·exact ⟨bF _,rfl,bF _⟩
 clear h;rintro ⟨j,out⟩ a w hI h;dsimp only at h;obtain ⟨hI1,hI2,hI3⟩:=hI;have lout:Lb out.abs:=by rw [hI2];exact eP _
 refine Je 2 [] [] [(10,vb (decide ((j:Int)<(l.length:Int))))] h fun a w h=>qW (zaj ((j:Int)<(l.length:Int)) h (fun hc1 hc1'=>?_) (fun hc2 hc2'=>?_))
 ·refine qU (za3 (qW (qZ ?_)));obtain ⟨x1,hx1⟩:=gl l j;have gx1:=hl x1 (lM hx1);have lgx1:=gx1.len;refine Jg 2 [(0,.g (xD 11 7 hb_1 (zab hx1 (f:=za4.d)) (eN 9 _)))] [10] [(5,vp 2 0)] [] [(2,.box (zi x1.times++(zT x1.rest)))] h fun a w h=>?_;obtain ⟨r2,er2,vr2,or2,lr2⟩:=mkZ (v:=max out.val x1.times.val) (m:=1000) (max_len lout gx1.lb (by omega) (by omega));refine Jh 3 [(3,.call (eK (SMaxN out x1.times lout gx1.lb (by omega) (by omega)) (congrArg vz er2.symm)))] [5] [] [2] [(1,.box (zi r2))] h fun a w h=>za6 (za3 (Jf 3 [(0,.j1 j)] [] [(9,vI ((j:Int)+1))] h fun a w h=>za3 (za9 (x:=(j,out)) (y:=(j+1,r2)) h ?_ ?_)))
  ·have:=zad hx1;exact ⟨by omega,by rw [er2,max_take hx1,hI2,eS],by rw [er2];exact max_len lout gx1.lb hI3 gx1.len⟩
  show l.length - (j+1)<l.length - j;have:=zad hx1;omega
 refine exA (Jq 3 [] [(2,vp 0 0)] [(0,.box (zi out))] h fun a w h=>qV (rA 0 (zi out) h zct rfl ?_));rw [hI2,bL (by omega)];try rfl
theorem SLast (x y:ZI) (hx:Lb x.abs) (hy:Lb y.abs) (lx:x.abs.length<=9) (ly:y.abs.length<=9) (h0:y.val≠0):Fn eJ 35 [] [vz x,vz y] (vz (eR (zep x.val y.val))) []:=by
 refine fB Tryz.func35 rfl 22 fun w H B a h=>Jq 0 [] [(2,vp 0 0),(3,vp 1 0),(4,vp 2 0)] [(0,.box (zi x)),(1,.box (zi y)),(2,.box [cB false,.d (nsl [])])] h fun a w h=>?_
 obtain ⟨r1,er1,vr1,or1,lr1⟩:=mkZ (v:=y.val*x.val) (m:=y.abs.length+x.abs.length) (zdi hy hx);obtain ⟨r2,er2,vr2,or2,lr2⟩:=mkZ (v:=r1.val - y.val) (m:=r1.abs.length+y.abs.length+1) (zdy or1 hy);obtain ⟨r3,er3,vr3,or3,lr3⟩:=mkZ (v:=r2.val - x.val) (m:=r2.abs.length+x.abs.length+1) (zdy or2 hx);obtain ⟨r4q,er4q,vr4q,or4q,lr4q⟩:=mkZ (v:=r3.val.fdiv y.val) (m:=r3.abs.length) (zfq or3 h0);obtain ⟨r4r,er4r,vr4r,or4r,lr4r⟩:=mkZ (v:=r3.val.fmod y.val) (m:=y.abs.length) (len_fmod hy h0);refine Jg 3 [(2,.call (eK (SMul y x hy hx (by omega) (by omega)) (congrArg vz er1.symm))),(4,.call (eK (SSub r1 y or1 hy (by omega) (by omega)) (congrArg vz er2.symm))),(6,.call (eK (SSub r2 x or2 hx (by omega) (by omega)) (congrArg vz er3.symm))),(8,.call (eK (SDiv r3 y or3 hy (by omega) (by omega) h0) (show _=(.tup [.agg (zi r4q),.agg (zi r4r),.c (cI 0)]:V) by rw [er4q,er4r];try rfl)))] [2,3] [(5,vp 3 0)] [0,1] [(3,.box (zi r4q))] h fun a w h=>Jd 5 [] [5] [] [(2,.box (zi r4q))] h fun a w h=>qV (rA 2 (zi r4q) h zct rfl ?_);have hz:zep x.val y.val=r3.val.fdiv y.val:=by unfold zep;rw [vr3,vr2,vr1]
 rw [hz];first | (rw [er4q];done) | (rw [er4q];rfl)
theorem len_ceil (hx:Lb x.abs) (h:y.val≠0):(eR (-((-x.val).fdiv y.val))).abs.length<=x.abs.length :=
 eQ (by rw [Int.natAbs_neg];exact Nat.lt_of_le_of_lt (zew _ h) (by rw [Int.natAbs_neg];exact ZI.abs_lt hx))
theorem SCeil (x y:ZI) (hx:Lb x.abs) (hy:Lb y.abs) (lx:x.abs.length<=15000) (ly:y.abs.length<=15000) (h0:y.val≠0):Fn eJ 50 [] [vz x,vz y] (.tup [.agg (zi (eR (-((-x.val).fdiv y.val)))),.c (cI 0)]) []:=by
 refine fB Tryz.func50 rfl 28 fun w H B a h=>Jq 0 [] [(2,vp 0 0),(3,vp 1 0),(4,vp 2 0),(5,vI 0)] [(0,.box (zi x)),(1,.box (zi y)),(2,.box [cB false,.d (nsl [])])] h fun a w h=>?_
 obtain ⟨r1q,er1q,vr1q,or1q,lr1q⟩:=mkZ (v:=x.val.fdiv y.val) (m:=x.abs.length) (zfq hx h0);obtain ⟨r1r,er1r,vr1r,or1r,lr1r⟩:=mkZ (v:=x.val.fmod y.val) (m:=y.abs.length) (len_fmod hy h0);refine Jg 3 [(2,.call (eK (SDiv x y hx hy (by omega) (by omega) h0) (show _=(.tup [.agg (zi r1q),.agg (zi r1r),.c (cI 0)]:V) by rw [er1q,er1r];try rfl)))] [2,3] [(6,vp 3 0),(7,vp 4 0),(8,vI 0)] [0,1] [(3,.box (zi r1q)),(4,.box (zi r1r))] h fun a w h=>qW (Jg 5 [(1,.cmp (op:=.eql) (m:=0) (n:=0) (b:=true) .i64 rfl),(4,.call (SSign r1r or1r (by omega)))] [7] [(22,vb (sgn r1r.val != 0))] [4] [] h fun a w h=>cS (sgn r1r.val != 0) h (fun hc1=>?_) (fun hc2=>?_))
 ·obtain ⟨r3,er3,vr3,or3,lr3⟩:=mkZ (v:=1) (m:=2) (eQ (by have:=pw2;omega));obtain ⟨r4,er4,vr4,or4,lr4⟩:=mkZ (v:=r1q.val+r3.val) (m:=r1q.abs.length+r3.abs.length+1) (zcn or1q or3);refine Jh 5 [(1,.call (eK (SOf 1 ⟨by omega,by omega⟩) (congrArg vz er3.symm))),(2,.call (eK (SAdd r1q r3 or1q or3 (by omega) (by omega)) (congrArg vz er4.symm)))] [22] [] [] [(3,.box (zi r4))] h fun a w h=>za3 (Jg 5 [] [6,8] [] [3] [(2,.box (zi r4))] h fun a w h=>qV (zha [.agg (zi r4),.c (cI 0)] h Exit.ret (.inl rfl)  rfl ⟨RV.agg _ 2 0 _ _ _ _ zct rfl rfl rfl rfl,vT9,trivial⟩ ?_));have k:=ceil_turn h0 (by rw [<- vr1r];exact fun e=>by rw [zdt e] at hc1;simp at hc1);rw [er4,vr1q,vr3,k];try rfl
 refine qU (za3 (Jg 5 [] [6,8,22] [] [3] [(2,.box (zi r1q))] h fun a w h=>qV (zha [.agg (zi r1q),.c (cI 0)] h Exit.ret (.inl rfl)  rfl ⟨RV.agg _ 2 0 _ _ _ _ zct rfl rfl rfl rfl,vT9,trivial⟩ ?_)));have k:=ceil_stay h0 (by rw [<- vr1r];exact sgn_eq0.1 (by simpa using hc2));rw [er1q,k];try rfl
def zeroR (t:zax):za8:=⟨zaa t,true⟩
def zcu (c:Int->Int->Bool) (f:za4->Int) (l:List za4):Option Int:=l.foldl (fun m s=>some (match m with | none=>f s | some m=>if c (f s) m=true then f s else m)) none
def gtB (x y:Int):Bool:=decide (zcp x y>0)
def ltB (x y:Int):Bool:=decide (zcp x y<0)
theorem zg0 (c:Int->Int->Bool) (f:za4->Int) (l:List za4) (s:za4):zcu c f (l++[s])=some (match zcu c f l with | none=>f s | some m=>if c (f s) m=true then f s else m):=by unfold zcu;rw [dJ];rfl
variable {f:za4->Int}
theorem best_take {c:Int->Int->Bool} (h:l[j]?=some s):zcu c f (l.take (j+1))=some (match zcu c f (l.take j) with | none=>f s | some m=>if c (f s) m=true then f s else m):=by
 rw [bX,h];exact zg0 c f _ s
theorem best_first {c:Int->Int->Bool} (h:l[j]?=some s) (ha:(zcu c f (l.take j)).isSome=false):zcu c f (l.take (j+1))=some (f s):=by
 rw [best_take h];cases hb:zcu c f (l.take j) with
 | none=>rfl
 | some m=>rw [hb] at ha;cases ha
theorem best_more {c:Int->Int->Bool} (h:l[j]?=some s) (ha:(zcu c f (l.take j)).isSome=true) (hc:c (f s) ((zcu c f (l.take j)).getD 0)=true):zcu c f (l.take (j+1))=some (f s):=by
 rw [best_take h];cases hb:zcu c f (l.take j) with
 | none=>rfl
 | some m=>rw [hb] at hc;simp only [dL] at hc;simp [hc]
theorem best_keep {c:Int->Int->Bool} (h:l[j]?=some s) (ha:(zcu c f (l.take j)).isSome=true) (hc:c (f s) ((zcu c f (l.take j)).getD 0)=false):zcu c f (l.take (j+1))=zcu c f (l.take j):=by
 rw [best_take h];cases hb:zcu c f (l.take j) with
 | none=>rw [hb] at ha;cases ha
 | some m=>rw [hb] at hc;simp only [dL] at hc;simp [hc]
theorem zdq (c:Int->Int->Bool) (f:za4->Int):∀ l:List za4,(zcu c f l).isSome=decide (0<l.length):=by
 intro l
 rcases List.eq_nil_or_concat l with rfl | ⟨l', s,rfl⟩
 ·rfl
 ·rw [List.concat_eq_append,zg0];simp
def ze0 (L H:List za4) (vs:List ZI):ZI × Bool:=match zcu gtB (zbc · vs) L with
  | some m=>if H.any (fun s=>ltB (zc3 s vs) m)=true then (eR 0,false) else (eR m,true)
  | none=>(eR ((zcu ltB (zc3 · vs) H).getD 0),true)
theorem least_len {vs:List ZI} (hs:zbg s) (hv:VOk 8 vs) (h0:s.times.val≠0):(eR (zbc s vs)).abs.length<=19:=by
 have h1:=zff hs.rest (by decide) hv
 have h2:(eR (-zcc s.rest vs)).abs.length<=18:=by have:=len_neg (eP (zcc s.rest vs));rw [eS] at this;omega
 have h3:=len_ceil (x:=eR (-zcc s.rest vs)) (y:=s.times) (eP _) h0
 rw [eS] at h3
 unfold zbc;omega
theorem most_len {vs:List ZI} (hs:zbg s) (hv:VOk 8 vs) (h0:s.times.val≠0):(eR (zc3 s vs)).abs.length<=19:=by
 have h1:=zff hs.rest (by decide) hv
 have h3:=zfq (x:=eR (zcc s.rest vs)) (y:=s.times) (eP _) h0
 rw [eS] at h3
 unfold zc3;omega
theorem low_ne:∀ s ∈ za1 rs v,s.times.val≠0:=fun s hs=>by
 obtain ⟨r,_,hm⟩:=bS.1 hs
 unfold zdb at hm
 split at hm
 ·rw [bG.1 hm];show (eR _).val≠0;rw [eS];omega
 ·cases hm
theorem high_ne:∀ s ∈ za0 rs v,s.times.val≠0:=fun s hs=>by
 obtain ⟨r,_,hm⟩:=bS.1 hs
 unfold zb6 at hm
 split at hm
 ·rw [bG.1 hm];show (eR _).val≠0;rw [eS];omega
 ·cases hm
theorem SZero (t:zax) (ht:TOk 400000000 10000 t):Fn eJ 67 [] [(vT t)] (vR (zeroR t)) []:=by
 refine fB Tryz.func67 rfl 6 fun w H B a h=>Jq 0 [] [(1,vp 0 0),(2,vp 1 0)] [(0,.box (zT t)),(1,.box zR0)] h fun a w h=>Jd 2 [(1,.call (SPlain t ht (by decide) (by decide)))] [1] [] [(1,.box ((zT (zaa t))++[cB true]))] h fun a w h=>qV (rA 1 ((zT (zaa t))++[cB true]) h ha_1 rfl ?_)
 rfl
theorem SEqual (low:za4) (v i:Int) (hlow:zbg low) (hi:-9223372036854775808<=i/\i<=9223372036854775807):Fn eJ 37 [] [vG (zi low.times++(zT low.rest)),vI v,vI i] (vR (eqR low v i)) []:=by
 have ll:=hlow.len;refine fB Tryz.func37 rfl 22 fun w H B a h=>Jq 0 [] [(1,vI v),(2,vI i),(3,vp 0 0),(6,vp 1 0)] [(0,.box (zi low.times++(zT low.rest))),(1,.box zR0)] h fun a w h=>Jg 2 [(1,.call (SVar v)),(4,.call (SScale (varT v) low.times ((TOk.one (v:=v)).plain (by decide)) (by decide) hlow.lb hlow.len (by decide))),(7,.call (STAdd (zba (varT v) low.times) low.rest ((zd1 ((TOk.one (v:=v)).plain (by decide)) hlow.lb hlow.len (by decide)).mono (by decide) (by decide)) (hlow.rest.mono (by decide) (by decide))))] [1,3] [(7,vp 2 0)] [0] [(2,.box (zT (addT (zba (varT v) low.times) low.rest)))] h fun a w h=>?_
 obtain ⟨r4,er4,vr4,or4,lr4⟩:=mkZ (v:=i) (m:=2) (eQ (by have:=pw2;omega));refine Jq 3 [(2,.call (eK (SOf i ⟨by omega,by omega⟩) (congrArg vz er4.symm))),(3,.call (SNumber r4 or4 (by omega))),(4,.call (STSub (addT (zba (varT v) low.times) low.rest) (numT r4) ((addT_ok ((zd1 ((TOk.one (v:=v)).plain (by decide)) hlow.lb hlow.len (by decide)).mono (bJ 1) (show 13<=13 by decide)) (hlow.rest.mono (bJ 20) (show 9<=13 by decide)) (by decide)).mono (by decide) (by decide)) ((TOk.num (L:=60) (eP _) (num_len or4 (show r4.abs.length<=60 by omega))).mono (by decide) (by decide)))),(5,.call (SZero (subT (addT (zba (varT v) low.times) low.rest) (numT r4)) ((subT_ok ((addT_ok ((zd1 ((TOk.one (v:=v)).plain (by decide)) hlow.lb hlow.len (by decide)).mono (bJ 1) (show 13<=13 by decide)) (hlow.rest.mono (bJ 20) (show 9<=13 by decide)) (by decide)).mono (bJ 21) (show 28<=60 by decide)) ((TOk.num (L:=60) (eP _) (num_len or4 (show r4.abs.length<=60 by omega))).mono (bJ 0) (show 60<=60 by decide)) (by decide)).mono (by decide) (by decide))))] [(6,vp 1 0)] [(1,.box (zR_ (zeroR (subT (addT (zba (varT v) low.times) low.rest) (numT r4)))))] h fun a w h=>qV (rA 1 (zR_ (zeroR (subT (addT (zba (varT v) low.times) low.rest) (numT r4)))) h ha_1 rfl ?_);have hz:eqR low v i=zeroR (subT (addT (zba (varT v) low.times) low.rest) (numT r4)):=by unfold eqR zeroR;rw [er4]
 rw [hz];try rfl
theorem SLeastV (s:za4) (vs:List ZI) (hs:zbg s) (hv:VOk 8 vs) (h0:s.times.val≠0):Fn eJ 25 [] [vG (zi s.times++(zT s.rest)),(vZs vs)] (vz (eR (zbc s vs))) []:=by
 have ls:=hs.len;refine fB Tryz.func25 rfl 19 fun w H B a h=>Jq 0 [] [(1,(vZs vs)),(2,vp 0 0),(4,vp 1 0)] [(0,.box (zi s.times++(zT s.rest))),(1,.box [cB false,.d (nsl [])])] h fun a w h=>?_
 obtain ⟨r1,er1,vr1,or1,lr1⟩:=mkZ (v:=zcc s.rest vs) (m:=18) (zff hs.rest (by decide) hv);obtain ⟨r2,er2,vr2,or2,lr2⟩:=mkZ (v:=-r1.val) (m:=r1.abs.length) (len_neg or1);obtain ⟨r3,er3,vr3,or3,lr3⟩:=mkZ (v:=-((-r2.val).fdiv s.times.val)) (m:=r2.abs.length) (len_ceil or2 h0);refine Jg 2 [(3,.call (eK (SValue s.rest vs hs.rest (by decide) (by decide) hv) (congrArg vz er1.symm))),(4,.call (eK (SNeg r1 or1 (by omega)) (congrArg vz er2.symm))),(7,.call (eK (SCeil r2 s.times or2 hs.lb (by omega) (by omega) h0) (show _=(.tup [.agg (zi r3),.c (cI 0)]:V) by rw [er3];try rfl)))] [1,2] [(5,vp 2 0)] [0] [(2,.box (zi r3))] h fun a w h=>Jd 3 [] [5] [] [(1,.box (zi r3))] h fun a w h=>qV (rA 1 (zi r3) h zct rfl ?_);have hz:zbc s vs=-((-r2.val).fdiv s.times.val):=by unfold zbc;rw [vr2,vr1]
 rw [hz];first | (rw [er3];done) | (rw [er3];rfl)
theorem SMostV (s:za4) (vs:List ZI) (hs:zbg s) (hv:VOk 8 vs) (h0:s.times.val≠0):Fn eJ 27 [] [vG (zi s.times++(zT s.rest)),(vZs vs)] (vz (eR (zc3 s vs))) []:=by
 have ls:=hs.len;refine fB Tryz.func27 rfl 20 fun w H B a h=>Jq 0 [] [(1,(vZs vs)),(2,vp 0 0),(4,vp 1 0)] [(0,.box (zi s.times++(zT s.rest))),(1,.box [cB false,.d (nsl [])])] h fun a w h=>?_
 obtain ⟨r1,er1,vr1,or1,lr1⟩:=mkZ (v:=zcc s.rest vs) (m:=18) (zff hs.rest (by decide) hv);obtain ⟨r2q,er2q,vr2q,or2q,lr2q⟩:=mkZ (v:=r1.val.fdiv s.times.val) (m:=r1.abs.length) (zfq or1 h0);obtain ⟨r2r,er2r,vr2r,or2r,lr2r⟩:=mkZ (v:=r1.val.fmod s.times.val) (m:=s.times.abs.length) (len_fmod hs.lb h0);refine Jg 2 [(3,.call (eK (SValue s.rest vs hs.rest (by decide) (by decide) hv) (congrArg vz er1.symm))),(6,.call (eK (SDiv r1 s.times or1 hs.lb (by omega) (by omega) h0) (show _=(.tup [.agg (zi r2q),.agg (zi r2r),.c (cI 0)]:V) by rw [er2q,er2r];try rfl)))] [1,2] [(5,vp 2 0)] [0] [(2,.box (zi r2q))] h fun a w h=>Jd 4 [] [5] [] [(1,.box (zi r2q))] h fun a w h=>qV (rA 1 (zi r2q) h zct rfl ?_);have hz:zc3 s vs=r1.val.fdiv s.times.val:=by unfold zc3;rw [vr1]
 rw [hz];first | (rw [er2q];done) | (rw [er2q];rfl)
theorem SFit (rs:List za8) (v:Int) (vs:List ZI) (hrs:zg3 rs) (hv:VOk 8 vs):Fn eJ 10 [] [.t (.c (.d (.sl 4 (rs.map eW)))),vI v,.t (.c (.d (.sl 2 (vs.map ziD))))] (.tup [.agg (zi (ze0 (za1 rs v) (za0 rs v) vs).1),.c (.d (.raw (.bool (ze0 (za1 rs v) (za0 rs v) vs).2)))]) []:=by
  have lrs:=hrs.1
  have nl:=zfp hrs v
  have nh:=zed hrs v
  refine fB Tryz.func10 rfl 81 fun w H B a h=>Jq 0 [] [(0,.t (.c (.d (.sl 4 (rs.map eW))))),(1,vI v),(2,.t (.c (.d (.sl 2 (vs.map ziD))))),(6,vp 0 0),(7,vb false)] [(0,.box [.d (.raw (.bool false)),.d (nsl [])])] h fun a w h=>Jq 1 [(2,.call (Ssplit rs v hrs))] [(2,.t (.c (.d (.sl 2 (vs.map ziD))))),(6,vp 0 0),(7,vb false),(8,vp 1 0)] [(0,.box [.d (.raw (.bool false)),.d (nsl [])]),(1,.box [.d (.sl 5 ((za1 rs v).map za4.d)),.d (.sl 5 ((za0 rs v).map za4.d)),.d (.sl 4 ((za5 rs v).map eW))])] h fun a w h=>Jq 2 [] [(2,.t (.c (.d (.sl 2 (vs.map ziD))))),(6,vp 0 0),(7,vb false),(8,vp 1 0),(9,vp 2 0),(10,vb false)] [(0,.box [.d (.raw (.bool false)),.d (nsl [])]),(1,.box [.d (.sl 5 ((za1 rs v).map za4.d)),.d (.sl 5 ((za0 rs v).map za4.d)),.d (.sl 4 ((za5 rs v).map eW))]),(2,.box [.d (.raw (.bool false)),.d (nsl [])])] h fun a w h=>qW (Jq 3 [(2,.len (c:=(.d (.sl 5 ((za1 rs v).map za4.d)))) (n:=(za1 rs v).length) (zac _ _ _))] [(2,.t (.c (.d (.sl 2 (vs.map ziD))))),(6,vp 0 0),(7,vb false),(8,vp 1 0),(9,vp 2 0),(10,vb false),(22,.t (.c (.d (.sl 5 ((za1 rs v).map za4.d))))),(23,vI ((za1 rs v).length:Int)),(24,vI 0)] [(0,.box [.d (.raw (.bool false)),.d (nsl [])]),(1,.box [.d (.sl 5 ((za1 rs v).map za4.d)),.d (.sl 5 ((za0 rs v).map za4.d)),.d (.sl 4 ((za5 rs v).map eW))]),(2,.box [.d (.raw (.bool false)),.d (nsl [])])] h fun a w h=>qZ ?_)
  refine loopS (ι:=(Nat) × (ZI) × (Bool)) (fun (z_:(Nat) × (ZI) × (Bool))=>match z_ with | (j,out,any)=>j<=(za1 rs v).length/\out=eR ((zcu gtB (zbc · vs) ((za1 rs v).take j)).getD 0)/\any=(zcu gtB (zbc · vs) ((za1 rs v).take j)).isSome/\out.abs.length<=19)
      (fun (z_:(Nat) × (ZI) × (Bool))=>match z_ with | (j,out,any)=>[(2,.t (.c (.d (.sl 2 (vs.map ziD))))),(6,vp 0 0),(7,vb false),(8,vp 1 0),(9,vp 2 0),(10,vb any),(22,.t (.c (.d (.sl 5 ((za1 rs v).map za4.d))))),(23,vI ((za1 rs v).length:Int)),(24,vN j)])
      (fun (z_:(Nat) × (ZI) × (Bool))=>match z_ with | (j,out,any)=>[(0,.box [.d (.raw (.bool false)),.d (nsl [])]),(1,.box [.d (.sl 5 ((za1 rs v).map za4.d)),.d (.sl 5 ((za0 rs v).map za4.d)),.d (.sl 4 ((za5 rs v).map eW))]),(2,.box (zi out))])
      (fun (z_:(Nat) × (ZI) × (Bool))=>match z_ with | (j,out,any)=>(za1 rs v).length - j) (0,(eR 0),false) ?_ h (by kernel_rfl) (by kernel_rfl) ?_
  · exact ⟨bF _,rfl,rfl,bF _⟩
  · clear h;rintro ⟨j,out,any⟩ a w hI h
    change St _ (F.of [(2,.t (.c (.d (.sl 2 (vs.map ziD))))),(6,vp 0 0),(7,vb false),(8,vp 1 0),(9,vp 2 0),(10,vb any),(22,.t (.c (.d (.sl 5 ((za1 rs v).map za4.d))))),(23,vI ((za1 rs v).length:Int)),(24,vN j)] [(0,.box [.d (.raw (.bool false)),.d (nsl [])]),(1,.box [.d (.sl 5 ((za1 rs v).map za4.d)),.d (.sl 5 ((za0 rs v).map za4.d)),.d (.sl 4 ((za5 rs v).map eW))]),(2,.box (zi out))]) a w at h
    obtain ⟨hI1,hI2,hI3,hI4⟩:=hI
    have lout:Lb out.abs:=by rw [hI2];exact eP _
    refine Jq 3 [] [(2,.t (.c (.d (.sl 2 (vs.map ziD))))),(6,vp 0 0),(7,vb false),(8,vp 1 0),(9,vp 2 0),(10,vb any),(22,.t (.c (.d (.sl 5 ((za1 rs v).map za4.d))))),(23,vI ((za1 rs v).length:Int)),(24,vN j),(25,vb (decide ((j:Int)<((za1 rs v).length:Int))))] [(0,.box [.d (.raw (.bool false)),.d (nsl [])]),(1,.box [.d (.sl 5 ((za1 rs v).map za4.d)),.d (.sl 5 ((za0 rs v).map za4.d)),.d (.sl 4 ((za5 rs v).map eW))]),(2,.box (zi out))] h fun a w h=>qW (zh5 (decide ((j:Int)<((za1 rs v).length:Int))) h rfl (fun hc=>?_) (fun hc=>?_))
    · have hc1:=hc;clear hc
      have hc1':=dT hc1
      refine qU (za3 (qW (qZ ?_)))
      obtain ⟨x2,hx2⟩:∃ z_:za4,(za1 rs v)[j]?=some z_:=⟨_,bN (by first | omega | (simp at *;omega))⟩
      refine Jq 3 [(0,.gen _ _ _ fun _ _ _ _=>Op.idxD (d:=26) (t:=22) (k:=.i64) hb_1 (zab hx2 (f:=za4.d)) (eN 24 _))] [(2,.t (.c (.d (.sl 2 (vs.map ziD))))),(6,vp 0 0),(7,vb false),(8,vp 1 0),(9,vp 2 0),(10,vb any),(12,vp 3 0),(22,.t (.c (.d (.sl 5 ((za1 rs v).map za4.d))))),(23,vI ((za1 rs v).length:Int)),(24,vN j)] [(0,.box [.d (.raw (.bool false)),.d (nsl [])]),(1,.box [.d (.sl 5 ((za1 rs v).map za4.d)),.d (.sl 5 ((za0 rs v).map za4.d)),.d (.sl 4 ((za5 rs v).map eW))]),(2,.box (zi out)),(3,.box (zi x2.times++[.d (.sl 3 (x2.rest.parts.map eV))]++zi x2.rest.k))] h fun a w h=>?_
      obtain ⟨r3,er3,vr3,or3,lr3⟩:=mkZ (v:=zbc x2 vs) (m:=19) (least_len (zf6 hrs v x2 (lM hx2)) hv (low_ne x2 (lM hx2)))
      refine Jq 4 [(2,.call (eK (SLeastV x2 vs (zf6 hrs v x2 (lM hx2)) hv (low_ne x2 (lM hx2))) (congrArg vz er3.symm)))] [(2,.t (.c (.d (.sl 2 (vs.map ziD))))),(6,vp 0 0),(7,vb false),(8,vp 1 0),(9,vp 2 0),(10,vb any),(13,vp 4 0),(22,.t (.c (.d (.sl 5 ((za1 rs v).map za4.d))))),(23,vI ((za1 rs v).length:Int)),(24,vN j)] [(0,.box [.d (.raw (.bool false)),.d (nsl [])]),(1,.box [.d (.sl 5 ((za1 rs v).map za4.d)),.d (.sl 5 ((za0 rs v).map za4.d)),.d (.sl 4 ((za5 rs v).map eW))]),(2,.box (zi out)),(4,.box (zi r3))] h fun a w h=>?_
      rcases bK any with hc | hc
      · have hc2:=hc;clear hc
        rw [hc2] at h
        refine Jq 5 [(5,.call (SCmp r3 out or3 lout (by omega) (by omega)))] [(2,.t (.c (.d (.sl 2 (vs.map ziD))))),(6,vp 0 0),(7,vb false),(8,vp 1 0),(9,vp 2 0),(10,vb true),(13,vp 4 0),(22,.t (.c (.d (.sl 5 ((za1 rs v).map za4.d))))),(23,vI ((za1 rs v).length:Int)),(24,vN j),(38,vb (decide (zcp r3.val out.val>0)))] [(0,.box [.d (.raw (.bool false)),.d (nsl [])]),(1,.box [.d (.sl 5 ((za1 rs v).map za4.d)),.d (.sl 5 ((za0 rs v).map za4.d)),.d (.sl 4 ((za5 rs v).map eW))]),(2,.box (zi out)),(4,.box (zi r3))] h fun a w h=>zh5 (decide (zcp r3.val out.val>0)) h rfl (fun hc=>?_) (fun hc=>?_)
        · have hc3:=hc;clear hc
          have hc3':=dT hc3
          refine Jn 5 [] [(2,.t (.c (.d (.sl 2 (vs.map ziD))))),(6,vp 0 0),(7,vb false),(8,vp 1 0),(9,vp 2 0),(10,vb true),(22,.t (.c (.d (.sl 5 ((za1 rs v).map za4.d))))),(23,vI ((za1 rs v).length:Int)),(24,vN j)] [(0,.box [.d (.raw (.bool false)),.d (nsl [])]),(1,.box [.d (.sl 5 ((za1 rs v).map za4.d)),.d (.sl 5 ((za0 rs v).map za4.d)),.d (.sl 4 ((za5 rs v).map eW))]),(2,.box (zi r3))] h fun a w h=>za6 (za3 (Jn 5 [(0,.add .i64 (m:=(j:Int)) (n:=1) i6)] [(2,.t (.c (.d (.sl 2 (vs.map ziD))))),(6,vp 0 0),(7,vb false),(8,vp 1 0),(9,vp 2 0),(10,vb true),(22,.t (.c (.d (.sl 5 ((za1 rs v).map za4.d))))),(23,vI ((za1 rs v).length:Int)),(24,vI ((j:Int)+1))] [(0,.box [.d (.raw (.bool false)),.d (nsl [])]),(1,.box [.d (.sl 5 ((za1 rs v).map za4.d)),.d (.sl 5 ((za0 rs v).map za4.d)),.d (.sl 4 ((za5 rs v).map eW))]),(2,.box (zi r3))] h fun a w h=>za3 ?_))
          have hbe:=(best_more hx2 (by rw [<- hI3,hc2]) (by have hq:=hc3;rw [vr3,hI2,eS] at hq;exact hq):zcu gtB (zbc · vs) ((za1 rs v).take (j+1))=_)
          refine za9 (x:=(j,out,any)) (y:=(j+1,r3,true)) h ?_ ?_
          · have:=zad hx2
            exact ⟨by omega,by rw [hbe,er3];rfl,by rw [hbe];rfl,lr3⟩
          · show (za1 rs v).length - (j+1)<(za1 rs v).length - j
            have:=zad hx2;omega
        · have hc4:=hc;clear hc
          have hc4':=dF hc4
          refine qU (za6 (za3 (Jn 5 [(0,.add .i64 (m:=(j:Int)) (n:=1) i6)] [(2,.t (.c (.d (.sl 2 (vs.map ziD))))),(6,vp 0 0),(7,vb false),(8,vp 1 0),(9,vp 2 0),(10,vb true),(22,.t (.c (.d (.sl 5 ((za1 rs v).map za4.d))))),(23,vI ((za1 rs v).length:Int)),(24,vI ((j:Int)+1))] [(0,.box [.d (.raw (.bool false)),.d (nsl [])]),(1,.box [.d (.sl 5 ((za1 rs v).map za4.d)),.d (.sl 5 ((za0 rs v).map za4.d)),.d (.sl 4 ((za5 rs v).map eW))]),(2,.box (zi out))] h fun a w h=>za3 ?_)))
          have hbe:=(best_keep hx2 (by rw [<- hI3,hc2]) (by have hq:=hc4;rw [vr3,hI2,eS] at hq;exact hq):zcu gtB (zbc · vs) ((za1 rs v).take (j+1))=_)
          refine za9 (x:=(j,out,any)) (y:=(j+1,out,true)) h ?_ ?_
          · have:=zad hx2
            exact ⟨by omega,by rw [hbe];exact hI2,by rw [hbe,<- hI3,hc2],hI4⟩
          · show (za1 rs v).length - (j+1)<(za1 rs v).length - j
            have:=zad hx2;omega
      · have hc5:=hc;clear hc
        rw [hc5] at h
        refine Jq 5 [] [(2,.t (.c (.d (.sl 2 (vs.map ziD))))),(6,vp 0 0),(7,vb false),(8,vp 1 0),(9,vp 2 0),(10,vb false),(13,vp 4 0),(22,.t (.c (.d (.sl 5 ((za1 rs v).map za4.d))))),(23,vI ((za1 rs v).length:Int)),(24,vN j),(38,vb true)] [(0,.box [.d (.raw (.bool false)),.d (nsl [])]),(1,.box [.d (.sl 5 ((za1 rs v).map za4.d)),.d (.sl 5 ((za0 rs v).map za4.d)),.d (.sl 4 ((za5 rs v).map eW))]),(2,.box (zi out)),(4,.box (zi r3))] h fun a w h=>zh5 true h rfl (fun hc=>?_) (fun hc=>?_)
        · clear hc
          refine Jn 5 [] [(2,.t (.c (.d (.sl 2 (vs.map ziD))))),(6,vp 0 0),(7,vb false),(8,vp 1 0),(9,vp 2 0),(10,vb true),(22,.t (.c (.d (.sl 5 ((za1 rs v).map za4.d))))),(23,vI ((za1 rs v).length:Int)),(24,vN j)] [(0,.box [.d (.raw (.bool false)),.d (nsl [])]),(1,.box [.d (.sl 5 ((za1 rs v).map za4.d)),.d (.sl 5 ((za0 rs v).map za4.d)),.d (.sl 4 ((za5 rs v).map eW))]),(2,.box (zi r3))] h fun a w h=>za6 (za3 (Jn 5 [(0,.add .i64 (m:=(j:Int)) (n:=1) i6)] [(2,.t (.c (.d (.sl 2 (vs.map ziD))))),(6,vp 0 0),(7,vb false),(8,vp 1 0),(9,vp 2 0),(10,vb true),(22,.t (.c (.d (.sl 5 ((za1 rs v).map za4.d))))),(23,vI ((za1 rs v).length:Int)),(24,vI ((j:Int)+1))] [(0,.box [.d (.raw (.bool false)),.d (nsl [])]),(1,.box [.d (.sl 5 ((za1 rs v).map za4.d)),.d (.sl 5 ((za0 rs v).map za4.d)),.d (.sl 4 ((za5 rs v).map eW))]),(2,.box (zi r3))] h fun a w h=>za3 ?_))
          have hbe:=(best_first hx2 (by rw [<- hI3,hc5]):zcu gtB (zbc · vs) ((za1 rs v).take (j+1))=_)
          refine za9 (x:=(j,out,any)) (y:=(j+1,r3,true)) h ?_ ?_
          · have:=zad hx2
            exact ⟨by omega,by rw [hbe,er3];rfl,by rw [hbe];rfl,lr3⟩
          · show (za1 rs v).length - (j+1)<(za1 rs v).length - j
            have:=zad hx2;omega
        · cases hc
    · have hc6:=hc;clear hc
      have hc6':=dF hc6
      refine exA (qW ?_)
      have hlj:j=(za1 rs v).length:=by omega
      refine Jq 5 [(2,.len (c:=(.d (.sl 5 ((za0 rs v).map za4.d)))) (n:=(za0 rs v).length) (zac _ _ _))] [(2,.t (.c (.d (.sl 2 (vs.map ziD))))),(6,vp 0 0),(7,vb false),(8,vp 1 0),(9,vp 2 0),(10,vb any),(42,.t (.c (.d (.sl 5 ((za0 rs v).map za4.d))))),(43,vI ((za0 rs v).length:Int)),(44,vI 0)] [(0,.box [.d (.raw (.bool false)),.d (nsl [])]),(1,.box [.d (.sl 5 ((za1 rs v).map za4.d)),.d (.sl 5 ((za0 rs v).map za4.d)),.d (.sl 4 ((za5 rs v).map eW))]),(2,.box (zi out))] h fun a w h=>qZ ?_
      refine loopS (ι:=(Nat) × (ZI) × (Bool)) (fun (z_:(Nat) × (ZI) × (Bool))=>match z_ with | (i,ou,an)=>i<=(za0 rs v).length/\ou.abs.length<=19/\(0<(za1 rs v).length->ou=out/\an=true/\((za0 rs v).take i).any (fun s=>ltB (zc3 s vs) out.val)=false)/\((za1 rs v).length=0->ou=eR ((zcu ltB (zc3 · vs) ((za0 rs v).take i)).getD 0)/\an=(zcu ltB (zc3 · vs) ((za0 rs v).take i)).isSome))
          (fun (z_:(Nat) × (ZI) × (Bool))=>match z_ with | (i,ou,an)=>[(2,.t (.c (.d (.sl 2 (vs.map ziD))))),(6,vp 0 0),(8,vp 1 0),(9,vp 2 0),(10,vb an),(42,.t (.c (.d (.sl 5 ((za0 rs v).map za4.d))))),(43,vI ((za0 rs v).length:Int)),(44,vN i)])
          (fun (z_:(Nat) × (ZI) × (Bool))=>match z_ with | (i,ou,an)=>[(0,.box [.d (.raw (.bool false)),.d (nsl [])]),(1,.box [.d (.sl 5 ((za1 rs v).map za4.d)),.d (.sl 5 ((za0 rs v).map za4.d)),.d (.sl 4 ((za5 rs v).map eW))]),(2,.box (zi ou))])
          (fun (z_:(Nat) × (ZI) × (Bool))=>match z_ with | (i,ou,an)=>(za0 rs v).length - i) (0,out,any) ?_ h (by kernel_rfl) (by kernel_rfl) ?_
      · exact ⟨bF _,hI4,fun hp=>⟨rfl,by rw [hI3,hlj,bV,zdq,decide_eq_true hp],rfl⟩,fun hp=>⟨by rw [hI2,hlj,bV,cF.1 hp];rfl,by rw [hI3,hlj,bV,cF.1 hp];rfl⟩⟩
      · clear h;rintro ⟨i,ou,an⟩ a w hI h
        change St _ (F.of [(2,.t (.c (.d (.sl 2 (vs.map ziD))))),(6,vp 0 0),(8,vp 1 0),(9,vp 2 0),(10,vb an),(42,.t (.c (.d (.sl 5 ((za0 rs v).map za4.d))))),(43,vI ((za0 rs v).length:Int)),(44,vN i)] [(0,.box [.d (.raw (.bool false)),.d (nsl [])]),(1,.box [.d (.sl 5 ((za1 rs v).map za4.d)),.d (.sl 5 ((za0 rs v).map za4.d)),.d (.sl 4 ((za5 rs v).map eW))]),(2,.box (zi ou))]) a w at h
        obtain ⟨hJ1,hJ2,hJ3,hJ4⟩:=hI
        have lou:Lb ou.abs:=by
          by_cases hp:0<(za1 rs v).length
          · rw [(hJ3 hp).1];exact lout
          · rw [(hJ4 (by omega)).1];exact eP _
        refine Jq 5 [] [(2,.t (.c (.d (.sl 2 (vs.map ziD))))),(6,vp 0 0),(8,vp 1 0),(9,vp 2 0),(10,vb an),(42,.t (.c (.d (.sl 5 ((za0 rs v).map za4.d))))),(43,vI ((za0 rs v).length:Int)),(44,vN i),(45,vb (decide ((i:Int)<((za0 rs v).length:Int))))] [(0,.box [.d (.raw (.bool false)),.d (nsl [])]),(1,.box [.d (.sl 5 ((za1 rs v).map za4.d)),.d (.sl 5 ((za0 rs v).map za4.d)),.d (.sl 4 ((za5 rs v).map eW))]),(2,.box (zi ou))] h fun a w h=>qW (zh5 (decide ((i:Int)<((za0 rs v).length:Int))) h rfl (fun hc=>?_) (fun hc=>?_))
        · have hc7:=hc;clear hc
          have hc7':=dT hc7
          refine qU (za3 (qW (qZ ?_)))
          obtain ⟨x5,hx5⟩:∃ z_:za4,(za0 rs v)[i]?=some z_:=⟨_,bN (by first | omega | (simp at *;omega))⟩
          refine Jq 5 [(0,.gen _ _ _ fun _ _ _ _=>Op.idxD (d:=46) (t:=42) (k:=.i64) hb_1 (zab hx5 (f:=za4.d)) (eN 44 _))] [(2,.t (.c (.d (.sl 2 (vs.map ziD))))),(6,vp 0 0),(8,vp 1 0),(9,vp 2 0),(10,vb an),(15,vp 5 0),(42,.t (.c (.d (.sl 5 ((za0 rs v).map za4.d))))),(43,vI ((za0 rs v).length:Int)),(44,vN i)] [(0,.box [.d (.raw (.bool false)),.d (nsl [])]),(1,.box [.d (.sl 5 ((za1 rs v).map za4.d)),.d (.sl 5 ((za0 rs v).map za4.d)),.d (.sl 4 ((za5 rs v).map eW))]),(2,.box (zi ou)),(5,.box (zi x5.times++[.d (.sl 3 (x5.rest.parts.map eV))]++zi x5.rest.k))] h fun a w h=>?_
          obtain ⟨r6,er6,vr6,or6,lr6⟩:=mkZ (v:=zc3 x5 vs) (m:=19) (most_len (zdd hrs v x5 (lM hx5)) hv (high_ne x5 (lM hx5)))
          refine Jq 6 [(2,.call (eK (SMostV x5 vs (zdd hrs v x5 (lM hx5)) hv (high_ne x5 (lM hx5))) (congrArg vz er6.symm)))] [(2,.t (.c (.d (.sl 2 (vs.map ziD))))),(6,vp 0 0),(8,vp 1 0),(9,vp 2 0),(10,vb an),(16,vp 6 0),(42,.t (.c (.d (.sl 5 ((za0 rs v).map za4.d))))),(43,vI ((za0 rs v).length:Int)),(44,vN i)] [(0,.box [.d (.raw (.bool false)),.d (nsl [])]),(1,.box [.d (.sl 5 ((za1 rs v).map za4.d)),.d (.sl 5 ((za0 rs v).map za4.d)),.d (.sl 4 ((za5 rs v).map eW))]),(2,.box (zi ou)),(6,.box (zi r6))] h fun a w h=>qZ ?_
          rcases bK (decide (((za1 rs v).length:Int)>0)) with hc | hc
          · have hc8:=hc;clear hc
            have hc8':=dT hc8
            refine Jq 7 [(2,.len (c:=(.d (.sl 5 ((za1 rs v).map za4.d)))) (n:=(za1 rs v).length) (zac _ _ _)),(3,.cmp (op:=.gtr) (m:=((za1 rs v).length:Int)) (n:=0) (b:=true) .i64 hc8),(7,.call (SCmp r6 ou or6 lou (by omega) (by omega)))] [(2,.t (.c (.d (.sl 2 (vs.map ziD))))),(6,vp 0 0),(8,vp 1 0),(9,vp 2 0),(10,vb an),(16,vp 6 0),(42,.t (.c (.d (.sl 5 ((za0 rs v).map za4.d))))),(43,vI ((za0 rs v).length:Int)),(44,vN i),(51,vb (decide (zcp r6.val ou.val<0)))] [(0,.box [.d (.raw (.bool false)),.d (nsl [])]),(1,.box [.d (.sl 5 ((za1 rs v).map za4.d)),.d (.sl 5 ((za0 rs v).map za4.d)),.d (.sl 4 ((za5 rs v).map eW))]),(2,.box (zi ou)),(6,.box (zi r6))] h fun a w h=>zh5 (decide (zcp r6.val ou.val<0)) h rfl (fun hc=>?_) (fun hc=>?_)
            · have hc9:=hc;clear hc
              have hc9':=dT hc9
              refine Jq 7 [] [(2,.t (.c (.d (.sl 2 (vs.map ziD))))),(6,vp 0 0),(7,vb false),(8,vp 1 0),(9,vp 2 0),(10,vb an),(42,.t (.c (.d (.sl 5 ((za0 rs v).map za4.d))))),(43,vI ((za0 rs v).length:Int)),(44,vN i)] [(0,.box [.d (.raw (.bool false)),.d (nsl [])]),(1,.box [.d (.sl 5 ((za1 rs v).map za4.d)),.d (.sl 5 ((za0 rs v).map za4.d)),.d (.sl 4 ((za5 rs v).map eW))]),(2,.box (zi ou))] h fun a w h=>qV (zan (zan (zae (zae (zan (zae (zha [.agg [.d (.raw (.bool false)),.d (nsl [])],.c (.d (.raw (.bool false)))] h Exit.ret (.inl rfl)  rfl ⟨RV.agg _ 0 0 _ _ _ _ zct rfl rfl rfl rfl,vT9,trivial⟩ ?_)))))))
              have hp:0<(za1 rs v).length:=by have:=dT hc8;omega
              obtain ⟨k1,k2,k3⟩:=hJ3 hp
              have hbo:zcu gtB (zbc · vs) (za1 rs v)=some out.val:=by
                cases hb:zcu gtB (zbc · vs) (za1 rs v) with
                | none=>have:=zdq gtB (zbc · vs) (za1 rs v);rw [hb,decide_eq_true hp] at this;cases this
                | some m=>rw [hI2,hlj,bV,hb,eS];rfl
              have hz:(ze0 (za1 rs v) (za0 rs v) vs)=(eR 0,false):=by
                unfold ze0;rw [hbo];simp only;rw [if_pos (dM.2 ⟨x5,lM hx5,by rw [<- vr6,<- k1];exact hc9⟩)]
              rw [hz];try rfl
            · have hc10:=hc;clear hc
              have hc10':=dF hc10
              refine Jq 7 [(2,.len (c:=(.d (.sl 5 ((za1 rs v).map za4.d)))) (n:=(za1 rs v).length) (zac _ _ _)),(3,.cmp (op:=.eql) (m:=((za1 rs v).length:Int)) (n:=0) (b:=false) .i64 (beq_eq_false_iff_ne.2 (by have:=dT hc8;omega)))] [(2,.t (.c (.d (.sl 2 (vs.map ziD))))),(6,vp 0 0),(8,vp 1 0),(9,vp 2 0),(10,vb an),(16,vp 6 0),(42,.t (.c (.d (.sl 5 ((za0 rs v).map za4.d))))),(43,vI ((za0 rs v).length:Int)),(44,vN i),(63,vb false)] [(0,.box [.d (.raw (.bool false)),.d (nsl [])]),(1,.box [.d (.sl 5 ((za1 rs v).map za4.d)),.d (.sl 5 ((za0 rs v).map za4.d)),.d (.sl 4 ((za5 rs v).map eW))]),(2,.box (zi ou)),(6,.box (zi r6))] h fun a w h=>zh5 false h rfl (fun hc=>?_) (fun hc=>?_)
              · cases hc
              · clear hc
                refine qU (za6 (za6 (za3 (Jn 7 [(0,.add .i64 (m:=(i:Int)) (n:=1) i6)] [(2,.t (.c (.d (.sl 2 (vs.map ziD))))),(6,vp 0 0),(8,vp 1 0),(9,vp 2 0),(10,vb an),(42,.t (.c (.d (.sl 5 ((za0 rs v).map za4.d))))),(43,vI ((za0 rs v).length:Int)),(44,vI ((i:Int)+1))] [(0,.box [.d (.raw (.bool false)),.d (nsl [])]),(1,.box [.d (.sl 5 ((za1 rs v).map za4.d)),.d (.sl 5 ((za0 rs v).map za4.d)),.d (.sl 4 ((za5 rs v).map eW))]),(2,.box (zi ou))] h fun a w h=>za3 (za9 (x:=(i,ou,an)) (y:=(i+1,ou,an)) h ?_ ?_)))))
                · have:=zad hx5
                  have hp:0<(za1 rs v).length:=by have:=dT hc8;omega
                  obtain ⟨k1,k2,k3⟩:=hJ3 hp
                  exact ⟨by omega,hJ2,fun _=>⟨k1,k2,by rw [bX,hx5,List.any_append,k3];show (ltB (zc3 x5 vs) out.val || false)=false;rw [Bool.or_false,<- vr6,<- k1];exact hc10⟩,fun h0=>absurd hp (by omega)⟩
                · show (za0 rs v).length - (i+1)<(za0 rs v).length - i
                  have:=zad hx5;omega
          · have hc11:=hc;clear hc
            have hc11':=dF hc11
            refine Jq 7 [(2,.len (c:=(.d (.sl 5 ((za1 rs v).map za4.d)))) (n:=(za1 rs v).length) (zac _ _ _)),(3,.cmp (op:=.gtr) (m:=((za1 rs v).length:Int)) (n:=0) (b:=false) .i64 hc11)] [(2,.t (.c (.d (.sl 2 (vs.map ziD))))),(6,vp 0 0),(8,vp 1 0),(9,vp 2 0),(10,vb an),(16,vp 6 0),(42,.t (.c (.d (.sl 5 ((za0 rs v).map za4.d))))),(43,vI ((za0 rs v).length:Int)),(44,vN i),(51,vb false)] [(0,.box [.d (.raw (.bool false)),.d (nsl [])]),(1,.box [.d (.sl 5 ((za1 rs v).map za4.d)),.d (.sl 5 ((za0 rs v).map za4.d)),.d (.sl 4 ((za5 rs v).map eW))]),(2,.box (zi ou)),(6,.box (zi r6))] h fun a w h=>zh5 false h rfl (fun hc=>?_) (fun hc=>?_)
            · cases hc
            · clear hc
              rcases bK an with hc | hc
              · have hc12:=hc;clear hc
                rw [hc12] at h
                refine Jq 7 [(2,.len (c:=(.d (.sl 5 ((za1 rs v).map za4.d)))) (n:=(za1 rs v).length) (zac _ _ _)),(3,.cmp (op:=.eql) (m:=((za1 rs v).length:Int)) (n:=0) (b:=true) .i64 (beq_iff_eq.2 (by have:=dF hc11;omega))),(10,.call (SCmp r6 ou or6 lou (by omega) (by omega)))] [(2,.t (.c (.d (.sl 2 (vs.map ziD))))),(6,vp 0 0),(8,vp 1 0),(9,vp 2 0),(10,vb true),(16,vp 6 0),(42,.t (.c (.d (.sl 5 ((za0 rs v).map za4.d))))),(43,vI ((za0 rs v).length:Int)),(44,vN i),(63,vb (decide (zcp r6.val ou.val<0)))] [(0,.box [.d (.raw (.bool false)),.d (nsl [])]),(1,.box [.d (.sl 5 ((za1 rs v).map za4.d)),.d (.sl 5 ((za0 rs v).map za4.d)),.d (.sl 4 ((za5 rs v).map eW))]),(2,.box (zi ou)),(6,.box (zi r6))] h fun a w h=>zh5 (decide (zcp r6.val ou.val<0)) h rfl (fun hc=>?_) (fun hc=>?_)
                · have hc13:=hc;clear hc
                  have hc13':=dT hc13
                  refine Jn 7 [] [(2,.t (.c (.d (.sl 2 (vs.map ziD))))),(6,vp 0 0),(8,vp 1 0),(9,vp 2 0),(10,vb true),(42,.t (.c (.d (.sl 5 ((za0 rs v).map za4.d))))),(43,vI ((za0 rs v).length:Int)),(44,vN i)] [(0,.box [.d (.raw (.bool false)),.d (nsl [])]),(1,.box [.d (.sl 5 ((za1 rs v).map za4.d)),.d (.sl 5 ((za0 rs v).map za4.d)),.d (.sl 4 ((za5 rs v).map eW))]),(2,.box (zi r6))] h fun a w h=>za6 (za6 (za3 (Jn 7 [(0,.add .i64 (m:=(i:Int)) (n:=1) i6)] [(2,.t (.c (.d (.sl 2 (vs.map ziD))))),(6,vp 0 0),(8,vp 1 0),(9,vp 2 0),(10,vb true),(42,.t (.c (.d (.sl 5 ((za0 rs v).map za4.d))))),(43,vI ((za0 rs v).length:Int)),(44,vI ((i:Int)+1))] [(0,.box [.d (.raw (.bool false)),.d (nsl [])]),(1,.box [.d (.sl 5 ((za1 rs v).map za4.d)),.d (.sl 5 ((za0 rs v).map za4.d)),.d (.sl 4 ((za5 rs v).map eW))]),(2,.box (zi r6))] h fun a w h=>za3 (za9 (x:=(i,ou,an)) (y:=(i+1,r6,true)) h ?_ ?_))))
                  · have:=zad hx5
                    have hp:(za1 rs v).length=0:=by have:=dF hc11;omega
                    obtain ⟨k1,k2⟩:=hJ4 hp
                    have hbe:=(best_more hx5 (by rw [<- k2,hc12]) (by have hq:=hc13;rw [vr6,k1,eS] at hq;exact hq):zcu ltB (zc3 · vs) ((za0 rs v).take (i+1))=_)
                    exact ⟨by omega,lr6,fun h0=>absurd h0 (by omega),fun _=>⟨by rw [hbe,er6];rfl,by rw [hbe];rfl⟩⟩
                  · show (za0 rs v).length - (i+1)<(za0 rs v).length - i
                    have:=zad hx5;omega
                · have hc14:=hc;clear hc
                  have hc14':=dF hc14
                  refine qU (za6 (za6 (za3 (Jn 7 [(0,.add .i64 (m:=(i:Int)) (n:=1) i6)] [(2,.t (.c (.d (.sl 2 (vs.map ziD))))),(6,vp 0 0),(8,vp 1 0),(9,vp 2 0),(10,vb true),(42,.t (.c (.d (.sl 5 ((za0 rs v).map za4.d))))),(43,vI ((za0 rs v).length:Int)),(44,vI ((i:Int)+1))] [(0,.box [.d (.raw (.bool false)),.d (nsl [])]),(1,.box [.d (.sl 5 ((za1 rs v).map za4.d)),.d (.sl 5 ((za0 rs v).map za4.d)),.d (.sl 4 ((za5 rs v).map eW))]),(2,.box (zi ou))] h fun a w h=>za3 (za9 (x:=(i,ou,an)) (y:=(i+1,ou,true)) h ?_ ?_)))))
                  · have:=zad hx5
                    have hp:(za1 rs v).length=0:=by have:=dF hc11;omega
                    obtain ⟨k1,k2⟩:=hJ4 hp
                    have hbe:=(best_keep hx5 (by rw [<- k2,hc12]) (by have hq:=hc14;rw [vr6,k1,eS] at hq;exact hq):zcu ltB (zc3 · vs) ((za0 rs v).take (i+1))=_)
                    exact ⟨by omega,hJ2,fun h0=>absurd h0 (by omega),fun _=>⟨by rw [hbe];exact k1,by rw [hbe,<- k2,hc12]⟩⟩
                  · show (za0 rs v).length - (i+1)<(za0 rs v).length - i
                    have:=zad hx5;omega
              · have hc15:=hc;clear hc
                rw [hc15] at h
                refine Jq 7 [(2,.len (c:=(.d (.sl 5 ((za1 rs v).map za4.d)))) (n:=(za1 rs v).length) (zac _ _ _)),(3,.cmp (op:=.eql) (m:=((za1 rs v).length:Int)) (n:=0) (b:=true) .i64 (beq_iff_eq.2 (by have:=dF hc11;omega)))] [(2,.t (.c (.d (.sl 2 (vs.map ziD))))),(6,vp 0 0),(8,vp 1 0),(9,vp 2 0),(10,vb false),(16,vp 6 0),(42,.t (.c (.d (.sl 5 ((za0 rs v).map za4.d))))),(43,vI ((za0 rs v).length:Int)),(44,vN i),(63,vb true)] [(0,.box [.d (.raw (.bool false)),.d (nsl [])]),(1,.box [.d (.sl 5 ((za1 rs v).map za4.d)),.d (.sl 5 ((za0 rs v).map za4.d)),.d (.sl 4 ((za5 rs v).map eW))]),(2,.box (zi ou)),(6,.box (zi r6))] h fun a w h=>zh5 true h rfl (fun hc=>?_) (fun hc=>?_)
                · clear hc
                  refine Jn 7 [] [(2,.t (.c (.d (.sl 2 (vs.map ziD))))),(6,vp 0 0),(8,vp 1 0),(9,vp 2 0),(10,vb true),(42,.t (.c (.d (.sl 5 ((za0 rs v).map za4.d))))),(43,vI ((za0 rs v).length:Int)),(44,vN i)] [(0,.box [.d (.raw (.bool false)),.d (nsl [])]),(1,.box [.d (.sl 5 ((za1 rs v).map za4.d)),.d (.sl 5 ((za0 rs v).map za4.d)),.d (.sl 4 ((za5 rs v).map eW))]),(2,.box (zi r6))] h fun a w h=>za6 (za6 (za3 (Jn 7 [(0,.add .i64 (m:=(i:Int)) (n:=1) i6)] [(2,.t (.c (.d (.sl 2 (vs.map ziD))))),(6,vp 0 0),(8,vp 1 0),(9,vp 2 0),(10,vb true),(42,.t (.c (.d (.sl 5 ((za0 rs v).map za4.d))))),(43,vI ((za0 rs v).length:Int)),(44,vI ((i:Int)+1))] [(0,.box [.d (.raw (.bool false)),.d (nsl [])]),(1,.box [.d (.sl 5 ((za1 rs v).map za4.d)),.d (.sl 5 ((za0 rs v).map za4.d)),.d (.sl 4 ((za5 rs v).map eW))]),(2,.box (zi r6))] h fun a w h=>za3 (za9 (x:=(i,ou,an)) (y:=(i+1,r6,true)) h ?_ ?_))))
                  · have:=zad hx5
                    have hp:(za1 rs v).length=0:=by have:=dF hc11;omega
                    obtain ⟨k1,k2⟩:=hJ4 hp
                    have hbe:=(best_first hx5 (by rw [<- k2,hc15]):zcu ltB (zc3 · vs) ((za0 rs v).take (i+1))=_)
                    exact ⟨by omega,lr6,fun h0=>absurd h0 (by omega),fun _=>⟨by rw [hbe,er6];rfl,by rw [hbe];rfl⟩⟩
                  · show (za0 rs v).length - (i+1)<(za0 rs v).length - i
                    have:=zad hx5;omega
                · cases hc
        · have hc16:=hc;clear hc
          have hc16':=dF hc16
          refine exA (Jq 7 [] [(6,vp 0 0),(7,vb true)] [(0,.box (zi ou))] h fun a w h=>qV (zha [.agg (zi ou),.c (.d (.raw (.bool true)))] h Exit.ret (.inl rfl)  rfl ⟨RV.agg _ 0 0 _ _ _ _ zct rfl rfl rfl rfl,vT9,trivial⟩ ?_))
          have hij:i=(za0 rs v).length:=by omega
          by_cases hp:0<(za1 rs v).length
          · obtain ⟨k1,k2,k3⟩:=hJ3 hp
            have hbo:zcu gtB (zbc · vs) (za1 rs v)=some out.val:=by
              cases hb:zcu gtB (zbc · vs) (za1 rs v) with
              | none=>have:=zdq gtB (zbc · vs) (za1 rs v);rw [hb,decide_eq_true hp] at this;cases this
              | some m=>rw [hI2,hlj,bV,hb,eS];rfl
            have hz:(ze0 (za1 rs v) (za0 rs v) vs)=(ou,true):=by
              unfold ze0;rw [hbo];simp only;rw [hij,bV] at k3;rw [if_neg (by rw [k3];exact Bool.noConfusion),k1];rw [show eR out.val=out from by rw [hI2,eS]]
            rw [hz];try rfl
          · obtain ⟨k1,k2⟩:=hJ4 (by omega)
            have hz:(ze0 (za1 rs v) (za0 rs v) vs)=(ou,true):=by
              unfold ze0;rw [show (za1 rs v)=[] from cF.1 (by omega)];show (eR ((zcu ltB (zc3 · vs) (za0 rs v)).getD 0),true)=_;rw [k1,hij,bV]
            rw [hz];try rfl
theorem zdw {x y:Int}:ltB x y=true ↔ x<y:=by unfold ltB zcp;rw [decide_eq_true_eq];split <;> (try split) <;> omega
theorem gtB_iff {x y:Int}:gtB x y=true ↔ y<x:=by unfold gtB zcp;rw [decide_eq_true_eq];split <;> (try split) <;> omega
theorem any_best (f:za4->Int) (m:Int) (l:List za4):l.any (fun s=>ltB (f s) m)=match zcu ltB f l with | none=>false | some q=>ltB q m:=by
 rw [dN]
 suffices h:∀ l':List za4,(l'.reverse.any (fun s=>ltB (f s) m)=true) ↔ (match zcu ltB f l'.reverse with | none=>false | some q=>ltB q m)=true by
  have:=h l.reverse;rwa [eC] at this
 intro l'
 induction l' with
 | nil=>simp [zcu]
 | cons s l ih =>
  rw [List.reverse_cons,List.any_append,dO,ih,zg0]
  cases hb:zcu ltB f l.reverse with
  | none=>simp
  | some q =>
   simp only [List.any_cons,List.any_nil,Bool.or_false]
   by_cases hc:ltB (f s) q=true
   ·rw [if_pos hc];simp only [zdw] at hc ⊢;omega
   ·rw [if_neg hc];simp only [zdw] at hc ⊢;omega
theorem SFewRsL (rs:List za8) (most L:Int) (hl:rs.length<=9223372036854775807):Fn eJ 7 [] [(vRs rs),vI most,vI L] (vb (zf8 rs most L)) []:=by
 refine fB Tryz.func7 rfl 64 fun w H B a h=>Jq 0 [] [(0,(vRs rs)),(1,vI most),(2,vI L),(6,vb false)] [] h fun a w h=>qW (Jg 0 [(1,.len (zac 4 eW rs))] [1] [(12,vb (decide ((rs.length:Int)>most)))] [] [] h fun a w h=>zaj ((rs.length:Int)>most) h (fun hc1 hc1'=>?_) (fun hc2 hc2'=>?_))
 ·refine Jg 0 [] [12] [] [] [] h fun a w h=>qV (zae (rT (.c (cB false)) h rfl ?_));rw [show zf8 rs most L=false from by unfold zf8;rw [decide_eq_false (by have:=dT hc1;omega)];rfl];try rfl
 refine qU (za3 (qW (Jg 0 [] [12] [(7,vI 0)] [] [] h fun a w h=>qZ ?_)))
 refine zd3 (ι:=(Nat)) (fun j=>j<=rs.length/\(rs.take j).all (fewR L)=true)
   [6] (fun j=>[(7,vN j)])
   [] (fun j=>[])
   (fun j=>rs.length - j) 0 ?_ h ?_
 ·exact ⟨bF _,rfl⟩
 clear h;rintro j a w hI h;obtain ⟨hI1,hI2⟩:=hI;refine qW (Jg 0 [(2,.len (zac 4 eW rs))] [] [(16,vb (decide ((j:Int)<(rs.length:Int))))] [] [] h fun a w h=>zaj ((j:Int)<(rs.length:Int)) h (fun hc3 hc3'=>?_) (fun hc12 hc12'=>?_))
 ·refine qU (za3 (qW (qZ (qW ?_))));obtain ⟨x1,hx1⟩:=gl rs j
  rcases bK (decide ((x1.t.parts.length:Int)>20)) with hc4 | hc5
  ·have hc4':=dT hc4;refine Jg 0 [(2,.g (xD 21 19 kc_3 (zab hx1 (f:=eW)) (eN 20 _))),(6,.len (zac 3 eV x1.t.parts)),(7,.cmp (op:=.gtr) (m:=(x1.t.parts.length:Int)) (n:=20) (b:=true) .i64 hc4)] [16] [(38,vb true)] [] [] h fun a w h=>cS true h (fun _=>?_) nofun
   refine Jg 0 [] [38] [(6,vb false)] [] [] h fun a w h=>qV (zae (zan (zae (zae (zan (zae (rT (.c (cB false)) h rfl ?_)))))));rw [show zf8 rs most L=false from by unfold zf8;rw [ze2 hx1 (show fewR L x1=false from by rw [fewR,decide_eq_false (by have:=dT hc4;omega)];rfl),cM]];try rfl
  have hc5':=dF hc5;refine Jg 0 [(2,.g (xD 21 19 kc_3 (zab hx1 (f:=eW)) (eN 20 _))),(6,.len (zac 3 eV x1.t.parts)),(7,.cmp (op:=.gtr) (m:=(x1.t.parts.length:Int)) (n:=20) (b:=false) .i64 hc5),(11,.g (xD 30 28 kc_3 (zab hx1 (f:=eW)) (eN 29 _))),(16,.len (zec x1.t.k.abs))] [16] [(38,vb (decide ((x1.t.k.abs.length:Int)>L)))] [] [] h fun a w h=>zaj ((x1.t.k.abs.length:Int)>L) h (fun hc6 hc6'=>?_) (fun hc7 hc7'=>?_)
  ·refine Jg 0 [] [38] [(6,vb false)] [] [] h fun a w h=>qV (zae (zan (zae (zae (zan (zae (rT (.c (cB false)) h rfl ?_)))))));rw [show zf8 rs most L=false from by unfold zf8;rw [ze2 hx1 (show fewR L x1=false from by rw [fewR,decide_eq_false (p:=(_:Int)<=L) (by have:=dT hc6;omega),cM];rfl),cM]];try rfl
  refine qU (za3 (Jg 0 [] [38] [(8,vI 0)] [] [] h fun a w h=>qZ ?_));have hjr:=hI1
  refine zd3 (ι:=(Nat)) (fun i=>i<=x1.t.parts.length/\(x1.t.parts.take i).all (fun p=>decide ((p.c.abs.length:Int)<=L))=true)
    [] (fun i=>[(8,vN i)])
    [] (fun i=>[])
    (fun i=>x1.t.parts.length - i) 0 ?_ h ?_
  ·exact ⟨bF _,rfl⟩
  clear h;rintro i a w hI h;obtain ⟨hJ1,hJ2⟩:=hI;refine qW (Jg 0 [(3,.g (xD 42 40 kc_3 (zab hx1 (f:=eW)) (eN 41 _))),(7,.len (zac 3 eV x1.t.parts))] [] [(47,vb (decide ((i:Int)<(x1.t.parts.length:Int))))] [] [] h fun a w h=>zaj ((i:Int)<(x1.t.parts.length:Int)) h (fun hc8 hc8'=>?_) (fun hc11 hc11'=>?_))
  ·refine qU (za3 (qW (qZ ?_)));obtain ⟨x2,hx2⟩:=gl x1.t.parts i;refine Jg 0 [(2,.g (xD 52 50 kc_3 (zab hx1 (f:=eW)) (eN 51 _))),(7,.g (xD 57 55 zbx (zab hx2 (f:=eV)) (eN 56 _))),(11,.len (zec x2.c.abs))] [47] [(63,vb (decide ((x2.c.abs.length:Int)>L)))] [] [] h fun a w h=>zaj ((x2.c.abs.length:Int)>L) h (fun hc9 hc9'=>?_) (fun hc10 hc10'=>?_)
   ·refine Jg 0 [] [63] [(6,vb false)] [] [] h fun a w h=>qV (zan (zae (zae (zan (zan (zae (zae (zan (zae (rT (.c (cB false)) h rfl ?_))))))))));rw [show zf8 rs most L=false from by unfold zf8;rw [ze2 hx1 (show fewR L x1=false from by rw [fewR,ze2 hx2 (decide_eq_false (by have:=dT hc9;omega)),cM]),cM]];try rfl
   refine qU (za6 (za3 (Jh 0 [(1,.j1 i)] [63] [(8,vI ((i:Int)+1))] [] [] h fun a w h=>za3 (za9 (x:=i) (y:=i+1) h ?_ ?_))))
   ·exact ⟨by have:=zad hx2;omega,zg2 hx2 hJ2 (decide_eq_true (by have:=dF hc10;omega))⟩
   show x1.t.parts.length - (i+1)<x1.t.parts.length - i;have:=zad hx2;omega
  refine wp_exit (zbo (zbo (zap (za6 (za3 (Jh 0 [(1,.j1 j)] [8,47] [(7,vI ((j:Int)+1))] [] [] h fun a w h=>za3 (za9 (x:=j) (y:=j+1) h ?_ ?_)))))))
  ·exact ⟨by have:=zad hx1;omega,zg2 hx1 hI2 (by rw [fewR,decide_eq_true (by have:=dF hc5;omega),decide_eq_true (by have:=dF hc7;omega),zgo (dF hc11) hJ2];rfl)⟩
  show rs.length - (j+1)<rs.length - j;have:=zad hx1;omega
 refine exA (Jq 0 [] [(6,vb true)] [] h fun a w h=>qV (rT (.c (cB true)) h rfl ?_));rw [show zf8 rs most L=true from by unfold zf8;rw [decide_eq_true (by have:=dF hc2;omega),zgo (dF hc12) hI2];rfl];try rfl
def fewVs (vs:List ZI) (most L:Int):Bool:=decide ((vs.length:Int)<=most) && vs.all fun z=>decide ((z.abs.length:Int)<=L)
theorem SFewVs (vs:List ZI) (most L:Int) (hl:vs.length<=9223372036854775807):Fn eJ 8 [] [(vZs vs),vI most,vI L] (vb (fewVs vs most L)) []:=by
 refine fB Tryz.func8 rfl 26 fun w H B a h=>Jq 0 [] [(0,(vZs vs)),(1,vI most),(2,vI L),(6,vb false)] [] h fun a w h=>qW (Jg 0 [(1,.len (zac 2 ziD vs))] [1] [(11,vb (decide ((vs.length:Int)>most)))] [] [] h fun a w h=>zaj ((vs.length:Int)>most) h (fun hc1 hc1'=>?_) (fun hc2 hc2'=>?_))
 ·refine Jg 0 [] [11] [] [] [] h fun a w h=>qV (zae (rT (.c (cB false)) h rfl ?_));have hz:fewVs vs most L=false:=by unfold fewVs;rw [decide_eq_false (by have:=dT hc1;omega)];rfl
  rw [hz];try rfl
 refine qU (za3 (qW (Jg 0 [] [11] [(7,vI 0)] [] [] h fun a w h=>qZ ?_)))
 refine zd3 (ι:=(Nat)) (fun j=>j<=vs.length/\(vs.take j).all (fun z=>decide ((z.abs.length:Int)<=L))=true)
   [6] (fun j=>[(7,vN j)])
   [] (fun j=>[])
   (fun j=>vs.length - j) 0 ?_ h ?_
 ·exact ⟨bF _,rfl⟩
 clear h;rintro j a w hI h;obtain ⟨hI1,hI2⟩:=hI;refine qW (Jg 0 [(2,.len (zac 2 ziD vs))] [] [(15,vb (decide ((j:Int)<(vs.length:Int))))] [] [] h fun a w h=>zaj ((j:Int)<(vs.length:Int)) h (fun hc3 hc3'=>?_) (fun hc6 hc6'=>?_))
 ·refine qU (za3 (qW (qZ ?_)));obtain ⟨x1,hx1⟩:=gl vs j;refine Jg 0 [(2,.g (xD 20 18 tt_6 (zab hx1 (f:=ziD)) (eN 19 _))),(5,.len (zec x1.abs))] [15] [(25,vb (decide ((x1.abs.length:Int)>L)))] [] [] h fun a w h=>zaj ((x1.abs.length:Int)>L) h (fun hc4 hc4'=>?_) (fun hc5 hc5'=>?_)
  ·refine Jg 0 [] [25] [(6,vb false)] [] [] h fun a w h=>qV (zan (zae (zae (zan (zae (rT (.c (cB false)) h rfl ?_))))));have hz:fewVs vs most L=false:=by unfold fewVs;rw [ze2 hx1 (show (fun z=>decide ((z.abs.length:Int)<=L)) x1=false from decide_eq_false (by have:=dT hc4;omega)),cM]
   rw [hz];try rfl
  refine qU (za6 (za3 (Jh 0 [(1,.j1 j)] [25] [(7,vI ((j:Int)+1))] [] [] h fun a w h=>za3 (za9 (x:=j) (y:=j+1) h ?_ ?_))))
  ·exact ⟨by have:=zad hx1;omega,zg2 hx1 hI2 (show (fun z=>decide ((z.abs.length:Int)<=L)) x1=true from decide_eq_true (by have:=dF hc5;omega))⟩
  show vs.length - (j+1)<vs.length - j;have:=zad hx1;omega
 refine exA (Jq 0 [] [(6,vb true)] [] h fun a w h=>qV (rT (.c (cB true)) h rfl ?_));have hz:fewVs vs most L=true:=by unfold fewVs;rw [decide_eq_true (by have:=dF hc2;omega),zgo (dF hc6) hI2];rfl
 rw [hz];try rfl
section
open Go.RowKit Go.Sort
theorem ints_cells:∀ (xs:List Int) (us:List Value),zar (DR H) (xs.map zc4).flatten us->us=xs.map (Value.int .i64)
 | [],[],_=>rfl
 | [],_ :: _,h=>h.elim
 | _ :: _,[],h=>h.elim
 | x :: xs,u :: us,h=>by
  have h1:DR H (.raw (.int .i64 x)) u/\zar (DR H) (xs.map zc4).flatten us:=h
  have e:u = .int .i64 x:=VR.rawI (H:=H) (B:=fun _=>none) h1.1
  rw [e,ints_cells xs us h1.2];rfl
theorem ints_all2:∀ xs:List Int,zar (DR H) (xs.map zc4).flatten (xs.map (Value.int .i64))
 | []=>trivial
 | _ :: xs=>⟨DR.raw _ rfl,ints_all2 xs⟩
theorem put_cells {arr:List Value} (hl:ys.length<=arr.length):putCells (Value.int .i64) 0 ys.toArray ⟨arr⟩=⟨ys.map (Value.int .i64)++arr.drop ys.length⟩:=by
 apply Array.ext_getElem?
 intro k
 unfold putCells
 rw [Array.getElem?_mapIdx,show (⟨arr⟩:Array Value)=arr.toArray from rfl,show (⟨ys.map (Value.int .i64)++arr.drop ys.length⟩:Array Value)=(ys.map (Value.int .i64)++arr.drop ys.length).toArray from rfl,dP,dP]
 by_cases hk:k<ys.length
 ·rw [dQ (by rw [bE];exact hk),List.getElem?_map,bN hk,bN (by omega)]
  simp only [Option.map_some]
  rw [if_pos ⟨bF _,by rw [cP];exact hk⟩]
  simp [hk]
 ·rw [eE (by rw [bE];omega),bE,List.getElem?_drop,show ys.length+(k - ys.length)=k by omega]
  cases hx:arr[k]? with
  | none=>rfl
  | some x =>
   simp only [Option.map_some]
   rw [if_neg (fun h=>hk (by have:=h.2;rw [cP] at this;exact this))]
theorem block_put {w:World} {arr:List Value} {ty:TypeId} (hb:w.heap[b]?=some (.cells ⟨arr⟩ ty (0,0))) (hl:ys.length<=arr.length) :
  (grow (putRow (Value.int .i64) (Go.Sort.ahead w n) b 0 ys.toArray) os).heap[b]?=some (.cells ⟨ys.map (Value.int .i64)++arr.drop ys.length⟩ ty (0,0)):=by
 have hlt:b<w.heap.size:=(dR.1 hb).1
 rw [heap_grow_old _ _ (by rw [size_putRow];exact hlt)]
 unfold putRow mapBlock
 rw [eF]
 show (if b=b then Option.map _ w.heap[b]? else _)=_
 rw [if_pos rfl,hb]
 show some (Obj.cells (putCells (Value.int .i64) 0 ys.toArray ⟨arr⟩) ty (0,0))=_
 rw [put_cells hl]
theorem block_keep {w:World} (hk:k<w.heap.size) (hne:k≠b):(grow (putRow (Value.int .i64) (Go.Sort.ahead w n) b 0 ys.toArray) os).heap[k]?=w.heap[k]?:=by
 rw [heap_grow_old _ _ (by rw [size_putRow];exact hk)]
 unfold putRow mapBlock
 rw [eF]
 show (if b=k then _ else w.heap[k]?)=_
 rw [if_neg (Ne.symm hne)]
theorem put_post {w:World} {v:Value} {c:Nat} (pre:Pre [(0,.row 3 1 (xs.map zc4))] args w H B vals) (hB:B 0=some (b,c)) (hl:ys.length=xs.length) (hv:VR H B res v) :
  Post [(0,.row 3 1 (xs.map zc4))] w H B res [(0,.row 3 1 (ys.map zc4))] v (grow (putRow (Value.int .i64) (Go.Sort.ahead w n) b 0 ys.toArray) os) H B:=by
 have hloc:=pre.loc _ (bG.2 rfl)
 simp only [LR,hB] at hloc
 obtain ⟨arr,g1,g2,g3,g4,g5,g6⟩:=hloc
 rw [bE] at g3
 have hpr:=pre.priv _ (bG.2 rfl) b c hB
 have hla:ys.length<=arr.length:=by omega
 refine ⟨Le.refl _,fun _ _=>rfl,fun k o hk=>?_,fun p hp=>?_,fun p hp b2 c2 h2=>?_,fun p hp q hq _ _ _ _ _=>?_,fun _ _=>rfl,hv,⟨rfl,rfl,rfl,by rw [size_grow,size_putRow];show w.heap.size<=w.heap.size+_;omega,fun k hk hm=>?_⟩⟩
 ·have h1:=pre.sat k o hk
  have hne:k≠b:=fun e=>by rw [e,hpr.2] at hk;cases hk
  rw [block_keep (dR.1 h1).1 hne];exact h1
 ·rw [bG.1 hp]
  simp only [LR,hB]
  refine ⟨_,block_put g1 hla,?_,by rw [bE];omega,g4,fun r hr=>?_,?_⟩
  ·rw [bI,bE,cQ];omega
  ·obtain ⟨x,_,rfl⟩:=cN.1 hr;rfl
  ·rw [bE,Nat.mul_one,List.take_append_of_le_length (by rw [bE];omega),bL (by rw [bE];omega)]
   exact ints_all2 ys
 ·rw [bG.1 hp] at h2
  have h2:B 0=some (b2,c2):=h2
  rw [hB] at h2
  injection h2 with h2
  obtain ⟨rfl,rfl⟩:=Prod.mk.injEq .. ▸ h2
  exact ⟨by rw [size_grow,size_putRow];show b<w.heap.size+_;omega,hpr.2,.inl ⟨_,bG.2 rfl,c,hB⟩⟩
 ·rw [bG.1 hp,bG.1 hq]
 ·have hne:k≠b:=fun e=>hm ⟨_,bG.2 rfl,c,by rw [e];exact hB⟩
  exact block_keep hk hne
theorem row_holds {w:World} {c:Nat} (hloc:LR H B w 0 (.row 3 1 (xs.map zc4))) (hB:B 0=some (b,c)):Holds (Value.int .i64) w b 0 xs.toArray/\xs.length<=c/\c<=maxLen:=by
 simp only [LR,hB] at hloc
 obtain ⟨arr,g1,g2,g3,g4,g5,g6⟩:=hloc
 rw [bE] at g3 g6
 rw [Nat.mul_one] at g6
 have e:=ints_cells xs _ g6
 refine ⟨fun j hj=>?_,g3,g4⟩
 have hj':j<xs.length:=by simpa using hj
 constructor
 ·simp only [World.cell?, g1,cP]
  rw [if_neg (by decide),show (⟨arr⟩:Array Value)=arr.toArray from rfl,dP]
  have h2:(arr.take xs.length)[j]?=arr[j]?:=List.getElem?_take_of_lt hj'
  rw [<- h2,e,List.getElem?_map,bN hj']
  simp [hj']
 ·simp only [World.frozen?, g1];simp
def zf1 (xs:List Int):List Int:=xs.mergeSort fun x y=>decide (x<=y)
theorem zfi (xs:List Int):(zf1 xs).length=xs.length:=List.length_mergeSort xs
theorem arg1 {x:V} (h:zar (VR H B) [x] vals):∃ v,vals=[v]/\VR H B x v:=by
 match vals,h with
 | [v],h=>exact ⟨v,rfl,h.1⟩
 | [],h=>exact h.elim
 | _ :: _ :: _,h=>exact h.2.elim
theorem none_rows {w:World} (hloc:LR H B w 0 (.row 3 1 (xs.map zc4))) (hB:B 0=none):xs=[]:=by
 simp only [LR,hB] at hloc
 simpa using hloc
theorem same_post {ps:List (Nat × L)} {w:World} {v:Value} (pre:Pre ps args w H B vals) (hv:VR H B res v):Post ps w H B res ps v w H B :=
 ⟨Le.refl _,fun _ _=>rfl,pre.sat,pre.loc,fun p hp b c h=>⟨(pre.priv p hp b c h).1,(pre.priv p hp b c h).2,.inl ⟨p,hp,c,h⟩⟩,pre.inj,fun _ _=>rfl,hv,Ext.refl _ _⟩
theorem SSortI (xs:List Int) (hl:xs.length<=2199023255552):Fn eJ 21 [(0,.row 3 1 (xs.map zc4))] [vO 0 xs.length] (.tup []) [(0,.row 3 1 ((zf1 xs).map zc4))]:=by
 intro w H B vals pre
 obtain ⟨v,rfl,hv⟩:=arg1 pre.arg
 have hloc:=pre.loc _ (bG.2 rfl)
 have hv:CR H B (.own 0 xs.length) v:=hv
 cases hB:B 0 with
 | none =>
  have hx:=none_rows hloc hB
  subst hx
  simp only [CR,hB] at hv
  obtain ⟨_,ao,rfl⟩:=hv
  refine (Tryz.slices_Sort_int_none ao 0 w).mono ?_
  rintro e w' ⟨rfl,rfl⟩
  rw [show zf1 []=[] by unfold zf1;simp]
  exact ⟨_,H,B,rfl,same_post pre (show VR H B (.tup []) (.tuple #[]) from ⟨[],rfl,trivial⟩)⟩
 | some p =>
  obtain ⟨b,c⟩:=p
  simp only [CR,hB] at hv
  subst hv
  obtain ⟨h1,h2,h3⟩:=row_holds hloc hB
  have hpr:=pre.priv _ (bG.2 rfl) b c hB
  refine (Tryz.slices_Sort_int b 0 c xs w h1 hpr.1 (by omega)).mono ?_
  rintro e w' ⟨rfl,n,os,rfl⟩
  exact ⟨_,H,B,rfl,put_post pre hB (zfi xs) (show VR H B (.tup []) (.tuple #[]) from ⟨[],rfl,trivial⟩)⟩
def comZ (xs:List Int):List Int:=Lib.compact xs
def comR (xs:List Int):List Int:=comZ xs++List.replicate (xs.length - (comZ xs).length) 0
theorem comR_len (xs:List Int):(comR xs).length=xs.length:=by
 have:=Lib.compact_length_le xs
 unfold comR comZ;rw [bI,dS];omega
theorem SCompactI (xs:List Int) (hl:xs.length<=2199023255552):Fn eJ 22 [(0,.row 3 1 (xs.map zc4))] [vO 0 xs.length] (vO 0 (comZ xs).length) [(0,.row 3 1 ((comR xs).map zc4))]:=by
 intro w H B vals pre
 obtain ⟨v,rfl,hv⟩:=arg1 pre.arg
 have hloc:=pre.loc _ (bG.2 rfl)
 have hv:CR H B (.own 0 xs.length) v:=hv
 cases hB:B 0 with
 | none =>
  have hx:=none_rows hloc hB
  subst hx
  simp only [CR,hB] at hv
  obtain ⟨_,ao,rfl⟩:=hv
  refine (Tryz.slices_Compact_int_empty ao 0 w).mono ?_
  rintro e w' ⟨rfl,rfl⟩
  exact ⟨_,H,B,rfl,same_post pre (show VR H B (vO 0 0) (.slice ao 0 0) from by show CR H B (.own 0 0) (.slice ao 0 0);simp only [CR,hB];exact ⟨trivial,ao,rfl⟩)⟩
 | some p =>
  obtain ⟨b,c⟩:=p
  simp only [CR,hB] at hv
  subst hv
  obtain ⟨h1,h2,h3⟩:=row_holds hloc hB
  refine (Tryz.slices_Compact_int b 0 c xs w h1 (by omega) h2).mono ?_
  rintro e w' ⟨rfl,q,rfl⟩
  have:=put_post (n:=q) (os:=#[]) pre hB (comR_len xs) (show VR H B (vO 0 (comZ xs).length) (.slice (some ⟨b,0,none⟩) (Lib.compact xs).length c) from by show CR H B (.own 0 (comZ xs).length) (.slice (some ⟨b,0,none⟩) (Lib.compact xs).length c);simp only [CR,hB];rfl)
  rw [grow_empty] at this
  exact ⟨_,H,B,rfl,this⟩
end
theorem sri_eq:∀ {xs ys:List Int}, SRi xs->SRi ys->(∀ v,v ∈ xs ↔ v ∈ ys)->xs=ys
 | [],[],_,_,_=>rfl
 | [],y :: _,_,_,h=>absurd ((h y).2 (bW ..)) (List.not_mem_nil)
 | x :: _,[],_,_,h=>absurd ((h x).1 (bW ..)) (List.not_mem_nil)
 | x :: xs,y :: ys,hx,hy,h=>by
  have hx':=dU.1 hx
  have hy':=dU.1 hy
  have e:x=y:=by
   rcases cC.1 ((h x).1 (bW ..)) with e | h1
   ·exact e
   ·rcases cC.1 ((h y).2 (bW ..)) with e | h2
    ·exact e.symm
    ·have:=hy'.1 x h1;have:=hx'.1 y h2;omega
  subst e
  congr 1
  refine sri_eq hx'.2 hy'.2 fun v=>⟨fun hv=>?_,fun hv=>?_⟩
  ·rcases cC.1 ((h v).1 (cH _ hv)) with e | h1
   ·have:=hx'.1 v hv;omega
   ·exact h1
  ·rcases cC.1 ((h v).2 (cH _ hv)) with e | h1
   ·have:=hy'.1 v hv;omega
   ·exact h1
theorem com_spec {zs:List Int} (hs:zs.Pairwise (·<=·)):∀ m,m<=zs.length->SRi (Lib.compactUpTo zs.toArray m)/\∀ v,v ∈ Lib.compactUpTo zs.toArray m ↔ v ∈ zs.take m
  | 0,_=>by
    have e:Lib.compactUpTo zs.toArray 0=[]:=by simp [Lib.compactUpTo]
    rw [e];exact ⟨List.Pairwise.nil,fun v=>by simp⟩
  | m+1,hm=>by
    obtain ⟨h1,h2⟩:=com_spec hs m (by omega)
    have hml:m<zs.length:=by omega
    have hd:(zs.toArray[m]!)=zs[m]:=by simp [hml]
    have ht:zs.take (m+1)=zs.take m++[zs[m]]:=by rw [bX,bN hml];rfl
    rw [Lib.compactUpTo_succ,hd,ht]
    have hle:∀ v ∈ zs.take m,v<=zs[m]:=fun v hv=>by
      obtain ⟨i,hi,e⟩:=dV.1 hv
      rw [bU] at hi
      rw [dW] at e
      rw [<- e]
      exact dX.1 hs i m (by omega) hml (by omega)
    by_cases hk:Lib.keeps zs.toArray m=true
    · rw [if_pos hk]
      refine ⟨List.pairwise_append.2 ⟨h1,eG .., fun x hx y hy=>?_⟩,fun v=>by rw [cJ,cJ,h2]⟩
      rw [bG.1 hy]
      have hx':=(h2 x).1 hx
      have:=hle x hx'
      rcases dA m with rfl | hp
      · simp at hx'
      · have hne:zs[m]≠zs[m - 1]:=by
          unfold Lib.keeps at hk
          have hd2:(zs.toArray[m - 1]!)=zs[m - 1]:=by simp [show m - 1<zs.length by omega]
          rw [hd,hd2] at hk
          intro e
          rw [e] at hk
          simp at hk
          omega
        obtain ⟨i,hi,e⟩:=dV.1 hx'
        rw [bU] at hi
        rw [dW] at e
        have h3:x<=zs[m - 1]:=by
          rw [<- e]
          rcases Nat.lt_or_ge i (m - 1) with h | h
          · exact dX.1 hs i (m - 1) (by omega) (by omega) h
          · have:i=m - 1:=by omega
            subst this;exact Int.le_refl _
        have h4:zs[m - 1]<=zs[m]:=dX.1 hs (m - 1) m (by omega) hml (by omega)
        omega
    · rw [if_neg hk,dH]
      refine ⟨h1,fun v=>?_⟩
      rw [cJ,bG,h2]
      refine ⟨.inl,fun h=>h.elim id fun e=>?_⟩
      have hp:0<m:=by
        rcases dA m with rfl | hp
        · exact absurd (by simp [Lib.keeps]) hk
        · exact hp
      have he:zs[m]=zs[m - 1]:=by
        refine Classical.byContradiction fun hne=>hk ?_
        have hd2:(zs.toArray[m - 1]!)=zs[m - 1]:=by simp [show m - 1<zs.length by omega]
        exact Lib.keeps_pos (by rw [hd,hd2];exact hne)
      rw [e,he]
      exact dV.2 ⟨m - 1,by rw [bU];omega,by rw [dW]⟩
theorem sortZ_ris (xs:List Int):(zf1 xs).Pairwise (·<=·):=by
  have h:=List.pairwise_mergeSort (le:=fun x y:Int=>decide (x<=y)) (fun a b c h1 h2=>by simp only [decide_eq_true_eq] at *;omega) (fun a b=>by simp only [dO,decide_eq_true_eq];omega) xs
  exact h.imp fun h=>of_decide_eq_true h
theorem sortZ_mem (xs:List Int) (v:Int):v ∈ zf1 xs ↔ v ∈ xs:=(List.mergeSort_perm xs _).mem_iff
def ze4 (xs:List Int):List Int:=comZ (zf1 xs)
theorem uniZ_ris (xs:List Int):SRi (ze4 xs):=(com_spec (sortZ_ris xs) _ (bJ _)).1
theorem uniZ_mem (xs:List Int) (v:Int):v ∈ ze4 xs ↔ v ∈ xs:=by
 unfold ze4 comZ Lib.compact
 rw [(com_spec (sortZ_ris xs) _ (bJ _)).2,bV,sortZ_mem]
theorem uniZ_eq (h:SRi ys) (hm:∀ v,v ∈ xs ↔ v ∈ ys):ze4 xs=ys:=sri_eq (uniZ_ris xs) h fun v=>by rw [uniZ_mem,hm]
theorem comR_at {i:Nat} {x:Int} (h:(comZ xs)[i]?=some x):(comR xs)[i]?=some x:=by
 unfold comR;rw [dQ (cX.1 h).1];exact h
theorem SCompactN (xs:List Int) (n:Nat) (hn:n=xs.length) (hl:xs.length<=2199023255552):Fn eJ 22 [(0,.row 3 1 (xs.map zc4))] [vO 0 n] (vO 0 (comZ xs).length) [(0,.row 3 1 ((comR xs).map zc4))]:=by subst hn;exact SCompactI xs hl
end S
set_option maxHeartbeats 1000000 in
theorem From_any (s:Bool) (ao:Option Addr) (n c:Nat) (zs:List Nat) (w:World) (hn:n=zs.length) (h:Rd w ao c zs) (hl:zs.length<=400000) :
  Calls eJ 90 #[.bool s,.slice ao n c] w (GotZ w (iv s zs) zs.length):=by
 subst hn
 cases s
 ·go_enter Tryz.func90,Tryz.ntmps90
  go_wp2_with fail
  refine (TrimM _ _ _ zs _ rfl (h.ext ((Ext.refl _).alloc _)) (by first | omega | (simp;done) | (simp;omega))).mono ?_
  rintro e w1 ⟨r1a,r1c,r1z,r1B,rfl,r1b,r1o,r1k,r1v,r1l,xx⟩
  try simp at r1b
  try simp only [bP,cD] at r1l
  have hE:Ext w w1:=Ext.trans ((Ext.refl _).alloc _) xx
  have hz1:w.heap.size+1<=w1.heap.size:=(by have hq:=Ext.size xx;(try simp at hq);omega)
  have hb0:w.heap.size<w1.heap.size:=(by omega)
  have fq0_0:=Ext.free (p:=⟨w.heap.size,0,none⟩) (v:=.bool false) xx (by first | exact True | go_simp | (repeat (first | assumption | (refine (World.cell?_setCell_far _ _ _ _ (by simp <;> omega)).trans ?_) | (refine (World.cell?_alloc_lt _ _ _ (World.block_lt_of_cell? _ _ (by assumption))).trans ?_) | go_simp))) (by first | assumption | go_simp)
  have q0_0:=Ext.cell (p:=⟨w.heap.size,0,none⟩) (v:=.bool false) xx (by first | exact True | go_simp | (repeat (first | assumption | (refine (World.cell?_setCell_far _ _ _ _ (by simp <;> omega)).trans ?_) | (refine (World.cell?_alloc_lt _ _ _ (World.block_lt_of_cell? _ _ (by assumption))).trans ?_) | go_simp)))
  have fq0_1:=Ext.free (p:=⟨w.heap.size,1,none⟩) (v:=.slice none 0 0) xx (by first | exact True | go_simp | (repeat (first | assumption | (refine (World.cell?_setCell_far _ _ _ _ (by simp <;> omega)).trans ?_) | (refine (World.cell?_alloc_lt _ _ _ (World.block_lt_of_cell? _ _ (by assumption))).trans ?_) | go_simp))) (by first | assumption | go_simp)
  have q0_1:=Ext.cell (p:=⟨w.heap.size,1,none⟩) (v:=.slice none 0 0) xx (by first | exact True | go_simp | (repeat (first | assumption | (refine (World.cell?_setCell_far _ _ _ _ (by simp <;> omega)).trans ?_) | (refine (World.cell?_alloc_lt _ _ _ (World.block_lt_of_cell? _ _ (by assumption))).trans ?_) | go_simp)))
  clear xx
  go_wp2_with fail
  refine bodyPost_ret (v:=.agg #[.bool false,.slice r1a r1z.length r1c]) (by simp [results,Tryz.results90,go_sem,q0_0,q0_1]) rfl ?_
  exact ⟨false,r1a,r1c,r1z,r1B,rfl,(by omega),(Own.st (Own.st r1o (b:=w.heap.size) (by omega) _ _) (b:=w.heap.size) (by omega) _ _),(CanZ.pos r1k.out),(by unfold Hid;rw [zbr,zbr,r1v.out]),(by first | omega | (simp;done) | (simp;omega)),(Ext.st (Ext.st hE (b:=w.heap.size) (by omega) _ _) (b:=w.heap.size) (by omega) _ _)⟩
 ·go_enter Tryz.func90,Tryz.ntmps90
  go_wp2_with fail
  refine (TrimM _ _ _ zs _ rfl (h.ext ((Ext.refl _).alloc _)) (by first | omega | (simp;done) | (simp;omega))).mono ?_
  rintro e w1 ⟨r1a,r1c,r1z,r1B,rfl,r1b,r1o,r1k,r1v,r1l,xx⟩
  try simp at r1b
  try simp only [bP,cD] at r1l
  have hE:Ext w w1:=Ext.trans ((Ext.refl _).alloc _) xx
  have hz1:w.heap.size+1<=w1.heap.size:=(by have hq:=Ext.size xx;(try simp at hq);omega)
  have hb0:w.heap.size<w1.heap.size:=(by omega)
  have fq0_0:=Ext.free (p:=⟨w.heap.size,0,none⟩) (v:=.bool false) xx (by first | exact True | go_simp | (repeat (first | assumption | (refine (World.cell?_setCell_far _ _ _ _ (by simp <;> omega)).trans ?_) | (refine (World.cell?_alloc_lt _ _ _ (World.block_lt_of_cell? _ _ (by assumption))).trans ?_) | go_simp))) (by first | assumption | go_simp)
  have q0_0:=Ext.cell (p:=⟨w.heap.size,0,none⟩) (v:=.bool false) xx (by first | exact True | go_simp | (repeat (first | assumption | (refine (World.cell?_setCell_far _ _ _ _ (by simp <;> omega)).trans ?_) | (refine (World.cell?_alloc_lt _ _ _ (World.block_lt_of_cell? _ _ (by assumption))).trans ?_) | go_simp)))
  have fq0_1:=Ext.free (p:=⟨w.heap.size,1,none⟩) (v:=.slice none 0 0) xx (by first | exact True | go_simp | (repeat (first | assumption | (refine (World.cell?_setCell_far _ _ _ _ (by simp <;> omega)).trans ?_) | (refine (World.cell?_alloc_lt _ _ _ (World.block_lt_of_cell? _ _ (by assumption))).trans ?_) | go_simp))) (by first | assumption | go_simp)
  have q0_1:=Ext.cell (p:=⟨w.heap.size,1,none⟩) (v:=.slice none 0 0) xx (by first | exact True | go_simp | (repeat (first | assumption | (refine (World.cell?_setCell_far _ _ _ _ (by simp <;> omega)).trans ?_) | (refine (World.cell?_alloc_lt _ _ _ (World.block_lt_of_cell? _ _ (by assumption))).trans ?_) | go_simp)))
  clear xx
  rcases dA r1z.length with h0 | hp
  ·have e0:r1z=[]:=cF.1 h0
   subst e0
   clear h0
   go_wp2_with fail
   refine bodyPost_ret (v:=.agg #[.bool false,.slice r1a 0 r1c]) (by simp [results,Tryz.results90,go_sem,q0_0,q0_1]) rfl ?_
   exact ⟨false,r1a,r1c,[],r1B,rfl,(by omega),(Own.st (Own.st r1o (b:=w.heap.size) (by omega) _ _) (b:=w.heap.size) (by omega) _ _),(CanZ.pos r1k.out),(by unfold Hid;rw [zbr,zc8,<- r1v.out];rfl),(by first | omega | (simp;done) | (simp;omega)),(Ext.st (Ext.st hE (b:=w.heap.size) (by omega) _ _) (b:=w.heap.size) (by omega) _ _)⟩
  ·have hp1:decide (0<r1z.length)=true:=decide_eq_true hp
   go_wp2_with fail
   refine bodyPost_ret (v:=.agg #[.bool true,.slice r1a r1z.length r1c]) (by simp [results,Tryz.results90,go_sem,q0_0,q0_1]) rfl ?_
   exact ⟨true,r1a,r1c,r1z,r1B,rfl,(by omega),(Own.st (Own.st r1o (b:=w.heap.size) (by omega) _ _) (b:=w.heap.size) (by omega) _ _),(CanZ.neg r1k.out hp _),(by unfold Hid;rw [zc8,zc8,r1v.out]),(by first | omega | (simp;done) | (simp;omega)),(Ext.st (Ext.st hE (b:=w.heap.size) (by omega) _ _) (b:=w.heap.size) (by omega) _ _)⟩
set_option maxHeartbeats 1000000 in
theorem clean_any (s:Bool) (ao:Option Addr) (n c:Nat) (zs:List Nat) (w:World) (hn:n=zs.length) (h:Rd w ao c zs) (hl:zs.length<=400000) :
  Calls eJ 65 #[.agg #[.bool s,.slice ao n c]] w (GotZ w (iv s zs) zs.length):=by
 subst hn
 go_enter Tryz.func65,Tryz.ntmps65
 go_wp2_with fail
 refine (From_any s _ _ _ zs _ rfl (h.ext (((Ext.refl _).alloc _).alloc _)) (by first | omega | (simp;done) | (simp;omega))).mono ?_
 rintro e w1 ⟨r1s,r1a,r1c,r1z,r1B,rfl,r1b,r1o,r1k,r1v,r1l,xx⟩
 try simp at r1b
 try simp only [bP,cD] at r1l
 have hE:Ext w w1:=Ext.trans (((Ext.refl _).alloc _).alloc _) xx
 have hz1:w.heap.size+2<=w1.heap.size:=(by have hq:=Ext.size xx;(try simp at hq);omega)
 have hb1:w.heap.size+1<w1.heap.size:=(by omega)
 have fq1_0:=Ext.free (p:=⟨w.heap.size+1,0,none⟩) (v:=.bool false) xx (by first | exact True | go_simp | (repeat (first | assumption | (refine (World.cell?_setCell_far _ _ _ _ (by simp <;> omega)).trans ?_) | (refine (World.cell?_alloc_lt _ _ _ (World.block_lt_of_cell? _ _ (by assumption))).trans ?_) | go_simp))) (by first | assumption | go_simp)
 have q1_0:=Ext.cell (p:=⟨w.heap.size+1,0,none⟩) (v:=.bool false) xx (by first | exact True | go_simp | (repeat (first | assumption | (refine (World.cell?_setCell_far _ _ _ _ (by simp <;> omega)).trans ?_) | (refine (World.cell?_alloc_lt _ _ _ (World.block_lt_of_cell? _ _ (by assumption))).trans ?_) | go_simp)))
 have fq1_1:=Ext.free (p:=⟨w.heap.size+1,1,none⟩) (v:=.slice none 0 0) xx (by first | exact True | go_simp | (repeat (first | assumption | (refine (World.cell?_setCell_far _ _ _ _ (by simp <;> omega)).trans ?_) | (refine (World.cell?_alloc_lt _ _ _ (World.block_lt_of_cell? _ _ (by assumption))).trans ?_) | go_simp))) (by first | assumption | go_simp)
 have q1_1:=Ext.cell (p:=⟨w.heap.size+1,1,none⟩) (v:=.slice none 0 0) xx (by first | exact True | go_simp | (repeat (first | assumption | (refine (World.cell?_setCell_far _ _ _ _ (by simp <;> omega)).trans ?_) | (refine (World.cell?_alloc_lt _ _ _ (World.block_lt_of_cell? _ _ (by assumption))).trans ?_) | go_simp)))
 clear xx
 go_wp2_with fail
 refine bodyPost_ret (v:=.agg #[.bool r1s,.slice r1a r1z.length r1c]) (by simp [results,Tryz.results65,go_sem,q1_0,q1_1]) rfl ?_
 exact ⟨r1s,r1a,r1c,r1z,r1B,rfl,(by omega),(Own.st (Own.st r1o (b:=w.heap.size+1) (by omega) _ _) (b:=w.heap.size+1) (by omega) _ _),r1k,r1v,(by first | omega | (simp;done) | (simp;omega)),(Ext.st (Ext.st hE (b:=w.heap.size+1) (by omega) _ _) (b:=w.heap.size+1) (by omega) _ _)⟩
theorem zfk {x y:Int} (hx:-1<=x/\x<=1) (hy:-1<=y/\y<=1):-1<=x*y/\x*y<=1:=by
 have h1:x=-1\/x=0\/x=1:=by omega
 rcases h1 with rfl | rfl | rfl <;> omega
theorem val_two (x:Nat):nV [x % 4294967296,x / 4294967296]=x:=by simp only [nV];omega
def zb4 (z:Int):Int × Bool:=if -9223372036854775808<=z/\z<=9223372036854775807 then (z,true) else (0,false)
theorem or_join2 (R x:Nat) (hR:R<4294967296) (hx:x<4294967296):bits BinOp.or .u64 (x:Int) ((R:Int)*4294967296)=((x+4294967296*R:Nat):Int):=by
 have e:((R:Int)*4294967296)=((R*4294967296:Nat):Int):=by rw [Int.natCast_mul];rfl
 rw [e,bits_or_u64_nat _ _ (by omega) (by omega)]
 have h:=Nat.two_pow_add_eq_or_of_lt (i:=32) (b:=x) (by omega) R
 rw [Nat.or_comm,Nat.mul_comm R,show (4294967296:Nat)=2 ^ 32 from rfl,<- h]
 omega
theorem wrap_mul32 (x:Nat) (hx:x<4294967296):IntKind.u64.wrap (IntKind.u64.wrap (x:Int)*4294967296)=(x:Int)*4294967296:=by
 rw [IntKind.wrap_u64,IntKind.wrap_u64];omega
theorem small_yes {x:Int} (hz:z=x) (h1:-9223372036854775808<=x) (h2:x<=9223372036854775807):zb4 z=(x,true):=by
 subst hz;unfold zb4;rw [if_pos ⟨h1,h2⟩]
theorem small_no (h:z< -9223372036854775808\/9223372036854775807<z):zb4 z=(0,false):=by
 unfold zb4;rw [if_neg (by omega)]
theorem zdl {p q:Int × Bool} (h:zb4 z=p) (k:zb4 z=q):p=q:=h.symm.trans k
theorem or_zero (x:Nat) (hx:x<4294967296):bits BinOp.or .u64 0 (x:Int)=(x:Int):=by
 have:=or_join2 0 0 (by omega) (by omega)
 have h2:=bits_or_u64_nat 0 x (by omega) (by omega)
 rw [Nat.zero_or] at h2
 exact h2
set_option maxHeartbeats 2000000 in
theorem ZSmall_any (s:Bool) (ao:Option Addr) (n c:Nat) (zs:List Nat) (w:World) (v:Int) (ok:Bool) (hn:n=zs.length) (h:Rd w ao c zs) (hl:zs.length<=300000) (hg:zb4 (iv s zs)=(v,ok)) :
  Calls eJ 36 #[.agg #[.bool s,.slice ao n c]] w (GotP (.tuple #[.int .i64 v,.bool ok]) w):=by
 subst hn
 replace hg:=Lib.hid hg
 go_enter Tryz.func36,Tryz.ntmps36
 go_wp2_with fail
 refine (clean_any s _ _ _ zs _ rfl (h.ext ((Ext.refl _).alloc _)) (by first | omega | (simp;done) | (simp;omega))).mono ?_
 rintro e w1 ⟨r1s,r1a,r1c,r1z,r1B,rfl,r1b,r1o,r1k,r1v,r1l,xx⟩
 try simp at r1b
 try simp only [bP,cD] at r1l
 have hE:Ext w w1:=Ext.trans ((Ext.refl _).alloc _) xx
 have hz1:w.heap.size+1<=w1.heap.size:=(by have hq:=Ext.size xx;(try simp at hq);omega)
 have hb0:w.heap.size<w1.heap.size:=(by omega)
 have fq0_0:=Ext.free (p:=⟨w.heap.size,0,none⟩) (v:=.bool s) xx (by first | exact True | go_simp | (repeat (first | assumption | (refine (World.cell?_setCell_far _ _ _ _ (by simp <;> omega)).trans ?_) | (refine (World.cell?_alloc_lt _ _ _ (World.block_lt_of_cell? _ _ (by assumption))).trans ?_) | go_simp))) (by first | assumption | go_simp)
 have q0_0:=Ext.cell (p:=⟨w.heap.size,0,none⟩) (v:=.bool s) xx (by first | exact True | go_simp | (repeat (first | assumption | (refine (World.cell?_setCell_far _ _ _ _ (by simp <;> omega)).trans ?_) | (refine (World.cell?_alloc_lt _ _ _ (World.block_lt_of_cell? _ _ (by assumption))).trans ?_) | go_simp)))
 have fq0_1:=Ext.free (p:=⟨w.heap.size,1,none⟩) (v:=.slice ao zs.length c) xx (by first | exact True | go_simp | (repeat (first | assumption | (refine (World.cell?_setCell_far _ _ _ _ (by simp <;> omega)).trans ?_) | (refine (World.cell?_alloc_lt _ _ _ (World.block_lt_of_cell? _ _ (by assumption))).trans ?_) | go_simp))) (by first | assumption | go_simp)
 have q0_1:=Ext.cell (p:=⟨w.heap.size,1,none⟩) (v:=.slice ao zs.length c) xx (by first | exact True | go_simp | (repeat (first | assumption | (refine (World.cell?_setCell_far _ _ _ _ (by simp <;> omega)).trans ?_) | (refine (World.cell?_alloc_lt _ _ _ (World.block_lt_of_cell? _ _ (by assumption))).trans ?_) | go_simp)))
 clear xx
 by_cases h2:2<r1z.length
 ·have hr:Hid ((v,ok)=(0,false)):=zdl hg.out (small_no (by
   have h3:=zfy r1k.out.1 (by omega)
   have h4:pw 2<=pw (r1z.length - 1):=zd2 (by omega)
   have h5:pw 2=18446744073709551616:=rfl
   have h6:=iv_abs r1s r1z
   rw [r1v.out] at h6
   omega))
  go_wp2_with fail
  go_ret2
  exact ⟨by rw [(Prod.mk.inj hr.out).1,(Prod.mk.inj hr.out).2];rfl,(Ext.st (Ext.st hE (b:=w.heap.size) (by omega) _ _) (b:=w.heap.size) (by omega) _ _)⟩
 ·have hrd:=(Own.st (Own.st r1o (b:=w.heap.size) (by omega) 0 (.bool r1s)) (b:=w.heap.size) (by omega) 1 (.slice r1a r1z.length r1c)).rd
  go_wp2_with fail
  trace_state
  go_loop [4,16] (fun n i=>∃ k:Nat,k<=r1z.length/\i = .int .i64 k/\n = .int .u64 (vk r1z k)) (fun _ i=>(r1z.length - intOf i).toNat)
  case atStart=>exact ⟨0,bF _,rfl,by rw [zbm];rfl⟩
  case round =>
   obtain ⟨k,hk,rfl,rfl⟩:=hrel
   by_cases hkA:k<r1z.length
   ·have hx:=hrd.cell k hkA
    have bx:=zat r1k.out.1.1 k
    rcases k with _ | _ | k
    ·rw [zbm]
     have hix:=ixe hrd r1z.length rfl 0 0 rfl hkA
     simp only [Nat.add_zero] at hix hx
     go_wp2_with fail
     exact ⟨⟨1,by omega,rfl,by rw [or_zero _ bx,zam,zbm];simp [pw_zero]⟩,by simp [intOf];omega⟩
    ·have hix:=ixe hrd r1z.length rfl 1 1 rfl hkA
     have b0:=zat r1k.out.1.1 0
     go_wp2_with fail
     refine ⟨⟨2,by omega,rfl,?_⟩,by simp [intOf];omega⟩
     have e:vk r1z 1=lim r1z 0:=by rw [zam,zbm];simp [pw_zero]
     rw [wrap_mul32 _ bx,e,or_join2 _ _ bx b0]
     have e2:vk r1z 2=lim r1z 0+4294967296*lim r1z 1:=by rw [zam,e];rfl
     rw [e2]
    ·omega
   ·have hke:r1z.length=k:=by omega
    have hval:vk r1z k=nV r1z:=zay (by omega)
    obtain ⟨V,hV⟩:∃ V,nV r1z=V:=⟨_,rfl⟩
    rw [hval,hV]
    have hVb:V<18446744073709551616:=by
     rw [<- hV]
     exact Nat.lt_of_lt_of_le (zau r1k.out.1.1) (show pw r1z.length<=pw 2 from zd2 (by omega))
    have hZ:Hid (iv s zs=if r1s then -(V:Int) else (V:Int)):=by unfold Hid;rw [<- r1v.out];unfold iv;rw [hV]
    clear hval hV
    cases r1s
    ·have hZ1:Hid (iv s zs=(V:Int)):=hZ.out
     by_cases hbig:9223372036854775807<V
     ·go_wp2_with fail
      go_ret2
      exact ⟨by have hr:=zdl hg.out (small_no (by rw [hZ1.out];omega));rw [(Prod.mk.inj hr).1,(Prod.mk.inj hr).2];rfl,(Ext.st (Ext.st hE (b:=w.heap.size) (by omega) _ _) (b:=w.heap.size) (by omega) _ _)⟩
     ·go_wp2_with fail
      go_ret2
      exact ⟨by have hr:=zdl hg.out (small_yes hZ1.out (by omega) (by omega));rw [(Prod.mk.inj hr).1,(Prod.mk.inj hr).2];rfl,(Ext.st (Ext.st hE (b:=w.heap.size) (by omega) _ _) (b:=w.heap.size) (by omega) _ _)⟩
    ·have hZ1:Hid (iv s zs=-(V:Int)):=hZ.out
     by_cases hmin:V=9223372036854775808
     ·have hr:Hid ((v,ok)=(-9223372036854775808,true)):=zdl hg.out (small_yes (by rw [hZ1.out,hmin];rfl) (by omega) (by omega))
      have hmb:((V:Int) == 9223372036854775808)=true:=beq_iff_eq.2 (by omega)
      clear hmin
      go_wp2_with fail
      go_ret2
      exact ⟨by rw [(Prod.mk.inj hr.out).1,(Prod.mk.inj hr.out).2];rfl,(Ext.st (Ext.st hE (b:=w.heap.size) (by omega) _ _) (b:=w.heap.size) (by omega) _ _)⟩
     ·have hmb:((V:Int) == 9223372036854775808)=false:=beq_eq_false_iff_ne.2 (by omega)
      by_cases hbig:9223372036854775807<V
      ·go_wp2_with fail
       go_ret2
       exact ⟨by have hr:=zdl hg.out (small_no (by rw [hZ1.out];omega));rw [(Prod.mk.inj hr).1,(Prod.mk.inj hr).2];rfl,(Ext.st (Ext.st hE (b:=w.heap.size) (by omega) _ _) (b:=w.heap.size) (by omega) _ _)⟩
      ·go_wp2_with fail
       go_ret2
       exact ⟨by have hr:=zdl hg.out (small_yes hZ1.out (by omega) (by omega));rw [(Prod.mk.inj hr).1,(Prod.mk.inj hr).2];rfl,(Ext.st (Ext.st hE (b:=w.heap.size) (by omega) _ _) (b:=w.heap.size) (by omega) _ _)⟩
namespace S
variable {H:Im} {B:Bl} {x y:ZI} {rs:List za8} {v:Int} {j M n k:Nat} {l:List za4} {args:List V} {res:V} {α β:Type} {xs ys:List Int} {s:za4} {sh:za4->za4->zax}
theorem openZ2 {v:Value} (h:VR H B (vz x) v) (hx:Lb x.abs):∃ ao c,v = .agg #[.bool x.neg,.slice ao x.abs.length c]/\∀ w:World,(∀ b o,H b=some o->w.heap[b]?=some o)->Rd w ao c x.abs:=by
 obtain ⟨vs,rfl,h1⟩:=h
 match vs,h1 with
 | [a,b],h1 =>
  obtain ⟨h2,h3,_⟩:=h1
  have e1:a = .bool x.neg:=VR.rawI (H:=H) (B:=B) h2
  obtain ⟨ao,c,rfl,h4⟩:=nsl_rd h3 hx
  exact ⟨ao,c,by rw [e1],h4⟩
 | [],h1=>exact h1.elim
 | [_],h1=>exact h1.2.elim
 | _ :: _ :: _ :: _,h1=>exact h1.2.2.elim
theorem SSmall (x:ZI) (hx:Lb x.abs) (lx:x.abs.length<=300000):Fn eJ 36 [] [vz x] (.tup [.c (cI (zb4 x.val).1),.c (cB (zb4 x.val).2)]) []:=by
 intro w H B vals pre
 have ha:=pre.arg
 obtain ⟨a,rfl,h1⟩:∃ a,vals=[a]/\VR H B (vz x) a:=by
  match vals,ha with
  | [a],h=>exact ⟨a,rfl,h.1⟩
  | [],h=>exact h.elim
  | _ :: _ :: _,h=>exact h.2.elim
 obtain ⟨ao,c,rfl,r1⟩:=openZ2 h1 hx
 refine (ZSmall_any x.neg ao _ c x.abs w _ _ rfl (r1 w pre.sat) lx rfl).mono fun e w' h=>?_
 obtain ⟨rfl,hE⟩:=h
 exact ⟨_,_,_,rfl,postE hE pre.sat ⟨_,rfl,DR.raw _ rfl,DR.raw _ rfl,trivial⟩⟩
theorem small_big {m:Int} (h:(zb4 z).2=false) (h0:0<=z) (hm:m<=9223372036854775807):m<z:=by
 unfold zb4 at h
 split at h
 ·cases h
 ·omega
theorem small_val (h:(zb4 z).2=true):(zb4 z).1=z∧-9223372036854775808≤z∧z≤9223372036854775807:=by
 unfold zb4 at h ⊢
 split at h
 ·rename_i hz;rw [if_pos hz];exact ⟨rfl,hz⟩
 ·cases h
theorem hp_11:ElZ eJ 46 22 1:=ElZ.mk' Tryz.underlying46 _ _ rfl rfl
theorem hp_12:ElT eJ 46 22 1 24:=ElT.mk' Tryz.underlying46 _ _ rfl rfl
def plR (r:za8):za8:=⟨zaa r.t,r.eq⟩
def zb7 (rs:List za8) (v:Int) (low:za4) (i:Nat):List za8:=eqR low v (i:Int) :: rs.map plR
def zf4 (rs:List za8) (v:Int) (low:za4) (n:Int):List (List za8):=(List.range (n+1).toNat).map (zb7 rs v low)
def zf5 (rs:List za8) (v room m:Int):List za4->List (List za8)->List (List za8) × Int
  | [],out=>(out,0)
  | low :: ls,out=>if zep low.times.val m<0 then zf5 rs v room m ls out else if zep low.times.val m>=room - (out.length:Int) then ([],3) else zf5 rs v room m ls (out++zf4 rs v low (zep low.times.val m))
def zbs (rs:List za8) (v most:Int):List (List za8) × Int:=if maxS (za0 rs v)=0 then ([],0) else zf5 rs v most (maxS (za0 rs v)) (za1 rs v) []
theorem go_at {room m:Int} {ls:List za4} {low:za4} {out:List (List za8)} (h:ls[j]?=some low):zf5 rs v room m (ls.drop j) out=if zep low.times.val m<0 then zf5 rs v room m (ls.drop (j+1)) out else if zep low.times.val m>=room - (out.length:Int) then ([],3) else zf5 rs v room m (ls.drop (j+1)) (out++zf4 rs v low (zep low.times.val m)):=by
 obtain ⟨hj,rfl⟩:=cX.1 h
 rw [List.drop_eq_getElem_cons hj];rfl
theorem maxS_len (hl:∀ s ∈ l,zbg s):(eR (maxS l)).abs.length<=9:=by
 suffices h:∀ (l:List za4) (m:Int),(∀ s ∈ l,zbg s)->(eR m).abs.length<=9->(eR (l.foldl (fun m s=>max m s.times.val) m)).abs.length<=9 from h l 0 hl (bF _)
 intro l
 induction l with
 | nil=>intro m _ h;exact h
 | cons s l ih =>
  intro m hl h
  refine ih _ (fun q hq=>hl q (cH _ hq)) ?_
  have hs:=hl s (bW ..)
  have:=max_len (x:=eR m) (y:=s.times) (eP m) hs.lb h hs.len
  rwa [eS] at this
theorem last_len (hx:Lb x.abs) (hy:Lb y.abs) (lx:x.abs.length<=9) (ly:y.abs.length<=9) (h0:y.val≠0):(eR (zep x.val y.val)).abs.length<=40:=by
 have h1:=zdi hy hx
 have h2:=zdy (x:=eR (y.val*x.val)) (y:=y) (eP _) hy
 rw [eS] at h2
 have h3:=zdy (x:=eR (y.val*x.val - y.val)) (y:=x) (eP _) hx
 rw [eS] at h3
 have h4:=zfq (x:=eR (y.val*x.val - y.val - x.val)) (y:=y) (eP _) h0
 rw [eS] at h4
 unfold zep;omega
theorem SPieces (rs:List za8) (v most:Int) (hrs:zg3 rs) (hm:0<=most/\most<=1000):Fn eJ 17 [] [.t (.c (.d (.sl 4 (rs.map eW)))),vI v,vI most] (.tup [.c (.d (.sl 1 ((zbs rs v most).1.map (slD 4 eW)))),.c (.d (.raw (.int .i64 (zbs rs v most).2)))]) []:=by
 have lrs:=hrs.1;have nl:=zfp hrs v;have nh:=zed hrs v;refine fB Tryz.func17 rfl 94 fun w H B a h=>Jq 5 [] [(0,.t (.c (.d (.sl 4 (rs.map eW))))),(1,vI v),(2,vI most),(6,.t (.c (.d (.raw zb2)))),(7,vI 0)] [] h fun a w h=>Jg 5 [(2,.call (Ssplit rs v hrs))] [] [(8,vp 5 0)] [] [(5,.box [.d (.sl 5 ((za1 rs v).map za4.d)),.d (.sl 5 ((za0 rs v).map za4.d)),.d (.sl 4 ((za5 rs v).map eW))])] h fun a w h=>?_
 obtain ⟨r2,er2,vr2,or2,lr2⟩:=mkZ (v:=maxS (za0 rs v)) (m:=9) (maxS_len (zdd hrs v));refine Jg 6 [(2,.call (eK (SGreatest (za0 rs v) (zdd hrs v) (by omega)) (congrArg vz er2.symm)))] [] [(9,vp 6 0)] [] [(6,.box (zi r2))] h fun a w h=>qW (Je 7 [(1,.call (SSign r2 or2 (by omega)))] [] [(29,vb (sgn r2.val == 0))] h fun a w h=>cS (sgn r2.val == 0) h (fun hc1=>?_) (fun hc2=>?_))
 ·refine Je 7 [] [29] [] h fun a w h=>qV (zae ?_);replace h:=nilDSx 6 0 1 (.t (.c (.d (.raw zb2)))) h;refine zha [.c (.d (.sl 1 ([].map (slD 4 eW)))),.c (.d (.raw (.int .i64 0)))] h Exit.ret (.inl rfl)  rfl ⟨vT9,vT9,trivial⟩ ?_;have hz:zbs rs v most=([],0):=by unfold zbs;rw [if_pos (by have h0:=sgn0_t hc1;rw [vr2] at h0;exact h0)]
  rw [hz];try rfl
 refine qU (za3 ?_);have hmx:maxS (za0 rs v)≠0:=by have:=sgn0_f hc2;rw [vr2] at this;exact this
 refine Je 7 [(1,.g (Op.max2 (d:=31) (tys:=#[3,3]) (k:=.i64) (m:=most) (n:=0) (r:=most) (eN 30 _) (eM (.int .i64 0) rfl) (Int.max_eq_left hm.1).symm))] [2,29] [(10,vI most)] h fun a w h=>Je 7 [] [] [(11,.t (.c (.d (.raw zb2))))] h fun a w h=>qW ?_;replace h:=nilOSx 11 0 7 1 22 (.t (.c (.d (.raw zb2)))) h;refine Jg 8 [(2,.len (zac 5 za4.d (za1 rs v)))] [8] [(33,.t (.c (.d (.sl 5 ((za1 rs v).map za4.d))))),(34,vI ((za1 rs v).length:Int)),(35,vI 0)] [5] [] h fun a w h=>qZ ?_
 refine zd3 (ι:=(Nat) × (List (List za8))) (fun (j,out)=>j<=(za1 rs v).length/\zbs rs v most=zf5 rs v most (maxS (za0 rs v)) ((za1 rs v).drop j) out/\(out.length:Int)<=most)
   [6,7] (fun (j,out)=>[(11,.t (.c (.own 7 out.length))),(35,vN j)])
   [] (fun (j,out)=>[(7,.row 22 1 (out.map (slD 4 eW)))])
   (fun (j,out)=>(za1 rs v).length - j) (0,[]) ?_ h ?_
 ·exact ⟨bF _,by unfold zbs;rw [if_neg hmx];rfl,by show (0:Int)<=most;omega⟩
 clear h;rintro ⟨j,out⟩ a w hI h;dsimp only at h;obtain ⟨hI1,hI2,hI3⟩:=hI;refine Je 8 [] [] [(36,vb (decide ((j:Int)<((za1 rs v).length:Int))))] h fun a w h=>qW (zaj ((j:Int)<((za1 rs v).length:Int)) h (fun hc3 hc3'=>?_) (fun hc14 hc14'=>?_))
 ·refine qU (za3 (qW (qZ ?_)));obtain ⟨x4,hx4⟩:=gl (za1 rs v) j;have gx4:=zf6 hrs v x4 (lM hx4);have lgx4:=gx4.len;refine Jg 8 [(0,.g (xD 37 33 hb_1 (zab hx4 (f:=za4.d)) (eN 35 _)))] [36] [(13,vp 8 0)] [] [(8,.box (zi x4.times++[.d (.sl 3 (x4.rest.parts.map eV))]++zi x4.rest.k))] h fun a w h=>?_;have h0x4:r2.val≠0:=by rw [vr2];exact hmx
  obtain ⟨r5,er5,vr5,or5,lr5⟩:=mkZ (v:=zep x4.times.val r2.val) (m:=40) (last_len gx4.lb or2 gx4.len lr2 h0x4);refine Jg 9 [(3,.call (eK (SLast x4.times r2 gx4.lb or2 gx4.len lr2 h0x4) (congrArg vz er5.symm)))] [] [(14,vp 9 0)] [] [(9,.box (zi r5))] h fun a w h=>qW (Je 10 [(1,.call (SSign r5 or5 (by omega)))] [] [(45,vb (decide (sgn r5.val<0)))] h fun a w h=>zaj (sgn r5.val<0) h (fun hc4 hc4'=>?_) (fun hc5 hc5'=>?_))
  ·refine wp_exit (zbo (zap (za3 (Jh 10 [(0,.j1 j)] [13,14,45] [(35,vI ((j:Int)+1))] [8,9] [] h fun a w h=>za3 (za9 (x:=(j,out)) (y:=(j+1,out)) h ?_ ?_)))))
   ·have:=zad hx4;exact ⟨by omega,by rw [hI2,go_at hx4,if_pos (by have h0:=zbd.1 (dT hc4);rw [vr5,vr2] at h0;exact h0)],hI3⟩
   show (za1 rs v).length - (j+1)<(za1 rs v).length - j;have:=zad hx4;omega
  refine qU (za3 (Jg 10 [(1,.call (SSmall r5 or5 (by omega)))] [14,45] [(15,vI (zb4 r5.val).1),(16,vb (zb4 r5.val).2)] [9] [] h fun a w h=>qW ?_))
  rcases bK (zb4 r5.val).2 with hc6 | hc13
  ·rw [hc6] at h;refine Jq 10 [(7,.sub .i64 (m:=most) (n:=(out.length:Int)) i6)] [(0,.t (.c (.d (.sl 4 (rs.map eW))))),(1,vI v),(9,vp 6 0),(10,vI most),(11,.t (.c (.own 7 out.length))),(13,vp 8 0),(15,vI (zb4 r5.val).1),(33,.t (.c (.d (.sl 5 ((za1 rs v).map za4.d))))),(34,vI ((za1 rs v).length:Int)),(35,vN j),(60,vb (decide ((zb4 r5.val).1>=(most - (out.length:Int)))))] [(6,.box (zi r2)),(7,.row 22 1 (out.map (slD 4 eW))),(8,.box (zi x4.times++[.d (.sl 3 (x4.rest.parts.map eV))]++zi x4.rest.k))] h fun a w h=>zaj ((zb4 r5.val).1>=(most - (out.length:Int))) h (fun hc7 hc7'=>?_) (fun hc8 hc8'=>?_)
   ·refine Je 10 [] [60] [(6,.t (.c (.d (.raw zb2)))),(7,vI 3)] h fun a w h=>qV (zae (zan (zae (zae (zan (zae ?_))))));replace h:=nilDSx 6 0 1 (.t (.c (.d (.raw zb2)))) h;refine zha [.c (.d (.sl 1 ([].map (slD 4 eW)))),.c (.d (.raw (.int .i64 3)))] h Exit.ret (.inl rfl)  rfl ⟨vT9,vT9,trivial⟩ ?_;have hn0:0<=r5.val:=by have h0:=dF hc5;have h1:=mt (zbd (z:=r5.val)).2 h0;omega
    have hsv:=(small_val hc6).1;have hv:=vr5;rw [vr2] at hv;have hz:zbs rs v most=([],3):=by rw [hI2,go_at hx4,if_neg (by rw [<- hv];omega),if_pos (by rw [<- hv];omega)]
    rw [hz];try rfl
   refine qU (za3 ?_);obtain ⟨hs1,hs2,hs3⟩:=small_val hc6;have hn0:0<=r5.val:=by have h0:=dF hc5;have h1:=mt (zbd (z:=r5.val)).2 h0;omega
   refine Je 10 [(1,.add .i64 (m:=(zb4 r5.val).1) (n:=1) i6)] [15,60] [(62,vI ((zb4 r5.val).1+1)),(63,vI 0)] h fun a w h=>qZ ?_;replace h:=cvM [] [(11,.t (.c (.own 7 (out++(List.range 0).map (zb7 rs v x4)).length)))] [] [(7,.row 22 1 ((out++(List.range 0).map (zb7 rs v x4)).map (slD 4 eW)))] (by rw [<- show (out:List (List za8))=(out++(List.range 0).map (zb7 rs v x4)) from (by simp)]; try kernel_rfl) h
   refine zd3 (ι:=(Nat)) (fun i=>(i:Int)<=(zb4 r5.val).1+1)
     [] (fun i=>[(11,.t (.c (.own 7 (out++(List.range i).map (zb7 rs v x4)).length))),(63,vN i)])
     [] (fun i=>[(7,.row 22 1 ((out++(List.range i).map (zb7 rs v x4)).map (slD 4 eW)))])
     (fun i=>((zb4 r5.val).1+1).toNat - i) 0 ?_ h ?_
   ·show ((0:Nat):Int)<=_;omega
   clear h;rintro i a w hI h;have hpl:(out++(List.range i).map (zb7 rs v x4)).length=out.length+i:=by simp
   refine Je 10 [] [] [(64,vb (decide ((i:Int)<((zb4 r5.val).1+1))))] h fun a w h=>qW (zaj ((i:Int)<((zb4 r5.val).1+1)) h (fun hc9 hc9'=>?_) (fun hc12 hc12'=>?_))
   ·refine qU (za3 (qW (qZ (Je 10 [] [64] [(17,vN i)] h fun a w h=>Jg 10 [(3,.call (SEqual x4 v (i:Int) gx4 ⟨by omega,by omega⟩)),(4,.g (Op.buildO (d:=70) (n:=10) (len:=1) (rows:=[(eqR x4 v (i:Int))].map eW) (rs:=[(69,.t (.agg ([.d (.sl 3 ((eqR x4 v (i:Int)).t.parts.map eV))]++zi (eqR x4 v (i:Int)).t.k++[.d (.raw (.bool (eqR x4 v (i:Int)).eq))])))]) kc_5 (.cons (i:=0) (eN 69 _) (.nil)) (by kernel_rfl) rfl (by simp [eW]) (by decide) (by decide)))] [17] [(18,.t (.c (.own 10 1)))] [] [(10,.row 43 4 ([(eqR x4 v (i:Int))].map eW))] h fun a w h=>qW (Je 11 [(1,.len (zac 4 eW rs))] [] [(71,.t (.c (.d (.sl 4 (rs.map eW))))),(72,vN rs.length),(73,vI 0)] h fun a w h=>qZ ?_)))));replace h:=cvM [] [] [] [(10,.row 43 4 (([eqR x4 v (i:Int)]++(rs.take 0).map plR).map eW))] (by rw [<- show ([(eqR x4 v (i:Int))]:List za8)=([eqR x4 v (i:Int)]++(rs.take 0).map plR) from (by simp)]; try kernel_rfl) h
    refine zd3 (ι:=(Nat)) (fun k=>k<=rs.length)
      [] (fun k=>[(18,.t (.c (.own 10 ([eqR x4 v (i:Int)]++(rs.take k).map plR).length))),(73,vN k)])
      [] (fun k=>[(10,.row 43 4 (([eqR x4 v (i:Int)]++(rs.take k).map plR).map eW))])
      (fun k=>rs.length - k) 0 ?_ h ?_
    ·exact bF _
    clear h;rintro k a w hI h;have hkl:([eqR x4 v (i:Int)]++(rs.take k).map plR).length<=21:=by simp;omega
    refine Je 11 [] [] [(74,vb (decide ((k:Int)<(rs.length:Int))))] h fun a w h=>qW (zaj ((k:Int)<(rs.length:Int)) h (fun hc10 hc10'=>?_) (fun hc11 hc11'=>?_))
    ·refine qU (za3 (qW (qZ ?_)));obtain ⟨x9,hx9⟩:=gl rs k;have gx9:TOk 20 8 x9.t:=hrs.2 x9 (lM hx9);refine Jg 11 [(0,.g (xD 75 71 kc_3 (zab hx9 (f:=eW)) (eN 73 _)))] [74] [(20,vp 11 0)] [] [(11,.box ([.d (.sl 3 (x9.t.parts.map eV))]++zi x9.t.k++[.d (.raw (.bool x9.eq))]))] h fun a w h=>Jh 12 [(3,.call (SPlain x9.t gx9 (by decide) (by decide))),(7,.g (bD 84 ([(za8.mk (zaa x9.t) x9.eq)].map eW) [(83,.t (.agg ([.d (.sl 3 ((zaa x9.t).parts.map eV))]++zi (zaa x9.t).k++[.d (.raw (.bool x9.eq))])))] kc_5 (.cons (i:=0) (eN 83 _) (.nil)) (by kernel_rfl) (by simp [eW]))),(8,.g (aD 85 77 84 10 12 ([eqR x4 v (i:Int)]++(rs.take k).map plR) [(za8.mk (zaa x9.t) x9.eq)] eW ha_11 (by simp [eW])))] [20] [(18,.t (.c (.own 12 (([eqR x4 v (i:Int)]++(rs.take k).map plR)++[(za8.mk (zaa x9.t) x9.eq)]).length)))] [10,11] [(12,.row 43 4 ((([eqR x4 v (i:Int)]++(rs.take k).map plR)++[(za8.mk (zaa x9.t) x9.eq)]).map eW))] h fun a w h=>za6 (za3 (Jf 13 [(0,.add .i64 (m:=(k:Int)) (n:=1) i6)] [] [(73,vI ((k:Int)+1))] h fun a w h=>za3 ?_));rw [show ((([eqR x4 v (i:Int)]++(rs.take k).map plR)++[(za8.mk (zaa x9.t) x9.eq)]):List za8)=([eqR x4 v (i:Int)]++(rs.take (k+1)).map plR) from (by rw [cE];congr 1;exact mapSnoc (f:=plR) hx9)] at h;replace h:=zfb 12 10 h;refine za9 (x:=k) (y:=k+1) h ?_ ?_
     ·have:=zad hx9;show k+1<=rs.length;omega
     show rs.length - (k+1)<rs.length - k;have:=zad hx9;omega
    refine exA ?_;rw [show (([eqR x4 v (i:Int)]++(rs.take k).map plR):List za8)=(zb7 rs v x4 i) from (by unfold zb7;rw [bL (by omega)];rfl)] at h;replace h:=pubX 10 4 43 ((zb7 rs v x4 i).map eW) h [(zb7 rs v x4 i).length] ⟨by first | exact (bE _).symm | (simp;done) | (simp;omega),trivial⟩;refine Jh 13 [(2,.g (bD 89 ([(zb7 rs v x4 i)].map (slD 4 eW)) [(88,.t (.c (.d (.sl 4 ((zb7 rs v x4 i).map eW)))))] hp_11 (.cons (i:=0) (eN 88 _) (.nil)) (by kernel_rfl) (by simp [slD]))),(3,.g (Op.appOD (d:=90) (t:=87) (u:=89) (n:=7) (n':=13) (len:=(out++(List.range i).map (zb7 rs v x4)).length) (len':=((out++(List.range i).map (zb7 rs v x4))++[(zb7 rs v x4 i)]).length) (rows:=(out++(List.range i).map (zb7 rs v x4)).map (slD 4 eW)) (rows2:=[(zb7 rs v x4 i)].map (slD 4 eW)) (rows':=((out++(List.range i).map (zb7 rs v x4))++[(zb7 rs v x4 i)]).map (slD 4 eW)) hp_12 (by first | exact (bE _).symm | simp) (by first | (rw [bI,bE];done) | simp) (by simp) (by simp [slD]) (by first | omega | (simp at *;done) | (simp at *;omega))))] [18,71,72,73,74] [(11,.t (.c (.own 13 ((out++(List.range i).map (zb7 rs v x4))++[(zb7 rs v x4 i)]).length)))] [7] [(13,.row 22 1 (((out++(List.range i).map (zb7 rs v x4))++[(zb7 rs v x4 i)]).map (slD 4 eW)))] h fun a w h=>za6 (za3 (Jf 14 [(0,.j1 i)] [] [(63,vI ((i:Int)+1))] h fun a w h=>za3 ?_));rw [show (((out++(List.range i).map (zb7 rs v x4))++[(zb7 rs v x4 i)]):List (List za8))=(out++(List.range (i+1)).map (zb7 rs v x4)) from (by rw [cE,List.range_succ,dE];rfl)] at h;replace h:=zfb 13 7 h;refine za9 (x:=i) (y:=i+1) h ?_ ?_
    ·show ((i+1:Nat):Int)<=_;omega
    show ((zb4 r5.val).1+1).toNat - (i+1)<((zb4 r5.val).1+1).toNat - i;omega
   refine wp_exit (zbo (zbo (zap (za6 (za3 (Jh 14 [(0,.j1 j)] [13,62,63,64] [(35,vI ((j:Int)+1))] [8] [] h fun a w h=>za3 ?_))))));rw [show ((out++(List.range i).map (zb7 rs v x4)):List (List za8))=(out++zf4 rs v x4 (zep x4.times.val (maxS (za0 rs v)))) from (by unfold zf4;rw [show i=(zep x4.times.val (maxS (za0 rs v))+1).toNat by rw [vr5,vr2] at *;omega])] at h;refine za9 (x:=(j,out)) (y:=(j+1,(out++zf4 rs v x4 (zep x4.times.val (maxS (za0 rs v)))))) h ?_ ?_
   ·have:=zad hx4;have hv:=vr5;rw [vr2] at hv;exact ⟨by omega,by rw [hI2,go_at hx4,if_neg (by rw [<- hv];omega),if_neg (by rw [<- hv];omega)],by show (((out++zf4 rs v x4 (zep x4.times.val (maxS (za0 rs v)))).length:Nat):Int)<=most;unfold zf4;rw [bI,bE,List.length_range,<- hv];omega⟩
   show (za1 rs v).length - (j+1)<(za1 rs v).length - j;have:=zad hx4;omega
  rw [hc13] at h;refine Jq 14 [] [(0,.t (.c (.d (.sl 4 (rs.map eW))))),(1,vI v),(9,vp 6 0),(10,vI most),(11,.t (.c (.own 7 out.length))),(13,vp 8 0),(15,vI (zb4 r5.val).1),(33,.t (.c (.d (.sl 5 ((za1 rs v).map za4.d))))),(34,vI ((za1 rs v).length:Int)),(35,vN j),(60,vb true)] [(6,.box (zi r2)),(7,.row 22 1 (out.map (slD 4 eW))),(8,.box (zi x4.times++[.d (.sl 3 (x4.rest.parts.map eV))]++zi x4.rest.k))] h fun a w h=>cS true h (fun _=>?_) nofun
  refine Je 14 [] [60] [(6,.t (.c (.d (.raw zb2)))),(7,vI 3)] h fun a w h=>qV (zae (zan (zae (zae (zan (zae ?_))))));replace h:=nilDSx 6 0 1 (.t (.c (.d (.raw zb2)))) h;refine zha [.c (.d (.sl 1 ([].map (slD 4 eW)))),.c (.d (.raw (.int .i64 3)))] h Exit.ret (.inl rfl)  rfl ⟨vT9,vT9,trivial⟩ ?_;have hn0:0<=r5.val:=by have h0:=dF hc5;have h1:=mt (zbd (z:=r5.val)).2 h0;omega
  have hbig:=small_big (m:=9223372036854775807) hc13 hn0 (by omega);have hv:=vr5;rw [vr2] at hv;have hz:zbs rs v most=([],3):=by rw [hI2,go_at hx4,if_neg (by rw [<- hv];omega),if_pos (by rw [<- hv];omega)]
  rw [hz];try rfl
 refine exA (Jq 14 [] [(6,.t (.c (.own 7 out.length))),(7,vI 0)] [(7,.row 22 1 (out.map (slD 4 eW)))] h fun a w h=>qV ?_);replace h:=pubX 7 1 22 (out.map (slD 4 eW)) h [out.length] ⟨by first | exact (bE _).symm | (simp;done) | (simp;omega),trivial⟩;refine zha [.c (.d (.sl 1 (out.map (slD 4 eW)))),.c (.d (.raw (.int .i64 0)))] h Exit.ret (.inl rfl)  rfl ⟨vT9,vT9,trivial⟩ ?_;have hz:zbs rs v most=(out,0):=by rw [hI2,cW (by omega)];rfl
 rw [hz];try rfl
def zero0:ZI:=⟨false,[]⟩
def bnd0:zh2:=⟨false,zero0,zero0⟩
def bndAt (s:zhl) (v:Nat):zh2:=(s.bounds[v]?).getD bnd0
def withinB (b:zh2) (n:ZI):Bool:=!b.is_ || (decide (zcp b.lo.val n.val<=0) && decide (zcp n.val b.hi.val<=0))
def nlocs (s:zhl) (i:Nat):Nat:=((s.procs[i]?).map fun p=>p.locs.length).getD 0
def locOk (s:zhl) (x:StD) (i:Nat):Bool:=decide (0<=(x.locs[i]?).getD 0/\(x.locs[i]?).getD 0<(nlocs s i:Int))
def valOk (s:zhl) (x:StD) (v:Nat):Bool:=withinB (bndAt s v) ((x.vals[v]?).getD zero0)
def fits (s:zhl) (x:StD):Bool:=decide (x.locs.length=s.procs.length/\x.vals.length=s.vars.length) && (allN x.locs.length (locOk s x) && allN x.vals.length (valOk s x))
def first (s:zhl) (x:StD):Bool:=(fits s x && !x.locs.any fun l=>l != 0) && s.init.holds x.vals
def sameS (x y:StD):Bool:=decide (x.locs=y.locs) && decide (x.vals.map ZI.val=y.vals.map ZI.val)
def ZOk (L:Nat) (z:ZI):Prop:=Lb z.abs/\z.abs.length<=L
structure StOk (M:Nat) (x:StD):Prop where
  locs:x.locs.length<=10
  vals:x.vals.length<=10
  val:∀ z ∈ x.vals,ZOk M z
theorem StOk.mono {M':Nat} {x:StD} (h:StOk M x) (hm:M<=M'):StOk M' x:=⟨h.locs,h.vals,fun z hz=>⟨(h.val z hz).1,bC (h.val z hz).2 hm⟩⟩
theorem ZOk.zero {L:Nat}:ZOk L zero0:=⟨zey,bF _⟩
def actAt (s:zhl) (i:Int):Option ActD:=if 0<=i then s.acts[i.toNat]? else none
def form0:zbh:=⟨0,⟨⟨[],zero0⟩,false⟩,[]⟩
def mvAt (a:ActD) (v:Nat):Option MoveD:=a.moves.find? fun m=>m.v == (v:Int)
def freeAt (a:ActD) (v:Nat):Bool:=match mvAt a v with | some m=>m.any | none=>false
def newAt (x:StD) (a:ActD) (v:Nat):ZI:=match mvAt a v with | none=>eR ((x.vals[v]?).getD zero0).val | some m=>if m.any=true then zero0 else eR (zcc m.t x.vals)
def there (s:zhl) (m:MoveD):Bool:=decide (m.v>=0) && decide (m.v<(s.vars.length:Int))
def enabled (s:zhl) (x:StD) (c:ActD):Bool:=(fits s x && (decide (0<=c.proc/\c.proc<(s.procs.length:Int)) && ((x.locs[c.proc.toNat]?).getD 0 == c.from_) && decide (0<=c.to_/\c.to_<(nlocs s c.proc.toNat:Int)))) && (!(c.moves.any fun m=>!there s m) && c.guard.holds x.vals)
theorem kk_4:ElT eJ 23 33 2 32:=ElT.mk' Tryz.underlying23 _ _ rfl rfl
def clZ (z:ZI):ZI:=eR z.val
def cloneS (x:StD):StD:=⟨x.locs,x.vals.map clZ⟩
def st0:StD:=⟨[],[]⟩
def canAt (s:zhl) (x:StD) (c:ActD) (v:Nat):Bool:=if freeAt c v=true then !((bndAt s v).is_ && decide (zcp (bndAt s v).lo.val (bndAt s v).hi.val>0)) else withinB (bndAt s v) (newAt x c v)
def canC (s:zhl) (x:StD) (c:ActD):Bool:=enabled s x c && allN s.vars.length (canAt s x c)
def can (s:zhl) (x:StD) (i:Int):Bool:=match actAt s i with | none=>false | some c=>canC s x c
def stuck (s:zhl) (x:StD):Bool:=allN s.acts.length (fun i=>!can s x (i:Int)) && fits s x
def cntFree (c:ActD):Nat->Nat
  | 0=>0
  | v+1=>cntFree c v+if freeAt c v=true then 1 else 0
def newV (x:StD) (c:ActD) (picks:List ZI) (v:Nat):ZI:=if freeAt c v=true then (match picks[cntFree c v]? with | some p=>eR p.val | none=>zero0) else newAt x c v
def outS (s:zhl) (x:StD) (c:ActD) (picks:List ZI):StD:=⟨x.locs.set c.proc.toNat c.to_,(List.range s.vars.length).map (newV x c picks)⟩
def goC (s:zhl) (x:StD) (c:ActD) (picks:List ZI):StD × Bool:=if enabled s x c=true/\fits s (outS s x c picks)=true then (outS s x c picks,true) else (st0,false)
def goS (s:zhl) (x:StD) (i:Int) (picks:List ZI):StD × Bool:=if i=-1/\stuck s x=true then (cloneS x,true) else match actAt s i with | none=>(st0,false) | some c=>goC s x c picks
def picksOf (y:StD) (c:ActD):Nat->List ZI
  | 0=>[]
  | v+1=>if freeAt c v=true then picksOf y c v++[(y.vals[v]?).getD zero0] else picksOf y c v
def leadsC (s:zhl) (x:StD) (c:ActD) (y:StD):Bool:=(enabled s x c && fits s y) && ((goC s x c (picksOf y c s.vars.length)).2 && sameS y (goC s x c (picksOf y c s.vars.length)).1)
def leads (s:zhl) (x:StD) (i:Int) (y:StD):Bool:=if i=-1 then stuck s x && sameS x y else match actAt s i with | none=>false | some c=>leadsC s x c y
structure RunOk (M:Nat) (r:RunD):Prop where
  len:r.stem.length+r.cycle.length<=20
  stem:∀ x ∈ r.stem,StOk M x
  cycle:∀ x ∈ r.cycle,StOk M x
theorem RunOk.all {r:RunD} (h:RunOk M r):∀ x ∈ r.stem++r.cycle,StOk M x:=fun x hx=>(cJ.1 hx).elim (h.stem x) (h.cycle x)
def nxt (r:RunD) (i:Nat):StD:=if i+1<(r.stem++r.cycle).length then ((r.stem++r.cycle)[i+1]?).getD st0 else (r.cycle[0]?).getD st0
def stepOk (s:zhl) (r:RunD) (i:Nat):Bool:=leads s (((r.stem++r.cycle)[i]?).getD st0) ((r.acts[i]?).getD 0) (nxt r i)
def right (s:zhl) (r:RunD):Bool:=decide (r.cycle.length≠0/\r.acts.length=(r.stem++r.cycle).length) && (first s (((r.stem++r.cycle)[0]?).getD st0) && allN (r.stem++r.cycle).length (stepOk s r))
def atD (loc v:Int):StD:=⟨[loc],[eR v]⟩
mutual
inductive Wk:D->D->Prop
  | refl (x:D):Wk x x
  | nil (es:Nat):Wk (.raw zb2) (.sl es [])
  | sl (es:Nat) (a b:List (List D)) (h:WkR a b):Wk (.sl es a) (.sl es b)
inductive WkL:List D->List D->Prop
  | nil:WkL [] []
  | cons (x y:D) (xs ys:List D) (h:Wk x y) (hs:WkL xs ys):WkL (x :: xs) (y :: ys)
inductive WkR:List (List D)->List (List D)->Prop
  | nil:WkR [] []
  | cons (x y:List D) (xs ys:List (List D)) (h:WkL x y) (hs:WkR xs ys):WkR (x :: xs) (y :: ys)
end
def WkM (x y:D):Prop:=∀ (H:Im) (v:Value),DR H x v->DR H y v
def WkLM (xs ys:List D):Prop:=xs.length=ys.length/\∀ j (h:j<xs.length) (h':j<ys.length),WkM xs[j] ys[j]
def WkRM (xs ys:List (List D)):Prop:=xs.length=ys.length/\∀ i (h:i<xs.length) (h':i<ys.length),WkLM xs[i] ys[i]
theorem Wk.sound {x y:D} (h:Wk x y):WkM x y:=by
 refine Wk.rec (motive_1:=fun x y _=>WkM x y) (motive_2:=fun x y _=>WkLM x y) (motive_3:=fun x y _=>WkRM x y) ?_ ?_ ?_ ?_ ?_ ?_ ?_ h
 ·intro x H v h;exact h
 ·intro es H v h
  cases h with
  | raw v h=>exact DR.nil _ _ _ (fun _=>rfl) (bF _)
 ·intro es a b _ ih H v h
  cases h with
  | nil es ao c h hc =>
   have:b=[]:=cF.1 ih.1.symm
   subst this
   exact DR.nil _ _ _ h hc
  | sl es rows bb o c arr ty fz vs hp hb hl hc hes hv hr =>
   rw [ih.1] at hp hl ⊢
   refine DR.sl es b bb o c arr ty fz vs hp hb hl hc (fun i hi=>?_) (fun i hi=>?_) (fun i hi j hj=>?_)
   ·have h0:i<a.length:=by rw [ih.1];exact hi
    rw [<- (ih.2 i h0 hi).1];exact hes i h0
   ·exact hv i (by rw [ih.1];exact hi)
   ·have h0:i<a.length:=by rw [ih.1];exact hi
    have hj0:j<a[i].length:=by rw [(ih.2 i h0 hi).1];exact hj
    exact (ih.2 i h0 hi).2 j hj0 hj _ _ (hr i h0 j hj0)
 ·exact ⟨rfl,fun j h=>absurd h (Nat.not_lt_zero j)⟩
 ·intro x y xs ys _ _ h hs
  refine ⟨by simp [hs.1],fun j hj hj'=>?_⟩
  cases j with
  | zero=>exact h
  | succ j=>exact hs.2 j (by simpa using hj) (by simpa using hj')
 ·exact ⟨rfl,fun j h=>absurd h (Nat.not_lt_zero j)⟩
 ·intro x y xs ys _ _ h hs
  refine ⟨by simp [hs.1],fun j hj hj'=>?_⟩
  cases j with
  | zero=>exact h
  | succ j=>exact hs.2 j (by simpa using hj) (by simpa using hj')
inductive WkC:List C->List C->Prop
  | nil:WkC [] []
  | same (x:C) (xs ys:List C) (hs:WkC xs ys):WkC (x :: xs) (x :: ys)
  | d (x y:D) (xs ys:List C) (h:Wk x y) (hs:WkC xs ys):WkC (.d x :: xs) (.d y :: ys)
theorem WkC.sound {xs ys:List C} (h:WkC xs ys):∀ {vs:List Value}, zar (CR H B) xs vs->zar (CR H B) ys vs:=by
 induction h with
 | nil=>exact fun h=>h
 | same x xs ys _ ih =>
  intro vs k
  cases vs with
  | nil=>exact k.elim
  | cons v vs=>exact ⟨k.1,ih k.2⟩
 | d x y xs ys h _ ih =>
  intro vs k
  cases vs with
  | nil=>exact k.elim
  | cons v vs=>exact ⟨h.sound H v k.1,ih k.2⟩
inductive WkV:V->V->Prop
  | refl (x:V):WkV x x
  | c (x y:D) (h:Wk x y):WkV (.t (.c (.d x))) (.t (.c (.d y)))
  | agg (xs ys:List C) (h:WkC xs ys):WkV (.t (.agg xs)) (.t (.agg ys))
theorem WkV.sound {x y:V} (h:WkV x y) {v:Value} (k:VR H B x v):VR H B y v:=by
 cases h with
 | refl=>exact k
 | c x y h=>exact h.sound H v k
 | agg xs ys h=>obtain ⟨vs,e,k⟩:=k;exact ⟨vs,e,h.sound k⟩
inductive WkA:List V->List V->Prop
  | nil:WkA [] []
  | cons (x y:V) (xs ys:List V) (h:WkV x y) (hs:WkA xs ys):WkA (x :: xs) (y :: ys)
theorem WkA.sound {xs ys:List V} (h:WkA xs ys):∀ {vs:List Value}, zar (VR H B) xs vs->zar (VR H B) ys vs:=by
 induction h with
 | nil=>exact fun h=>h
 | cons x y xs ys h _ ih =>
  intro vs k
  cases vs with
  | nil=>exact k.elim
  | cons v vs=>exact ⟨h.sound k.1,ih k.2⟩
theorem Fn.argw {P:Program} {k:FuncId} {ps qs:List (Nat × L)} {args':List V} (h:Fn P k ps args' res qs) (hw:WkA args args'):Fn P k ps args res qs :=
 fun w H B vals pre=>h w H B vals ⟨pre.sat,pre.loc,pre.priv,pre.inj,hw.sound pre.arg,pre.tab⟩
theorem he_11:SlT eJ 46 22 1:=SlT.mk' Tryz.underlying46 (by kernel_rfl)
def zg6:List Int->Nat->List za2
  | [],_=>[]
  | c :: cs,i=>(if c≠0 then [⟨(i:Int),eR c⟩] else [])++zg6 cs (i+1)
def ofR (k:Int) (cs:List Int):za8:=⟨⟨zg6 cs 0,eR k⟩,false⟩
theorem ofP7_app:∀ (xs ys:List Int) (i:Nat),zg6 (xs++ys) i=zg6 xs i++zg6 ys (i+xs.length)
 | [],ys,i=>by simp [zg6]
 | x :: xs,ys,i=>by
  simp only [List.cons_append,zg6,ofP7_app xs ys (i+1),cE,bP]
  rw [show i+1+xs.length=i+(xs.length+1) by omega]
theorem ofP7_take {cs:List Int} {c:Int} (h:cs[j]?=some c):zg6 (cs.take (j+1)) 0=zg6 (cs.take j) 0++(if c≠0 then [⟨(j:Int),eR c⟩] else []):=by
 have hj:=(cX.1 h).1
 rw [bX,h,ofP7_app,bU,Nat.min_eq_left (by omega),cP];simp [zg6]
theorem ofP7_len:∀ (cs:List Int) (i:Nat),(zg6 cs i).length<=cs.length
 | [],_=>bJ _
 | c :: cs,i=>by
  have:=ofP7_len cs (i+1)
  simp only [zg6,bI,bP]
  split <;> simp <;> omega
theorem ofP7_mem:∀ (cs:List Int) (i:Nat),∀ p ∈ zg6 cs i,∃ c ∈ cs,p.c=eR c
 | [],_,p,hp=>by cases hp
 | c :: cs,i,p,hp=>by
  rcases cJ.1 hp with h | h
  ·split at h
   ·exact ⟨c,bW .., by rw [bG.1 h]⟩
   ·cases h
  ·obtain ⟨d,hd,e⟩:=ofP7_mem cs (i+1) p h
   exact ⟨d,cH _ hd,e⟩
theorem zfj {c:Int} (h:-1000<=c/\c<=1000):(eR c).abs.length<=2:=eQ (by have:=pw2;omega)
theorem ofR_ok (k:Int) (cs:List Int) (hk:-1000<=k/\k<=1000) (hc:∀ c ∈ cs,-1000<=c/\c<=1000) (hl:cs.length<=20):TokR 8 (ofR k cs):=⟨bC (ofP7_len cs 0) hl,fun p hp=>by
 obtain ⟨c,h1,h2⟩:=ofP7_mem cs 0 p hp
 rw [h2];exact ⟨eP _,bC (zfj (hc c h1)) (by decide)⟩,eP _,bC (zfj hk) (by decide)⟩
theorem rs2_ok {x y:za8} (hx:TokR 8 x) (hy:TokR 8 y):zg3 [x,y]:=⟨by show 2<=20;decide,fun r hr=>by
 rcases cC.1 hr with rfl | hr
 ·exact hx
 ·rw [bG.1 hr];exact hy⟩
theorem same7 (z:ZI):(z.neg == z.neg && decide (z.abs=z.abs))=true:=by simp
theorem SSame7 (z:ZI) (h:Lb z.abs):Fn eJ 19 [] [vz z,vz z] (vb true) []:=by have:=SRSame z z h h;rwa [same7] at this
theorem fewRs_ok {n:Int} {L:Nat} (h:zf8 rs n L=true) (hl:∀ r ∈ rs,TLb r.t):(rs.length:Int)<=n/\∀ r ∈ rs,TokR L r:=by
 unfold zf8 at h
 rw [cT,decide_eq_true_eq,cO] at h
 exact ⟨h.1,fun r hr=>fewR_ok (h.2 r hr) (hl r hr)⟩
theorem fewRs_rs {n:Int} (hn:n<=20) (h:zf8 rs n 8=true) (hl:∀ r ∈ rs,TLb r.t):zg3 rs:=by
 have:=fewRs_ok (L:=8) h hl;exact ⟨by omega,this.2⟩
theorem fewVs_ok {vs:List ZI} (h:fewVs vs 20 8=true) (hl:∀ z ∈ vs,Lb z.abs):VOk 8 vs/\vs.length<=20:=by
 unfold fewVs at h
 rw [cT,decide_eq_true_eq,cO] at h
 exact ⟨⟨by omega,fun z hz=>⟨hl z hz,by have:=of_decide_eq_true (h.2 z hz);omega⟩⟩,by omega⟩
abbrev zc9:List za8:=[(ofR 0 [2,(-1)]),(ofR 1 [(-3),1])]
def pcE:List (List za8):=(zbs zc9 0 9).1
def pE:List za8:=(pcE[0]?).getD []
def qE:za8:=za8.mk ((pE[0]?).getD (za8.mk (zax.mk [] (ZI.mk false [])) false)).t true
theorem pe1:zbs zc9 0 9=(pcE,0):=by kernel_rfl
theorem pe2:zbs zc9 0 0=([],3):=by kernel_rfl
theorem pe3:ze0 (za1 zc9 0) (za0 zc9 0) [(ZI.mk false []),(eR 2)]=(eR 1,true):=by kernel_rfl
theorem pe4:ze0 (za1 [(ofR (-1) [2]),(ofR 1 [(-2)])] 0) (za0 [(ofR (-1) [2]),(ofR 1 [(-2)])] 0) []=(eR 0,false):=by kernel_rfl
theorem pe5:pcE[0]?=some pE:=by kernel_rfl
theorem pe6:pE[0]?=some qE:=by kernel_rfl
theorem pe7:qE.eq=true:=rfl
theorem pe8:pcE.length=1/\pE.length=3:=⟨by kernel_rfl,by kernel_rfl⟩
theorem zen:zg3 zc9:=rs2_ok (ofR_ok 0 [2,(-1)] (by decide) (by decide) (by decide)) (ofR_ok 1 [(-3),1] (by decide) (by decide) (by decide))
theorem tightE_ok:zg3 [(ofR (-1) [2]),(ofR 1 [(-2)])]:=rs2_ok (ofR_ok (-1) [2] (by decide) (by decide) (by decide)) (ofR_ok 1 [(-2)] (by decide) (by decide) (by decide))
theorem SofR (k:Int) (cs:List Int) (hk:-1000<=k/\k<=1000) (hc:∀ c ∈ cs,-1000<=c/\c<=1000) (hl:cs.length<=20):Fn eJ 15 [] [vI k,(vIs cs)] (vR (ofR k cs)) []:=by
 refine fB Tryz.func15 rfl 34 fun w H B a h=>Jq 5 [] [(0,vI k),(1,(vIs cs)),(4,vp 5 0)] [(5,.box zR0)] h fun a w h=>?_
 obtain ⟨r1,er1,vr1,or1,lr1⟩:=mkZ (v:=k) (m:=2) (zfj ⟨by omega,by omega⟩);refine Jg 6 [(1,.call (eK (SROf k ⟨by omega,by omega⟩) (congrArg vz er1.symm)))] [0] [(5,vp 6 0)] [] [(6,.box ([nCl]++zi r1++[cB false]))] h fun a w h=>qW ?_;replace h:=zes 6 0 7 3 61 ([nCl]++zi r1++[cB false]) h;refine Je 8 [(1,.len (zac 1 zc4 cs))] [1] [(12,(vIs cs)),(13,vN cs.length),(14,vI 0)] h fun a w h=>qZ ?_
 refine zd3 (ι:=(Nat)) (fun j=>j<=cs.length)
   [] (fun j=>[(14,vN j)])
   [] (fun j=>[(6,.box ([.own 7 (zg6 (cs.take j) 0).length]++zi r1++[cB false])),(7,.row 61 3 ((zg6 (cs.take j) 0).map eV))])
   (fun j=>cs.length - j) 0 ?_ h ?_
 ·exact bF _
 clear h;rintro j a w hI h;have ol:=ofP7_len (cs.take j) 0;rw [bU] at ol;refine Je 8 [] [] [(15,vb (decide ((j:Int)<(cs.length:Int))))] h fun a w h=>qW (zaj ((j:Int)<(cs.length:Int)) h (fun hc1 hc1'=>?_) (fun hc4 hc4'=>?_))
 ·refine qU (za3 (qW (qZ ?_)));obtain ⟨x2,hx2⟩:=gl cs j;have bx2:=hc x2 (lM hx2);refine Je 8 [(1,.g (xD 17 12 tn_1 (zab hx2 (f:=zc4)) (eN 14 _)))] [15] [(6,vN j),(7,vI x2)] h fun a w h=>Je 8 [] [] [(20,vb (x2 != 0))] h fun a w h=>cS (x2 != 0) h (fun hc2=>?_) (fun hc3=>?_)
  ·obtain ⟨r3,er3,vr3,or3,lr3⟩:=mkZ (v:=x2) (m:=2) (zfj ⟨by omega,by omega⟩);refine Jh 8 [(5,.call (eK (SROf x2 ⟨by omega,by omega⟩) (congrArg vz er3.symm))),(7,.g (bD 28 ([(za2.mk (j:Int) r3)].map eV) [(27,vG ([cI (j:Int)]++zi r3))] tb_9 (.cons (i:=0) (eN 27 _) (.nil)) (by kernel_rfl) (by simp [eV]))),(8,.g (aD 29 23 28 7 8 (zg6 (cs.take j) 0) [(za2.mk (j:Int) r3)] eV tb_10 (by simp [eV])))] [6,7,20] [] [7] [(6,.box ([.own 8 ((zg6 (cs.take j) 0)++[(za2.mk (j:Int) r3)]).length]++zi r1++[cB false])),(8,.row 61 3 (((zg6 (cs.take j) 0)++[(za2.mk (j:Int) r3)]).map eV))] h fun a w h=>za6 (za3 (Jf 9 [(0,.j1 j)] [] [(14,vI ((j:Int)+1))] h fun a w h=>za3 ?_));rw [show (((zg6 (cs.take j) 0)++[(za2.mk (j:Int) r3)]):List za2)=(zg6 (cs.take (j+1)) 0) from (by rw [ofP7_take hx2,if_pos (by simpa using hc2),er3])] at h;replace h:=zfb 8 7 h;refine za9 (x:=j) (y:=j+1) h ?_ ?_
   ·have:=zad hx2;show j+1<=cs.length;omega
   show cs.length - (j+1)<cs.length - j;have:=zad hx2;omega
  refine qU (za6 (za3 (Jf 9 [(0,.j1 j)] [6,7,20] [(14,vI ((j:Int)+1))] h fun a w h=>za3 ?_)));rw [show ((zg6 (cs.take j) 0):List za2)=(zg6 (cs.take (j+1)) 0) from (by rw [ofP7_take hx2,if_neg (by simpa using hc3),dH])] at h;refine za9 (x:=j) (y:=j+1) h ?_ ?_
  ·have:=zad hx2;show j+1<=cs.length;omega
  show cs.length - (j+1)<cs.length - j;have:=zad hx2;omega
 refine exA (Jg 9 [] [5,12,13,14,15] [] [6] [(5,.box ([.own 7 (zg6 (cs.take j) 0).length]++zi r1++[cB false]))] h fun a w h=>qV ?_);rw [show ((zg6 (cs.take j) 0):List za2)=(zg6 cs 0) from (by rw [bL (by omega)])] at h;replace h:=pubX 7 3 61 ((zg6 cs 0).map eV) h [(zg6 cs 0).length] ⟨by first | exact (bE _).symm | (simp;done) | (simp;omega),trivial⟩;refine rA 5 ([cPs (zg6 cs 0)]++zi r1++[cB false]) h ha_1 rfl ?_
 first | rfl | (rw [er1];try rfl)
theorem SPiecing :Fn eJ 5 [] [] (vb true) []:=by
 refine fB Tryz.func5 rfl 80 fun w H B a h=>Jq 0 [] [(0,vb false)] [] h fun a w h=>Jg 0 [(0,.g (eO (d:=10) (len:=2) (rows:=[2,(-1)].map zc4) (rs:=[]) to_1 (.cons (i:=0) (eM (.int .i64 2) rfl) (.cons (i:=1) (eM (.int .i64 (-1)) rfl) (.nil))) (by kernel_rfl) rfl (by simp [zc4]) (by decide) (by decide))),(1,.call (SofR 0 [2,(-1)] (by decide) (by decide) (by decide))),(2,.g (eO (d:=12) (len:=2) (rows:=[(-3),1].map zc4) (rs:=[]) to_1 (.cons (i:=0) (eM (.int .i64 (-3)) rfl) (.cons (i:=1) (eM (.int .i64 1) rfl) (.nil))) (by kernel_rfl) rfl (by simp [zc4]) (by decide) (by decide))),(3,.call (SofR 1 [(-3),1] (by decide) (by decide) (by decide))),(4,.g (eO (d:=14) (len:=2) (rows:=[(ofR 0 [2,(-1)]),(ofR 1 [(-3),1])].map eW) (rs:=[(11,(vR (ofR 0 [2,(-1)]))),(13,(vR (ofR 1 [(-3),1])))]) kc_5 (.cons (i:=0) (eN 11 _) (.cons (i:=1) (eN 13 _) (.nil))) (by kernel_rfl) rfl (by simp [eW]) (by decide) (by decide)))] [] [(1,(vRs [(ofR 0 [2,(-1)]),(ofR 1 [(-3),1])]))] [] [] h fun a w h=>?_
 refine Jg 0 [(1,.call (eK (SPieces zc9 0 9 zen (by decide)) (show (.tup [.c (.d (.sl 1 ((zbs zc9 0 9).1.map (slD 4 eW)))),.c (cI (zbs zc9 0 9).2)]:V) = .tup [.c (.d (.sl 1 (pcE.map (slD 4 eW)))),.c (cI 0)] from by rw [pe1])))] [] [(2,vS 1 (pcE.map (slD 4 eW))),(3,vI 0)] [] [] h fun a w h=>Jg 0 [(1,.call (eK (SPieces zc9 0 0 zen (by decide)) (show (.tup [.c (.d (.sl 1 ((zbs zc9 0 0).1.map (slD 4 eW)))),.c (cI (zbs zc9 0 0).2)]:V) = .tup [.c (.d (.sl 1 ([].map (slD 4 eW)))),.c (cI 3)] from by rw [pe2])))] [] [(5,vI 3)] [] [] h fun a w h=>Jg 0 [(2,.call (SROf 2 ⟨by decide,by decide⟩)),(3,.g (eO (d:=29) (len:=2) (rows:=[(ZI.mk false []),(eR 2)].map ziD) (rs:=[(27,vG [cB false,.d (nsl [])]),(28,vz (eR 2))]) ty_5 (.cons (i:=0) (eN 27 _) (.cons (i:=1) (eN 28 _) (.nil))) (by kernel_rfl) rfl (by simp [ziD]) (by decide) (by decide))),(4,.call (eK (SFit zc9 0 [(ZI.mk false []),(eR 2)] zen ⟨by decide,fun z hz=>by rcases cC.1 hz with rfl | hz;exact ⟨zey,by decide⟩;rw [bG.1 hz];exact ⟨eP 2,by decide⟩⟩) (show (.tup [.agg (zi (ze0 (za1 zc9 0) (za0 zc9 0) [(ZI.mk false []),(eR 2)]).1),.c (cB (ze0 (za1 zc9 0) (za0 zc9 0) [(ZI.mk false []),(eR 2)]).2)]:V) = .tup [.agg (zi (eR 1)),.c (cB true)] from by rw [pe3])))] [1] [(6,vp 0 0),(7,vb true)] [] [(0,.box (zi (eR 1)))] h fun a w h=>Je 1 [(0,.g (eO (d:=34) (len:=1) (rows:=[2].map zc4) (rs:=[]) to_1 (.cons (i:=0) (eM (.int .i64 2) rfl) (.nil)) (by kernel_rfl) rfl (by simp [zc4]) (by decide) (by decide))),(1,.call (SofR (-1) [2] (by decide) (by decide) (by decide))),(2,.g (eO (d:=36) (len:=1) (rows:=[(-2)].map zc4) (rs:=[]) to_1 (.cons (i:=0) (eM (.int .i64 (-2)) rfl) (.nil)) (by kernel_rfl) rfl (by simp [zc4]) (by decide) (by decide))),(3,.call (SofR 1 [(-2)] (by decide) (by decide) (by decide))),(4,.g (eO (d:=38) (len:=2) (rows:=[(ofR (-1) [2]),(ofR 1 [(-2)])].map eW) (rs:=[(35,(vR (ofR (-1) [2]))),(37,(vR (ofR 1 [(-2)])))]) kc_5 (.cons (i:=0) (eN 35 _) (.cons (i:=1) (eN 37 _) (.nil))) (by kernel_rfl) rfl (by simp [eW]) (by decide) (by decide))),(5,.call (Fn.argw (eK (SFit [(ofR (-1) [2]),(ofR 1 [(-2)])] 0 [] tightE_ok ⟨by decide,fun z hz=>by cases hz⟩) (show (.tup [.agg (zi (ze0 (za1 [(ofR (-1) [2]),(ofR 1 [(-2)])] 0) (za0 [(ofR (-1) [2]),(ofR 1 [(-2)])] 0) []).1),.c (cB (ze0 (za1 [(ofR (-1) [2]),(ofR 1 [(-2)])] 0) (za0 [(ofR (-1) [2]),(ofR 1 [(-2)])] 0) []).2)]:V) = .tup [.agg (zi (eR 0)),.c (cB false)] from by rw [pe4])) (.cons _ _ _ _ (.refl _) (.cons _ _ _ _ (.refl _) (.cons _ _ _ _ (.c _ _ (.nil _)) .nil)))))] [] [(9,vb false)] h fun a w h=>Jq 2 [(1,.cmp (op:=.eql) (m:=0) (n:=0) (b:=true) .i64 rfl),(4,.len (c:=(.d (.sl 1 (pcE.map (slD 4 eW))))) (n:=pcE.length) (zac _ _ _)),(5,.cmp (op:=.eql) (m:=(pcE.length:Int)) (n:=1) (b:=true) .i64 (show ((pcE.length:Int) == 1)=true from by rw [beq_iff_eq];have:=pe8;omega)),(9,.g (xD 51 50 he_11 (zab pe5 (f:=(slD 4 eW))) (eM (.int .i64 0) rfl))),(11,.len (zac 4 eW pE)),(12,.cmp (op:=.eql) (m:=(pE.length:Int)) (n:=3) (b:=true) .i64 (show ((pE.length:Int) == 3)=true from by rw [beq_iff_eq];have:=pe8;omega)),(16,.g (xD 58 57 he_11 (zab pe5 (f:=(slD 4 eW))) (eM (.int .i64 0) rfl))),(18,.g (xD 60 59 kc_3 (zab pe6 (f:=eW)) (eM (.int .i64 0) rfl))),(24,.cmp (op:=.eql) (m:=3) (n:=3) (b:=true) .i64 rfl),(31,.call (SROf 1 ⟨by decide,by decide⟩)),(32,.call (SSame7 (eR 1) (eP _)))] [(0,vb true)] [] h fun a w h=>qV (rT (.c (cB true)) h rfl ?_)
 first | rfl | (rw [pe7];rfl)
theorem fit_lb {L H:List za4} {vs:List ZI}:Lb (ze0 L H vs).1.abs:=by
 unfold ze0
 split
 ·split <;> exact eP _
 ·exact eP _
def sysE:zhl:=⟨[⟨#[120]⟩],[⟨true,zero0,eR 3⟩],form0,[⟨⟨#[112]⟩,[⟨#[97]⟩,⟨#[98]⟩],.raw zb2⟩],[⟨0,0,1,form0,[⟨0,false,⟨[⟨0,eR 1⟩],eR 1⟩⟩]⟩]⟩
theorem e1:goS sysE (atD 0 2) 0 []=(atD 1 3,true):=by kernel_rfl
theorem e2:(goS sysE (atD 0 3) 0 []).2=false:=by kernel_rfl
theorem e3:stuck sysE (atD 0 3)=true:=by kernel_rfl
theorem e4:can sysE (atD 0 0) 0=true:=by kernel_rfl
section
variable {w:World} {n:Nat}
theorem rep_ZIl:RepN w n 23 (slD 2 ziD) (fun xs=>xs.length<=maxLen/\∀ x ∈ xs,Lb x.abs) :=
 rep_slice (k:=2) Tryz.underlying23 (by kernel_rfl) (by decide) (fun _=>rfl) rep_ZI
end
def RkOk (r:za8):Prop:=TOk 200000000 200 r.t
theorem RkOk.of {L:Nat} {r:za8} (h:TOk n L r.t) (hn:n<=200000000) (hL:L<=200):RkOk r:=h.mono hn hL
def zfa (rs:List za8) (vs:List ZI):Bool:=rs.all (zf3 vs)
def zer (rs:List za8) (v:Int):Bool:=rs.all (fun r=>!r.eq) && decide (v>=0/\v<=1000)
def ext0 (vs:List ZI) (n:Nat):List ZI:=vs++List.replicate (n - vs.length) (eR 0)
def zce (vs:List ZI) (v:Nat) (x:ZI):List ZI:=(ext0 vs (v+1)).set v x
theorem SRHoldsA (r:za8) (vs:List ZI) (hM:M<=300) (hv:VOk M vs) (hr:RkOk r):Fn eJ 28 [] [(vR r),(vZs vs)] (vb (zf3 vs r)) []:=by
 refine fB Tryz.func28 rfl 17 fun w H B a h=>Jq 0 [] [(1,(vZs vs)),(2,vp 0 0),(4,vb false)] [(0,.box (zR_ r))] h fun a w h=>?_
 obtain ⟨r1,er1,vr1,or1,lr1⟩:=mkZ (v:=zcc r.t vs) (m:=600) (bC (zff hr (by decide) hv) (by omega));refine Je 1 [(3,.call (eK (SRValue r.t vs hr (by decide) (by omega) hv) (congrArg vz er1.symm))),(4,.call (zcq r1 or1 (by omega)))] [1] [(5,vI (sgn r1.val))] h fun a w h=>qW (Jg 1 [] [2] [(12,vb r.eq)] [0] [] h fun a w h=>cS r.eq h (fun hc1=>?_) (fun hc2=>?_))
 ·refine Jg 1 [] [12] [(4,vb (sgn r1.val == 0))] [] [] h fun a w h=>qV (zae (rT (.c (cB (sgn r1.val == 0))) h rfl ?_))
  have hz:zf3 vs r=(sgn r1.val == 0):=by
   unfold zf3;rw [<- vr1]
   cases he:r.eq <;> simp_all <;> omega
  rw [hz];try rfl
 refine qU (za3 (Jq 1 [] [(4,vb (decide (sgn r1.val>=0)))] [] h fun a w h=>qV (rT (.c (cB (decide (sgn r1.val>=0)))) h rfl ?_)))
 have hz:zf3 vs r=(decide (sgn r1.val>=0)):=by
  unfold zf3;rw [<- vr1]
  cases he:r.eq <;> simp_all <;> omega
 rw [hz];try rfl
theorem SRAll (rs:List za8) (vs:List ZI) (hM:M<=300) (hv:VOk M vs) (hrk:∀ r ∈ rs,RkOk r) (hl:rs.length<=9223372036854775807):Fn eJ 11 [] [(vRs rs),(vZs vs)] (vb (zfa rs vs)) []:=by
 refine fB Tryz.func11 rfl 19 fun w H B a h=>Jq 0 [] [(0,(vRs rs)),(1,(vZs vs)),(4,vb false)] [] h fun a w h=>qW (Jg 0 [] [] [(5,vI 0)] [] [] h fun a w h=>qZ ?_)
 refine zd3 (ι:=(Nat)) (fun j=>j<=rs.length/\(rs.take j).all (zf3 vs)=true)
   [4] (fun j=>[(5,vN j)])
   [] (fun j=>[])
   (fun j=>rs.length - j) 0 ?_ h ?_
 ·exact ⟨bF _,rfl⟩
 clear h;rintro j a w hI h;obtain ⟨hI1,hI2⟩:=hI;refine qW (Jg 0 [(2,.len (zac 4 eW rs))] [] [(9,vb (decide ((j:Int)<(rs.length:Int))))] [] [] h fun a w h=>zaj ((j:Int)<(rs.length:Int)) h (fun hc1 hc1'=>?_) (fun hc4 hc4'=>?_))
 ·refine qU (za3 (qW (qZ ?_)));obtain ⟨x1,hx1⟩:=gl rs j;refine Jg 0 [(2,.g (xD 14 12 kc_3 (zab hx1 (f:=eW)) (eN 13 _))),(5,.call (SRHoldsA x1 vs hM hv (hrk x1 (lM hx1))))] [9] [(18,vb (!(zf3 vs x1)))] [] [] h fun a w h=>cS (!(zf3 vs x1)) h (fun hc2=>?_) (fun hc3=>?_)
  ·refine Jg 0 [] [18] [(4,vb false)] [] [] h fun a w h=>qV (zan (zae (zae (zan (zae (rT (.c (cB false)) h rfl ?_))))));have hz:zfa rs vs=false:=ze2 hx1 (show (zf3 vs x1)=false from by simpa using hc2);rw [hz];try rfl
  refine qU (za6 (za3 (Jh 0 [(1,.j1 j)] [18] [(5,vI ((j:Int)+1))] [] [] h fun a w h=>za3 (za9 (x:=j) (y:=j+1) h ?_ ?_))))
  ·exact ⟨by have:=zad hx1;omega,zg2 hx1 hI2 (show (zf3 vs x1)=true from by simpa using hc3)⟩
  show rs.length - (j+1)<rs.length - j;have:=zad hx1;omega
 refine exA (Jq 0 [] [(4,vb true)] [] h fun a w h=>qV (rT (.c (cB true)) h rfl ?_));have hz:zfa rs vs=true:=zgo (dF hc4) hI2;rw [hz];try rfl
theorem SR4Same (r:za8) (hr:RkOk r):Fn eJ 16 [] [(vR r),(vR r)] (vb true) []:=by
 refine fB Tryz.func16 rfl 17 fun w H B a h=>Jq 0 [] [(2,vp 0 0),(3,vp 1 0),(4,vb false)] [(0,.box (zR_ r)),(1,.box (zR_ r))] h fun a w h=>Jq 2 [(4,.cmpb .eql (m:=r.eq) (n:=r.eq) (b:=true) (.inl ⟨rfl,(show (r.eq == r.eq)=true from by simp).symm⟩)),(10,.call (SRTSame r.t (n:=200000000) (L:=200) hr (by decide)))] [(4,vb true)] [] h fun a w h=>qV (rT (.c (cB true)) h rfl ?_)
 first | rfl | (cases r.eq <;> rfl)
theorem SPlainL (rs:List za8) (v:Int) (hl:rs.length<=9223372036854775807):Fn eJ 9 [] [(vRs rs),vI v] (vb (zer rs v)) []:=by
 refine fB Tryz.func9 rfl 22 fun w H B a h=>Jq 0 [] [(0,(vRs rs)),(1,vI v),(4,vb false)] [] h fun a w h=>qW (Jg 0 [(1,.len (zac 4 eW rs))] [0] [(7,(vRs rs)),(8,vN rs.length),(9,vI 0)] [] [] h fun a w h=>qZ ?_)
 refine zd3 (ι:=(Nat)) (fun j=>j<=rs.length/\(rs.take j).all (fun r=>!r.eq)=true)
   [4] (fun j=>[(9,vN j)])
   [] (fun j=>[])
   (fun j=>rs.length - j) 0 ?_ h ?_
 ·exact ⟨bF _,rfl⟩
 clear h;rintro j a w hI h;obtain ⟨hI1,hI2⟩:=hI;refine Jg 0 [] [] [(10,vb (decide ((j:Int)<(rs.length:Int))))] [] [] h fun a w h=>qW (zaj ((j:Int)<(rs.length:Int)) h (fun hc1 hc1'=>?_) (fun hc4 hc4'=>?_))
 ·refine qU (za3 (qW (qZ ?_)));obtain ⟨x1,hx1⟩:=gl rs j;refine Jg 0 [(0,.g (xD 11 7 kc_3 (zab hx1 (f:=eW)) (eN 9 _)))] [10] [(6,vp 0 0)] [] [(0,.box (zR_ x1))] h fun a w h=>Jg 1 [] [6] [(14,vb x1.eq)] [0] [] h fun a w h=>cS x1.eq h (fun hc2=>?_) (fun hc3=>?_)
  ·refine Jg 1 [] [14] [(4,vb false)] [] [] h fun a w h=>qV (zan (zae (zae (zan (zae (rT (.c (cB false)) h rfl ?_))))));have hz:zer rs v=false:=by unfold zer;rw [ze2 hx1 (show (!x1.eq)=false from by rw [hc2];rfl)];rfl
   rw [hz];try rfl
  refine qU (za6 (za3 (Jh 1 [(0,.j1 j)] [14] [(9,vI ((j:Int)+1))] [] [] h fun a w h=>za3 (za9 (x:=j) (y:=j+1) h ?_ ?_))))
  ·exact ⟨by have:=zad hx1;omega,zg2 hx1 hI2 (show (!x1.eq)=true from by rw [hc3];rfl)⟩
  show rs.length - (j+1)<rs.length - j;have:=zad hx1;omega
 refine exA ?_
 rcases bK (decide (v>=0)) with hc5 | hc6
 ·have hc5':=dT hc5;refine Jq 1 [(1,.cmp (op:=.geq) (m:=v) (n:=0) (b:=true) .i64 hc5)] [(4,vb (decide (v<=1000)))] [] h fun a w h=>qV (rT (.c (cB (decide (v<=1000)))) h rfl ?_);have hz:zer rs v=(decide (v<=1000)):=by unfold zer;rw [zgo (dF hc4) hI2,Bool.true_and];have h0:=dT hc5;exact decide_eq_decide.2 ⟨fun e=>e.2,fun e=>⟨h0,e⟩⟩
  rw [hz];try rfl
 have hc6':=dF hc6;refine Jq 1 [(1,.cmp (op:=.geq) (m:=v) (n:=0) (b:=false) .i64 hc6)] [(4,vb false)] [] h fun a w h=>qV (rT (.c (cB false)) h rfl ?_);have hz:zer rs v=(false):=by unfold zer;rw [zgo (dF hc4) hI2,Bool.true_and];rw [decide_eq_false (fun e=>dF hc6 e.1)]
 rw [hz];try rfl
theorem SWith (vs:List ZI) (v:Nat) (x:ZI) (hv:v<=1000) (hl:vs.length<=20):Fn eJ 12 [] [(vZs vs),vN v,vz x] (vZs (zce vs v x)) []:=by
 refine fB Tryz.func12 rfl 24 fun w H B a h=>Jq 5 [] [(0,(vZs vs)),(1,vN v),(5,vp 5 0),(6,vW zb2)] [(5,.box (zi x))] h fun a w h=>Jg 6 [(0,.g (Op.buildE (d:=8) (n:=6) ty_5)),(2,.g (Op.appOD (d:=10) (t:=8) (u:=9) (n:=6) (n':=7) (len:=0) (len':=vs.length) (rows:=[].map ziD) (rows2:=vs.map ziD) (rows':=vs.map ziD) kk_4 (by first | exact (bE _).symm | simp) (by first | (rw [bI,bE];done) | simp) (by simp) (by simp [ziD]) (by first | omega | (simp at *;done) | (simp at *;omega))))] [0] [(7,vO 7 vs.length)] [] [(7,.row 33 2 (vs.map ziD))] h fun a w h=>qW (qZ ?_)
 replace h:=cvM [] [(7,vO 7 (vs++List.replicate 0 (eR 0)).length)] [] [(7,.row 33 2 ((vs++List.replicate 0 (eR 0)).map ziD))] (by rw [<- show (vs:List ZI)=(vs++List.replicate 0 (eR 0)) from (by simp)]; try kernel_rfl) h
 refine zd3 (ι:=(Nat)) (fun j=>j<=v+1 - vs.length)
   [] (fun j=>[(7,vO 7 (vs++List.replicate j (eR 0)).length)])
   [] (fun j=>[(7,.row 33 2 ((vs++List.replicate j (eR 0)).map ziD))])
   (fun j=>v+1 - vs.length - j) 0 ?_ h ?_
 ·exact bF _
 clear h;rintro j a w hI h;have lej:(vs++List.replicate j (eR 0)).length=vs.length+j:=by simp
 refine qW (Je 8 [] [] [(14,vb (decide (((vs++List.replicate j (eR 0)).length:Int)<=(v:Int))))] h fun a w h=>zaj (((vs++List.replicate j (eR 0)).length:Int)<=(v:Int)) h (fun hc1 hc1'=>?_) (fun hc2 hc2'=>?_))
 ·refine qU (za3 (qZ (Jh 8 [(2,.g (bD 17 ([(ZI.mk false [])].map ziD) [(16,vG [cB false,.d (nsl [])])] ty_5 (.cons (i:=0) (eN 16 _) (.nil)) (by kernel_rfl) (by simp [ziD]))),(3,.g (aD 18 15 17 7 8 (vs++List.replicate j (eR 0)) [(ZI.mk false [])] ziD kk_4 (by simp [ziD])))] [14] [(7,vO 8 ((vs++List.replicate j (eR 0))++[(ZI.mk false [])]).length)] [7] [(8,.row 33 2 (((vs++List.replicate j (eR 0))++[(ZI.mk false [])]).map ziD))] h fun a w h=>za6 (za3 ?_))));rw [show (((vs++List.replicate j (eR 0))++[(ZI.mk false [])]):List ZI)=(vs++List.replicate (j+1) (eR 0)) from (by rw [cE,List.replicate_succ', ];rfl)] at h;replace h:=zfb 8 7 h;refine za9 (x:=j) (y:=j+1) h ?_ ?_
  ·have hc:=dT hc1;show j+1<=v+1 - vs.length;omega
  have hc:=dT hc1;show v+1 - vs.length - (j+1)<v+1 - vs.length - j;omega
 refine exA ?_;rw [show ((vs++List.replicate j (eR 0)):List ZI)=(ext0 vs (v+1)) from (by have hc:=dF hc2;unfold ext0;rw [show j=v+1 - vs.length by omega])] at h;have lext:(ext0 vs (v+1)).length>v:=by unfold ext0;rw [bI,dS];omega
 obtain ⟨x1,hx1⟩:=gl (ext0 vs (v+1)) v;refine Jq 9 [(3,.g (xO 22 19 7 (ext0 vs (v+1)).length v tt_6 (eN 20 _))),(4,.g (Op.storeR (t:=22) (n:=7) (i:=v) (fo:=0) (rty:=33) (es:=2) (r:=ziD x1) (ds:=[.raw (.bool x.neg),nsl x.abs]) (rs:=[(21,vz x)]) (rows:=(ext0 vs (v+1)).map ziD) (rows':=((ext0 vs (v+1)).set v x).map ziD) zct (eN 21 _) rfl rfl rfl (zab hx1 (f:=ziD)) (by simp [ziD]) (zch (xs:=(ext0 vs (v+1))) (F:=ziD) v _ _ rfl)))] [(6,vW zb2),(7,vO 7 (ext0 vs (v+1)).length)] [(7,.row 33 2 (((ext0 vs (v+1)).set v x).map ziD))] h fun a w h=>Jp 9 [] [(6,vO 7 (ext0 vs (v+1)).length)] h fun a w h=>qV ?_;replace h:=cvM [] [] [] [(7,.row 33 2 ((zce vs v x).map ziD))] (by rw [<- show (((ext0 vs (v+1)).set v x):List ZI)=(zce vs v x) from rfl]; try kernel_rfl) h;have lwv:(zce vs v x).length=(ext0 vs (v+1)).length:=List.length_set ..;replace h:=pubX 7 2 33 ((zce vs v x).map ziD) h [(ext0 vs (v+1)).length] ⟨by first | exact (bE _).symm | (simp;done) | (simp;omega),trivial⟩;refine rT (.c (cZs (zce vs v x))) h rfl ?_;rfl
def zag (rs:List za8):List Int:=rs.flatMap fun r=>zb9 r.t.parts
def zc5 (rs:List za8) (st:Int × Bool × Int) (x:Int):Int × Bool × Int:=if (decide (st.1<0) || (zb8 (zbp rs x) && !st.2.1) || ((zb8 (zbp rs x) == st.2.1) && decide ((((za1 rs x).length*(za0 rs x).length:Nat):Int)<st.2.2)))=true then (x,zb8 (zbp rs x),(((za1 rs x).length*(za0 rs x).length:Nat):Int)) else st
def zal (rs:List za8):Int × Bool × Int:=(ze4 (zag rs)).foldl (zc5 rs) (-1,false,0)
theorem zf7 {f:β->α->β} {u:List α} {i:Nat} {x:α} {z:β} (h:u[i]?=some x):(u.take (i+1)).foldl f z=f ((u.take i).foldl f z) x:=by
 rw [bX,h,dJ];rfl
theorem cost_le (h:RsB rs) (v:Int):(za1 rs v).length*(za0 rs v).length<=1099511627776:=Nat.mul_le_mul (lows_lenB h v) (zgk h v)
theorem varsAll_len (h:∀ r ∈ rs,TOk 1048576 1048576 r.t):(zag rs).length<=rs.length*1048576:=by
 unfold zag
 induction rs with
 | nil=>simp
 | cons r rs ih =>
  rw [dI,bI,bP,Nat.add_mul]
  have h1:=ih (fun q hq=>h q (cH _ hq))
  have h2:=zfc r.t.parts
  have h3:=(h r (bW ..)).len
  omega
theorem mem_take {xs:List α} {x:α} (h:x ∈ xs.take n):x ∈ xs:=List.mem_of_mem_take h
theorem SRelVars (r:za8) (hr:TOk 1048576 1048576 r.t):Fn eJ 20 [] [(vR r)] (vIs (zb9 r.t.parts)) []:=by
 refine fB Tryz.func20 rfl 6 fun w H B a h=>Jq 0 [] [(1,vp 0 0),(2,vW zb2)] [(0,.box (zR_ r))] h fun a w h=>Jq 1 [(2,.call (STVars r.t hr (by decide) (by decide)))] [(2,(vIs (zb9 r.t.parts)))] [] h fun a w h=>qV (rT (.c (cIs (zb9 r.t.parts))) h rfl ?_)
 rfl
theorem SChooseB (rs:List za8) (hrs:RsB rs):Fn eJ 6 [] [.t (.c (.d (.sl 4 (rs.map eW))))] (.tup [.c (.d (.raw (.int .i64 (zal rs).1))),.c (.d (.raw (.bool (zal rs).2.1)))]) []:=by
 have lrs:=hrs.1;refine fB Tryz.func6 rfl 70 fun w H B a h=>Jq 5 [] [(0,.t (.c (.d (.sl 4 (rs.map eW))))),(2,vI 0),(3,vb false)] [] h fun a w h=>Jg 5 [] [] [(4,.t (.c (.d (.raw zb2))))] [] [] h fun a w h=>qW ?_
 replace h:=nilOSx 4 0 5 1 3 (.t (.c (.d (.raw zb2)))) h;refine Je 6 [(1,.len (zac 4 eW rs))] [] [(13,.t (.c (.d (.sl 4 (rs.map eW))))),(14,vN rs.length),(15,vI 0)] h fun a w h=>qZ ?_
 refine zd3 (ι:=(Nat)) (fun j=>j<=rs.length)
   [] (fun j=>[(4,.t (.c (.own 5 ((rs.take j).flatMap fun r=>zb9 r.t.parts).length))),(15,vN j)])
   [] (fun j=>[(5,.row 3 1 (((rs.take j).flatMap fun r=>zb9 r.t.parts).map zc4))])
   (fun j=>rs.length - j) 0 ?_ h ?_
 ·exact bF _
 clear h;rintro j a w hI h;have lvj:((rs.take j).flatMap fun r=>zb9 r.t.parts).length<=1099511627776:=bC (varsAll_len (fun r hr=>hrs.2 r (mem_take hr))) (by rw [bU];omega);refine Je 6 [] [] [(16,vb (decide ((j:Int)<(rs.length:Int))))] h fun a w h=>qW (zaj ((j:Int)<(rs.length:Int)) h (fun hc1 hc1'=>?_) (fun hc2 hc2'=>?_))
 ·refine qU (za3 (qW (qZ ?_)));obtain ⟨x1,hx1⟩:=gl rs j;have gx1:TOk 1048576 1048576 x1.t:=hrs.2 x1 (lM hx1);have lvxx1:(zb9 x1.t.parts).length<=1048576:=bC (zfc _) gx1.len;refine Jg 6 [(0,.g (xD 17 13 kc_3 (zab hx1 (f:=eW)) (eN 15 _)))] [16] [(6,vp 6 0)] [] [(6,.box ([.d (.sl 3 (x1.t.parts.map eV))]++zi x1.t.k++[.d (.raw (.bool x1.eq))]))] h fun a w h=>Jh 7 [(2,.call (SRelVars x1 gx1)),(3,.g (aD 22 19 21 5 7 ((rs.take j).flatMap fun r=>zb9 r.t.parts) (zb9 x1.t.parts) zc4 tb_2 (by simp [zc4])))] [6] [(4,.t (.c (.own 7 (((rs.take j).flatMap fun r=>zb9 r.t.parts)++(zb9 x1.t.parts)).length)))] [5,6] [(7,.row 3 1 ((((rs.take j).flatMap fun r=>zb9 r.t.parts)++(zb9 x1.t.parts)).map zc4))] h fun a w h=>za6 (za3 (Jf 8 [(0,.j1 j)] [] [(15,vI ((j:Int)+1))] h fun a w h=>za3 ?_));rw [show ((((rs.take j).flatMap fun r=>zb9 r.t.parts)++(zb9 x1.t.parts)):List Int)=((rs.take (j+1)).flatMap fun r=>zb9 r.t.parts) from (zbv (g:=fun r=>zb9 r.t.parts) hx1 rfl)] at h;replace h:=zfb 7 5 h;refine za9 (x:=j) (y:=j+1) h ?_ ?_
  ·have:=zad hx1;show j+1<=rs.length;omega
  show rs.length - (j+1)<rs.length - j;have:=zad hx1;omega
 refine exA ?_;rw [show (((rs.take j).flatMap fun r=>zb9 r.t.parts):List Int)=(zag rs) from (by unfold zag;rw [bL (by omega)])] at h;have lva:(zag rs).length<=1099511627776:=bC (varsAll_len hrs.2) (by omega);replace h:=zfb 5 0 h;have luz:(ze4 (zag rs)).length<=1099511627776:=by have h1:=Lib.compact_length_le (zf1 (zag rs));rw [zfi] at h1;show (Lib.compact _).length<=1099511627776;omega
 refine Jg 8 [(1,.call (SSortI (zag rs) (by omega)))] [13,14,15,16] [] [] [(0,.row 3 1 ((zf1 (zag rs)).map zc4))] h fun a w h=>Je 8 [] [] [(2,vI (-1)),(7,vI 0)] h fun a w h=>qW (Jg 8 [(1,.call (SCompactN (zf1 (zag rs)) (zag rs).length (zfi _).symm (by rw [zfi];omega)))] [4] [(27,.t (.c (.own 0 (ze4 (zag rs)).length))),(28,vI ((ze4 (zag rs)).length:Int)),(29,vI 0)] [] [(0,.row 3 1 ((comR (zf1 (zag rs))).map zc4))] h fun a w h=>qZ ?_)
 refine zd3 (ι:=(Nat) × (Int) × (Bool) × (Int)) (fun (i,v,e,b)=>i<=(ze4 (zag rs)).length/\((ze4 (zag rs)).take i).foldl (zc5 rs) (-1,false,0)=(v,e,b))
   [] (fun (i,v,e,b)=>[(2,vI v),(3,vb e),(7,vI b),(29,vN i)])
   [] (fun (i,v,e,b)=>[])
   (fun (i,v,e,b)=>(ze4 (zag rs)).length - i) (0,(-1),false,0) ?_ h ?_
 ·exact ⟨bF _,rfl⟩
 clear h;rintro ⟨i,v,e,b⟩ a w hI h;dsimp only at h;obtain ⟨hI1,hI2⟩:=hI;refine Je 8 [] [] [(30,vb (decide ((i:Int)<((ze4 (zag rs)).length:Int))))] h fun a w h=>qW (zaj ((i:Int)<((ze4 (zag rs)).length:Int)) h (fun hc3 hc3'=>?_) (fun hc16 hc16'=>?_))
 ·refine qU (za3 (qW (qZ ?_)));obtain ⟨x5,hux5⟩:∃ z_:Int,(ze4 (zag rs))[i]?=some z_:=⟨_,bN (by omega)⟩;refine Je 8 [(0,.g (xO 31 27 0 (ze4 (zag rs)).length i tb_1 (eN 29 _))),(1,.g (Op.loadR_c (d:=32) (t:=31) (n:=0) (i:=i) (fo:=0) (rty:=3) (es:=1) (x:=(.raw (.int .i64 x5))) tl_7 rfl (zab (comR_at hux5) (f:=zc4)) rfl))] [30] [(9,vI x5)] h fun a w h=>?_;have hcs6:=cost_le hrs x5;have nlx:=lows_lenB hrs x5;have nhx:=zgk hrs x5;refine Jg 8 [(2,.call (SsplitB rs x5 hrs))] [] [(10,vp 8 0)] [] [(8,.box [.d (.sl 5 ((za1 rs x5).map za4.d)),.d (.sl 5 ((za0 rs x5).map za4.d)),.d (.sl 4 ((za5 rs x5).map eW))])] h fun a w h=>Jg 9 [(1,.call (SExact (zbp rs x5) (lows_w hrs x5) (highs_w hrs x5) (bC (lows_lenB hrs x5) (by decide)) (bC (zgk hrs x5) (by decide)))),(4,.len (zac 5 za4.d (za1 rs x5))),(7,.len (zac 5 za4.d (za0 rs x5))),(8,.g (Op.arith (op:=.mul) (d:=44) (xt:=3) (yt:=3) (k:=.i64) (m:=((za1 rs x5).length:Int)) (n:=((za0 rs x5).length:Int)) (r:=(((za1 rs x5).length*(za0 rs x5).length:Nat):Int)) (eN 40 _) (eN 43 _) (.inr (.inr ⟨rfl,(Int.natCast_mul _ _)⟩)) i6))] [10] [(11,vb (zb8 (zbp rs x5))),(12,vI (((za1 rs x5).length*(za0 rs x5).length:Nat):Int))] [8] [] h fun a w h=>?_
  rcases bK (decide (v<0)) with hc4 | hc5
  ·have hc4':=dT hc4;refine Je 9 [(1,.cmp (op:=.lss) (m:=v) (n:=0) (b:=true) .i64 hc4)] [] [(63,vb true)] h fun a w h=>cS true h (fun _=>?_) nofun
   refine Jf 9 [] [9,11,12,63] [(2,vI x5),(3,vb (zb8 (zbp rs x5))),(7,vI (((za1 rs x5).length*(za0 rs x5).length:Nat):Int))] h fun a w h=>za6 (za3 (Jf 9 [(0,.j1 i)] [] [(29,vI ((i:Int)+1))] h fun a w h=>za3 (za9 (x:=(i,v,e,b)) (y:=(i+1,x5,zb8 (zbp rs x5),(((za1 rs x5).length*(za0 rs x5).length:Nat):Int))) h ?_ ?_)))
   ·have:=zad hux5;refine ⟨by omega,?_⟩;rw [zf7 hux5,hI2];show zc5 rs (v,e,b) x5=(x5,zb8 (zbp rs x5),(((za1 rs x5).length*(za0 rs x5).length:Nat):Int));unfold zc5;have q1:=hc4
    cases he:e <;> cases hn:zb8 (zbp rs x5) <;> simp_all <;> (first | omega | (intro hq;omega))
   show (ze4 (zag rs)).length - (i+1)<(ze4 (zag rs)).length - i;have:=zad hux5;omega
  have hc5':=dF hc5
  rcases bK (zb8 (zbp rs x5)) with hc6 | hc11
  ·rw [hc6] at h
   rcases bK e with hc7 | hc10
   ·rw [hc7] at h;refine Jq 9 [(1,.cmp (op:=.lss) (m:=v) (n:=0) (b:=false) .i64 hc5),(12,.cmpb .eql (m:=true) (n:=true) (b:=true) (.inl ⟨rfl,(show (true == true)=true from rfl).symm⟩))] [(0,.t (.c (.d (.sl 4 (rs.map eW))))),(2,vI v),(3,vb true),(7,vI b),(9,vI x5),(11,vb true),(12,vI (((za1 rs x5).length*(za0 rs x5).length:Nat):Int)),(27,.t (.c (.own 0 (ze4 (zag rs)).length))),(28,vI ((ze4 (zag rs)).length:Int)),(29,vN i),(63,vb (decide ((((za1 rs x5).length*(za0 rs x5).length:Nat):Int)<b)))] [(0,.row 3 1 ((comR (zf1 (zag rs))).map zc4))] h fun a w h=>zaj ((((za1 rs x5).length*(za0 rs x5).length:Nat):Int)<b) h (fun hc8 hc8'=>?_) (fun hc9 hc9'=>?_)
    ·refine Jf 9 [] [9,11,12,63] [(2,vI x5),(7,vI (((za1 rs x5).length*(za0 rs x5).length:Nat):Int))] h fun a w h=>za6 (za3 (Jf 9 [(0,.j1 i)] [] [(29,vI ((i:Int)+1))] h fun a w h=>za3 (za9 (x:=(i,v,e,b)) (y:=(i+1,x5,true,(((za1 rs x5).length*(za0 rs x5).length:Nat):Int))) h ?_ ?_)))
     ·have:=zad hux5;refine ⟨by omega,?_⟩;rw [zf7 hux5,hI2];show zc5 rs (v,e,b) x5=(x5,true,(((za1 rs x5).length*(za0 rs x5).length:Nat):Int));unfold zc5;have q1:=hc5;have q1:=hc6;have q1:=hc7;have q1:=hc8
      cases he:e <;> cases hn:zb8 (zbp rs x5) <;> simp_all <;> (first | omega | (intro hq;omega))
     show (ze4 (zag rs)).length - (i+1)<(ze4 (zag rs)).length - i;have:=zad hux5;omega
    refine qU (za6 (za3 (Jf 9 [(0,.j1 i)] [9,11,12,63] [(29,vI ((i:Int)+1))] h fun a w h=>za3 (za9 (x:=(i,v,e,b)) (y:=(i+1,v,true,b)) h ?_ ?_))))
    ·have:=zad hux5;refine ⟨by omega,?_⟩;rw [zf7 hux5,hI2];show zc5 rs (v,e,b) x5=(v,true,b);unfold zc5;have q1:=hc5;have q1:=hc6;have q1:=hc7;have q1:=hc9
     cases he:e <;> cases hn:zb8 (zbp rs x5) <;> simp_all <;> (first | omega | (intro hq;omega))
    show (ze4 (zag rs)).length - (i+1)<(ze4 (zag rs)).length - i;have:=zad hux5;omega
   rw [hc10] at h;refine Jq 9 [(1,.cmp (op:=.lss) (m:=v) (n:=0) (b:=false) .i64 hc5)] [(0,.t (.c (.d (.sl 4 (rs.map eW))))),(2,vI v),(3,vb false),(7,vI b),(9,vI x5),(11,vb true),(12,vI (((za1 rs x5).length*(za0 rs x5).length:Nat):Int)),(27,.t (.c (.own 0 (ze4 (zag rs)).length))),(28,vI ((ze4 (zag rs)).length:Int)),(29,vN i),(63,vb true)] [(0,.row 3 1 ((comR (zf1 (zag rs))).map zc4))] h fun a w h=>cS true h (fun _=>?_) nofun
   refine Jf 9 [] [9,11,12,63] [(2,vI x5),(3,vb true),(7,vI (((za1 rs x5).length*(za0 rs x5).length:Nat):Int))] h fun a w h=>za6 (za3 (Jf 9 [(0,.j1 i)] [] [(29,vI ((i:Int)+1))] h fun a w h=>za3 (za9 (x:=(i,v,e,b)) (y:=(i+1,x5,true,(((za1 rs x5).length*(za0 rs x5).length:Nat):Int))) h ?_ ?_)))
   ·have:=zad hux5;refine ⟨by omega,?_⟩;rw [zf7 hux5,hI2];show zc5 rs (v,e,b) x5=(x5,true,(((za1 rs x5).length*(za0 rs x5).length:Nat):Int));unfold zc5;have q1:=hc5;have q1:=hc6;have q1:=hc10
    cases he:e <;> cases hn:zb8 (zbp rs x5) <;> simp_all <;> (first | omega | (intro hq;omega))
   show (ze4 (zag rs)).length - (i+1)<(ze4 (zag rs)).length - i;have:=zad hux5;omega
  rw [hc11] at h
  rcases bK (false == e) with hc12 | hc15
  ·refine Jq 9 [(1,.cmp (op:=.lss) (m:=v) (n:=0) (b:=false) .i64 hc5),(12,.cmpb .eql (m:=false) (n:=e) (b:=true) (.inl ⟨rfl,hc12.symm⟩))] [(0,.t (.c (.d (.sl 4 (rs.map eW))))),(2,vI v),(3,vb e),(7,vI b),(9,vI x5),(11,vb false),(12,vI (((za1 rs x5).length*(za0 rs x5).length:Nat):Int)),(27,.t (.c (.own 0 (ze4 (zag rs)).length))),(28,vI ((ze4 (zag rs)).length:Int)),(29,vN i),(63,vb (decide ((((za1 rs x5).length*(za0 rs x5).length:Nat):Int)<b)))] [(0,.row 3 1 ((comR (zf1 (zag rs))).map zc4))] h fun a w h=>zaj ((((za1 rs x5).length*(za0 rs x5).length:Nat):Int)<b) h (fun hc13 hc13'=>?_) (fun hc14 hc14'=>?_)
   ·refine Jf 9 [] [9,11,12,63] [(2,vI x5),(3,vb false),(7,vI (((za1 rs x5).length*(za0 rs x5).length:Nat):Int))] h fun a w h=>za6 (za3 (Jf 9 [(0,.j1 i)] [] [(29,vI ((i:Int)+1))] h fun a w h=>za3 (za9 (x:=(i,v,e,b)) (y:=(i+1,x5,false,(((za1 rs x5).length*(za0 rs x5).length:Nat):Int))) h ?_ ?_)))
    ·have:=zad hux5;refine ⟨by omega,?_⟩;rw [zf7 hux5,hI2];show zc5 rs (v,e,b) x5=(x5,false,(((za1 rs x5).length*(za0 rs x5).length:Nat):Int));unfold zc5;have q1:=hc5;have q1:=hc11;have q1:=hc12;have q1:=hc13
     cases he:e <;> cases hn:zb8 (zbp rs x5) <;> simp_all <;> (first | omega | (intro hq;omega))
    show (ze4 (zag rs)).length - (i+1)<(ze4 (zag rs)).length - i;have:=zad hux5;omega
   refine qU (za6 (za3 (Jf 9 [(0,.j1 i)] [9,11,12,63] [(29,vI ((i:Int)+1))] h fun a w h=>za3 (za9 (x:=(i,v,e,b)) (y:=(i+1,v,e,b)) h ?_ ?_))))
   ·have:=zad hux5;refine ⟨by omega,?_⟩;rw [zf7 hux5,hI2];show zc5 rs (v,e,b) x5=(v,e,b);unfold zc5;have q1:=hc5;have q1:=hc11;have q1:=hc12;have q1:=hc14
    cases he:e <;> cases hn:zb8 (zbp rs x5) <;> simp_all <;> (first | omega | (intro hq;omega))
   show (ze4 (zag rs)).length - (i+1)<(ze4 (zag rs)).length - i;have:=zad hux5;omega
  refine Jq 9 [(1,.cmp (op:=.lss) (m:=v) (n:=0) (b:=false) .i64 hc5),(12,.cmpb .eql (m:=false) (n:=e) (b:=false) (.inl ⟨rfl,hc15.symm⟩))] [(0,.t (.c (.d (.sl 4 (rs.map eW))))),(2,vI v),(3,vb e),(7,vI b),(9,vI x5),(11,vb false),(12,vI (((za1 rs x5).length*(za0 rs x5).length:Nat):Int)),(27,.t (.c (.own 0 (ze4 (zag rs)).length))),(28,vI ((ze4 (zag rs)).length:Int)),(29,vN i),(63,vb false)] [(0,.row 3 1 ((comR (zf1 (zag rs))).map zc4))] h fun a w h=>zca h (qU (za6 (za3 (Jf 9 [(0,.j1 i)] [9,11,12,63] [(29,vI ((i:Int)+1))] h fun a w h=>za3 (za9 (x:=(i,v,e,b)) (y:=(i+1,v,e,b)) h ?_ ?_)))))
  ·have:=zad hux5;refine ⟨by omega,?_⟩;rw [zf7 hux5,hI2];show zc5 rs (v,e,b) x5=(v,e,b);unfold zc5;have q1:=hc5;have q1:=hc11;have q1:=hc15
   cases he:e <;> cases hn:zb8 (zbp rs x5) <;> simp_all <;> (first | omega | (intro hq;omega))
  show (ze4 (zag rs)).length - (i+1)<(ze4 (zag rs)).length - i;have:=zad hux5;omega
 refine exA (Jq 9 [] [(2,vI v),(3,vb e)] [] h fun a w h=>qV (zha [.c (.d (.raw (.int .i64 v))),.c (.d (.raw (.bool e)))] h Exit.ret (.inl rfl)  rfl ⟨vT9,vT9,trivial⟩ ?_));have hz:zal rs=(v,e,b):=by unfold zal;rw [<- hI2,bL (by omega)]
 rw [hz];try rfl
theorem SChoose (rs:List za8) (hrs:zg3 rs):Fn eJ 6 [] [(vRs rs)] (.tup [.c (cI (zal rs).1),.c (cB (zal rs).2.1)]) []:=SChooseB rs (RsB.of hrs)
abbrev choE:List za8:=[(ofR (-1) [1]),(ofR 0 [(-2),1])]
theorem choE_ok:zg3 choE:=rs2_ok (ofR_ok (-1) [1] (by decide) (by decide) (by decide)) (ofR_ok 0 [(-2),1] (by decide) (by decide) (by decide))
theorem nilE_ok:zg3 []:=⟨by decide,fun r hr=>by cases hr⟩
theorem uni01 (h:xs=ys) (hy:ys=[0,0,1]\/ys=[0,1,0,1]):ze4 xs=[0,1]:=by
 subst h
 refine uniZ_eq (dU.2 ⟨fun v hv=>by rw [bG.1 hv];decide,eG _ _⟩) fun v=>?_
 rcases hy with h | h <;> rw [h] <;> simp <;> omega
theorem cv1:zag choE=[0,0,1]:=by kernel_rfl
theorem cv2:zag zc9=[0,1,0,1]:=by kernel_rfl
theorem ch1:(zal choE).1=1/\(zal choE).2.1=true:=by
 unfold zal;rw [uni01 cv1 (.inl rfl)]
 exact ⟨by kernel_rfl,by kernel_rfl⟩
theorem ch2:(zal zc9).1=1/\(zal zc9).2.1=true:=by
 unfold zal;rw [uni01 cv2 (.inr rfl)]
 exact ⟨by kernel_rfl,by kernel_rfl⟩
theorem ch3:(zal []).1=-1/\(zal []).2.1=false:=by
 unfold zal;rw [show zag ([]:List za8)=[] from rfl,uniZ_eq (xs:=[]) (ys:=[]) List.Pairwise.nil fun v=>Iff.rfl]
 exact ⟨rfl,rfl⟩
abbrev realE:za8:=ofR 2 [0,(-1)]
abbrev darkE:za8:=ofR 0 [0,(-1)]
theorem re1:zb0 za7 zc9 0=[realE]:=by kernel_rfl
theorem re2:zb0 zak zc9 0=[darkE]:=by kernel_rfl
theorem ofR_rk (k:Int) (cs:List Int) (hk:-1000<=k/\k<=1000) (hc:∀ c ∈ cs,-1000<=c/\c<=1000) (hl:cs.length<=20):RkOk (ofR k cs):=RkOk.of (ofR_ok k cs hk hc hl) (by decide) (by decide)
theorem SShading :Fn eJ 4 [] [] (vb true) []:=by
 refine fB Tryz.func4 rfl 81 fun w H B a h=>Jq 0 [] [(0,vb false)] [] h fun a w h=>Jg 0 [(0,.g (eO (d:=11) (len:=1) (rows:=[1].map zc4) (rs:=[]) to_1 (.cons (i:=0) (eM (.int .i64 1) rfl) (.nil)) (by kernel_rfl) rfl (by simp [zc4]) (by decide) (by decide))),(1,.call (SofR (-1) [1] (by decide) (by decide) (by decide))),(2,.g (eO (d:=13) (len:=2) (rows:=[(-2),1].map zc4) (rs:=[]) to_1 (.cons (i:=0) (eM (.int .i64 (-2)) rfl) (.cons (i:=1) (eM (.int .i64 1) rfl) (.nil))) (by kernel_rfl) rfl (by simp [zc4]) (by decide) (by decide))),(3,.call (SofR 0 [(-2),1] (by decide) (by decide) (by decide))),(4,.g (eO (d:=15) (len:=2) (rows:=[(ofR (-1) [1]),(ofR 0 [(-2),1])].map eW) (rs:=[(12,(vR (ofR (-1) [1]))),(14,(vR (ofR 0 [(-2),1])))]) kc_5 (.cons (i:=0) (eN 12 _) (.cons (i:=1) (eN 14 _) (.nil))) (by kernel_rfl) rfl (by simp [eW]) (by decide) (by decide)))] [] [(1,(vRs [(ofR (-1) [1]),(ofR 0 [(-2),1])]))] [] [] h fun a w h=>?_
 refine Jg 0 [(0,.g (eO (d:=16) (len:=2) (rows:=[2,(-1)].map zc4) (rs:=[]) to_1 (.cons (i:=0) (eM (.int .i64 2) rfl) (.cons (i:=1) (eM (.int .i64 (-1)) rfl) (.nil))) (by kernel_rfl) rfl (by simp [zc4]) (by decide) (by decide))),(1,.call (SofR 0 [2,(-1)] (by decide) (by decide) (by decide))),(2,.g (eO (d:=18) (len:=2) (rows:=[(-3),1].map zc4) (rs:=[]) to_1 (.cons (i:=0) (eM (.int .i64 (-3)) rfl) (.cons (i:=1) (eM (.int .i64 1) rfl) (.nil))) (by kernel_rfl) rfl (by simp [zc4]) (by decide) (by decide))),(3,.call (SofR 1 [(-3),1] (by decide) (by decide) (by decide))),(4,.g (eO (d:=20) (len:=2) (rows:=[(ofR 0 [2,(-1)]),(ofR 1 [(-3),1])].map eW) (rs:=[(17,(vR (ofR 0 [2,(-1)]))),(19,(vR (ofR 1 [(-3),1])))]) kc_5 (.cons (i:=0) (eN 17 _) (.cons (i:=1) (eN 19 _) (.nil))) (by kernel_rfl) rfl (by simp [eW]) (by decide) (by decide)))] [] [(2,(vRs [(ofR 0 [2,(-1)]),(ofR 1 [(-3),1])]))] [] [] h fun a w h=>Jg 0 [(1,.call (eK (SChoose choE choE_ok) (show (.tup [.c (cI (zal choE).1),.c (cB (zal choE).2.1)]:V) = .tup [.c (cI 1),.c (cB true)] from by rw [ch1.1,ch1.2])))] [1] [(3,vI 1),(4,vb true)] [] [] h fun a w h=>Jg 0 [(1,.call (eK (SChoose zc9 zen) (show (.tup [.c (cI (zal zc9).1),.c (cB (zal zc9).2.1)]:V) = .tup [.c (cI 1),.c (cB true)] from by rw [ch2.1,ch2.2])))] [] [(5,vI 1),(6,vb true)] [] [] h fun a w h=>Jg 0 [(1,.call (eK (SSReal zc9 0 zen) (show ((vRs (zb0 za7 zc9 0)):V)=(vRs [realE]) from by rw [re1]))),(3,.call (eK (SSDark zc9 0 zen) (show ((vRs (zb0 zak zc9 0)):V)=(vRs [darkE]) from by rw [re2])))] [2] [(7,(vRs [realE])),(8,(vRs [darkE]))] [] [] h fun a w h=>Jg 0 [(0,.call (Fn.argw (eK (SChoose ([]:List za8) nilE_ok) (show (.tup [.c (cI (zal ([]:List za8)).1),.c (cB (zal ([]:List za8)).2.1)]:V) = .tup [.c (cI (-1)),.c (cB false)] from by rw [ch3.1,ch3.2])) (.cons _ _ _ _ (.c _ _ (.nil _)) .nil)))] [] [(9,vI (-1))] [] [] h fun a w h=>Jq 0 [(1,.cmp (op:=.eql) (m:=1) (n:=1) (b:=true) .i64 (show ((1:Int) == 1)=true from rfl)),(7,.cmp (op:=.eql) (m:=1) (n:=1) (b:=true) .i64 (show ((1:Int) == 1)=true from rfl)),(14,.len (zac 4 eW ([realE]))),(15,.cmp (op:=.eql) (m:=([realE].length:Int)) (n:=1) (b:=true) .i64 (show (([realE].length:Int) == 1)=true from rfl)),(19,.g (xD 58 57 kc_3 (zab (show ([realE]:List za8)[0]?=some realE from rfl) (f:=eW)) (eM (.int .i64 0) rfl))),(21,.g (eO (d:=60) (len:=2) (rows:=[0,(-1)].map zc4) (rs:=[]) to_1 (.cons (i:=0) (eM (.int .i64 0) rfl) (.cons (i:=1) (eM (.int .i64 (-1)) rfl) (.nil))) (by kernel_rfl) rfl (by simp [zc4]) (by decide) (by decide))),(22,.call (SofR 2 [0,(-1)] (by decide) (by decide) (by decide))),(23,.call (SR4Same realE (ofR_rk 2 [0,(-1)] (by decide) (by decide) (by decide)))),(27,.len (zac 4 eW ([darkE]))),(28,.cmp (op:=.eql) (m:=([darkE].length:Int)) (n:=1) (b:=true) .i64 (show (([darkE].length:Int) == 1)=true from rfl)),(32,.g (xD 71 70 kc_3 (zab (show ([darkE]:List za8)[0]?=some darkE from rfl) (f:=eW)) (eM (.int .i64 0) rfl))),(34,.g (eO (d:=73) (len:=2) (rows:=[0,(-1)].map zc4) (rs:=[]) to_1 (.cons (i:=0) (eM (.int .i64 0) rfl) (.cons (i:=1) (eM (.int .i64 (-1)) rfl) (.nil))) (by kernel_rfl) rfl (by simp [zc4]) (by decide) (by decide))),(35,.call (SofR 0 [0,(-1)] (by decide) (by decide) (by decide))),(36,.call (SR4Same darkE (ofR_rk 0 [0,(-1)] (by decide) (by decide) (by decide)))),(40,.cmp (op:=.eql) (m:=(-1)) (n:=(-1)) (b:=true) .i64 (show (((-1):Int) == (-1))=true from rfl))] [(0,vb true)] [] h fun a w h=>qV (rT (.c (cB true)) h rfl ?_);rfl
def cR (v:Int) (r:za8):Int:=zaf r.t.parts v
def roR (v:Int) (vs:List ZI) (r:za8):Int:=zcc (woT r.t v) vs
def HoldAt (rs:List za8) (v:Int) (vs:List ZI) (X:Int):Prop:=∀ r ∈ rs,0<=roR v vs r+cR v r*X
theorem relOk_le {vs:List ZI} {r:za8} (h:r.eq=false):zf3 vs r=decide (0<=zcc r.t vs):=by
 unfold zf3
 rw [if_neg (by rw [h];exact Bool.noConfusion)]
 refine decide_eq_decide.2 ⟨fun e=>?_,fun e=>?_⟩
 ·have:=mt (zbd (z:=zcc r.t vs)).2 (by omega);omega
 ·have:=mt (zbd (z:=zcc r.t vs)).1 (by omega);omega
theorem val_wo (t:zax) (v:Int) (vs:List ZI):zcc (woT t v) vs=t.k.val+zcd vs (t.parts.filter fun p=>!zcf v p):=by
 unfold woT;rw [zfd];rfl
theorem valP_split (vs:List ZI) (hv:0<=v):∀ ps:List za2,zcd vs ps=zcd vs (ps.filter fun p=>!zcf v p)+zaf ps v*zd0 vs v
 | []=>by simp [zcd,zaf]
 | p :: ps=>by
  have ih:=valP_split vs hv ps
  rw [dY]
  by_cases h:p.v=v
  ·have hb:(!zcf v p)=false:=by unfold zcf;simp [h]
   rw [if_neg (by rw [hb];exact Bool.noConfusion)]
   simp only [zcd,zaf]
   rw [if_pos ⟨h,hv⟩,h,cY,ih];omega
  ·have hb:(!zcf v p)=true:=by unfold zcf;simpa using h
   rw [if_pos hb]
   simp only [zcd,zaf]
   rw [if_neg (fun e=>h e.1),cV,ih];omega
theorem val_split (t:zax) (hv:0<=v) (vs:List ZI):zcc t vs=zcc (woT t v) vs+zaf t.parts v*zd0 vs v:=by
 rw [val_wo,zcc,valP_split vs hv];omega
theorem ext0_get {vs:List ZI} (hk:k<vs.length):(ext0 vs n)[k]?=vs[k]?:=by unfold ext0;rw [dQ hk]
theorem ext0_len {vs:List ZI}:(ext0 vs n).length=max vs.length n:=by unfold ext0;rw [bI,dS];omega
theorem with_at (vs:List ZI) (v:Nat) (x:ZI):zd0 (zce vs v x) (v:Int)=x.val:=by
 have hl:v<(ext0 vs (v+1)).length:=by rw [ext0_len];omega
 unfold zd0 zce
 rw [if_pos (by omega),Int.toNat_natCast,List.getElem?_set_self hl];rfl
theorem with_ne (vs:List ZI) (v:Nat) (x:ZI) {w:Int} (h:w≠(v:Int)):zd0 (zce vs v x) w=zd0 vs w:=by
 unfold zd0
 by_cases h0:0<=w
 ·rw [if_pos h0,if_pos h0]
  unfold zce
  rw [List.getElem?_set_ne (by omega)]
  by_cases hk:w.toNat<vs.length
  ·rw [ext0_get hk]
  ·rw [List.getElem?_eq_none (l:=vs) (by omega)]
   unfold ext0
   rw [eE (by omega),List.getElem?_replicate]
   split
   ·show (eR 0).val=_;rw [eS];rfl
   ·rfl
 ·rw [if_neg h0,if_neg h0]
theorem valP_with (vs:List ZI) (v:Nat) (x:ZI):∀ ps:List za2,(∀ p ∈ ps,p.v≠(v:Int))->zcd (zce vs v x) ps=zcd vs ps
 | [],_=>rfl
 | p :: ps,h=>by
  rw [zcd,zcd,with_ne vs v x (h p (bW ..)),valP_with vs v x ps fun q hq=>h q (cH _ hq)]
theorem wo_with (t:zax) (vs:List ZI) (v:Nat) (x:ZI):zcc (woT t v) (zce vs v x)=zcc (woT t v) vs:=by
 rw [val_wo,val_wo,valP_with vs v x _ fun p hp=>by
  have:=(dD.1 hp).2
  unfold zcf at this;simpa using this]
theorem val_with (t:zax) (vs:List ZI) (v:Nat) (x:ZI):zcc t (zce vs v x)=zcc (woT t v) vs+zaf t.parts v*x.val:=by
 rw [val_split t (v:=(v:Int)) (by omega) (zce vs v x),wo_with,with_at]
theorem all_with {v:Nat} {vs:List ZI} (he:∀ r ∈ rs,r.eq=false):zfa rs (zce vs v x)=true ↔ HoldAt rs v vs x.val:=by
 unfold zfa HoldAt
 rw [cO]
 refine ⟨fun h r hr=>?_,fun h r hr=>?_⟩
 ·have:=h r hr;rw [relOk_le (he r hr),decide_eq_true_eq,val_with] at this;exact this
 ·rw [relOk_le (he r hr),decide_eq_true_eq,val_with];exact h r hr
theorem zhd:s ∈ za1 rs v ↔ ∃ r ∈ rs,0<cR v r/\s=zbz v r:=by
 unfold za1 cR
 rw [bS]
 refine ⟨fun ⟨r,hr,hm⟩=>?_,fun ⟨r,hr,hc,e⟩=>⟨r,hr,by unfold zdb;rw [if_pos hc,e];exact bG.2 rfl⟩⟩
 unfold zdb at hm
 split at hm
 ·rename_i hc;exact ⟨r,hr,hc,bG.1 hm⟩
 ·cases hm
theorem zfo:s ∈ za0 rs v ↔ ∃ r ∈ rs,cR v r<0/\s=zbz v r:=by
 unfold za0 cR
 rw [bS]
 refine ⟨fun ⟨r,hr,hm⟩=>?_,fun ⟨r,hr,hc,e⟩=>⟨r,hr,by unfold zb6;rw [if_pos hc,e];exact bG.2 rfl⟩⟩
 unfold zb6 at hm
 split at hm
 ·rename_i hc;exact ⟨r,hr,hc,bG.1 hm⟩
 ·cases hm
theorem zcw (v:Int) (r:za8):(zbz v r).times.val=((cR v r).natAbs:Int):=eS _
theorem zdm (v:Int) (r:za8) (vs:List ZI):zcc (zbz v r).rest vs=roR v vs r:=rfl
theorem ok_lst (t:zax) (vs:List ZI):zf3 vs (zb1 t)=decide (0<=zcc t vs):=by rw [relOk_le rfl];show decide (0<=zcc (zaa t) vs)=_;rw [zfd]
theorem each_ok {vs:List ZI}:zfa (zb0 sh rs v) vs=true ↔ (∀ r ∈ rs,cR v r=0->0<=roR v vs r)/\∀ l ∈ za1 rs v,∀ h ∈ za0 rs v,0<=zcc (sh l h) vs:=by
 unfold zfa zb0
 rw [List.all_append,cT,cO,cO]
 refine and_congr ⟨fun h r hr hc=>?_,fun h q hq=>?_⟩ ⟨fun h l hl m hm=>?_,fun h q hq=>?_⟩
 ·have:=h (zb1 r.t) (bS.2 ⟨r,hr,by unfold zdj;rw [if_pos (show zaf r.t.parts v=0 from hc)];exact bG.2 rfl⟩)
  rw [ok_lst,decide_eq_true_eq] at this
  have e:zcc (woT r.t v) vs=zcc r.t vs:=by
   by_cases hv:0<=v
   ·have h1:=val_split r.t hv vs;unfold cR at hc;rw [hc,cG] at h1;omega
   ·rw [val_wo,zcc]
    congr 1
    have:∀ ps:List za2,zcd vs (ps.filter fun p=>!zcf v p)=zcd vs ps:=fun ps=>by
     induction ps with
     | nil=>rfl
     | cons p ps ih =>
      rw [dY]
      split
      ·rw [zcd,zcd,ih]
      ·rename_i hb
       have hp:p.v=v:=by unfold zcf at hb;simpa using hb
       rw [ih,zcd,hp,ze8 (by omega)];omega
    exact this _
  unfold roR;rw [e];exact this
 ·obtain ⟨r,hr,hm⟩:=bS.1 hq
  unfold zdj at hm
  split at hm
  ·rename_i hc
   rw [bG.1 hm,ok_lst,decide_eq_true_eq]
   have h1:=h r hr hc
   unfold roR at h1
   rw [val_wo] at h1
   by_cases hv:0<=v
   ·rw [val_split r.t hv,val_wo,hc,cG];omega
   ·rw [zcc]
    have:∀ ps:List za2,zcd vs (ps.filter fun p=>!zcf v p)=zcd vs ps:=fun ps=>by
     induction ps with
     | nil=>rfl
     | cons p ps ih =>
      rw [dY]
      split
      ·rw [zcd,zcd,ih]
      ·rename_i hb
       have hp:p.v=v:=by unfold zcf at hb;simpa using hb
       rw [ih,zcd,hp,ze8 (by omega)];omega
    rw [this] at h1;exact h1
  ·cases hm
 ·have:=h (zb1 (sh l m)) (bS.2 ⟨l,hl,cN.2 ⟨m,hm,rfl⟩⟩)
  rw [ok_lst,decide_eq_true_eq] at this;exact this
 ·obtain ⟨l,hl,hq2⟩:=bS.1 hq
  obtain ⟨m,hm,rfl⟩:=cN.1 hq2
  rw [ok_lst,decide_eq_true_eq];exact h l hl m hm
theorem val_bright (l h:za4) (vs:List ZI):zcc (za7 l h) vs=zcc h.rest vs*l.times.val+zcc l.rest vs*h.times.val:=by unfold za7;rw [val_add,val_scale,val_scale]
theorem val_numT (k:ZI) (vs:List ZI):zcc (numT k) vs=k.val:=by simp [zcc,numT,zcd,eS]
theorem val_dark (l h:za4) (vs:List ZI):zcc (zak l h) vs=zcc (za7 l h) vs - (l.times.val - 1)*(h.times.val - 1):=by unfold zak;rw [val_sub,val_numT,eS]
theorem real_holds {vs:List ZI} {X:Int} (h:HoldAt rs v vs X):zfa (zb0 za7 rs v) vs=true:=by
 rw [each_ok]
 refine ⟨fun r hr hc=>by have:=h r hr;rw [hc,cG] at this;omega,fun l hl m hm=>?_⟩
 obtain ⟨r1,hr1,hc1,rfl⟩:=zhd.1 hl
 obtain ⟨r2,hr2,hc2,rfl⟩:=zfo.1 hm
 rw [val_bright,zcw,zcw,zdm,zdm]
 have h1:=h r1 hr1;have h2:=h r2 hr2
 rw [show ((cR v r1).natAbs:Int)=cR v r1 by omega,show ((cR v r2).natAbs:Int)=-cR v r2 by omega]
 have k1:=Int.mul_nonneg (show 0≤-cR v r2 by omega) h1
 have k2:=Int.mul_nonneg (show 0<=cR v r1 by omega) h2
 rw [Int.mul_add] at k1 k2
 have e:-cR v r2*(cR v r1*X)=-(cR v r1*(cR v r2*X)):=by rw [cK,Int.mul_left_comm]
 rw [e] at k1
 rw [cL (roR v vs r2) (cR v r1),cL (roR v vs r1) (-cR v r2)]
 omega
theorem best_gt (f:za4->Int):∀ (l:List za4) (m:Int),zcu gtB f l=some m->(∃ s ∈ l,f s=m)/\∀ s ∈ l,f s<=m:=by
 suffices h:∀ (l:List za4) (m:Int),zcu gtB f l.reverse=some m->(∃ s ∈ l,f s=m)/\∀ s ∈ l,f s<=m by
  intro l m hm
  have:=h l.reverse m (by rwa [eC])
  simpa using this
 intro l
 induction l with
 | nil=>intro m h;cases h
 | cons s l ih =>
  intro m h
  rw [List.reverse_cons,zg0] at h
  injection h with h
  cases hb:zcu gtB f l.reverse with
  | none =>
   rw [hb] at h
   have hl:l=[]:=by
    have:=zdq gtB f l.reverse;rw [hb] at this
    have h0:=(of_decide_eq_false this.symm)
    rw [List.length_reverse] at h0
    exact cF.1 (by omega)
   subst hl
   exact ⟨⟨s,bW .., h⟩,fun q hq=>by rw [bG.1 hq];exact Int.le_of_eq h⟩
  | some q =>
   rw [hb] at h
   obtain ⟨⟨s0,h1,h2⟩,h3⟩:=ih q hb
   simp only at h
   by_cases hc:gtB (f s) q=true
   ·rw [if_pos hc] at h;rw [gtB_iff] at hc
    exact ⟨⟨s,bW .., h⟩,fun p hp=>(cC.1 hp).elim (fun e=>by rw [e];omega) fun hp=>by have:=h3 p hp;omega⟩
   ·rw [if_neg hc] at h;rw [gtB_iff] at hc
    exact ⟨⟨s0,cH _ h1,by omega⟩,fun p hp=>(cC.1 hp).elim (fun e=>by rw [e];omega) fun hp=>by have:=h3 p hp;omega⟩
theorem best_lt (f:za4->Int) (l:List za4) (m:Int) (h:zcu ltB f l=some m):∀ s ∈ l,m<=f s:=fun s hs=>by
 have h1:=any_best f m l
 rw [h] at h1
 simp only at h1
 have h2:ltB m m=false:=by
  cases hb:ltB m m with
  | false=>rfl
  | true=>have:=zdw.1 hb;omega
 rw [h2] at h1
 have h3:=dZ.1 h1 s hs
 rw [zdw] at h3;omega
theorem fdiv_bd {x q:Int} (hq:0<q):q*x.fdiv q<=x/\x<q*x.fdiv q+q:=by
 have h1:=Int.fmod_add_mul_fdiv x q
 have h2:=Int.fmod_nonneg_of_pos x hq
 have h3:=Int.fmod_lt_of_pos x hq
 omega
theorem least_bd {r:za8} {vs:List ZI} (hc:0<cR v r):0<=roR v vs r+cR v r*zbc (zbz v r) vs/\roR v vs r+cR v r*zbc (zbz v r) vs<cR v r:=by
 unfold zbc
 rw [zcw,zdm,Int.neg_neg,show ((cR v r).natAbs:Int)=cR v r by omega,Int.mul_neg]
 have:=fdiv_bd (x:=roR v vs r) hc
 omega
theorem most_bd {r:za8} {vs:List ZI} (hc:cR v r<0):0<=roR v vs r+cR v r*zc3 (zbz v r) vs/\roR v vs r+cR v r*zc3 (zbz v r) vs< -cR v r:=by
 unfold zc3
 rw [zcw,zdm,show ((cR v r).natAbs:Int)=-cR v r by omega]
 have:=fdiv_bd (x:=roR v vs r) (show 0< -cR v r by omega)
 rw [cK] at this
 omega
theorem dark_fits {vs:List ZI} (h:zfa (zb0 zak rs v) vs=true):(ze0 (za1 rs v) (za0 rs v) vs).2=true/\HoldAt rs v vs (ze0 (za1 rs v) (za0 rs v) vs).1.val:=by
  obtain ⟨h0,h1⟩:=each_ok.1 h
  cases hb:zcu gtB (zbc · vs) (za1 rs v) with
  | some m =>
    obtain ⟨⟨l0,hl0,e0⟩,hm⟩:=best_gt _ _ _ hb
    obtain ⟨r0,hr0,hc0,rfl⟩:=zhd.1 hl0
    change zbc (zbz v r0) vs=m at e0
    have key:∀ s ∈ za0 rs v,m<=zc3 s vs:=fun s hs=>by
      refine Classical.byContradiction fun hlt=>?_
      obtain ⟨r2,hr2,hc2,rfl⟩:=zfo.1 hs
      have hd:=h1 _ hl0 _ hs
      rw [val_dark,val_bright,zcw,zcw,zdm,zdm,show ((cR v r0).natAbs:Int)=cR v r0 by omega,show ((cR v r2).natAbs:Int)=-cR v r2 by omega] at hd
      have b1:=(least_bd (vs:=vs) hc0).2;have b2:=(most_bd (vs:=vs) hc2).2
      rw [e0] at b1
      generalize hA:cR v r0=A at *
      generalize hB:-cR v r2=B at *
      have hB2:cR v r2=-B:=by omega
      rw [hB2] at b2
      generalize roR v vs r0=p at *
      generalize roR v vs r2=q at *
      generalize zc3 (zbz v r2) vs=M at *
      have hBp:0<B:=by omega
      -- q <= B m - 1, p <= A - 1 - A m
      have q1:q<=B*m - 1:=by
        have h2:B*(M+1)<=B*m:=dB (by omega) (by omega)
        rw [Int.mul_add,Int.mul_one] at h2
        rw [cK] at b2
        omega
      have p1:p<=A - 1 - A*m:=by omega
      have k1:=eH q1 (show 0<=A by omega)
      have k2:=eH p1 (show 0<=B by omega)
      rw [dC,Int.one_mul] at k1
      rw [dC,dC,Int.one_mul] at k2
      have e1:B*m*A=A*m*B:=by rw [cL B m,cZ,cL B A,<- cZ,cL m A]
      rw [e1] at k1
      rw [dC,Int.mul_sub,Int.mul_one,Int.one_mul] at hd
      omega
    have hf:ze0 (za1 rs v) (za0 rs v) vs=(eR m,true):=by
      unfold ze0;rw [hb];simp only
      rw [if_neg]
      intro e
      obtain ⟨s,hs,e2⟩:=dM.1 e
      have:=zdw.1 e2;have:=key s hs;omega
    rw [hf]
    refine ⟨rfl,fun r hr=>?_⟩
    show 0<=_+_*(eR m).val
    rw [eS]
    rcases Int.lt_trichotomy (cR v r) 0 with hc | hc | hc
    · have b:=(most_bd (vs:=vs) hc).1
      have k:=key _ (zfo.2 ⟨r,hr,hc,rfl⟩)
      have:=dB k (show 0≤-cR v r by omega)
      rw [cK,cK] at this
      omega
    · rw [hc,cG,dG];exact h0 r hr hc
    · have b:=(least_bd (vs:=vs) hc).1
      have k:zbc (zbz v r) vs<=m:=hm _ (zhd.2 ⟨r,hr,hc,rfl⟩)
      have:=dB k (show 0<=cR v r by omega)
      omega
  | none =>
    have hL:za1 rs v=[]:=by
      have:=zdq gtB (zbc · vs) (za1 rs v);rw [hb] at this
      have h2:=of_decide_eq_false this.symm
      exact cF.1 (by omega)
    have hf:ze0 (za1 rs v) (za0 rs v) vs=(eR ((zcu ltB (zc3 · vs) (za0 rs v)).getD 0),true):=by unfold ze0;rw [hb]
    rw [hf]
    refine ⟨rfl,fun r hr=>?_⟩
    show 0<=_+_*(eR _).val
    rw [eS]
    rcases Int.lt_trichotomy (cR v r) 0 with hc | hc | hc
    · have b:=(most_bd (vs:=vs) hc).1
      have hmem:=zfo.2 ⟨r,hr,hc,rfl⟩
      cases hq:zcu ltB (zc3 · vs) (za0 rs v) with
      | none =>
        have:=zdq ltB (zc3 · vs) (za0 rs v);rw [hq] at this
        have h2:=of_decide_eq_false this.symm
        exact absurd (List.length_pos_of_mem hmem) h2
      | some q =>
        have k:q<=zc3 (zbz v r) vs:=best_lt _ _ _ hq _ hmem
        have:=dB k (show 0≤-cR v r by omega)
        rw [cK,cK] at this
        show 0<=roR v vs r+cR v r*q
        omega
    · rw [hc,cG,dG];exact h0 r hr hc
    · have:=zhd.2 ⟨r,hr,hc,rfl⟩
      rw [hL] at this;cases this
theorem ones_iff:onesS l=true ↔ ∀ s ∈ l,s.times.val=1:=by
 unfold onesS
 rw [Bool.not_eq_true', dZ]
 refine forall_congr' fun s=>forall_congr' fun _=>?_
 unfold zcp
 split
 ·simp;omega
 ·split
  ·simp;omega
  ·simp;omega
theorem exact_same {vs:List ZI} (h:zb8 (zbp rs v)=true):zfa (zb0 zak rs v) vs=zfa (zb0 za7 rs v) vs:=by
 have key:∀ l ∈ za1 rs v,∀ m ∈ za0 rs v,zcc (zak l m) vs=zcc (za7 l m) vs:=fun l hl m hm=>by
  rw [val_dark]
  unfold zb8 at h
  rcases (dO ..).mp h with h | h
  ·rw [ones_iff.1 h l hl];omega
  ·rw [ones_iff.1 h m hm];omega
 rw [dN,each_ok,each_ok]
 exact and_congr Iff.rfl ⟨fun h l hl m hm=>by rw [<- key l hl m hm];exact h l hl m hm,fun h l hl m hm=>by rw [key l hl m hm];exact h l hl m hm⟩
theorem exact_law {v:Nat} {vs:List ZI} (he:∀ r ∈ rs,r.eq=false) (h:zb8 (zbp rs v)=true):((ze0 (za1 rs v) (za0 rs v) vs).2 && zfa rs (zce vs v (ze0 (za1 rs v) (za0 rs v) vs).1))=zfa (zb0 za7 rs v) vs:=by
 rw [dN,cT,all_with he]
 exact ⟨fun h1=>real_holds h1.2,fun h1=>dark_fits (by rw [exact_same h];exact h1)⟩
theorem each_rk (hrs:zg3 rs) (v:Int) (hsh:∀ l h,zbg l->zbg h->TOk 40 88 (sh l h)):∀ r ∈ zb0 sh rs v,RkOk r:=fun r hr=>by
 unfold zb0 at hr
 rcases cJ.1 hr with h | h
 ·obtain ⟨q,hq,hm⟩:=bS.1 h
  unfold zdj at hm
  split at hm
  ·rw [bG.1 hm];exact ((hrs.2 q hq).plain (by decide)).mono (by decide) (by decide)
  ·cases hm
 ·obtain ⟨l,hl,hq2⟩:=bS.1 h
  obtain ⟨m,hm,rfl⟩:=cN.1 hq2
  exact ((hsh l m (zf6 hrs v l hl) (zdd hrs v m hm)).plain (by decide)).mono (by decide) (by decide)
theorem real_rk (hrs:zg3 rs) (v:Int):∀ r ∈ zb0 za7 rs v,RkOk r:=each_rk hrs v fun _ _ hl hh=>(zfz hl hh).mono (by decide) (by decide)
theorem dark_rk (hrs:zg3 rs) (v:Int):∀ r ∈ zb0 zak rs v,RkOk r:=each_rk hrs v fun _ _ hl hh=>dark_ok hl hh
theorem zd6 (hrs:zg3 rs) (v:Int) (sh:za4->za4->zax):(zb0 sh rs v).length<=420:=by
 have:=each_len hrs (sh:=sh) v (za1 rs v).length
 rwa [bV] at this
theorem with_ok {vs:List ZI} {v:Nat} (hv:VOk 8 vs) (h1:v<=1000) (h2:vs.length<=20) (hx:Lb x.abs) (lx:x.abs.length<=20):VOk 20 (zce vs v x):=by
 refine ⟨by unfold zce;rw [List.length_set,ext0_len];omega,fun y hy=>?_⟩
 unfold zce at hy
 rcases List.mem_or_eq_of_mem_set hy with h | h
 ·unfold ext0 at h
  rcases cJ.1 h with h | h
  ·exact ⟨(hv.2 y h).1,bC (hv.2 y h).2 (by decide)⟩
  ·rw [(List.mem_replicate.1 h).2];exact ⟨eP _,bF _⟩
 ·rw [h];exact ⟨hx,lx⟩
theorem fit_len (hrs:zg3 rs) (v:Int) {vs:List ZI} (hv:VOk 8 vs):(ze0 (za1 rs v) (za0 rs v) vs).1.abs.length<=20:=by
  unfold ze0
  cases hb:zcu gtB (zbc · vs) (za1 rs v) with
  | some m =>
    obtain ⟨⟨l,hl,e⟩,_⟩:=best_gt _ _ _ hb
    simp only
    split
    · exact bF _
    · show (eR m).abs.length<=20
      rw [<- e];exact bC (least_len (zf6 hrs v l hl) hv (low_ne l hl)) (by decide)
  | none =>
    show (eR ((zcu ltB (zc3 · vs) (za0 rs v)).getD 0)).abs.length<=20
    cases hq:zcu ltB (zc3 · vs) (za0 rs v) with
    | none=>exact bF _
    | some q =>
      have hex:∃ s ∈ za0 rs v,zc3 s vs=q:=by
        refine Classical.byContradiction fun hno=>?_
        have h1:=any_best (zc3 · vs) (q+1) (za0 rs v)
        have h2:=any_best (zc3 · vs) q (za0 rs v)
        rw [hq] at h1 h2
        simp only at h1 h2
        rw [zdw.2 (by omega:q<q+1)] at h1
        obtain ⟨s,hs,e1⟩:=dM.1 h1
        have e1:=zdw.1 e1
        have hqq:ltB q q=false:=by
          cases hb:ltB q q with
          | false=>rfl
          | true=>have:=zdw.1 hb;omega
        rw [hqq] at h2
        have e2:=dZ.1 h2 s hs
        rw [zdw] at e2
        exact hno ⟨s,hs,by omega⟩
      obtain ⟨s,hs,e⟩:=hex
      rw [dL,<- e]
      exact bC (most_len (zdd hrs v s hs) hv (high_ne s hs)) (by decide)
theorem SWithI (vs:List ZI) (v:Int) (x:ZI) (h0:0<=v) (h1:v<=1000) (hl:vs.length<=20):Fn eJ 12 [] [(vZs vs),vi .i64 v,vz x] (vZs (zce vs v.toNat x)) []:=by
 obtain ⟨n,rfl⟩:∃ n:Nat,v=(n:Int):=⟨v.toNat,(Int.toNat_of_nonneg h0).symm⟩
 exact SWith vs n x (by omega) hl
theorem plain_ok (h:zer rs v=true):(∀ r ∈ rs,r.eq=false)/\0<=v/\v<=1000:=by
 unfold zer at h
 rw [cT,cO,decide_eq_true_eq] at h
 exact ⟨fun r hr=>by have:=h.1 r hr;simpa using this,h.2.1,h.2.2⟩
theorem rs_rk (h:zg3 rs):∀ r ∈ rs,RkOk r:=fun r hr=>RkOk.of (h.2 r hr) (by decide) (by decide)
theorem exact_lawI {vs:List ZI} (he:∀ r ∈ rs,r.eq=false) (hv:0<=v) (h:zb8 (zbp rs v)=true):((ze0 (za1 rs v) (za0 rs v) vs).2 && zfa rs (zce vs v.toNat (ze0 (za1 rs v) (za0 rs v) vs).1))=zfa (zb0 za7 rs v) vs:=by
 have e:((v.toNat:Nat):Int)=v:=Int.toNat_of_nonneg hv
 have:=exact_law (v:=v.toNat) (vs:=vs) he (by rw [e];exact h)
 rwa [e] at this
theorem choose_exact (rs:List za8):(zal rs).2.1=true->zb8 (zbp rs (zal rs).1)=true:=by
 have key:∀ (l:List Int) (st:Int × Bool × Int),(st.2.1=true->zb8 (zbp rs st.1)=true)->(l.foldl (zc5 rs) st).2.1=true->zb8 (zbp rs (l.foldl (zc5 rs) st).1)=true:=by
  intro l
  induction l with
  | nil=>intro st h;exact h
  | cons x l ih =>
   intro st h
   refine ih _ ?_
   unfold zc5
   split
   ·exact fun h=>h
   ·exact h
 exact key _ _ fun h=>by cases h
theorem RsB.lb (h:RsB rs):∀ r ∈ rs,TLb r.t:=fun r hr=>⟨(h.2 r hr).kb,fun p hp=>((h.2 r hr).ps p hp).1⟩
theorem SShadowExact (rs:List za8) (vs:List ZI) (hrb:RsB rs) (hvb:∀ z ∈ vs,Lb z.abs) (hvl:vs.length<=9223372036854775807):Fn eJ 3 [] [.t (.c (.d (.sl 4 (rs.map eW)))),.t (.c (.d (.sl 2 (vs.map ziD))))] (vb true) []:=by
 obtain ⟨v,ex,hcv,hcx⟩:∃ (v:Int) (ex:Bool),(zal rs).1=v/\(zal rs).2.1=ex:=⟨_,_,rfl,rfl⟩;have hrl:=hrb.lb;have hl:rs.length<=9223372036854775807:=bC hrb.1 (by decide);have hexs:ex=true->zb8 (zbp rs v)=true:=by rw [<- hcv,<- hcx];exact choose_exact rs
 refine fB Tryz.func3 rfl 71 fun w H B a h=>Jq 0 [] [(0,.t (.c (.d (.sl 4 (rs.map eW))))),(1,.t (.c (.d (.sl 2 (vs.map ziD))))),(4,vb false)] [] h fun a w h=>qW (Jg 0 [(0,.call (SShading)),(3,.call (SPiecing))] [] [(15,vb false)] [] [] h fun a w h=>zca h (qU (za3 (Jg 0 [(1,.call (eK (SChooseB rs hrb) (show (.tup [.c (.d (.raw (.int .i64 (zal rs).1))),.c (.d (.raw (.bool (zal rs).2.1)))]:V) = .tup [.c (.d (.raw (.int .i64 v))),.c (.d (.raw (.bool ex)))] from by rw [hcv,hcx])))] [15] [(5,vI v),(6,vb ex)] [] [] h fun a w h=>qW ?_))))
 rcases bK (zf8 rs 10 8) with hc1 | hc14
 ·rcases bK (fewVs vs 20 8) with hc2 | hc13
  ·rcases bK (zer rs v) with hc3 | hc12
   ·have hrs:zg3 rs:=fewRs_rs (by decide) hc1 hrl;obtain ⟨hv,hv20⟩:=fewVs_ok hc2 hvb;obtain ⟨he,hv0,hv2⟩:=plain_ok hc3;have hv1:v.toNat<=1000:=by omega
    have lrs:=hrs.1;have lre:=zd6 hrs v za7;refine Jg 0 [(1,.call (eK (SFewRsL rs 10 8 hl) (congrArg vb hc1))),(5,.call (eK (SFewVs vs 20 8 hvl) (congrArg vb hc2))),(11,.call (eK (SPlainL rs v hl) (congrArg vb hc3)))] [6] [(38,vb (!ex))] [] [] h fun a w h=>cS (!ex) h (fun hc4=>?_) (fun hc5=>?_)
    ·refine Jg 0 [] [38] [(4,vb true)] [] [] h fun a w h=>qV (zae (rT (.c (.d (.raw (.bool true)))) h rfl ?_));rfl
    refine qU (za3 ?_);have lre2:=exact_same (vs:=vs) (hexs (show (ex)=true from by simpa using hc5));have q1:=exact_lawI (vs:=vs) (plain_ok hc3).1 (plain_ok hc3).2.1 (hexs (show (ex)=true from by simpa using hc5));refine Jg 0 [(3,.call (SFit rs v vs hrs hv))] [38] [(7,vp 0 0),(8,vb (ze0 (za1 rs v) (za0 rs v) vs).2)] [] [(0,.box (zi (ze0 (za1 rs v) (za0 rs v) vs).1))] h fun a w h=>?_
    rcases bK (ze0 (za1 rs v) (za0 rs v) vs).2 with hc6 | hc9
    ·rw [hc6] at h;refine Jq 1 [(6,.call (SWithI vs v (ze0 (za1 rs v) (za0 rs v) vs).1 hv0 hv2 hv20)),(7,.call (SRAll rs (zce vs v.toNat (ze0 (za1 rs v) (za0 rs v) vs).1) (M:=20) (by decide) (with_ok hv hv1 hv20 fit_lb (fit_len hrs v hv)) (rs_rk hrs) (by have:=hrs.1;omega)))] [(0,.t (.c (.d (.sl 4 (rs.map eW))))),(1,.t (.c (.d (.sl 2 (vs.map ziD))))),(4,vb false),(5,vI v),(9,vb (zfa rs (zce vs v.toNat (ze0 (za1 rs v) (za0 rs v) vs).1)))] [] h fun a w h=>?_
     rcases bK (zfa rs (zce vs v.toNat (ze0 (za1 rs v) (za0 rs v) vs).1) == zfa (zb0 za7 rs v) vs) with hc7 | hc8
     ·refine Jq 1 [(3,.call (SSReal rs v hrs)),(5,.call (SRAll (zb0 za7 rs v) vs (M:=8) (by decide) hv (real_rk hrs v) (bC (zd6 hrs v za7) (by decide)))),(6,.cmpb .eql (m:=(zfa rs (zce vs v.toNat (ze0 (za1 rs v) (za0 rs v) vs).1))) (n:=(zfa (zb0 za7 rs v) vs)) (b:=true) (.inl ⟨rfl,hc7.symm⟩)),(11,.call (SSDark rs v hrs)),(13,.call (SRAll (zb0 zak rs v) vs (M:=8) (by decide) hv (dark_rk hrs v) (bC (zd6 hrs v zak) (by decide))))] [(4,vb (zfa rs (zce vs v.toNat (ze0 (za1 rs v) (za0 rs v) vs).1) == zfa (zb0 zak rs v) vs))] [] h fun a w h=>qV (rT (.c (.d (.raw (.bool (zfa rs (zce vs v.toNat (ze0 (za1 rs v) (za0 rs v) vs).1) == zfa (zb0 zak rs v) vs))))) h rfl (congrArg vb ?_));have y0:=hc6;have y1:=hc7
      simp_all
     refine Jq 1 [(3,.call (SSReal rs v hrs)),(5,.call (SRAll (zb0 za7 rs v) vs (M:=8) (by decide) hv (real_rk hrs v) (bC (zd6 hrs v za7) (by decide)))),(6,.cmpb .eql (m:=(zfa rs (zce vs v.toNat (ze0 (za1 rs v) (za0 rs v) vs).1))) (n:=(zfa (zb0 za7 rs v) vs)) (b:=false) (.inl ⟨rfl,hc8.symm⟩))] [(4,vb false)] [] h fun a w h=>qV (rT (.c (.d (.raw (.bool false)))) h rfl (congrArg vb ?_));have y0:=hc6;have y1:=hc8
     simp_all
    rw [hc9] at h;refine Jq 1 [] [(0,.t (.c (.d (.sl 4 (rs.map eW))))),(1,.t (.c (.d (.sl 2 (vs.map ziD))))),(4,vb false),(5,vI v),(9,vb false)] [] h fun a w h=>?_
    rcases bK (false == zfa (zb0 za7 rs v) vs) with hc10 | hc11
    ·refine Jq 1 [(3,.call (SSReal rs v hrs)),(5,.call (SRAll (zb0 za7 rs v) vs (M:=8) (by decide) hv (real_rk hrs v) (bC (zd6 hrs v za7) (by decide)))),(6,.cmpb .eql (m:=false) (n:=(zfa (zb0 za7 rs v) vs)) (b:=true) (.inl ⟨rfl,hc10.symm⟩)),(11,.call (SSDark rs v hrs)),(13,.call (SRAll (zb0 zak rs v) vs (M:=8) (by decide) hv (dark_rk hrs v) (bC (zd6 hrs v zak) (by decide))))] [(4,vb (false == zfa (zb0 zak rs v) vs))] [] h fun a w h=>qV (rT (.c (.d (.raw (.bool (false == zfa (zb0 zak rs v) vs))))) h rfl (congrArg vb ?_));have y0:=hc9;have y1:=hc10
     simp_all
    refine Jq 1 [(3,.call (SSReal rs v hrs)),(5,.call (SRAll (zb0 za7 rs v) vs (M:=8) (by decide) hv (real_rk hrs v) (bC (zd6 hrs v za7) (by decide)))),(6,.cmpb .eql (m:=false) (n:=(zfa (zb0 za7 rs v) vs)) (b:=false) (.inl ⟨rfl,hc11.symm⟩))] [(4,vb false)] [] h fun a w h=>qV (rT (.c (.d (.raw (.bool false)))) h rfl (congrArg vb ?_));have y0:=hc9;have y1:=hc11
    simp_all
   refine Jg 1 [(1,.call (eK (SFewRsL rs 10 8 hl) (congrArg vb hc1))),(5,.call (eK (SFewVs vs 20 8 hvl) (congrArg vb hc2))),(11,.call (eK (SPlainL rs v hl) (congrArg vb hc12)))] [6] [(38,vb true)] [] [] h fun a w h=>cS true h (fun _=>?_) nofun
   refine Jg 1 [] [38] [(4,vb true)] [] [] h fun a w h=>qV (zae (rT (.c (.d (.raw (.bool true)))) h rfl ?_));rfl
  refine Jg 1 [(1,.call (eK (SFewRsL rs 10 8 hl) (congrArg vb hc1))),(5,.call (eK (SFewVs vs 20 8 hvl) (congrArg vb hc13)))] [6] [(38,vb true)] [] [] h fun a w h=>cS true h (fun _=>?_) nofun
  refine Jg 1 [] [38] [(4,vb true)] [] [] h fun a w h=>qV (zae (rT (.c (.d (.raw (.bool true)))) h rfl ?_));rfl
 refine Jg 1 [(1,.call (eK (SFewRsL rs 10 8 hl) (congrArg vb hc14)))] [6] [(38,vb true)] [] [] h fun a w h=>cS true h (fun _=>?_) nofun
 refine Jg 1 [] [38] [(4,vb true)] [] [] h fun a w h=>qV (zae (rT (.c (.d (.raw (.bool true)))) h rfl ?_));rfl
section
open Go.WideShapes
section
theorem bk_one {H:Type} (d:DataW H):1<=Rows.uptoBulk d:=by
 cases d with
 | lit l=>cases l <;> simp [Rows.uptoBulk]
 | _=>simp [Rows.uptoBulk]
theorem bk_part {H:Type} {d:DataW H} {l:List (DataW H)} (h:d ∈ l):Rows.uptoBulk d<=Rows.uptoBulkAll l:=by
 induction l with
 | nil=>cases h
 | cons x r ih =>
  simp only [Rows.uptoBulkAll]
  cases cC.1 h with
  | inl e=>subst e;omega
  | inr e=>have:=ih e;omega
theorem bk_len {H:Type} (l:List (DataW H)):l.length<=Rows.uptoBulkAll l:=by
 induction l with
 | nil=>simp [Rows.uptoBulkAll]
 | cons x r ih=>have:=bk_one x;simp only [Rows.uptoBulkAll,bP];omega
theorem bk_elems {H:Type} (elems spare:List (DataW H)):Rows.uptoBulkAll elems+1<=Rows.uptoBulk (.slice elems spare):=by
 simp only [Rows.uptoBulk];omega
theorem bk_agg {H:Type} (parts:List (DataW H)):Rows.uptoBulkAll parts<=Rows.uptoBulk (.agg parts):=by
 simp only [Rows.uptoBulk];omega
theorem bk_all {H:Type} {l:List (DataW H)} (hk:Rows.uptoSmall H l=true):Rows.uptoBulkAll l<=1048576:=of_decide_eq_true hk
variable {w:World} {n:Nat} {t:TypeId} {α β:Type} {f:α->List D} {good:α->Prop}
def RepU (w:World) (n:Nat) (t:TypeId) {α:Type} (f:α->List D) (good:α->Prop):Prop :=
  ∀ (H:Type) (enc:TypeId × Value->H) (base:Nat) (spare:Nat->Bool) (held:Bool) (fuel:Nat) (cs:List Value) (x:DataW H × List MemPlace),fuel<=n->DataW.trod enc eJ w base spare held fuel t cs=some x->Rows.uptoBulk x.1<=1048576->∃ a:α,good a/\zar (DR (all w)) (f a) cs
theorem RepN.u (h:RepN w n t f good):RepU w n t f good:=fun H enc base spare held fuel cs x hn hx _=>h H enc base spare held fuel cs x hn hx
theorem RepU.mono {m:Nat} (h:RepU w n t f good) (hm:m<=n):RepU w m t f good:=fun H enc base spare held fuel cs x hn hx=>h H enc base spare held fuel cs x (by omega) hx
theorem RepU.map {f':β->List D} {good':β->Prop} (h:RepU w n t f good) (g:α->β) (hf:∀ a,f' (g a)=f a) (hg:∀ a,good a->good' (g a)):RepU w n t f' good':=fun H enc base spare held fuel cs x hn hx hw=>by
 obtain ⟨a,h1,h2⟩:=h H enc base spare held fuel cs x hn hx hw
 exact ⟨g a,hg a h1,by rw [hf];exact h2⟩
theorem zgd {e:TypeId} (hu:Tryz.prog.underlying t=some (.slice e)) (hc:Tryz.prog.cellsOf e=k) (hk:0<k) (hl:∀ a,(f a).length=k) (he:RepU w n e f good):RepU w n t (slD k f) (fun xs=>(xs.length<=maxLen/\xs.length<=1048576)/\∀ x ∈ xs,good x):=fun H enc base spare held fuel cs x hn hx hw=>by
 rcases DataW.trod_slice hu hx with ⟨rfl,_⟩ | ⟨a,len,cap,elems,rest,m,rfl,rfl,rfl,_,h2,h3,h4,h5,_,_⟩
 ·exact ⟨[],⟨⟨bF _,bF _⟩,by simp⟩,DR.nil _ _ _ (fun _=>rfl) (bF _),trivial⟩
 ·rw [hc] at h5
  obtain ⟨xs,hxl,hxs⟩:=listOf (P:=fun i (y:α)=>good y/\∃ cs', w.cells? base (a.add (i*k)) k=some cs'/\zar (DR (all w)) (f y) cs') len fun i hi=>by
   have h6:=h5 i hi
   rw [bN (by omega)] at h6
   obtain ⟨cs', g1,g2⟩:=Option.bind_eq_some_iff.1 h6
   obtain ⟨y,g3,g4⟩:=he H enc base spare held m cs' _ (by omega) g2 (bC (bk_part (cN.2 ⟨elems[i],List.getElem_mem _,rfl⟩)) (bC (cU _) (bC (bk_elems _ _) hw)))
   exact ⟨y,g3,cs', g1,g4⟩
  have hb9:=bC (bk_elems _ _) hw
  have hb8:=bk_len (elems.map (·.1))
  rw [bE] at hb8
  refine ⟨xs,⟨⟨by omega,by omega⟩,fun y hy=>?_⟩,?_,trivial⟩
  ·obtain ⟨i,hi⟩:=eI.1 hy
   exact (hxs i y hi).1
  ·show DR (all w) (.sl k (xs.map f)) _
   rcases dA len with h0 | h0
   ·subst h0
    have:xs=[]:=cF.1 hxl
    subst this
    exact DR.nil _ _ _ (fun e=>by cases e) h3
   ·have cells:∀ i y,xs[i]?=some y->∀ j,j<k->∃ v d,w.cell? ((a.add (i*k)).add j)=some v/\(f y)[j]?=some d/\DR (all w) d v:=fun i y hy j hj=>by
     obtain ⟨_,cs', g1,g2⟩:=hxs i y hy
     obtain ⟨_,g4,g5⟩:=World.cells?_some g1
     obtain ⟨v,g6,g7⟩:=g2.get j (by rw [hl];exact hj)
     exact ⟨v,_,by rw [g5 j hj];exact g6,bN (by rw [hl];exact hj),g7⟩
    obtain ⟨y0,hy0⟩:∃ y,xs[0]?=some y:=⟨_,bN (by omega)⟩
    obtain ⟨v0,_,c0,_,_⟩:=cells 0 y0 hy0 0 hk
    obtain ⟨b,o,sp⟩:=a
    have hsp:sp=none:=by
     have:=World.cell?_spot c0
     simpa [Addr.add] using this
    subst hsp
    have c0':w.cell? ⟨b,o,none⟩=some v0:=by simpa [Addr.add_mid] using c0
    obtain ⟨arr,ty,fz,hb,_⟩:=cell_at c0'
    have at_:∀ i y,xs[i]?=some y->∀ j,j<k->∃ v d,arr[o+i*k+j]?=some v/\(f y)[j]?=some d/\DR (all w) d v:=fun i y hy j hj=>by
     obtain ⟨v,d,g1,g2,g3⟩:=cells i y hy j hj
     rw [Addr.add_mid,Addr.add_mid] at g1
     obtain ⟨arr', ty', fz', hb', g4⟩:=cell_at g1
     rw [hb] at hb'
     injection hb' with hb'
     injection hb' with e1
     subst e1
     exact ⟨v,d,g4,g2,g3⟩
    have:=DR.sl (H:=all w) k (xs.map f) b o cap arr ty fz (fun i j=>(arr[o+i*k+j]?).getD v0) (by rw [bE];omega) hb (by rw [bE];omega) h3 (fun i hi=>by rw [eA];exact hl _)
     (fun i hi j hj=>by
      have hi':i<xs.length:=by simpa using hi
      obtain ⟨v,d,g1,_,_⟩:=at_ i xs[i] (bN hi') j hj
      rw [g1];rfl)
     (fun i hi j hj=>by
      have hi':i<xs.length:=by simpa using hi
      have hj':j<k:=by rw [eA,hl] at hj;exact hj
      obtain ⟨v,d,g1,g2,g3⟩:=at_ i xs[i] (bN hi') j hj'
      have e1:((xs.map f)[i])[j]?=some d:=by rw [eA];exact g2
      rw [bN hj] at e1
      injection e1 with e1
      rw [e1,g1];exact g3)
    rwa [bE,hxl] at this
def FsU (w:World) (n:Nat) (fs:List Field) (o k:Nat) {α:Type} (f:α->List D) (good:α->Prop):Prop :=
  ∀ (H:Type) (enc:TypeId × Value->H) (base:Nat) (spare:Nat->Bool) (held:Bool) (cs:List Value),(∀ fl ∈ fs,∃ m x,m<=n/\DataW.trod enc eJ w base spare held m fl.type ((cs.drop fl.offset).take (Tryz.prog.cellsOf fl.type))=some x/\Rows.uptoBulk x.1<=1048576)->o+k=cs.length->∃ a:α,good a/\zar (DR (all w)) (f a) (cs.drop o)
theorem FsU.nil {o:Nat}:FsU w n [] o 0 (fun _:Unit=>[]) (fun _=>True):=fun H enc base spare held cs _ hl=>⟨(),trivial,by rw [cW (by omega)];trivial⟩
theorem FsU.cons {fl:Field} {fs:List Field} {o k0 k1:Nat} {f1:β->List D} {good1:β->Prop} (ho:fl.offset=o) (hc:Tryz.prog.cellsOf fl.type=k0) (h0:RepU w n fl.type f good) (h1:FsU w n fs (o+k0) k1 f1 good1) :
  FsU w n (fl :: fs) o (k0+k1) (fun p:α × β=>f p.1++f1 p.2) (fun p=>good p.1/\good1 p.2):=fun H enc base spare held cs hf hl=>by
 obtain ⟨m,x,hm,hx,hw⟩:=hf fl (by simp)
 rw [ho,hc] at hx
 obtain ⟨a,g1,g2⟩:=h0 H enc base spare held m _ x hm hx hw
 obtain ⟨b,g3,g4⟩:=h1 H enc base spare held cs (fun fl' h'=>hf fl' (by simp [h'])) (by omega)
 refine ⟨(a,b),⟨g1,g3⟩,?_⟩
 have e:cs.drop o=(cs.drop o).take k0++cs.drop (o+k0):=by rw [<- List.drop_drop,List.take_append_drop]
 rw [e]
 exact g2.append g4
theorem zdv {fs:Array Field} (hu:Tryz.prog.underlying t=some (.struct fs)) (hc:Tryz.prog.cellsOf t=k) (h:FsU w n fs.toList 0 k f good):RepU w (n+1) t f good:=fun H enc base spare held fuel cs x hn hx hw=>by
 obtain ⟨xs,m,rfl,rfl,h2,h3,h4⟩:=DataW.trod_struct hu hx
 obtain ⟨a,g1,g2⟩:=h H enc base spare held cs (fun fl hfl=>by
  obtain ⟨i,hi⟩:=eI.1 hfl
  have hi':fs[i]?=some fl:=by simpa using hi
  have:=h4 i fl hi'
  have hlt:i<xs.length:=by rw [h3];exact (dR.1 hi').1
  rw [bN hlt] at this
  exact ⟨m,_,by omega,this,bC (bk_part (cN.2 ⟨xs[i],List.getElem_mem _,rfl⟩)) (bC (bk_agg _) hw)⟩) (by rw [h2,hc];omega)
 exact ⟨a,g1,by simpa using g2⟩
theorem rep_oneU {e:TypeId} {g:α->D} (hu:Tryz.prog.underlying t=some (.slice e)) (hr:∀ n,RepU w n t (fun a=>[g a]) good) {H:Type} {enc:TypeId × Value->H} {base:Nat} {spare:Nat->Bool} {held:Bool} {r:Reach} {b0:Nat} {v:Value} {d:DataW H} {p:List MemPlace} (hv:Value.okWide eJ w r b0 t v) (h:DataW.Trod enc eJ w base spare held t v d p) (hw:Rows.uptoBulk d<=1048576) :
  ∃ (a:α) (ao:Option Addr) (len cap:Nat),good a/\v = .slice ao len cap/\DR (all w) (g a) v:=by
 obtain ⟨ao,len,cap,rfl⟩:=okWide_slice hu hv
 obtain ⟨fuel,hf⟩:=h
 obtain ⟨a,g1,g2⟩:=hr fuel H enc base spare held fuel _ _ (bJ _) hf hw
 exact ⟨a,ao,len,cap,g1,rfl,g2.1⟩
end
section
variable {w:World} {n:Nat}
theorem rep_NatU:RepU w n 31 (fun zs=>[nsl zs]) (fun zs=>Lb zs/\zs.length<=1048576) :=
 (zgd (k:=1) (f:=fun v:Nat=>[D.raw (.int .u32 (v:Int))]) Tryz.underlying31 (by kernel_rfl) (by decide) (fun _=>rfl) (rep_u32 Tryz.underlying79).u).map id (fun _=>rfl) fun zs h=>⟨fun z hz=>h.2 z hz,h.1.2⟩
theorem rep_ZIU:RepU w n 33 ziD (fun x=>Lb x.abs/\x.abs.length<=1048576) :=
 ((zdv (n:=n) Tryz.underlying33 (by kernel_rfl) (.cons (k0:=1) rfl (by kernel_rfl) (rep_bool Tryz.underlying4).u (.cons (k0:=1) rfl (by kernel_rfl) rep_NatU .nil))).map (fun p=>⟨p.1,p.2.1⟩) (fun _=>rfl) fun _ h=>h.2.1).mono (cU n)
theorem rep_PartU:RepU w n 61 eV (fun p=>Lb p.c.abs/\p.c.abs.length<=1048576) :=
 ((zdv (n:=n) Tryz.underlying61 (by kernel_rfl) (.cons (k0:=1) rfl (by kernel_rfl) (rep_i64 Tryz.underlying3).u (.cons (k0:=2) rfl (by kernel_rfl) rep_ZIU .nil))).map (fun p=>⟨p.1,p.2.1⟩) (fun _=>rfl) fun _ h=>h.2.1).mono (cU n)
theorem rep_PartsU:RepU w n 39 (slD 3 eV) (fun ps=>(ps.length<=maxLen/\ps.length<=1048576)/\∀ p ∈ ps,Lb p.c.abs/\p.c.abs.length<=1048576) :=
 zgd (k:=3) Tryz.underlying39 (by kernel_rfl) (by decide) (fun _=>rfl) rep_PartU
theorem rep_TermU:RepU w n 41 zax.d (TOk 1048576 1048576) :=
 ((zdv (n:=n) Tryz.underlying41 (by kernel_rfl) (.cons (k0:=1) rfl (by kernel_rfl) rep_PartsU (.cons (k0:=2) rfl (by kernel_rfl) rep_ZIU .nil))).map (fun p=>⟨p.1,p.2.1⟩) (fun _=>rfl) fun _ h=>⟨h.1.1.2,h.1.2,h.2.1.1,h.2.1.2⟩).mono (cU n)
theorem rep_RelU:RepU w n 43 eW (fun r=>TOk 1048576 1048576 r.t) :=
 ((zdv (n:=n) Tryz.underlying43 (by kernel_rfl) (.cons (k0:=3) rfl (by kernel_rfl) rep_TermU (.cons (k0:=1) rfl (by kernel_rfl) (rep_bool Tryz.underlying4).u .nil))).map (fun p=>⟨p.1,p.2.1⟩) (fun _=>rfl) fun _ h=>h.1).mono (cU n)
theorem rep_RelsU:RepU w n 22 (slD 4 eW) RsB :=
 (zgd (k:=4) Tryz.underlying22 (by kernel_rfl) (by decide) (fun _=>rfl) rep_RelU).map id (fun _=>rfl) fun _ h=>⟨h.1.2,h.2⟩
end
end
end S
end Go.Proofs.YtakmnjihdfgolaaGreat
section
namespace Go.Proofs.YtakmnjihdfgolaaGreat.shadowExactDone
open Go.ChangeShapes Go.WideShapes Go.ChangeAt Go.RowKit
open Go.ChangeMaps (open_string shut_string)
open Go.Proofs.YtakmnjihdfgolaaGreat.S

theorem own:ownKnob Tryz.prog.godebug=none:=by kernel_rfl
theorem laidOut:laidOutB eJ=true:=by kernel_rfl

theorem lifted (os:Os) (started:os.Started) (H:Type) (enc:TypeId × Value->H) (F0:Stop.Interp) :
  ReturnsInHanded {} Tryz.checked os 3 .any ((Rows.OpenSpec.upto Rows.shadowExactSpec).pre6 enc eJ Tryz.f3 Rows.shadowExactUptoRow.domain false) (((Rows.OpenSpec.upto Rows.shadowExactSpec).at F0).post enc eJ Tryz.f3 false true false false):=by
 refine returnsInHanded_of_cond (C:=Tryz.checked) (s:=Rows.OpenSpec.upto Rows.shadowExactSpec) (k:=Rows.uptoSmall) rfl own started (by kernel_rfl) Tryz.func3
  (OpenSpec.witness (enc:=enc) (C:=Tryz.checked) (s:=Rows.OpenSpec.upto Rows.shadowExactSpec) (k:=Rows.uptoSmall) rfl false ⟨#[],#[.slice none 0 0,.slice none 0 0],[]⟩ 12 (by kernel_rfl) (by kernel_rfl) (by kernel_rfl)
   (x:=([.nil,.nil],[],[])) (by kernel_rfl) rfl (by kernel_rfl)) ?_
 intro W base args ds gs before hval0 hW hcnd hk _
 have hval:∀ (j:Nat) t v,Tryz.f3.params[j]?=some t->args[j]?=some v->Value.okWide eJ W .any base t v:=hval0
 have hW':=hW
 obtain ⟨p,q,hA0,hV,rfl,hfz,hnd⟩:=hW
 have hA:DataW.TrodAll enc eJ W 0 (fun _=>true) true Tryz.f3.params.toList args.toList ds p:=hA0
 rw [Tryz.params3] at hA hval
 obtain ⟨v0,vs0,d0,ds0,p0,q0,hargs,rfl,rfl,h0,r0⟩:=trodAll_cons hA
 obtain ⟨v1,vs1,d1,ds1,p1,q1,rfl,rfl,rfl,h1,r1⟩:=trodAll_cons r0
 obtain ⟨rfl,rfl,rfl⟩:=trodAll_nil r1
 obtain rfl:args=#[v0,v1]:=by cases args;simp_all
 obtain ⟨rfl,rfl⟩:=trodVars_none hV
 have hB:=bk_all hk
 have hb0:Rows.uptoBulk d0<=1048576:=bC (bk_part (by simp)) hB
 have k0:=h0
 have lt0:∀ x ∈ p0,x.block<W.heap.size:=by obtain ⟨m,hm⟩:=k0;exact DataW.trod_lt m _ _ _ hm
 obtain ⟨a0,ao0,len0,cap0,g0,rfl,dr0⟩:=rep_oneU Tryz.underlying22 (fun _=>rep_RelsU) (hval 0 22 v0 rfl rfl) h0 hb0
 have k1:=h1
 have lt1:∀ x ∈ p1,x.block<W.heap.size:=by obtain ⟨m,hm⟩:=k1;exact DataW.trod_lt m _ _ _ hm
 obtain ⟨a1,ao1,len1,cap1,g1,rfl,dr1⟩:=rep_one Tryz.underlying23 (fun _=>rep_ZIl) (hval 1 23 v1 rfl rfl) h1
 clear hA0 hval0
 refine ((SShadowExact a0 a1 g0 g1.2 (bC g1.1 (by decide))).calls (w:=W) (vals:=[.slice ao0 len0 cap0,.slice ao1 len1 cap1]) fun B=>⟨dr0,dr1,trivial⟩).mono fun e W' ⟨he,bel⟩=>?_
 subst he
 exact ⟨_,rfl,_,_,_,[],_,[],hW', trodAll_mk1 (shut_bool Tryz.underlying4 _),(trodAll_cons_mk (Below.trod laidOut (by kernel_rfl) (of_decide_eq_true (by kernel_rfl)) k0 bel lt0) (trodAll_cons_mk (Below.trod laidOut (by kernel_rfl) (of_decide_eq_true (by kernel_rfl)) k1 bel lt1) trodAll_mk0)),rfl,bel.below.frame _,fun h=>by cases h⟩

theorem over:Rows.shadowExactUptoRow.holds Tryz.pinned (Rows.OpenSpec.upto Rows.shadowExactSpec) :=
 OpenClaim.holds_of_cond 3 Tryz.f3 rfl rfl rfl rfl rfl rfl rfl ⟨rfl,rfl,rfl,rfl,rfl⟩ rfl rfl rfl rfl rfl (by kernel_rfl) Tryz.func3 (by kernel_rfl)
  (of_decide_eq_true (by kernel_rfl)) (by unfold Func.isWrapper;first | (rw [if_pos (by decide +kernel)]; try kernel_rfl) | (rw [if_neg (by decide +kernel)];exact ⟨rfl,rfl⟩))
  (fun os started H enc _ F0=>lifted os started H enc F0)

theorem proved:Rows.ShadowExactUptoSaid:=over
end Go.Proofs.YtakmnjihdfgolaaGreat.shadowExactDone
end
