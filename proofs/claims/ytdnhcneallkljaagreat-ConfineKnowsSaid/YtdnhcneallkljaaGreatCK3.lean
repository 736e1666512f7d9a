/-
  Part 3 of the proof of the statement ConfineKnows. It holds for every input.
-/
import Derived.Test.YtdnhcneallkljaaGreatCK2
import Derived.Shelf.Small.Bits
import Derived.Test.YtdnhcneallkljaaGreatProg
import Derived.Test.YtdnhcneallkljaaGreatCK1
import Derived.Laws.Bits64b
import Derived.Deep.RegionWith
import Derived.Deep.LoopGhost
set_option maxRecDepth 100000
set_option maxHeartbeats 20000000
open Go.RowKit
open List renaming range->bC,length_map->bH,drop_of_length_le->bL,take_of_length_le->bR,mem_of_getElem?->bS,length_take->bT,take_add_one->bU,mem_map->bW,getElem?_eq_none->bX,length_drop->bZ,getElem?_eq_some_iff->b7,drop_eq_getElem_cons->b8,map_append->b9,length_eq_zero_iff->cC,length_append->cF,mem_of_mem_take->cG,getElem?_map->cH,map_take->cJ,length_set->cK,mem_cons->cL,any_eq_true->cM,all_eq_true->cO,mem_of_mem_drop->cP,getElem?_set_self->cR
open Bool renaming true_and->bE,eq_false_or_eq_true->bF,and_false->bM,and_eq_true->bP
open Nat renaming zero_le->bG,le_trans->bI,le_refl->bJ,zero_add->cD,lt_of_lt_of_le->cE
open Option renaming getD_some->bK
open Int renaming toNat_of_nonneg->bV,fmod_nonneg_of_pos->cQ
open Go.Proofs.Tryz renaming prog->cT
open Go.Proofs.YtdnhcneallkljaaGreat.S.Fn renaming cast->cU
open Go.Proofs.YtdnhcneallkljaaGreat.S.OV renaming tmp->cV
open Go.Proofs.YtdnhcneallkljaaGreat.S.zbe renaming d->cW
namespace Go.Proofs.YtdnhcneallkljaaGreat
namespace S
theorem SIndex (xs:List Int) (v:Int) (hl:xs.length<=1000000):Fn cT 135 [] [(vIs xs),vI v] (vI (idxI v xs 0)) []:=by
 refine fB Tryz.func135 rfl 19 fun w H B a h=>Jq 0 [] [(0,(vIs xs)),(1,vI v),(4,vI 0)] [] h fun a w h=>qW (Jg 0 [(1,.len (za1 1 za8 xs))] [] [(7,vN xs.length),(8,vI 0)] [] [] h fun a w h=>qZ ?_)
 refine zcc (ι:=(Nat)) (fun j=>j<=xs.length/\idxI v xs 0=idxI v (xs.drop j) j)
   [4] (fun j=>[(8,vN j)])
   [] (fun j=>[])
   (fun j=>xs.length - j) 0 ?_ h ?_
 ·exact ⟨bG _,rfl⟩
 clear h;rintro j a w hI h;obtain ⟨hI1,hI2⟩:=hI;refine Jg 0 [] [] [(9,vb (decide ((j:Int)<(xs.length:Int))))] [] [] h fun a w h=>qW (zag ((j:Int)<(xs.length:Int)) h (fun hc1 hc1'=>?_) (fun hc4 hc4'=>?_))
 ·refine qU (za0 (qW (qZ (Jg 0 [] [9] [(5,vN j)] [] [] h fun a w h=>?_))));obtain ⟨x1,hx1⟩:=gl xs j;refine Jg 0 [(3,.g (xD 14 12 zdj (za4 hx1 (f:=za8)) (cV 13 _)))] [] [(16,vb (v == x1))] [] [] h fun a w h=>cS (v == x1) h (fun hc2=>?_) (fun hc3=>?_)
  ·refine Jg 0 [] [5,16] [(4,vN j)] [] [] h fun a w h=>qV (za6 (za2 (za2 (za6 (za2 (rT (.c (cI (j:Int))) h rfl ?_))))));have hz:idxI v xs 0=(j:Int):=by rw [hI2,idxI_at hx1,if_pos (by simpa using hc2)]
   rw [hz];try rfl
  refine qU (za5 (za0 (Jh 0 [(0,.j1 j)] [5,16] [(8,vI ((j:Int)+1))] [] [] h fun a w h=>za0 (za9 (x:=j) (y:=j+1) h ?_ ?_))))
  ·exact ⟨by have:=zac hx1;omega,by rw [hI2,idxI_at hx1,if_neg (by simpa using hc3)]⟩
  show xs.length - (j+1)<xs.length - j;have:=zac hx1;omega
 refine exA (Jq 0 [] [(4,vI (-1))] [] h fun a w h=>qV (rT (.c (cI (-1))) h rfl ?_));have hz:idxI v xs 0=-1:=by rw [hI2,bL (by omega)];rfl
 rw [hz];try rfl
end S
end Go.Proofs.YtdnhcneallkljaaGreat
section
namespace Go.Proofs
open Go.Shelf
end Go.Proofs
end
namespace Go.Proofs.YtdnhcneallkljaaGreat
variable {zs:List Nat} {w w':World} {ao:Option Addr} {B M:Nat}
def ch (s:ByteArray) (i:Nat):Nat:=(s.data.toList.map UInt8.toNat).getD i 0
def isd (s:ByteArray) (i:Nat):Prop:=48<=ch s i/\ch s i<=57
def alld (s:ByteArray) (k:Nat):Prop:=∀ i,i<k->isd s i
instance (s:ByteArray) (i:Nat):Decidable (isd s i):=inferInstanceAs (Decidable (_/\_))
instance (s:ByteArray) (k:Nat):Decidable (alld s k):=Nat.decidableBallLT k (fun i _=>isd s i)
def LbB (zs:List Nat):Prop:=∀ z ∈ zs,z<256
theorem LbB_nil:LbB []:=fun _ h=>by simp at h
theorem LbB_take (h:LbB zs) (k:Nat):LbB (zs.take k):=fun z hz=>h z (cG hz)
theorem LbB_drop (h:LbB zs) (k:Nat):LbB (zs.drop k):=fun z hz=>h z (cP hz)
structure RdB (w:World) (ao:Option Addr) (c:Nat) (zs:List Nat):Prop where
  cap:zs.length<=c
  mx:c<=9223372036854775807
  nl:ao=none->c=0
  lb:LbB zs
  ad:0<zs.length->ao=some ⟨bk ao,of ao,none⟩
  cell:∀ i,i<zs.length->w.cell? ⟨bk ao,of ao+i,none⟩=some (.int .u8 (lim zs i))
theorem RdB.nil (w:World):RdB w none 0 []:=⟨bJ _,by omega,fun _=>rfl,LbB_nil,fun h=>by simp at h,fun i h=>by simp at h⟩
theorem RdB.ext {c:Nat} (h:RdB w ao c zs) (k:Ext w w'):RdB w' ao c zs :=
 ⟨h.cap,h.mx,h.nl,h.lb,h.ad,fun i hi=>k.cell (h.cell i hi)⟩
theorem RdB.take {c:Nat} (h:RdB w ao c zs) (k:Nat) (_hk:k<=zs.length) (c':Nat) (hc':(zs.take k).length<=c') (hc2:c'<=c):RdB w ao c' (zs.take k):=by
 refine ⟨hc', bI hc2 h.mx,fun e=>by have:=h.nl e;omega,LbB_take h.lb _,?_,?_⟩
 ·intro hp;rw [bT] at hp;exact h.ad (by omega)
 ·intro i hi;rw [bT] at hi;rw [zkq (by omega)];exact h.cell i (by omega)
theorem RdB.drop {b o c:Nat} (h:RdB w (some ⟨b,o,none⟩) c zs) (k:Nat) (hk:k<=zs.length):RdB w (some ⟨b,o+k,none⟩) (c - k) (zs.drop k):=by
 have h1:=h.cap
 refine ⟨by rw [bZ];omega,bI (Nat.sub_le _ _) h.mx,fun e=>by simp at e,LbB_drop h.lb _,fun _=>rfl,?_⟩
 intro i hi
 rw [bZ] at hi
 have:=h.cell (k+i) (by omega)
 simp only [bk,of] at this ⊢
 rw [lim_drop,Nat.add_assoc];exact this
theorem RdB.isAt {c:Nat} (h:RdB w ao c zs) (hp:0<zs.length):∃ b o,ao=some ⟨b,o,none⟩:=⟨_,_,h.ad hp⟩
theorem RdB.blt {c:Nat} (h:RdB w ao c zs) (hp:0<zs.length):bk ao<w.heap.size :=
 World.block_lt_of_cell? w _ (h.cell 0 hp)
structure OwB (w:World) (B:Nat) (ao:Option Addr) (c:Nat) (zs:List Nat):Prop where
  lb:LbB zs
  row:w.ownsRow B 5 1 (.slice ao zs.length c) zs.length (zs.map fun (x:Nat)=>Value.int .u8 (x:Int))
theorem OwB.nil (w:World) (B:Nat):OwB w B none 0 []:=⟨LbB_nil,World.ownsRow_nil _ _ _ _⟩
theorem OwB.rd {c:Nat} (h:OwB w B ao c zs):RdB w ao c zs:=by
 have hr:=h.row
 rcases hr.2 with ⟨hv,hn⟩ | ⟨g,cap,cur,hv,hb,hg,hnc,hcm,hcs,htake⟩
 ·have:zs=[]:=cC.1 hn
  subst this
  simp at hv
  obtain ⟨rfl,rfl⟩:=hv
  exact RdB.nil w
 ·simp only [Value.slice.injEq,true_and] at hv
  obtain ⟨rfl,rfl⟩:=hv
  refine ⟨hnc,by simpa [maxLen] using hcm,fun e=>by simp at e,h.lb,fun _=>rfl,?_⟩
  intro i hi
  have:=hr.cellAt i (by omega)
  simp only [bk,of,cD]
  rw [this,cH,ze3 hi]
  rfl
theorem OwB.lt {c:Nat} (h:OwB w B ao c zs):∀ k,(Value.slice ao zs.length c).ownBlock=some k->B<=k/\k<w.heap.size:=h.row.lt
theorem OwB.blk {c:Nat} (h:OwB w B ao c zs) (hp:0<zs.length):B<=bk ao/\bk ao<w.heap.size/\of ao=0/\ao=some ⟨bk ao,0,none⟩:=by
 rcases h.row.2 with ⟨hv,hn⟩ | ⟨g,cap,cur,hv,hb,hg,hnc,hcm,hcs,htake⟩
 ·omega
 ·simp only [Value.slice.injEq,true_and] at hv
  obtain ⟨rfl,rfl⟩:=hv
  exact ⟨hb,(Array.getElem?_eq_some_iff.1 hg).1,rfl,rfl⟩
theorem OwB.frozen {c:Nat} (h:OwB w B ao c zs) (hp:0<zs.length) (i:Nat):w.frozen? ⟨bk ao,of ao+i,none⟩=false:=by
 rcases h.row.2 with ⟨hv,hn⟩ | ⟨g,cap,cur,hv,hb,hg,hnc,hcm,hcs,htake⟩
 ·omega
 ·have hr:=h.row
  simp only [Value.slice.injEq,true_and] at hv
  obtain ⟨rfl,rfl⟩:=hv
  simp only [bk,of,cD]
  exact hr.frozenAt i
theorem OwB.alloc {c:Nat} (h:OwB w B ao c zs) (o:Obj):OwB (w.alloc o) B ao c zs:=⟨h.lb,h.row.alloc o⟩
theorem OwB.ext {c:Nat} (h:OwB w B ao c zs) (k:Ext w w'):OwB w' B ao c zs :=
 ⟨h.lb,h.row.kept (row:=none) ⟨k.os,k.tape,k.output,k.size,fun i hi _=>k.block i hi⟩ (by cases hv:Value.ownBlock _ <;> simp)⟩
theorem OwB.mono {B':Nat} {c:Nat} (h:OwB w B ao c zs) (hB:B'<=B):OwB w B' ao c zs:=by
 refine ⟨h.lb,h.row.1,?_⟩
 rcases h.row.2 with hn | ⟨g,cap,cur,hv,hb,rest⟩
 ·exact .inl hn
 ·exact .inr ⟨g,cap,cur,hv,bI hB hb,rest⟩
theorem OwB.take {c:Nat} (h:OwB w B ao c zs) (k:Nat) (hk:k<=zs.length):OwB w B ao c (zs.take k):=by
 refine ⟨LbB_take h.lb _,by simp,?_⟩
 rw [bT,Nat.min_eq_left hk]
 rcases h.row.2 with ⟨hv,hn⟩ | ⟨g,cap,cur,hv,hb,hg,hnc,hcm,hcs,htake⟩
 ·simp at hv
  obtain ⟨rfl,_,rfl⟩:=hv
  refine .inl ⟨?_,by omega⟩
  simp;omega
 ·simp only [Value.slice.injEq,true_and] at hv
  obtain ⟨rfl,rfl⟩:=hv
  refine .inr ⟨g,c,cur,rfl,hb,hg,by omega,hcm,hcs,?_⟩
  rw [cJ,<- htake,List.take_take]
  congr 1
  omega
theorem OwB.pop {c:Nat} {k:Nat} (h:OwB w B ao c (zs.take (k+1))) (hk:k<zs.length):OwB w B ao c (zs.take k):=by
 have:=h.take k (by rw [bT];omega)
 rwa [List.take_take,Nat.min_eq_left (by omega)] at this
theorem RdB.kept {c:Nat} {g:Nat} (h:RdB w ao c zs) (k:w.grownBy w' (some g)) (hne:0<zs.length->bk ao≠g):RdB w' ao c zs :=
 ⟨h.cap,h.mx,h.nl,h.lb,h.ad,fun i hi=>k.cell (h.cell i hi) (by simp;exact hne (by omega))⟩
theorem OwB.kept {c:Nat} {g:Nat} (h:OwB w B ao c zs) (k:w.grownBy w' (some g)) (hne:(Value.slice ao zs.length c).ownBlock≠some g):OwB w' B ao c zs :=
 ⟨h.lb,h.row.kept k (.inr hne)⟩
theorem OwB.store {c:Nat} (h:OwB w B ao c zs) (i:Nat) (hi:i<zs.length) (E:Int) (y:Nat) (hE:E=(y:Int)) (hy:y<256) :
  OwB (w.setCell ⟨bk ao,of ao+i,none⟩ (.int .u8 E)) B ao c (zs.set i y)/\w.grownBy (w.setCell ⟨bk ao,of ao+i,none⟩ (.int .u8 E)) (some (bk ao)):=by
 subst hE
 obtain ⟨h1,h2,h3,h4⟩:=h.blk (by omega)
 have hr:=h.row
 rw [h4] at hr
 have:=hr.stored i (.int .u8 (y:Int))
 rw [h3,cD]
 refine ⟨⟨?_,?_⟩,this.2⟩
 ·intro z hz
  rcases List.mem_or_eq_of_mem_set hz with hm | hm
  ·exact h.lb z hm
  ·omega
 ·rw [h4,cK,List.map_set]
  exact this.1
theorem cells32:(Value.int .u32 0).cells=#[Value.int .u32 0]:=rfl
def GotD (w:World) (p r:Nat) (er:Int) (e:Ending) (w':World):Prop :=
  ∃ ao c xs bo d ys,e = .returned (.tuple #[.slice ao xs.length c,.slice bo ys.length d,.int .i64 er])/\Own w' w.heap.size ao c xs/\zeg xs/\nV xs=p/\Own w' w.heap.size bo d ys/\zeg ys/\nV ys=r/\Ext w w'
theorem GotD.from {w0:World} {p r:Nat} {er:Int} {e:Ending} (h:GotD w p r er e w') (k:Ext w0 w):GotD w0 p r er e w':=by
 obtain ⟨ao,c,xs,bo,d,ys,h1,h2,h3,h4,h5,h6,h7,h8⟩:=h
 exact ⟨ao,c,xs,bo,d,ys,h1,h2.mono k.size,h3,h4,h5.mono k.size,h6,h7,k.trans h8⟩
def tb (v i:Nat):Bool:=decide (v / 2 ^ i % 2=1)
def GotDM (w:World) (p r:Nat) (L M:Nat) (er:Int) (e:Ending) (w':World):Prop :=
  ∃ ao c xs B bo d ys C,e = .returned (.tuple #[.slice ao xs.length c,.slice bo ys.length d,.int .i64 er])/\w.heap.size<=B/\Own w' B ao c xs/\Hid (zeg xs)/\Hid (nV xs=p)/\xs.length<=L /\
    w.heap.size<=C/\Own w' C bo d ys/\Hid (zeg ys)/\Hid (nV ys=r)/\ys.length<=M/\Ext w w'
theorem GotD.len {p r L:Nat} {er:Int} {e:Ending} (h:GotD w p r er e w') (hp:p<pw L) (hr:r<pw M):GotDM w p r L M er e w':=by
 obtain ⟨ao,c,xs,bo,d,ys,he,h1,h2,h3,h4,h5,h6,h7⟩:=h
 exact ⟨ao,c,xs,_,bo,d,ys,_,he,bJ _,h1,h2,h3,ze8 h2 h3 hp,bJ _,h4,h5,h6,ze8 h5 h6 hr,h7⟩
namespace S
variable {ps:List zbe} {j n v:Nat} {p:Nat->Bool} {α β:Type} {i:Int} {picks:List ZI} {f:Nat->ZI}
theorem fmod_neg_range (a:Int) {b:Int} (h:b<0):b<a.fmod b/\a.fmod b<=0:=by
 have h1:=Int.fmod_lt_of_pos (-a) (b:=-b) (by omega)
 have h2:=cQ (-a) (b:=-b) (by omega)
 rw [Int.neg_fmod_neg] at h1 h2
 omega
theorem fmod_range (a:Int) {b:Int} (_hb:b≠0):(0<b->0<=a.fmod b/\a.fmod b<b)/\(b<0->b<a.fmod b/\a.fmod b<=0) :=
 ⟨fun h=>⟨cQ a h,Int.fmod_lt_of_pos a h⟩,fun h=>fmod_neg_range a h⟩
theorem fmod_natAbs_lt (X:Int) {Y:Int} (hY:Y≠0):(X.fmod Y).natAbs<Y.natAbs:=by
 obtain ⟨h1,h2⟩:=fmod_range X hY
 rcases Int.lt_or_lt_of_ne hY with g | g
 ·have:=h2 g;omega
 ·have:=h1 g;omega
def bez (r0 x0 y0 r1 x1 y1:Int):Int × Int × Int :=
  if _h:r1<=0 then (r0,x0,y0) else bez r1 x1 y1 (r0.fmod r1) (x0 - r0.fdiv r1*x1) (y0 - r0.fdiv r1*y1)
  termination_by r1.natAbs
  decreasing_by exact fmod_natAbs_lt _ (by omega)
theorem bez_end {r0 x0 y0 r1 x1 y1:Int} (h:r1<=0):bez r0 x0 y0 r1 x1 y1=(r0,x0,y0):=by rw [bez,dif_pos h]
structure BzI (A B r0 x0 y0 r1 x1 y1:Int):Prop where
  a:0<=A
  b:0<=B
  p0:0<=r0
  p1:0<=r1
  g:Nat.gcd r0.natAbs r1.natAbs=Nat.gcd A.natAbs B.natAbs
  e0:r0=A*x0+B*y0
  e1:r1=A*x1+B*y1
  sx:(0<=x0/\x1<=0)\/(x0<=0/\0<=x1)
  sy:(0<=y0/\y1<=0)\/(y0<=0/\0<=y1)
  bx:r0*(x1.natAbs:Int)+r1*(x0.natAbs:Int)=B
  byy:r0*(y1.natAbs:Int)+r1*(y0.natAbs:Int)=A
  lx:(x1.natAbs:Int)<=B+1
  ly:(y1.natAbs:Int)<=A+1
  z:bez r0 x0 y0 r1 x1 y1=bez A 1 0 B 0 1
theorem BzI.done {A B r0 x0 y0 r1 x1 y1:Int} (h:BzI A B r0 x0 y0 r1 x1 y1) (hr:r1=0):bez A 1 0 B 0 1=(r0,x0,y0)/\r0=(Nat.gcd A.natAbs B.natAbs:Int):=by
 subst hr
 refine ⟨by rw [<- h.z];exact bez_end (by omega),?_⟩
 have:=h.g
 simp at this
 rw [<- this]
 have:=h.p0
 omega
theorem SSub (x y:ZI) (hx:Lb x.abs) (hy:Lb y.abs) (lx:x.abs.length<=49000) (ly:y.abs.length<=49000):Fn cT 63 [] [vz x,vz y] (vz (ZI.of (x.val - y.val))) []:=by
 refine fB Tryz.func63 rfl 9 fun w H B a h=>Jq 0 [] [(2,vp 0 0),(3,vp 1 0),(4,vp 2 0)] [(0,.box (zi x)),(1,.box (zi y)),(2,.box [cB false,.d (nsl [])])] h fun a w h=>?_
 obtain ⟨r1,er1,vr1,or1,lr1⟩:=mkZ (v:=-y.val) (m:=y.abs.length) (len_neg hy);obtain ⟨r2,er2,vr2,or2,lr2⟩:=mkZ (v:=x.val+r1.val) (m:=x.abs.length+r1.abs.length+1) (ze4 hx or1);refine Jq 3 [(2,.call (cU (SNeg y hy (by omega)) (congrArg vz er1.symm))),(3,.call (cU (SAdd x r1 hx or1 (by omega) (by omega)) (congrArg vz er2.symm)))] [(4,vp 2 0)] [(2,.box (zi r2))] h fun a w h=>qV (rA 2 (zi r2) h zgt rfl (congrArg (fun z=>vz z) (er2.trans (congrArg ZI.of ?_))));rw [vr1];omega
theorem SRSub (x y:ZI) (hx:Lb x.abs) (hy:Lb y.abs) (lx:x.abs.length<=49000) (ly:y.abs.length<=49000):Fn cT 72 [] [vz x,vz y] (vz (ZI.of (x.val - y.val))) []:=by
 refine fB Tryz.func72 rfl 9 fun w H B a h=>Jq 0 [] [(2,vp 0 0),(3,vp 1 0),(4,vp 2 0)] [(0,.box (zi x)),(1,.box (zi y)),(2,.box [cB false,.d (nsl [])])] h fun a w h=>?_
 obtain ⟨r1,er1,vr1,or1,lr1⟩:=mkZ (v:=-y.val) (m:=y.abs.length) (len_neg hy);obtain ⟨r2,er2,vr2,or2,lr2⟩:=mkZ (v:=x.val+r1.val) (m:=x.abs.length+r1.abs.length+1) (ze4 hx or1);refine Jq 3 [(2,.call (cU (SRNeg y hy (by omega)) (congrArg vz er1.symm))),(3,.call (cU (SRAdd x r1 hx or1 (by omega) (by omega)) (congrArg vz er2.symm)))] [(4,vp 2 0)] [(2,.box (zi r2))] h fun a w h=>qV (rA 2 (zi r2) h zgt rfl (congrArg (fun z=>vz z) (er2.trans (congrArg ZI.of ?_))));rw [vr1];omega
theorem zl3 (x y:ZI):(sgn x.val<sgn y.val->(-1:Int)=zel x.val y.val)/\(¬ sgn x.val<sgn y.val->sgn x.val>sgn y.val->(1:Int)=zel x.val y.val)/\(¬ sgn x.val<sgn y.val->¬ sgn x.val>sgn y.val->sgn x.val<0->zix (nV y.abs) (nV x.abs)=zel x.val y.val)/\(¬ sgn x.val<sgn y.val->¬ sgn x.val>sgn y.val->¬ sgn x.val<0->zix (nV x.abs) (nV y.abs)=zel x.val y.val):=by
 have e1:∀ z:Int,(0<z->sgn z=1)/\(z<0->sgn z=-1)/\(z=0->sgn z=0):=fun z=>⟨sgn_pos,zhw,zic⟩
 rcases zie x with ⟨h1,h2⟩ | ⟨h1,h2,h3⟩ | ⟨h1,h2⟩ <;> rcases zie y with ⟨k1,k2⟩ | ⟨k1,k2,k3⟩ | ⟨k1,k2⟩ <;>
  have a1:=e1 x.val <;> have a2:=e1 y.val <;> rw [h1,k1] <;> rw [h1] at a1 <;> rw [k1] at a2 <;> unfold zel zix <;> refine ⟨fun _=>?_,fun _ _=>?_,fun _ _ _=>?_,fun _ _ _=>?_⟩ <;> first | omega | (split <;> first | omega | (split <;> first | omega | (split <;> first | omega | (split <;> omega))))
theorem SCmp (x y:ZI) (hx:Lb x.abs) (hy:Lb y.abs) (lx:x.abs.length<=49000) (ly:y.abs.length<=49000):Fn cT 80 [] [vz x,vz y] (vI (zel x.val y.val)) []:=by
 refine fB Tryz.func80 rfl 32 fun w H B a h=>Jq 0 [] [(2,vp 0 0),(3,vp 1 0),(4,vI 0)] [(0,.box (zi x)),(1,.box (zi y))] h fun a w h=>Je 2 [(1,.call (SSign x hx (by omega))),(3,.call (SSign y hy (by omega)))] [] [(5,vI (sgn x.val)),(6,vI (sgn y.val))] h fun a w h=>qW (qZ (Je 2 [] [] [(11,vb (decide (sgn x.val<sgn y.val)))] h fun a w h=>zag (sgn x.val<sgn y.val) h (fun hc1 hc1'=>?_) (fun hc2 hc2'=>?_)))
 ·refine Je 2 [] [5,6,11] [(4,vI (-1))] h fun a w h=>qV (za6 (za2 (rT (.c (cI (-1))) h rfl ?_)));exact congrArg (vi .i64) ((zl3 x y).1 hc1')
 refine Je 2 [] [6,11] [(15,vb (decide (sgn x.val>sgn y.val)))] h fun a w h=>zag (sgn x.val>sgn y.val) h (fun hc3 hc3'=>?_) (fun hc4 hc4'=>?_)
 ·refine Je 2 [] [5,15] [(4,vI 1)] h fun a w h=>qV (za6 (za2 (rT (.c (cI 1)) h rfl ?_)));exact congrArg (vi .i64) ((zl3 x y).2.1 hc2' hc3')
 refine Je 2 [] [5,15] [(19,vb (decide (sgn x.val<0)))] h fun a w h=>zag (sgn x.val<0) h (fun hc5 hc5'=>?_) (fun hc6 hc6'=>?_)
 ·refine Je 2 [(4,.call (SnCmp y.abs x.abs hy hx))] [19] [(4,vI (zix (nV y.abs) (nV x.abs)))] h fun a w h=>qV (za6 (za2 (rT (.c (cI (zix (nV y.abs) (nV x.abs)))) h rfl ?_)));exact congrArg (vi .i64) ((zl3 x y).2.2.1 hc2' hc4' hc5')
 refine qU (za5 (za0 (Jq 2 [(4,.call (SnCmp x.abs y.abs hx hy))] [(4,vI (zix (nV x.abs) (nV y.abs)))] [] h fun a w h=>qV (rT (.c (cI (zix (nV x.abs) (nV y.abs)))) h rfl ?_))));exact congrArg (vi .i64) ((zl3 x y).2.2.2 hc2' hc4' hc6')
theorem SRCmp (x y:ZI) (hx:Lb x.abs) (hy:Lb y.abs) (lx:x.abs.length<=49000) (ly:y.abs.length<=49000):Fn cT 35 [] [vz x,vz y] (vI (zel x.val y.val)) []:=by
 refine fB Tryz.func35 rfl 9 fun w H B a h=>Jq 0 [] [(2,vp 0 0),(3,vp 1 0),(4,vI 0)] [(0,.box (zi x)),(1,.box (zi y))] h fun a w h=>?_
 obtain ⟨r1,er1,vr1,or1,lr1⟩:=mkZ (v:=x.val - y.val) (m:=x.abs.length+y.abs.length+1) (len_sub hx hy);refine Jq 2 [(2,.call (cU (SRSub x y hx hy (by omega) (by omega)) (congrArg vz er1.symm))),(3,.call (zdv r1 or1 (by omega)))] [(4,vI (sgn r1.val))] [] h fun a w h=>qV (rT (.c (cI (sgn r1.val))) h rfl ?_);rw [vr1,cmpZ_sgn];try rfl
theorem zi8:SlT cT 45 28 2:=SlT.mk' Tryz.underlying45 (by kernel_rfl)
def zk9 (vs:List ZI) (v:Int):Int:=if 0<=v then ((vs[v.toNat]?).map ZI.val).getD 0 else 0
def zi7 (vs:List ZI):List zbe->Int
  | []=>0
  | p :: ps=>p.c.val*zk9 vs p.v+zi7 vs ps
theorem valP_app (vs:List ZI) (ps qs:List zbe):zi7 vs (ps++qs)=zi7 vs ps+zi7 vs qs:=by
 induction ps with
 | nil=>simp [zi7]
 | cons p ps ih=>simp only [List.cons_append,zi7,ih];omega
theorem valP_take {vs:List ZI} {p:zbe} (h:ps[j]?=some p):zi7 vs (ps.take (j+1))=zi7 vs (ps.take j)+p.c.val*zk9 vs p.v:=by
 have:ps.take (j+1)=ps.take j++[p]:=by rw [bU,h];rfl
 rw [this,valP_app];simp [zi7]
theorem valAt_some {vs:List ZI} {v:Int} {k:Nat} {y:ZI} (h:v=(k:Int)) (hy:vs[k]?=some y):zk9 vs v=y.val:=by
 subst h
 unfold zk9
 rw [if_pos (by omega),Int.toNat_natCast,hy];rfl
theorem valAt_neg {vs:List ZI} {v:Int} (h:¬ v>=0):zk9 vs v=0:=by unfold zk9;rw [if_neg (by omega)]
theorem valAt_out {vs:List ZI} {v:Int} (h:¬ v<(vs.length:Int)):zk9 vs v=0:=by
 unfold zk9
 split
 ·rw [bX (by omega)];rfl
 ·rfl
def valT (t:zd6) (vs:List ZI):Int:=t.k.val+zi7 vs t.parts
def VOk (M:Nat) (vs:List ZI):Prop:=vs.length<=2000/\∀ y ∈ vs,Lb y.abs/\y.abs.length<=M
theorem VOk.get {vs:List ZI} (h:VOk M vs) {y:ZI} (hy:vs[j]?=some y):Lb y.abs/\y.abs.length<=M:=h.2 y (bS hy)
theorem valAt_lt {vs:List ZI} (h:VOk M vs) (v:Int):(zk9 vs v).natAbs<pw M:=by
 unfold zk9
 split
 ·cases hy:vs[v.toNat]? with
  | none=>exact zfd M
  | some y =>
   obtain ⟨h1,h2⟩:=h.get hy
   have h3:=ZI.abs_lt h1
   have h4:=zfy h2
   show y.val.natAbs<_
   omega
 ·exact zfd M
theorem valP_lt {L:Nat} {vs:List ZI} (hv:VOk M vs):∀ {ps:List zbe}, (∀ p ∈ ps,Lb p.c.abs/\p.c.abs.length<=L)->(zi7 vs ps).natAbs<=ps.length*pw (L+M)
 | [],_=>by simp [zi7]
 | p :: ps,h=>by
  have ih:=valP_lt hv (fun q hq=>h q (by simp [hq])) (ps:=ps)
  obtain ⟨h1,h2⟩:=h p (by simp)
  have h3:=cE (ZI.abs_lt h1) (zfy h2)
  have h4:(p.c.val*zk9 vs p.v).natAbs<pw (L+M):=by
   rw [Int.natAbs_mul,pw_add]
   exact Nat.mul_lt_mul'' h3 (valAt_lt hv p.v)
  simp only [zi7,List.length_cons,Nat.add_mul]
  omega
theorem zgy {L:Nat} {t:zd6} {vs:List ZI} (ht:TOk n L t) (hn:n<=1000) (hv:VOk M vs) (hp:∀ p ∈ ps,p ∈ t.parts) (hl:ps.length<=t.parts.length):(ZI.of (t.k.val+zi7 vs ps)).abs.length<=L+M+1:=by
 refine ZI.len_of ?_
 have h1:=valP_lt hv (fun p h=>ht.ps p (hp p h)) (L:=L)
 have h2:ps.length*pw (L+M)<=1000*pw (L+M):=Nat.mul_le_mul_right _ (by have:=ht.len;omega)
 have h3:=cE (ZI.abs_lt ht.kb) (zfy ht.kl)
 have h4:=zfy (show L<=L+M by omega)
 rw [zby]
 omega
theorem SValue (t:zd6) (vs:List ZI) {L:Nat} (ht:TOk n L t) (hn:n<=1000) (hL:L+M<=20000) (hv:VOk M vs):Fn cT 126 [] [(vT t),(vZs vs)] (vz (ZI.of (valT t vs))) []:=by
 have kt:=ht.kl;have lnv:=hv.1;refine fB Tryz.func126 rfl 40 fun w H B a h=>Jq 0 [] [(1,(vZs vs)),(2,vp 0 0),(4,vp 1 0)] [(0,.box (zT t)),(1,.box [cB false,.d (nsl [])])] h fun a w h=>?_
 obtain ⟨r1,er1,vr1,or1,lr1⟩:=mkZ (v:=t.k.val) (m:=t.k.abs.length) (zhu ht.kb);refine Jg 2 [(2,.call (cU (Scopied t.k ht.kb (by omega)) (congrArg vz er1.symm)))] [] [(5,vp 2 0)] [] [(2,.box (zi r1))] h fun a w h=>qW (Jg 3 [(2,.len (za1 3 cW t.parts))] [2] [(12,(vPs t.parts)),(13,vN t.parts.length),(14,vI 0)] [0] [] h fun a w h=>qZ ?_)
 refine zcc (ι:=(Nat) × (ZI)) (fun (j,out)=>out=ZI.of (t.k.val+zi7 vs (t.parts.take j))/\j<=t.parts.length)
   [] (fun (j,out)=>[(14,vN j)])
   [] (fun (j,out)=>[(2,.box (zi out))])
   (fun (j,out)=>t.parts.length - j) (0,r1) ?_ h ?_
 ·exact ⟨by rw [er1];simp [zi7],bG _⟩
 clear h;rintro ⟨j,out⟩ a w hI h;dsimp only at h;obtain ⟨hI1,hI2⟩:=hI;have ln:=ht.len;have lo:out.abs.length<=L+M+1:=by rw [hI1];exact zgy ht hn hv (fun p hp=>cG hp) (by rw [bT];omega)
 have ho:Lb out.abs:=by rw [hI1];exact ZI.lb_of _
 have vo:out.val=t.k.val+zi7 vs (t.parts.take j):=by rw [hI1];exact ZI.val_of _
 refine Je 3 [] [] [(15,vb (decide ((j:Int)<(t.parts.length:Int))))] h fun a w h=>qW (zag ((j:Int)<(t.parts.length:Int)) h (fun hc1 hc1'=>?_) (fun hc6 hc6'=>?_))
 ·refine qU (za0 (qW (qZ ?_)));obtain ⟨x2,hx2⟩:=gl t.parts j;obtain ⟨ox2,lx2⟩:=ht.get hx2;refine Jg 3 [(0,.g (xD 16 12 ta_0 (za4 hx2 (f:=cW)) (cV 14 _)))] [15] [(7,vp 3 0)] [] [(3,.box ([cI x2.v]++zi x2.c))] h fun a w h=>?_
  rcases bF (decide (x2.v>=0)) with hc2 | hc5
  ·have hc2':=dT hc2;refine Je 4 [(2,.cmp (op:=.geq) (m:=x2.v) (n:=0) (b:=true) .i64 hc2),(7,.len (za1 2 ziD vs))] [] [(27,vb (decide (x2.v<(vs.length:Int))))] h fun a w h=>zag (x2.v<(vs.length:Int)) h (fun hc3 hc3'=>?_) (fun hc4 hc4'=>?_)
   ·obtain ⟨k,hk⟩:∃ k:Nat,x2.v=(k:Int):=⟨_,(bV (by omega)).symm⟩;replace h:=cvM [] [] [] [(3,.box ([cI (k:Int)]++zi x2.c))] (by rw [hk]; try kernel_rfl) h;obtain ⟨x3,hx3⟩:=gl vs k;obtain ⟨ox3,lx3⟩:=hv.get hx3;obtain ⟨r4,er4,vr4,or4,lr4⟩:=mkZ (v:=x2.c.val*x3.val) (m:=x2.c.abs.length+x3.abs.length) (len_mul ox2 ox3);obtain ⟨r5,er5,vr5,or5,lr5⟩:=mkZ (v:=out.val+r4.val) (m:=out.abs.length+r4.abs.length+1) (ze4 ho or4);refine Jh 4 [(6,.g (xD 34 31 zi8 (za4 hx3 (f:=ziD)) (cV 33 _))),(8,.call (cU (SMul x2.c x3 ox2 ox3 (by omega) (by omega)) (congrArg vz er4.symm))),(9,.call (cU (SAdd out r4 ho or4 (by omega) (by omega)) (congrArg vz er5.symm)))] [7,27] [] [3] [(2,.box (zi r5))] h fun a w h=>za5 (za0 (Jf 4 [(0,.j1 j)] [] [(14,vI ((j:Int)+1))] h fun a w h=>za0 (za9 (x:=(j,out)) (y:=((j+1),r5)) h ?_ ?_)))
    ·have:=zac hx2;exact ⟨by rw [er5,vr4,vo,valP_take hx2,valAt_some hk hx3,<- Int.add_assoc],by omega⟩
    show t.parts.length - (j+1)<t.parts.length - j;have:=zac hx2;omega
   refine qU (za5 (za0 (Jh 4 [(0,.j1 j)] [7,27] [(14,vI ((j:Int)+1))] [3] [] h fun a w h=>za0 (za9 (x:=(j,out)) (y:=((j+1),out)) h ?_ ?_))))
   ·have:=zac hx2;exact ⟨by rw [hI1,valP_take hx2,valAt_out hc4', Int.mul_zero,Int.add_zero],by omega⟩
   show t.parts.length - (j+1)<t.parts.length - j;have:=zac hx2;omega
  have hc5':=dF hc5;refine Je 4 [(2,.cmp (op:=.geq) (m:=x2.v) (n:=0) (b:=false) .i64 hc5)] [] [(27,vb false)] h fun a w h=>zbs h (qU (za5 (za0 (Jh 4 [(0,.j1 j)] [7,27] [(14,vI ((j:Int)+1))] [3] [] h fun a w h=>za0 (za9 (x:=(j,out)) (y:=((j+1),out)) h ?_ ?_)))))
  ·have:=zac hx2;exact ⟨by rw [hI1,valP_take hx2,valAt_neg hc5', Int.mul_zero,Int.add_zero],by omega⟩
  show t.parts.length - (j+1)<t.parts.length - j;have:=zac hx2;omega
 refine exA (Jq 4 [] [(4,vp 1 0)] [(1,.box (zi out))] h fun a w h=>qV (rA 1 (zi out) h zgt rfl ?_));have hj:j=t.parts.length:=by omega
 subst hj;rw [hI1,List.take_length];try rfl
def conZ (ps:List zbe):Int:=ps.foldl (fun g p=>(Nat.gcd g.natAbs p.c.val.natAbs:Int)) 0
def zg7:Nat->(Nat->Bool)->Bool
  | 0,_=>true
  | n+1,p=>zg7 n p && p n
theorem zbf:∀ {n:Nat}, zg7 n p=true ↔ ∀ i,i<n->p i=true
 | 0=>by simp [zg7]
 | n+1=>by
  rw [zg7,bP,zbf]
  exact ⟨fun h i hi=>(Nat.lt_succ_iff_lt_or_eq.1 hi).elim (h.1 i) fun e=>e ▸ h.2,fun h=>⟨fun i hi=>h i (by omega),h n (by omega)⟩⟩
theorem zb9 (h:zg7 j p=true) (hp:p j=true):zg7 (j+1) p=true:=by rw [zg7,h,hp];rfl
theorem zba (hj:j<n) (hp:p j=false):zg7 n p=false:=by
 cases h:zg7 n p with
 | false=>rfl
 | true=>rw [zbf.1 h j hj] at hp;cases hp
theorem allN_congr {q:Nat->Bool} (h:∀ i,i<n->p i=q i):zg7 n p=zg7 n q:=by
 induction n with
 | zero=>rfl
 | succ n ih=>rw [zg7,zg7,ih fun i hi=>h i (by omega),h n (by omega)]
def zcn {α:Type} (pr:α->Bool):List α->Nat->Int
  | [],_=>-1
  | p :: ps,n=>if pr p=true then n else zcn pr ps (n+1)
theorem zci {pr:α->Bool} {xs:List α} {p:α} (h:xs[j]?=some p):zcn pr (xs.drop j) j=if pr p=true then (j:Int) else zcn pr (xs.drop (j+1)) (j+1):=by
 obtain ⟨hj,rfl⟩:=b7.1 h
 rw [b8 hj];rfl
theorem zjn (pr:α->Bool):∀ (xs:List α) (n:Nat),(zcn pr xs n=-1/\∀ x ∈ xs,pr x=false)\/∃ k x,zcn pr xs n=((n+k:Nat):Int)/\xs[k]?=some x/\pr x=true/\∀ y ∈ xs.take k,pr y=false
 | [],n => .inl ⟨rfl,fun x hx=>(by cases hx)⟩
 | p :: ps,n=>by
  cases hp:pr p with
  | true=>exact .inr ⟨0,p,by simp [zcn,hp],rfl,hp,fun y hy=>by simp at hy⟩
  | false =>
   rcases zjn pr ps (n+1) with ⟨h1,h2⟩ | ⟨k,x,h1,h2,h3,h4⟩
   ·exact .inl ⟨by simp [zcn,hp,h1],fun x hx=>(cL.1 hx).elim (fun e=>e ▸ hp) (h2 x)⟩
   ·exact .inr ⟨k+1,x,by simp only [zcn,hp,Bool.false_eq_true,if_false,h1];omega,h2,h3,fun y hy=>by rw [List.take_succ_cons] at hy;exact (cL.1 hy).elim (fun e=>e ▸ hp) (h4 y)⟩
theorem zgl (pr:α->Bool) (xs:List α):decide (zcn pr xs 0>=0)=xs.any pr:=by
 rcases zjn pr xs 0 with ⟨h1,h2⟩ | ⟨k,x,h1,h2,h3,_⟩
 ·rw [h1]
  cases h:xs.any pr with
  | false=>rfl
  | true=>obtain ⟨x,hx,hp⟩:=cM.1 h;rw [h2 x hx] at hp;cases hp
 ·rw [h1,decide_eq_true (by omega)]
  exact (cM.2 ⟨x,bS h2,h3⟩).symm
theorem zg3 (pr:α->Bool) (xs:List α):(zcn pr xs 0=-1/\xs.find? pr=none)\/∃ (k:Nat) (x:α),zcn pr xs 0=(k:Int)/\xs[k]?=some x/\xs.find? pr=some x:=by
 rcases zjn pr xs 0 with ⟨h1,h2⟩ | ⟨k,x,h1,h2,h3,h4⟩
 ·exact .inl ⟨h1,by rw [List.find?_eq_none];intro x hx;rw [h2 x hx];exact Bool.noConfusion⟩
 ·refine .inr ⟨k,x,by rw [h1,cD],h2,?_⟩
  obtain ⟨hk,rfl⟩:=b7.1 h2
  have e:xs=xs.take k++xs[k] :: xs.drop (k+1):=by rw [<- b8 hk,List.take_append_drop]
  have e2:xs.find? pr=(xs.take k++xs[k] :: xs.drop (k+1)).find? pr:=congrArg _ e
  rw [e2,List.find?_append,List.find?_eq_none.2 (fun y hy=>by rw [h4 y hy];exact Bool.noConfusion)]
  rw [List.find?_cons,h3];rfl
structure zen where
  t:zd6
  eq:Bool
def zen.d (x:zen):List D:=[.sl 3 (x.t.parts.map cW),.raw (.bool x.t.k.neg),nsl x.t.k.abs,.raw (.bool x.eq)]
inductive za7 where
  | mk (kind:Int) (r:zen) (kids:List za7)
def za7.kind:za7->Int | ⟨k,_,_⟩=>k
def za7.r:za7->zen | ⟨_,r,_⟩=>r
def za7.kids:za7->List za7 | ⟨_,_,ks⟩=>ks
theorem za7.ind {P:za7->Prop} (h:∀ k r ks,(∀ g ∈ ks,P g)->P ⟨k,r,ks⟩) (f:za7):P f :=
 za7.rec (motive_1:=P) (motive_2:=fun ks=>∀ g ∈ ks,P g) h (fun g hg=>(by cases hg)) (fun a l ha has g hg=>(cL.1 hg).elim (fun e=>e ▸ ha) (has g)) f
def za7.fold {α:Type} (g:Int->zen->List za7->List α->α):za7->α
  | ⟨k,r,ks⟩=>g k r ks (ks.attach.map fun x=>za7.fold g x.1)
  termination_by f=>SizeOf.sizeOf f
  decreasing_by have:=List.sizeOf_lt_of_mem x.2;simp;omega
theorem za7.fold_mk (g:Int->zen->List za7->List α->α) (k:Int) (r:zen) (ks:List za7):za7.fold g ⟨k,r,ks⟩=g k r ks (ks.map (za7.fold g)):=by
 rw [za7.fold,List.attach_map_val]
theorem za7.fold_eq (g:Int->zen->List za7->List α->α) (f:za7):za7.fold g f=g f.kind f.r f.kids (f.kids.map (za7.fold g)):=by cases f;exact za7.fold_mk g _ _ _
def za7.d (f:za7):List D:=f.fold fun k r _ ds=>[.raw (.int .i64 k),.sl 3 (r.t.parts.map cW),.raw (.bool r.t.k.neg),nsl r.t.k.abs,.raw (.bool r.eq),.sl 6 ds]
theorem za7.d_eq (f:za7):f.d=[.raw (.int .i64 f.kind),.sl 3 (f.r.t.parts.map cW),.raw (.bool f.r.t.k.neg),nsl f.r.t.k.abs,.raw (.bool f.r.eq),.sl 6 (f.kids.map za7.d)]:=za7.fold_eq _ f
theorem za7.d_len (f:za7):f.d.length=6:=by rw [za7.d_eq];rfl
def rawD (x:D):List D:=[x]
structure zaj where
  is_:Bool
  lo:ZI
  hi:ZI
def zaj.d (x:zaj):List D:=[.raw (.bool x.is_),.raw (.bool x.lo.neg),nsl x.lo.abs,.raw (.bool x.hi.neg),nsl x.hi.abs]
structure zan where
  v:Int
  any:Bool
  t:zd6
def zan.d (x:zan):List D:=[.raw (.int .i64 x.v),.raw (.bool x.any),.sl 3 (x.t.parts.map cW),.raw (.bool x.t.k.neg),nsl x.t.k.abs]
structure zb1 where
  proc:Int
  from_:Int
  to_:Int
  guard:za7
  moves:List zan
def zb1.d (x:zb1):List D:=[.raw (.int .i64 x.proc),.raw (.int .i64 x.from_),.raw (.int .i64 x.to_),.raw (.int .i64 x.guard.kind),.sl 3 (x.guard.r.t.parts.map cW),.raw (.bool x.guard.r.t.k.neg),nsl x.guard.r.t.k.abs,.raw (.bool x.guard.r.eq),.sl 6 (x.guard.kids.map za7.d),.sl 5 (x.moves.map zan.d)]
structure zb2 where
  name:ByteArray
  locs:List ByteArray
  cmds:D
def zb2.d (x:zb2):List D:=[.raw (.string x.name),.sl 1 (x.locs.map zdz),x.cmds]
structure zab where
  vars:List ByteArray
  bounds:List zaj
  init:za7
  procs:List zb2
  acts:List zb1
def zab.d (x:zab):List D:=[.sl 1 (x.vars.map zdz),.sl 5 (x.bounds.map zaj.d),.raw (.int .i64 x.init.kind),.sl 3 (x.init.r.t.parts.map cW),.raw (.bool x.init.r.t.k.neg),nsl x.init.r.t.k.abs,.raw (.bool x.init.r.eq),.sl 6 (x.init.kids.map za7.d),.sl 3 (x.procs.map zb2.d),.sl 10 (x.acts.map zb1.d)]
structure StD where
  locs:List Int
  vals:List ZI
def StD.d (x:StD):List D:=[.sl 1 (x.locs.map za8),.sl 2 (x.vals.map ziD)]
structure RunD where
  stem:List StD
  cycle:List StD
  acts:List Int
def RunD.d (x:RunD):List D:=[.sl 2 (x.stem.map StD.d),.sl 2 (x.cycle.map StD.d),.sl 1 (x.acts.map za8)]
structure zal where
  at_:Bool
  proc:Int
  loc:Int
  f:za7
def zal.d (x:zal):List D:=[.raw (.bool x.at_),.raw (.int .i64 x.proc),.raw (.int .i64 x.loc),.raw (.int .i64 x.f.kind),.sl 3 (x.f.r.t.parts.map cW),.raw (.bool x.f.r.t.k.neg),nsl x.f.r.t.k.abs,.raw (.bool x.f.r.eq),.sl 6 (x.f.kids.map za7.d)]
structure WordD where
  stem:List (List Bool)
  cycle:List (List Bool)
def WordD.d (x:WordD):List D:=[.sl 1 (x.stem.map (slD 1 za3)),.sl 1 (x.cycle.map (slD 1 za3))]
abbrev zat (s:zab):List C:=([.d (.sl 1 (s.vars.map zdz)),.d (.sl 5 (s.bounds.map zaj.d)),.d (.raw (.int .i64 s.init.kind)),.d (.sl 3 (s.init.r.t.parts.map cW))]++zi s.init.r.t.k++[.d (.raw (.bool s.init.r.eq)),.d (.sl 6 (s.init.kids.map za7.d)),.d (.sl 3 (s.procs.map zb2.d)),.d (.sl 10 (s.acts.map zb1.d))])
abbrev acC (x:zb1):List C:=[.d (.raw (.int .i64 x.proc)),.d (.raw (.int .i64 x.from_)),.d (.raw (.int .i64 x.to_)),.d (.raw (.int .i64 x.guard.kind)),.d (.sl 3 (x.guard.r.t.parts.map cW))]++zi x.guard.r.t.k++[.d (.raw (.bool x.guard.r.eq)),.d (.sl 6 (x.guard.kids.map za7.d)),.d (.sl 5 (x.moves.map zan.d))]
abbrev zF (x:za7):List C:=[.d (.raw (.int .i64 x.kind)),.d (.sl 3 (x.r.t.parts.map cW))]++zi x.r.t.k++[.d (.raw (.bool x.r.eq)),.d (.sl 6 (x.kids.map za7.d))]
abbrev zR_ (x:zen):List C:=[.d (.sl 3 (x.t.parts.map cW))]++zi x.t.k++[.d (.raw (.bool x.eq))]
abbrev vF (x:za7):V:=.t (.agg (zF x))
abbrev vR (x:zen):V:=.t (.agg (zR_ x))
abbrev vFs (x:List za7):V:=.t (.c (.d (.sl 6 (x.map za7.d))))
abbrev vRs (x:List zen):V:=.t (.c (.d (.sl 4 (x.map zen.d))))
abbrev cFs (x:List za7):C:=.d (.sl 6 (x.map za7.d))
abbrev cRs (x:List zen):C:=.d (.sl 4 (x.map zen.d))
theorem kb_0:SlT cT 33 35 6:=SlT.mk' Tryz.underlying33 (by kernel_rfl)
theorem kb_1:ElZ cT 33 35 6:=ElZ.mk' Tryz.underlying33 _ _ rfl rfl
section
variable {P:Program}
theorem Op.makeFs {d:Nat} {fn:Go.Fn} (ts:List (Nat × Nat × Nat)) {ty:TypeId} {pos af gd} :
  zb6 P ⟨some d,.makeFunc fn #[] ⟨ts.map fun p => .tmp p.1⟩,ty,pos,af,gd⟩ { rs:=ts.map fun p=>(p.1,vp p.2.1 p.2.2),ws:=[(d,some (.t (.c (.fn fn [] (ts.map fun p=>A.ptr p.2.1 p.2.2)))))] } :=
 zb6.value d _ rfl rfl rfl fun e f H B a w hok hr=>by
  refine ⟨.func fn #[] ⟨ts.map fun p=>a.eval (.tmp p.1)⟩,?_,[],ts.map fun p=>a.eval (.tmp p.1),rfl,trivial,?_⟩
  ·simp [execOp,Instr.makeFunc,Function.comp_def]
  ·have h1:∀ p ∈ ts,AR H B (.ptr p.2.1 p.2.2) (a.eval (.tmp p.1)):=fun p hp=>hok.slot p.1 _ (hr.1 (p.1,vp p.2.1 p.2.2) (bW.2 ⟨p,hp,rfl⟩))
   clear hr
   induction ts with
   | nil=>trivial
   | cons p ts ih=>exact ⟨h1 p (by simp),ih fun q hq=>h1 q (by simp [hq])⟩
end
theorem all_take {q:α->Bool} {xs:List α} {x:α} (h:xs[j]?=some x):(xs.take (j+1)).all q=((xs.take j).all q && q x):=by
 have e:xs.take (j+1)=xs.take j++[x]:=by rw [bU,h];rfl
 rw [e,List.all_append];simp
theorem zfj {q:α->Bool} {xs:List α} {x:α} (h:xs[j]?=some x) (h1:(xs.take j).all q=true) (h2:q x=true):(xs.take (j+1)).all q=true:=by rw [all_take h,h1,h2];rfl
theorem zd4 {q:α->Bool} {xs:List α} {x:α} (h:xs[j]?=some x) (h2:q x=false):xs.all q=false:=by
 cases h3:xs.all q with
 | false=>rfl
 | true=>rw [cO.1 h3 x (bS h)] at h2;cases h2
theorem zf7 {q:α->Bool} {xs:List α} (hj:¬ (j:Int)<(xs.length:Int)) (h1:(xs.take j).all q=true):xs.all q=true:=by rwa [bR (by omega)] at h1
theorem any_step {q:α->Bool} {xs:List α} {x:α} (h:xs[j]?=some x) (h1:(xs.take j).any q=false) (h2:q x=false):(xs.take (j+1)).any q=false:=by
 have e:xs.take (j+1)=xs.take j++[x]:=by rw [bU,h];rfl
 rw [e,List.any_append,h1];simp [h2]
theorem zl7 {q:α->Bool} {xs:List α} {x:α} (h:xs[j]?=some x) (h2:q x=true):xs.any q=true:=cM.2 ⟨x,bS h,h2⟩
theorem any_end {q:α->Bool} {xs:List α} (hj:¬ (j:Int)<(xs.length:Int)) (h1:(xs.take j).any q=false):xs.any q=false:=by rwa [bR (by omega)] at h1
def cnt {α:Type} (k:Int) (xs:List α):List α:=if k=4\/k=5 then xs else if k=3 then xs.take 1 else []
theorem cnt_map (g:α->β) (k:Int) (xs:List α):cnt k (xs.map g)=(cnt k xs).map g:=by unfold cnt;split;rfl;split;rw [cJ];rfl
theorem zjw {k:Int} {xs:List α} {x:α} (h:x ∈ cnt k xs):x ∈ xs:=by
 unfold cnt at h
 split at h
 ·exact h
 ·split at h
  ·exact cG h
  ·cases h
theorem cnt_len (k:Int) (xs:List α):(cnt k xs).length<=xs.length:=by
 unfold cnt;split;exact bJ _;split;rw [bT];omega;exact bG _
def zfv (lim:Int):List (Int->Int)->Int->Int
  | [],n=>n
  | s :: ss,n=>if n<=lim then zfv lim ss (n+s (lim - n)) else n
def za7.size (f:za7):Int->Int:=f.fold fun k _ _ ss lim=>zfv lim (cnt k ss) 1
theorem za7.size_eq (f:za7) (lim:Int):f.size lim=zfv lim ((cnt f.kind f.kids).map za7.size) 1:=by
 have:=congrFun (za7.fold_eq (fun k _ _ (ss:List (Int->Int)) lim=>zfv lim (cnt k ss) 1) f) lim
 rw [cnt_map] at this;exact this
theorem sizeGo_bd {lim:Int}:∀ (ss:List (Int->Int)) (n:Int),(∀ s ∈ ss,∀ l,0<=l->1<=s l/\s l<=l+1)->1<=n->n<=lim+1->1<=zfv lim ss n/\zfv lim ss n<=lim+1
 | [],n,_,h1,h2=>⟨h1,h2⟩
 | s :: ss,n,h,h1,h2=>by
  unfold zfv
  split
  ·rename_i hn
   have:=h s (by simp) (lim - n) (by omega)
   exact sizeGo_bd ss _ (fun t ht=>h t (by simp [ht])) (by omega) (by omega)
  ·exact ⟨h1,h2⟩
theorem za7.size_bd (f:za7):∀ lim:Int,0<=lim->1<=f.size lim/\f.size lim<=lim+1 :=
 za7.ind (P:=fun f=>∀ lim:Int,0<=lim->1<=f.size lim/\f.size lim<=lim+1) (fun k r ks ih lim hl=>by
  rw [za7.size_eq]
  refine sizeGo_bd _ _ (fun s hs=>?_) (by omega) (by omega)
  obtain ⟨g,hg,rfl⟩:=bW.1 hs
  exact ih g (zjw hg)) f
theorem sizeGo_at {lim n:Int} {ss:List (Int->Int)} {s:Int->Int} (h:ss[j]?=some s) (hn:n<=lim):zfv lim (ss.drop j) n=zfv lim (ss.drop (j+1)) (n+s (lim - n)):=by
 obtain ⟨hj,rfl⟩:=b7.1 h
 rw [b8 hj,zfv,if_pos hn]
theorem sizeGo_out {lim n:Int} {ss:List (Int->Int)} (h:¬ n<=lim\/ss=[]):zfv lim ss n=n:=by
 cases ss with
 | nil=>rfl
 | cons s ss=>rw [zfv,if_neg (h.resolve_right (by simp))]
def fewR (L:Int) (r:zen):Bool:=decide ((r.t.parts.length:Int)<=20) && decide ((r.t.k.abs.length:Int)<=L) && r.t.parts.all fun p=>decide ((p.c.abs.length:Int)<=L)
def za7.few (L:Int) (f:za7):Bool:=f.fold fun k r _ bs=>(!(k == 2) || fewR L r) && (cnt k bs).all id
theorem za7.few_eq (L:Int) (f:za7):f.few L=((!(f.kind == 2) || fewR L f.r) && (cnt f.kind f.kids).all (za7.few L)):=by
 have:=za7.fold_eq (fun k r _ (bs:List Bool)=>(!(k == 2) || fewR L r) && (cnt k bs).all id) f
 rw [cnt_map,List.all_map] at this;exact this
def ziv (f:za7) (most L:Int):Bool:=!decide (f.size most>most) && f.few L
def zfp (vs:List ZI) (r:zen):Bool:=if r.eq=true then sgn (valT r.t vs) == 0 else decide (sgn (valT r.t vs)>=0)
def za7.holds (vs:List ZI) (f:za7):Bool:=f.fold fun k r _ bs=>if k=0 then true else if k=2 then zfp vs r else if k=3 then (match bs with | []=>false | b :: _=>!b) else if k=4 then bs.all id else if k=5 then bs.any id else false
theorem za7.holds_eq (vs:List ZI) (f:za7):f.holds vs=if f.kind=0 then true else if f.kind=2 then zfp vs f.r else if f.kind=3 then (match f.kids with | []=>false | g :: _=>!g.holds vs) else if f.kind=4 then f.kids.all (za7.holds vs) else if f.kind=5 then f.kids.any (za7.holds vs) else false:=by
 have:=za7.fold_eq (fun k r _ (bs:List Bool)=>if k=0 then true else if k=2 then zfp vs r else if k=3 then (match bs with | []=>false | b :: _=>!b) else if k=4 then bs.all id else if k=5 then bs.any id else false) f
 rw [List.all_map,List.any_map] at this
 refine this.trans ?_
 cases f.kids <;> rfl
def TokR (L:Nat) (r:zen):Prop:=TOk 20 L r.t
def za7.ok (L:Nat) (f:za7):Prop:=f.fold fun k r _ ps=>(k=2->TokR L r)/\∀ p ∈ cnt k ps,p
theorem za7.ok_eq (L:Nat) (f:za7):f.ok L ↔ (f.kind=2->TokR L f.r)/\∀ g ∈ cnt f.kind f.kids,g.ok L:=by
 have:=za7.fold_eq (fun k r _ (ps:List Prop)=>(k=2->TokR L r)/\∀ p ∈ cnt k ps,p) f
 rw [cnt_map] at this
 unfold za7.ok
 rw [this]
 refine and_congr_right fun _=>⟨fun h g hg=>h _ (bW.2 ⟨g,hg,rfl⟩),fun h p hp=>?_⟩
 obtain ⟨g,hg,rfl⟩:=bW.1 hp
 exact h g hg
def za7.lb (f:za7):Prop:=f.fold fun _ r ks ps=>(TLb r.t/\ks.length<=9223372036854775807)/\∀ p ∈ ps,p
theorem za7.lb_eq (f:za7):f.lb ↔ (TLb f.r.t/\f.kids.length<=9223372036854775807)/\∀ g ∈ f.kids,g.lb:=by
 have:=za7.fold_eq (fun _ r ks (ps:List Prop)=>(TLb r.t/\ks.length<=9223372036854775807)/\∀ p ∈ ps,p) f
 unfold za7.lb
 rw [this]
 refine and_congr_right fun _=>⟨fun h g hg=>h _ (bW.2 ⟨g,hg,rfl⟩),fun h p hp=>?_⟩
 obtain ⟨g,hg,rfl⟩:=bW.1 hp
 exact h g hg
theorem fewR_ok {L:Nat} {r:zen} (h:fewR L r=true) (hl:TLb r.t):TokR L r:=by
 simp only [fewR,bP,decide_eq_true_eq,cO] at h
 exact ⟨by omega,fun p hp=>⟨hl.2 p hp,by have:=h.2 p hp;omega⟩,hl.1,by omega⟩
theorem za7.few_ok {L:Nat} (f:za7):f.few L=true->f.lb->f.ok L :=
 za7.ind (P:=fun f=>f.few L=true->f.lb->f.ok L) (fun k r ks ih h hl=>by
  rw [za7.few_eq,bP] at h
  rw [za7.lb_eq] at hl
  rw [za7.ok_eq]
  refine ⟨fun hk=>fewR_ok (by have:=h.1;rw [show ((za7.mk k r ks).kind == 2)=true from by rw [hk];rfl] at this;simpa using this) hl.1.1,fun g hg=>ih g (zjw hg) (cO.1 h.2 g hg) (hl.2 g (zjw hg))⟩) f
theorem SKids (f:za7) :Fn cT 133 [] [(vF f)] (vFs (cnt f.kind f.kids)) []:=by
 refine fB Tryz.func133 rfl 26 fun w H B a h=>Jq 0 [] [(1,vp 0 0),(2,vW zaa)] [(0,.box (zF f))] h fun a w h=>qW ?_
 rcases bF (f.kind == 4) with hc1 | hc2
 ·refine Je 1 [(2,.cmp (op:=.eql) (m:=f.kind) (n:=4) (b:=true) .i64 hc1)] [] [(10,vb true)] h fun a w h=>cS true h (fun _=>?_) nofun
  refine Je 1 [] [10] [(2,(vFs f.kids))] h fun a w h=>qV (za2 (rT (.c (cFs f.kids)) h rfl ?_));have p4: f.kind=4:=by have:=hc1;simpa using this
  have hz:(cnt f.kind f.kids)=f.kids:=by unfold cnt;rw [if_pos (by omega)]
  rw [hz];try rfl
 refine Je 1 [(2,.cmp (op:=.eql) (m:=f.kind) (n:=4) (b:=false) .i64 hc2)] [] [(10,vb (f.kind == 5))] h fun a w h=>cS (f.kind == 5) h (fun hc3=>?_) (fun hc4=>?_)
 ·refine Je 1 [] [10] [(2,(vFs f.kids))] h fun a w h=>qV (za2 (rT (.c (cFs f.kids)) h rfl ?_));have p4:¬ f.kind=4:=by have:=hc2;simpa using this
  have p5: f.kind=5:=by have:=hc3;simpa using this
  have hz:(cnt f.kind f.kids)=f.kids:=by unfold cnt;rw [if_pos (by omega)]
  rw [hz];try rfl
 refine qU (za0 (qW ?_))
 rcases bF (f.kind == 3) with hc5 | hc8
 ·refine Je 1 [(2,.cmp (op:=.eql) (m:=f.kind) (n:=3) (b:=true) .i64 hc5),(6,.len (za1 6 za7.d f.kids))] [10] [(21,vb (decide ((f.kids.length:Int)>0)))] h fun a w h=>zag ((f.kids.length:Int)>0) h (fun hc6 hc6'=>?_) (fun hc7 hc7'=>?_)
  ·refine Jq 1 [(2,.g (Op.sliceD (d:=24) (t:=23) (l:=0) (h:=1) (rows:=f.kids.map za7.d) (rows':=(f.kids.take 1).map za7.d) kb_0 (BO.no _) (BO.yes _ (OV.const (.int .i64 1) rfl)) (by first | omega | (simp at *;omega)) (by first | omega | (simp only [bH];omega) | (simp at *;omega)) (by simp [cJ])))] [(2,(vFs (f.kids.take 1)))] [] h fun a w h=>qV (za2 (rT (.c (cFs (f.kids.take 1))) h rfl ?_));have p4:¬ f.kind=4:=by have:=hc2;simpa using this
   have p5:¬ f.kind=5:=by have:=hc4;simpa using this
   have p3: f.kind=3:=by have:=hc5;simpa using this
   have hz:(cnt f.kind f.kids)=(f.kids.take 1):=by unfold cnt;rw [if_neg (by omega),if_pos (by omega)]
   rw [hz];try rfl
  refine qU (za0 (Jq 1 [(0,.g (Op.buildED (d:=25) kb_1))] [(2,(vFs []))] [] h fun a w h=>qV (rT (.c (cFs [])) h rfl ?_)));have p4:¬ f.kind=4:=by have:=hc2;simpa using this
  have p5:¬ f.kind=5:=by have:=hc4;simpa using this
  have p3: f.kind=3:=by have:=hc5;simpa using this
  have hz:(cnt f.kind f.kids)=[]:=by unfold cnt;rw [if_neg (by omega),if_pos (by omega),cC.1 (show f.kids.length=0 by have:=dF hc7;omega)];rfl
  rw [hz];try rfl
 refine Je 1 [(2,.cmp (op:=.eql) (m:=f.kind) (n:=3) (b:=false) .i64 hc8)] [10] [(21,vb false)] h fun a w h=>zbs h (qU (za0 (Jq 1 [(0,.g (Op.buildED (d:=25) kb_1))] [(2,(vFs []))] [] h fun a w h=>qV (rT (.c (cFs [])) h rfl ?_))));have p4:¬ f.kind=4:=by have:=hc2;simpa using this
 have p5:¬ f.kind=5:=by have:=hc4;simpa using this
 have p3:¬ f.kind=3:=by have:=hc8;simpa using this
 have hz:(cnt f.kind f.kids)=[]:=by unfold cnt;rw [if_neg (by omega),if_neg (by omega)]
 rw [hz];try rfl
theorem kc_3:SlT cT 202 32 4:=SlT.mk' Tryz.underlying202 (by kernel_rfl)
theorem kc_5:ElZ cT 202 32 4:=ElZ.mk' Tryz.underlying202 _ _ rfl rfl
def fltV (j:Nat) (ps:List zbe):List zbe:=ps.filter fun p=>decide (0<=p.v/\p.v<(j:Int))
theorem fltV_succ (vs:List ZI) (j:Nat):∀ ps:List zbe,zi7 vs (fltV (j+1) ps)=zi7 vs (fltV j ps)+zbt ps j*zk9 vs j
 | []=>by simp [fltV,zi7,zbt]
 | p :: ps=>by
  have ih:=fltV_succ vs j ps
  simp only [fltV] at ih ⊢
  simp only [List.filter_cons,zbt,Int.add_mul]
  by_cases h1:0<=p.v/\p.v<(j:Int)
  ·rw [if_pos (decide_eq_true (by omega)),if_pos (decide_eq_true h1),if_neg (by omega)]
   simp only [zi7,ih];omega
  ·by_cases h2:p.v=(j:Int)
   ·rw [if_pos (decide_eq_true (by omega)),if_neg (by simpa using h1),if_pos (by omega)]
    simp only [zi7,ih,h2];omega
   ·rw [if_neg (by rw [decide_eq_true_eq];omega),if_neg (by simpa using h1),if_neg (by omega),ih];omega
theorem fltV_all (vs:List ZI):∀ ps:List zbe,zi7 vs (fltV vs.length ps)=zi7 vs ps
 | []=>rfl
 | p :: ps=>by
  have ih:=fltV_all vs ps
  simp only [fltV] at ih ⊢
  simp only [List.filter_cons]
  by_cases h1:0<=p.v/\p.v<(vs.length:Int)
  ·rw [if_pos (decide_eq_true h1)];simp only [zi7,ih]
  ·rw [if_neg (by simpa using h1),ih,zi7]
   by_cases h2:0<=p.v
   ·rw [valAt_out (by omega)];omega
   ·rw [valAt_neg (by omega)];omega
theorem fltV_zero (ps:List zbe):fltV 0 ps=[]:=by
 unfold fltV;rw [List.filter_eq_nil_iff];intro p _;rw [decide_eq_true_eq];omega
theorem fltV_mem:∀ p ∈ fltV j ps,p ∈ ps:=fun p hp=>(List.mem_filter.1 hp).1
theorem fltV_len (j:Nat) (ps:List zbe):(fltV j ps).length<=ps.length:=List.length_filter_le _ _
theorem SSize0 (f:za7) (lim:Int) (ih:∀ g ∈ f.kids,∀ l:Int,0<=l->l<=1000->Fn cT 92 [] [(vF g),vI l] (vI (g.size l)) []) (h0:0<=lim) (h1:lim<=1000) (hk:f.kids.length<=9223372036854775807):Fn cT 92 [] [(vF f),vI lim] (vI (f.size lim)) []:=by
 have lk:=cnt_len f.kind f.kids;refine fB Tryz.func92 rfl 32 fun w H B a h=>Jq 0 [] [(1,vI lim),(2,vp 0 0),(4,vI 0)] [(0,.box (zF f))] h fun a w h=>Je 1 [] [] [(5,vI 1)] h fun a w h=>Jg 1 [(1,.call (SKids f))] [2] [(6,(vFs (cnt f.kind f.kids)))] [0] [] h fun a w h=>qW (Jg 1 [] [] [(7,vI 0)] [] [] h fun a w h=>qZ ?_)
 refine zcc (ι:=(Nat) × (Int)) (fun (j,n)=>j<=(cnt f.kind f.kids).length/\f.size lim=zfv lim (((cnt f.kind f.kids).map za7.size).drop j) n/\1<=n/\n<=lim+1)
   [] (fun (j,n)=>[(5,vI n),(7,vN j)])
   [] (fun (j,n)=>[])
   (fun (j,n)=>(cnt f.kind f.kids).length - j) (0,1) ?_ h ?_
 ·exact ⟨bG _,za7.size_eq f lim,by omega,by omega⟩
 clear h;rintro ⟨j,n⟩ a w hI h;dsimp only at h;obtain ⟨hI1,hI2,hI3,hI4⟩:=hI;refine qW ?_
 rcases bF (decide ((j:Int)<((cnt f.kind f.kids).length:Int))) with hc1 | hc4
 ·have hc1':=dT hc1;refine Jg 1 [(2,.len (za1 6 za7.d (cnt f.kind f.kids))),(3,.cmp (op:=.lss) (m:=(j:Int)) (n:=((cnt f.kind f.kids).length:Int)) (b:=true) .i64 hc1)] [] [(18,vb (decide (n<=lim)))] [] [] h fun a w h=>zag (n<=lim) h (fun hc2 hc2'=>?_) (fun hc3 hc3'=>?_)
  ·refine qU (za0 (qW (qZ ?_)));obtain ⟨x2,hx2⟩:=gl (cnt f.kind f.kids) j;have bz:0<=lim - n->1<=x2.size (lim - n)/\x2.size (lim - n)<=lim - n+1:=x2.size_bd (lim - n);refine Jh 1 [(3,.g (xD 24 22 kb_0 ((za4 hx2 (f:=za7.d)).trans (congrArg some (za7.d_eq x2))) (cV 23 _))),(7,.sub .i64 (m:=lim) (n:=n) i6),(8,.call (ih x2 (zjw (lM hx2)) (lim - n) (by omega) (by omega))),(9,.add .i64 (m:=n) (n:=(x2.size (lim - n))) i6)] [18] [(5,vI (n+(x2.size (lim - n))))] [] [] h fun a w h=>za5 (za0 (Jh 1 [(1,.j1 j)] [] [(7,vI ((j:Int)+1))] [] [] h fun a w h=>za0 (za9 (x:=(j,n)) (y:=((j+1),n+x2.size (lim - n))) h ?_ ?_)))
   ·exact ⟨by have:=zac hx2;omega,by rw [hI2,sizeGo_at (za4 hx2 (f:=za7.size)) (by omega)],by have:=bz (by omega);omega,by have:=bz (by omega);omega⟩
   show (cnt f.kind f.kids).length - (j+1)<(cnt f.kind f.kids).length - j;have:=zac hx2;omega
  refine exA (Jq 1 [] [(4,vI n)] [] h fun a w h=>qV (rT (.c (cI n)) h rfl ?_))
  have hz:f.size lim=n:=by
   rw [hI2];refine sizeGo_out ?_
   by_cases hn:n<=lim
   ·right;exact bL (by rw [bH];first | omega | (simp_all;omega))
   exact .inl hn
  rw [hz];try rfl
 have hc4':=dF hc4;refine Jg 1 [(2,.len (za1 6 za7.d (cnt f.kind f.kids))),(3,.cmp (op:=.lss) (m:=(j:Int)) (n:=((cnt f.kind f.kids).length:Int)) (b:=false) .i64 hc4)] [] [(18,vb false)] [] [] h fun a w h=>zbs h (exA (Jq 1 [] [(4,vI n)] [] h fun a w h=>qV (rT (.c (cI n)) h rfl ?_)))
 have hz:f.size lim=n:=by
  rw [hI2];refine sizeGo_out ?_
  by_cases hn:n<=lim
  ·right;exact bL (by rw [bH];first | omega | (simp_all;omega))
  exact .inl hn
 rw [hz];try rfl
theorem SSize (f:za7):f.lb->∀ lim:Int,0<=lim->lim<=1000->Fn cT 92 [] [(vF f),vi .i64 lim] (vi .i64 (f.size lim)) [] :=
 za7.ind (P:=fun f=>f.lb->∀ lim:Int,0<=lim->lim<=1000->Fn cT 92 [] [(vF f),vi .i64 lim] (vi .i64 (f.size lim)) []) (fun k r ks ih hl lim h0 h1=>by
  have hl:=(za7.lb_eq _).1 hl
  exact SSize0 ⟨k,r,ks⟩ lim (fun g hg l g0 g1=>ih g hg (hl.2 g hg) l g0 g1) h0 h1 hl.1.2) f
def zjr (rs:List zen) (most L:Int):Bool:=decide ((rs.length:Int)<=most) && rs.all (fewR L)
theorem SFewRs (rs:List zen) (most L:Int) (hl:rs.length<=1000):Fn cT 134 [] [(vRs rs),vI most,vI L] (vb (zjr rs most L)) []:=by
 refine fB Tryz.func134 rfl 64 fun w H B a h=>Jq 0 [] [(0,(vRs rs)),(1,vI most),(2,vI L),(6,vb false)] [] h fun a w h=>qW (Jg 0 [(1,.len (za1 4 zen.d rs))] [1] [(12,vb (decide ((rs.length:Int)>most)))] [] [] h fun a w h=>zag ((rs.length:Int)>most) h (fun hc1 hc1'=>?_) (fun hc2 hc2'=>?_))
 ·refine Jg 0 [] [12] [] [] [] h fun a w h=>qV (za2 (rT (.c (cB false)) h rfl ?_));rw [show zjr rs most L=false from by unfold zjr;rw [decide_eq_false (by have:=dT hc1;omega)];rfl];try rfl
 refine qU (za0 (qW (Jg 0 [] [12] [(7,vI 0)] [] [] h fun a w h=>qZ ?_)))
 refine zcc (ι:=(Nat)) (fun j=>j<=rs.length/\(rs.take j).all (fewR L)=true)
   [6] (fun j=>[(7,vN j)])
   [] (fun j=>[])
   (fun j=>rs.length - j) 0 ?_ h ?_
 ·exact ⟨bG _,rfl⟩
 clear h;rintro j a w hI h;obtain ⟨hI1,hI2⟩:=hI;refine qW (Jg 0 [(2,.len (za1 4 zen.d rs))] [] [(16,vb (decide ((j:Int)<(rs.length:Int))))] [] [] h fun a w h=>zag ((j:Int)<(rs.length:Int)) h (fun hc3 hc3'=>?_) (fun hc12 hc12'=>?_))
 ·refine qU (za0 (qW (qZ (qW ?_))));obtain ⟨x1,hx1⟩:=gl rs j
  rcases bF (decide ((x1.t.parts.length:Int)>20)) with hc4 | hc5
  ·have hc4':=dT hc4;refine Jg 0 [(2,.g (xD 21 19 kc_3 (za4 hx1 (f:=zen.d)) (cV 20 _))),(6,.len (za1 3 cW x1.t.parts)),(7,.cmp (op:=.gtr) (m:=(x1.t.parts.length:Int)) (n:=20) (b:=true) .i64 hc4)] [16] [(38,vb true)] [] [] h fun a w h=>cS true h (fun _=>?_) nofun
   refine Jg 0 [] [38] [(6,vb false)] [] [] h fun a w h=>qV (za2 (za6 (za2 (za2 (za6 (za2 (rT (.c (cB false)) h rfl ?_)))))));rw [show zjr rs most L=false from by unfold zjr;rw [zd4 hx1 (show fewR L x1=false from by rw [fewR,decide_eq_false (by have:=dT hc4;omega)];rfl),bM]];try rfl
  have hc5':=dF hc5;refine Jg 0 [(2,.g (xD 21 19 kc_3 (za4 hx1 (f:=zen.d)) (cV 20 _))),(6,.len (za1 3 cW x1.t.parts)),(7,.cmp (op:=.gtr) (m:=(x1.t.parts.length:Int)) (n:=20) (b:=false) .i64 hc5),(11,.g (xD 30 28 kc_3 (za4 hx1 (f:=zen.d)) (cV 29 _))),(16,.len (zgf x1.t.k.abs))] [16] [(38,vb (decide ((x1.t.k.abs.length:Int)>L)))] [] [] h fun a w h=>zag ((x1.t.k.abs.length:Int)>L) h (fun hc6 hc6'=>?_) (fun hc7 hc7'=>?_)
  ·refine Jg 0 [] [38] [(6,vb false)] [] [] h fun a w h=>qV (za2 (za6 (za2 (za2 (za6 (za2 (rT (.c (cB false)) h rfl ?_)))))));rw [show zjr rs most L=false from by unfold zjr;rw [zd4 hx1 (show fewR L x1=false from by rw [fewR,decide_eq_false (p:=(_:Int)<=L) (by have:=dT hc6;omega),bM];rfl),bM]];try rfl
  refine qU (za0 (Jg 0 [] [38] [(8,vI 0)] [] [] h fun a w h=>qZ ?_));have hjr:=hI1
  refine zcc (ι:=(Nat)) (fun i=>i<=x1.t.parts.length/\(x1.t.parts.take i).all (fun p=>decide ((p.c.abs.length:Int)<=L))=true)
    [] (fun i=>[(8,vN i)])
    [] (fun i=>[])
    (fun i=>x1.t.parts.length - i) 0 ?_ h ?_
  ·exact ⟨bG _,rfl⟩
  clear h;rintro i a w hI h;obtain ⟨hJ1,hJ2⟩:=hI;refine qW (Jg 0 [(3,.g (xD 42 40 kc_3 (za4 hx1 (f:=zen.d)) (cV 41 _))),(7,.len (za1 3 cW x1.t.parts))] [] [(47,vb (decide ((i:Int)<(x1.t.parts.length:Int))))] [] [] h fun a w h=>zag ((i:Int)<(x1.t.parts.length:Int)) h (fun hc8 hc8'=>?_) (fun hc11 hc11'=>?_))
  ·refine qU (za0 (qW (qZ ?_)));obtain ⟨x2,hx2⟩:=gl x1.t.parts i;refine Jg 0 [(2,.g (xD 52 50 kc_3 (za4 hx1 (f:=zen.d)) (cV 51 _))),(7,.g (xD 57 55 ta_0 (za4 hx2 (f:=cW)) (cV 56 _))),(11,.len (zgf x2.c.abs))] [47] [(63,vb (decide ((x2.c.abs.length:Int)>L)))] [] [] h fun a w h=>zag ((x2.c.abs.length:Int)>L) h (fun hc9 hc9'=>?_) (fun hc10 hc10'=>?_)
   ·refine Jg 0 [] [63] [(6,vb false)] [] [] h fun a w h=>qV (za6 (za2 (za2 (za6 (za6 (za2 (za2 (za6 (za2 (rT (.c (cB false)) h rfl ?_))))))))));rw [show zjr rs most L=false from by unfold zjr;rw [zd4 hx1 (show fewR L x1=false from by rw [fewR,zd4 hx2 (decide_eq_false (by have:=dT hc9;omega)),bM]),bM]];try rfl
   refine qU (za5 (za0 (Jh 0 [(1,.j1 i)] [63] [(8,vI ((i:Int)+1))] [] [] h fun a w h=>za0 (za9 (x:=i) (y:=i+1) h ?_ ?_))))
   ·exact ⟨by have:=zac hx2;omega,zfj hx2 hJ2 (decide_eq_true (by have:=dF hc10;omega))⟩
   show x1.t.parts.length - (i+1)<x1.t.parts.length - i;have:=zac hx2;omega
  refine wp_exit (zbq (zbq (zao (za5 (za0 (Jh 0 [(1,.j1 j)] [8,47] [(7,vI ((j:Int)+1))] [] [] h fun a w h=>za0 (za9 (x:=j) (y:=j+1) h ?_ ?_)))))))
  ·exact ⟨by have:=zac hx1;omega,zfj hx1 hI2 (by rw [fewR,decide_eq_true (by have:=dF hc5;omega),decide_eq_true (by have:=dF hc7;omega),zf7 (dF hc11) hJ2];rfl)⟩
  show rs.length - (j+1)<rs.length - j;have:=zac hx1;omega
 refine exA (Jq 0 [] [(6,vb true)] [] h fun a w h=>qV (rT (.c (cB true)) h rfl ?_));rw [show zjr rs most L=true from by unfold zjr;rw [decide_eq_true (by have:=dF hc2;omega),zf7 (dF hc12) hI2];rfl];try rfl
theorem fewRs_one (r:zen) (L:Int):zjr [r] 1 L=fewR L r:=by simp [zjr]
theorem Sfew0 (f:za7) (L:Int) (ih:∀ g ∈ f.kids,Fn cT 93 [] [(vF g),vI L] (vb (g.few L)) []) (hk:f.kids.length<=9223372036854775807):Fn cT 93 [] [(vF f),vI L] (vb (f.few L)) []:=by
 have lk:=cnt_len f.kind f.kids;refine fB Tryz.func93 rfl 33 fun w H B a h=>Jq 0 [] [(1,vI L),(2,vp 0 0),(4,vb false)] [(0,.box (zF f))] h fun a w h=>qW ?_
 rcases bF (f.kind == 2) with hc1 | hc8
 ·refine Je 1 [(2,.cmp (op:=.eql) (m:=f.kind) (n:=2) (b:=true) .i64 hc1),(6,.g (bD 13 ([f.r].map zen.d) [(12,(vR f.r))] kc_5 (.cons (i:=0) (cV 12 _) (.nil)) (by kernel_rfl) (by simp [zen.d]))),(8,.call (cU (SFewRs [f.r] 1 L (by simp)) (congrArg vb (fewRs_one f.r L))))] [] [(17,vb (!(fewR L f.r)))] h fun a w h=>cS (!(fewR L f.r)) h (fun hc2=>?_) (fun hc3=>?_)
  ·refine Je 1 [] [17] [] h fun a w h=>qV (za2 (rT (.c (cB false)) h rfl ?_));have hz:f.few L=false:=by rw [za7.few_eq,(show (!(f.kind == 2) || fewR L f.r)=false from by rw [hc1];rw [(show (fewR L f.r)=false from by simpa using hc2)];rfl)];rfl
   rw [hz];try rfl
  refine qU (za0 (Jg 1 [(1,.call (SKids f))] [2,17] [(5,(vFs (cnt f.kind f.kids)))] [0] [] h fun a w h=>qW (Jg 1 [] [] [(6,vI 0)] [] [] h fun a w h=>qZ ?_)))
  refine zcc (ι:=(Nat)) (fun j=>j<=(cnt f.kind f.kids).length/\((cnt f.kind f.kids).take j).all (za7.few L)=true)
    [4] (fun j=>[(6,vN j)])
    [] (fun j=>[])
    (fun j=>(cnt f.kind f.kids).length - j) 0 ?_ h ?_
  ·exact ⟨bG _,rfl⟩
  clear h;rintro j a w hI h;obtain ⟨hI1,hI2⟩:=hI;refine qW (Jg 1 [(2,.len (za1 6 za7.d (cnt f.kind f.kids)))] [] [(23,vb (decide ((j:Int)<((cnt f.kind f.kids).length:Int))))] [] [] h fun a w h=>zag ((j:Int)<((cnt f.kind f.kids).length:Int)) h (fun hc4 hc4'=>?_) (fun hc7 hc7'=>?_))
  ·refine qU (za0 (qW (qZ ?_)));obtain ⟨x3,hx3⟩:=gl (cnt f.kind f.kids) j;refine Jg 1 [(2,.g (xD 28 26 kb_0 ((za4 hx3 (f:=za7.d)).trans (congrArg some (za7.d_eq x3))) (cV 27 _))),(5,.call (ih x3 (zjw (lM hx3))))] [23] [(32,vb (!(za7.few L x3)))] [] [] h fun a w h=>cS (!(za7.few L x3)) h (fun hc5=>?_) (fun hc6=>?_)
   ·refine Jg 1 [] [32] [(4,vb false)] [] [] h fun a w h=>qV (za6 (za2 (za2 (za6 (za2 (rT (.c (cB false)) h rfl ?_))))));have hz:f.few L=false:=by rw [za7.few_eq,zd4 hx3 (show (za7.few L x3)=false from by simpa using hc5),bM]
    rw [hz];try rfl
   refine qU (za5 (za0 (Jh 1 [(1,.j1 j)] [32] [(6,vI ((j:Int)+1))] [] [] h fun a w h=>za0 (za9 (x:=j) (y:=j+1) h ?_ ?_))))
   ·exact ⟨by have:=zac hx3;omega,zfj hx3 hI2 (show (za7.few L x3)=true from by simpa using hc6)⟩
   show (cnt f.kind f.kids).length - (j+1)<(cnt f.kind f.kids).length - j;have:=zac hx3;omega
  refine exA (Jq 1 [] [(4,vb true)] [] h fun a w h=>qV (rT (.c (cB true)) h rfl ?_));have hz:f.few L=true:=by rw [za7.few_eq,(show (!(f.kind == 2) || fewR L f.r)=true from by rw [hc1];rw [(show (fewR L f.r)=true from by simpa using hc3)];rfl),zf7 (dF hc7) hI2];rfl
  rw [hz];try rfl
 refine Je 1 [(2,.cmp (op:=.eql) (m:=f.kind) (n:=2) (b:=false) .i64 hc8)] [] [(17,vb false)] h fun a w h=>zbs h (qU (za0 (Jg 1 [(1,.call (SKids f))] [2,17] [(5,(vFs (cnt f.kind f.kids)))] [0] [] h fun a w h=>qW (Jg 1 [] [] [(6,vI 0)] [] [] h fun a w h=>qZ ?_))))
 refine zcc (ι:=(Nat)) (fun j=>j<=(cnt f.kind f.kids).length/\((cnt f.kind f.kids).take j).all (za7.few L)=true)
   [4] (fun j=>[(6,vN j)])
   [] (fun j=>[])
   (fun j=>(cnt f.kind f.kids).length - j) 0 ?_ h ?_
 ·exact ⟨bG _,rfl⟩
 clear h;rintro j a w hI h;obtain ⟨hI1,hI2⟩:=hI;refine qW (Jg 1 [(2,.len (za1 6 za7.d (cnt f.kind f.kids)))] [] [(23,vb (decide ((j:Int)<((cnt f.kind f.kids).length:Int))))] [] [] h fun a w h=>zag ((j:Int)<((cnt f.kind f.kids).length:Int)) h (fun hc9 hc9'=>?_) (fun hc12 hc12'=>?_))
 ·refine qU (za0 (qW (qZ ?_)));obtain ⟨x6,hx6⟩:=gl (cnt f.kind f.kids) j;refine Jg 1 [(2,.g (xD 28 26 kb_0 ((za4 hx6 (f:=za7.d)).trans (congrArg some (za7.d_eq x6))) (cV 27 _))),(5,.call (ih x6 (zjw (lM hx6))))] [23] [(32,vb (!(za7.few L x6)))] [] [] h fun a w h=>cS (!(za7.few L x6)) h (fun hc10=>?_) (fun hc11=>?_)
  ·refine Jg 1 [] [32] [(4,vb false)] [] [] h fun a w h=>qV (za6 (za2 (za2 (za6 (za2 (rT (.c (cB false)) h rfl ?_))))));have hz:f.few L=false:=by rw [za7.few_eq,zd4 hx6 (show (za7.few L x6)=false from by simpa using hc10),bM]
   rw [hz];try rfl
  refine qU (za5 (za0 (Jh 1 [(1,.j1 j)] [32] [(6,vI ((j:Int)+1))] [] [] h fun a w h=>za0 (za9 (x:=j) (y:=j+1) h ?_ ?_))))
  ·exact ⟨by have:=zac hx6;omega,zfj hx6 hI2 (show (za7.few L x6)=true from by simpa using hc11)⟩
  show (cnt f.kind f.kids).length - (j+1)<(cnt f.kind f.kids).length - j;have:=zac hx6;omega
 refine exA (Jq 1 [] [(4,vb true)] [] h fun a w h=>qV (rT (.c (cB true)) h rfl ?_));have hz:f.few L=true:=by rw [za7.few_eq,(show (!(f.kind == 2) || fewR L f.r)=true from by rw [hc8];rfl),zf7 (dF hc12) hI2];rfl
 rw [hz];try rfl
theorem Sfew (L:Int) (f:za7):f.lb->Fn cT 93 [] [(vF f),vi .i64 L] (vb (f.few L)) [] :=
 za7.ind (P:=fun f=>f.lb->Fn cT 93 [] [(vF f),vi .i64 L] (vb (f.few L)) []) (fun k r ks ih hl=>by
  have hl:=(za7.lb_eq _).1 hl
  exact Sfew0 ⟨k,r,ks⟩ L (fun g hg=>ih g hg (hl.2 g hg)) hl.1.2) f
theorem SFewF (f:za7) (most L:Int) (hl:f.lb) (h0:0<=most) (h1:most<=1000):Fn cT 49 [] [(vF f),vI most,vI L] (vb (ziv f most L)) []:=by
 refine fB Tryz.func49 rfl 15 fun w H B a h=>Jq 0 [] [(1,vI most),(2,vI L),(3,vp 0 0),(6,vb false)] [(0,.box (zF f))] h fun a w h=>qW (Je 1 [(2,.call (SSize f hl most h0 h1))] [1] [(11,vb (decide (f.size most>most)))] h fun a w h=>zag (f.size most>most) h (fun hc1 hc1'=>?_) (fun hc2 hc2'=>?_))
 ·refine Je 1 [] [11] [] h fun a w h=>qV (za2 (rT (.c (cB false)) h rfl ?_));unfold ziv;rw [hc1];try rfl
 refine qU (za0 (Jq 1 [(2,.call (Sfew L f hl))] [(6,vb (f.few L))] [] h fun a w h=>qV (rT (.c (cB (f.few L))) h rfl ?_)));unfold ziv;rw [hc2];try rfl
theorem SRValue (t:zd6) (vs:List ZI) {L:Nat} (ht:TOk n L t) (hn:n<=1000) (hL:L+M<=20000) (hv:VOk M vs):Fn cT 47 [] [(vT t),(vZs vs)] (vz (ZI.of (valT t vs))) []:=by
 have kt:=ht.kl;have lnv:=hv.1;refine fB Tryz.func47 rfl 27 fun w H B a h=>Jq 0 [] [(1,(vZs vs)),(2,vp 0 0),(4,vp 1 0)] [(0,.box (zT t)),(1,.box [cB false,.d (nsl [])])] h fun a w h=>Jg 2 [] [] [(5,vp 2 0)] [] [(2,.box (zi t.k))] h fun a w h=>qW (Je 3 [] [] [(6,vI 0)] h fun a w h=>qZ ?_)
 refine zcc (ι:=(Nat) × (ZI)) (fun (j,out)=>j<=vs.length/\out.val=t.k.val+zi7 vs (fltV j t.parts)/\Lb out.abs/\out.abs.length<=L+M+2)
   [] (fun (j,out)=>[(6,vN j)])
   [] (fun (j,out)=>[(2,.box (zi out))])
   (fun (j,out)=>vs.length - j) (0,t.k) ?_ h ?_
 ·exact ⟨bG _,by rw [fltV_zero];simp [zi7],ht.kb,by omega⟩
 clear h;rintro ⟨j,out⟩ a w hI h;dsimp only at h;obtain ⟨hI1,vo,ho,lo⟩:=hI;refine qW (Je 3 [(2,.len (za1 2 ziD vs))] [] [(12,vb (decide ((j:Int)<(vs.length:Int))))] h fun a w h=>zag ((j:Int)<(vs.length:Int)) h (fun hc1 hc1'=>?_) (fun hc2 hc2'=>?_))
 ·refine qU (za0 (qW (qZ ?_)));obtain ⟨r1,er1,vr1,or1,lr1⟩:=mkZ (v:=zbt t.parts (j:Int)) (m:=L+1) (coef_len (ht.mono hn (bJ L)).psok (j:Int));obtain ⟨x2,hx2⟩:=gl vs j;obtain ⟨ox2,lx2⟩:=hv.get hx2;obtain ⟨r3,er3,vr3,or3,lr3⟩:=mkZ (v:=r1.val*x2.val) (m:=r1.abs.length+x2.abs.length) (len_mul or1 ox2);obtain ⟨r4,er4,vr4,or4,lr4⟩:=mkZ (v:=out.val+r3.val) (m:=out.abs.length+r3.abs.length+1) (ze4 ho or3);refine Jh 3 [(3,.call (cU (SCoef t (j:Int) (ht.mono hn (show L<=40000 by omega)).psok) (congrArg vz er1.symm))),(6,.g (xD 21 19 zi8 (za4 hx2 (f:=ziD)) (cV 20 _))),(8,.call (cU (SRMul r1 x2 or1 ox2 (by omega) (by omega)) (congrArg vz er3.symm))),(9,.call (cU (SRAdd out r3 ho or3 (by omega) (by omega)) (congrArg vz er4.symm)))] [12] [] [] [(2,.box (zi r4))] h fun a w h=>za5 (za0 (Jf 3 [(1,.j1 j)] [] [(6,vI ((j:Int)+1))] h fun a w h=>za0 (za9 (x:=(j,out)) (y:=((j+1),r4)) h ?_ ?_)))
  ·have:=zac hx2;have hvz:r4.val=t.k.val+zi7 vs (fltV (j+1) t.parts):=by rw [vr4,vr3,vr1,vo,fltV_succ,valAt_some (v:=(j:Int)) rfl hx2,Int.add_assoc]
   exact ⟨by omega,hvz,or4,by rw [er4];exact bI (by rw [<- vr4,hvz];exact zgy ht hn hv fltV_mem (fltV_len _ _)) (by omega)⟩
  show vs.length - (j+1)<vs.length - j;have:=zac hx2;omega
 refine exA ?_;obtain ⟨r5,er5,vr5,or5,lr5⟩:=mkZ (v:=out.val) (m:=out.abs.length) (zhu ho);refine Jq 3 [(1,.call (cU (SRClean out ho (by omega)) (congrArg vz er5.symm)))] [(4,vp 1 0)] [(1,.box (zi r5))] h fun a w h=>qV (rA 1 (zi r5) h zgt rfl ?_);have hz:out.val=valT t vs:=by rw [vo,show j=vs.length by first | omega | (simp_all;omega),fltV_all];rfl
 first | (rw [er5,hz];done) | (rw [er5,hz];rfl) | (rw [hz];done) | (rw [hz];rfl)
theorem ke_5:zbg cT 116:=zbg.mk' (by kernel_rfl)
theorem ke_8:zbg cT 119:=zbg.mk' (by kernel_rfl)
theorem SrelHolds (r:zen) (vs:List ZI) {L:Nat} (hL:L+M<=20000) (hv:VOk M vs) (hr:TokR L r):Fn cT 117 [] [.t (.agg ([.d (.sl 3 (r.t.parts.map cW))]++zi r.t.k++[.d (.raw (.bool r.eq))])),.t (.c (.d (.sl 2 (vs.map ziD))))] (vb (zfp vs r)) []:=by
 refine fB Tryz.func117 rfl 22 fun w H B a h=>Jq 0 [] [(1,.t (.c (.d (.sl 2 (vs.map ziD))))),(2,vp 0 0),(4,vb false)] [(0,.box ([.d (.sl 3 (r.t.parts.map cW))]++zi r.t.k++[.d (.raw (.bool r.eq))]))] h fun a w h=>?_
 obtain ⟨r1,er1,vr1,or1,lr1⟩:=mkZ (v:=valT r.t vs) (m:=L+M+2) (bI (zgy hr (by decide) hv (fun p hp=>hp) (bJ _)) (by omega));refine Je 1 [(3,.call (cU (SValue r.t vs hr (by decide) hL hv) (congrArg vz er1.symm))),(4,.call (SSign r1 or1 (by omega)))] [1] [(5,vI (sgn r1.val))] h fun a w h=>?_
 rcases bF (sgn r1.val == 0) with hc1 | hc2
 ·refine Jq 1 [(1,.cmp (op:=.eql) (m:=(sgn r1.val)) (n:=0) (b:=true) .i64 hc1)] [(4,vb true)] [] h fun a w h=>qV (rT (.c (.d (.raw (.bool true)))) h rfl ?_)
  have hz:zfp vs r=(true):=by
   unfold zfp;rw [<- vr1]
   cases he:r.eq <;> simp_all <;> omega
  rw [hz];try rfl
 rcases bF r.eq with hc3 | hc4
 ·rw [hc3] at h;refine Jq 1 [(1,.cmp (op:=.eql) (m:=(sgn r1.val)) (n:=0) (b:=false) .i64 hc2)] [(4,vb false)] [] h fun a w h=>qV (rT (.c (.d (.raw (.bool false)))) h rfl ?_)
  have hz:zfp vs r=(false):=by
   unfold zfp;rw [<- vr1]
   cases he:r.eq <;> simp_all <;> omega
  rw [hz];try rfl
 rw [hc4] at h;refine Jq 1 [(1,.cmp (op:=.eql) (m:=(sgn r1.val)) (n:=0) (b:=false) .i64 hc2)] [(4,vb (decide (sgn r1.val>0)))] [] h fun a w h=>qV (rT (.c (.d (.raw (.bool (decide (sgn r1.val>0)))))) h rfl ?_)
 have hz:zfp vs r=(decide (sgn r1.val>0)):=by
  unfold zfp;rw [<- vr1]
  cases he:r.eq <;> simp_all <;> omega
 rw [hz];try rfl
theorem SRrelHolds (r:zen) (vs:List ZI) {L:Nat} (hL:L+M<=20000) (hv:VOk M vs) (hr:TokR L r):Fn cT 70 [] [(vR r),(vZs vs)] (vb (zfp vs r)) []:=by
 refine fB Tryz.func70 rfl 17 fun w H B a h=>Jq 0 [] [(1,(vZs vs)),(2,vp 0 0),(4,vb false)] [(0,.box (zR_ r))] h fun a w h=>?_
 obtain ⟨r1,er1,vr1,or1,lr1⟩:=mkZ (v:=valT r.t vs) (m:=L+M+2) (bI (zgy hr (by decide) hv (fun p hp=>hp) (bJ _)) (by omega));refine Je 1 [(3,.call (cU (SRValue r.t vs hr (by decide) hL hv) (congrArg vz er1.symm))),(4,.call (zdv r1 or1 (by omega)))] [1] [(5,vI (sgn r1.val))] h fun a w h=>qW (Jg 1 [] [2] [(12,vb r.eq)] [0] [] h fun a w h=>cS r.eq h (fun hc1=>?_) (fun hc2=>?_))
 ·refine Jg 1 [] [12] [(4,vb (sgn r1.val == 0))] [] [] h fun a w h=>qV (za2 (rT (.c (cB (sgn r1.val == 0))) h rfl ?_))
  have hz:zfp vs r=(sgn r1.val == 0):=by
   unfold zfp;rw [<- vr1]
   cases he:r.eq <;> simp_all <;> omega
  rw [hz];try rfl
 refine qU (za0 (Jq 1 [] [(4,vb (decide (sgn r1.val>=0)))] [] h fun a w h=>qV (rT (.c (cB (decide (sgn r1.val>=0)))) h rfl ?_)))
 have hz:zfp vs r=(decide (sgn r1.val>=0)):=by
  unfold zfp;rw [<- vr1]
  cases he:r.eq <;> simp_all <;> omega
 rw [hz];try rfl
theorem SHolds1 (g:za7) (vs:List ZI) (hg:Fn cT 69 [] [(vF g),(vZs vs)] (vb (za7.holds vs g)) []):Fn cT 116 [(1,.box [cZs vs])] [(vF g),vp 1 0] (vb (za7.holds vs g)) [(1,.box [cZs vs])]:=by
 refine fB Tryz.func116 rfl 7 fun w H B a h=>Jq 5 [] [(1,vp 1 0),(2,vp 5 0),(3,vb false)] [(1,.box [cZs vs]),(5,.box (zF g))] h fun a w h=>Jg 6 [(2,.call (hg))] [1,2] [(3,vb (za7.holds vs g))] [5] [] h fun a w h=>qV (rT (.c (cB (za7.holds vs g))) h rfl ?_)
 rfl
theorem SHolds2 (g:za7) (vs:List ZI) (hg:Fn cT 69 [] [(vF g),(vZs vs)] (vb (za7.holds vs g)) []):Fn cT 119 [(2,.box [.fn (.func 116) [] [.ptr 1 0]]),(1,.box [cZs vs])] [(vF g),vp 2 0] (vb (!za7.holds vs g)) [(2,.box [.fn (.func 116) [] [.ptr 1 0]]),(1,.box [cZs vs])]:=by
 refine fB Tryz.func119 rfl 8 fun w H B a h=>Jq 5 [] [(1,vp 2 0),(2,vp 5 0),(3,vb false)] [(2,.box [.fn (.func 116) [] [.ptr 1 0]]),(1,.box [cZs vs]),(5,.box (zF g))] h fun a w h=>Jg 6 [(2,.g (Op.callV (d:=6) (t:=4) (cap:=[.ptr 1 0]) (args:=[(vF g)]) (rs:=[(5,(vF g))]) (tys:=#[35]) (SHolds1 g vs hg) ke_5 (OVs.cons (cV 5 _) (OVs.nil))))] [1,2] [(3,vb (!(za7.holds vs g)))] [5] [] h fun a w h=>qV (rT (.c (cB (!(za7.holds vs g)))) h rfl ?_)
 rfl
theorem SIdxH1 (pr:za7->Bool) (xs:List za7) (vs:List ZI) (hf:∀ x ∈ xs,Fn cT 116 [(1,.box [cZs vs])] [(vF x),vp 1 0] (vb (pr x)) [(1,.box [cZs vs])]) (hl:xs.length<=9223372036854775807):Fn cT 142 [(1,.box [cZs vs])] [(vFs xs),.t (.c (.fn (.func 116) [] [.ptr 1 0]))] (vI (zcn pr xs 0)) [(1,.box [cZs vs])]:=by
 refine fB Tryz.func142 rfl 19 fun w H B a h=>Jq 5 [] [(0,(vFs xs)),(1,.t (.c (.fn (.func 116) [] [.ptr 1 0]))),(4,vI 0)] [(1,.box [cZs vs])] h fun a w h=>qW (Je 5 [(1,.len (za1 6 za7.d xs))] [] [(7,vN xs.length),(8,vI 0)] h fun a w h=>qZ ?_)
 refine zcc (ι:=(Nat)) (fun j=>j<=xs.length/\zcn pr xs 0=zcn pr (xs.drop j) j)
   [4] (fun j=>[(8,vN j)])
   [] (fun j=>[])
   (fun j=>xs.length - j) 0 ?_ h ?_
 ·exact ⟨bG _,rfl⟩
 clear h;rintro j a w hI h;obtain ⟨hI1,hI2⟩:=hI;refine Je 5 [] [] [(9,vb (decide ((j:Int)<(xs.length:Int))))] h fun a w h=>qW (zag ((j:Int)<(xs.length:Int)) h (fun hc1 hc1'=>?_) (fun hc4 hc4'=>?_))
 ·refine qU (za0 (qW (qZ (Je 5 [] [9] [(5,vN j)] h fun a w h=>?_))));obtain ⟨x1,hx1⟩:=gl xs j;refine Je 5 [(3,.g (xD 14 12 kb_0 ((za4 hx1 (f:=za7.d)).trans (congrArg some (za7.d_eq x1))) (cV 13 _))),(5,.g (Op.callV (d:=16) (t:=11) (cap:=[.ptr 1 0]) (args:=[(vF x1)]) (rs:=[(15,(vF x1))]) (tys:=#[35]) (hf x1 (lM hx1)) ke_5 (OVs.cons (cV 15 _) (OVs.nil))))] [] [(16,vb (pr x1))] h fun a w h=>cS (pr x1) h (fun hc2=>?_) (fun hc3=>?_)
  ·refine Je 5 [] [5,16] [(4,vN j)] h fun a w h=>qV (za6 (za2 (za2 (za6 (za2 (rT (.c (cI (j:Int))) h rfl ?_))))));have hz:zcn pr xs 0=(j:Int):=by rw [hI2,zci hx1,if_pos hc2]
   rw [hz];try rfl
  refine qU (za5 (za0 (Jf 5 [(0,.j1 j)] [5,16] [(8,vI ((j:Int)+1))] h fun a w h=>za0 (za9 (x:=j) (y:=j+1) h ?_ ?_))))
  ·exact ⟨by have:=zac hx1;omega,by rw [hI2,zci hx1,if_neg (by rw [hc3];exact Bool.noConfusion)]⟩
  (try simp);omega
 refine exA (Jp 5 [] [(4,vI (-1))] h fun a w h=>qV (rT (.c (cI (-1))) h rfl ?_));have hz:zcn pr xs 0=-1:=by rw [hI2,bL (by omega)];rfl
 rw [hz];try rfl
theorem SAnyH1 (pr:za7->Bool) (xs:List za7) (vs:List ZI) (hf:∀ x ∈ xs,Fn cT 116 [(1,.box [cZs vs])] [(vF x),vp 1 0] (vb (pr x)) [(1,.box [cZs vs])]) (hl:xs.length<=9223372036854775807):Fn cT 118 [(1,.box [cZs vs])] [(vFs xs),.t (.c (.fn (.func 116) [] [.ptr 1 0]))] (vb (xs.any pr)) [(1,.box [cZs vs])]:=by
 refine fB Tryz.func118 rfl 9 fun w H B a h=>Jq 5 [] [(0,(vFs xs)),(1,.t (.c (.fn (.func 116) [] [.ptr 1 0]))),(4,vb false)] [(1,.box [cZs vs])] h fun a w h=>Jp 5 [(2,.call (SIdxH1 pr xs vs hf  hl))] [(4,vb (decide (zcn pr xs 0>=0)))] h fun a w h=>qV (rT (.c (cB (decide (zcn pr xs 0>=0)))) h rfl ?_)
 rw [<- zgl];try rfl
theorem SIdxH2 (pr:za7->Bool) (xs:List za7) (vs:List ZI) (hf:∀ x ∈ xs,Fn cT 119 [(2,.box [.fn (.func 116) [] [.ptr 1 0]]),(1,.box [cZs vs])] [(vF x),vp 2 0] (vb (pr x)) [(2,.box [.fn (.func 116) [] [.ptr 1 0]]),(1,.box [cZs vs])]) (hl:xs.length<=9223372036854775807):Fn cT 142 [(2,.box [.fn (.func 116) [] [.ptr 1 0]]),(1,.box [cZs vs])] [(vFs xs),.t (.c (.fn (.func 119) [] [.ptr 2 0]))] (vI (zcn pr xs 0)) [(2,.box [.fn (.func 116) [] [.ptr 1 0]]),(1,.box [cZs vs])]:=by
 refine fB Tryz.func142 rfl 19 fun w H B a h=>Jq 5 [] [(0,(vFs xs)),(1,.t (.c (.fn (.func 119) [] [.ptr 2 0]))),(4,vI 0)] [(2,.box [.fn (.func 116) [] [.ptr 1 0]]),(1,.box [cZs vs])] h fun a w h=>qW (Je 5 [(1,.len (za1 6 za7.d xs))] [] [(7,vN xs.length),(8,vI 0)] h fun a w h=>qZ ?_)
 refine zcc (ι:=(Nat)) (fun j=>j<=xs.length/\zcn pr xs 0=zcn pr (xs.drop j) j)
   [4] (fun j=>[(8,vN j)])
   [] (fun j=>[])
   (fun j=>xs.length - j) 0 ?_ h ?_
 ·exact ⟨bG _,rfl⟩
 clear h;rintro j a w hI h;obtain ⟨hI1,hI2⟩:=hI;refine Je 5 [] [] [(9,vb (decide ((j:Int)<(xs.length:Int))))] h fun a w h=>qW (zag ((j:Int)<(xs.length:Int)) h (fun hc1 hc1'=>?_) (fun hc4 hc4'=>?_))
 ·refine qU (za0 (qW (qZ (Je 5 [] [9] [(5,vN j)] h fun a w h=>?_))));obtain ⟨x1,hx1⟩:=gl xs j;refine Je 5 [(3,.g (xD 14 12 kb_0 ((za4 hx1 (f:=za7.d)).trans (congrArg some (za7.d_eq x1))) (cV 13 _))),(5,.g (Op.callV (d:=16) (t:=11) (cap:=[.ptr 2 0]) (args:=[(vF x1)]) (rs:=[(15,(vF x1))]) (tys:=#[35]) (hf x1 (lM hx1)) ke_8 (OVs.cons (cV 15 _) (OVs.nil))))] [] [(16,vb (pr x1))] h fun a w h=>cS (pr x1) h (fun hc2=>?_) (fun hc3=>?_)
  ·refine Je 5 [] [5,16] [(4,vN j)] h fun a w h=>qV (za6 (za2 (za2 (za6 (za2 (rT (.c (cI (j:Int))) h rfl ?_))))));have hz:zcn pr xs 0=(j:Int):=by rw [hI2,zci hx1,if_pos hc2]
   rw [hz];try rfl
  refine qU (za5 (za0 (Jf 5 [(0,.j1 j)] [5,16] [(8,vI ((j:Int)+1))] h fun a w h=>za0 (za9 (x:=j) (y:=j+1) h ?_ ?_))))
  ·exact ⟨by have:=zac hx1;omega,by rw [hI2,zci hx1,if_neg (by rw [hc3];exact Bool.noConfusion)]⟩
  (try simp);omega
 refine exA (Jp 5 [] [(4,vI (-1))] h fun a w h=>qV (rT (.c (cI (-1))) h rfl ?_));have hz:zcn pr xs 0=-1:=by rw [hI2,bL (by omega)];rfl
 rw [hz];try rfl
theorem SAnyH2 (pr:za7->Bool) (xs:List za7) (vs:List ZI) (hf:∀ x ∈ xs,Fn cT 119 [(2,.box [.fn (.func 116) [] [.ptr 1 0]]),(1,.box [cZs vs])] [(vF x),vp 2 0] (vb (pr x)) [(2,.box [.fn (.func 116) [] [.ptr 1 0]]),(1,.box [cZs vs])]) (hl:xs.length<=9223372036854775807):Fn cT 118 [(2,.box [.fn (.func 116) [] [.ptr 1 0]]),(1,.box [cZs vs])] [(vFs xs),.t (.c (.fn (.func 119) [] [.ptr 2 0]))] (vb (xs.any pr)) [(2,.box [.fn (.func 116) [] [.ptr 1 0]]),(1,.box [cZs vs])]:=by
 refine fB Tryz.func118 rfl 9 fun w H B a h=>Jq 5 [] [(0,(vFs xs)),(1,.t (.c (.fn (.func 119) [] [.ptr 2 0]))),(4,vb false)] [(2,.box [.fn (.func 116) [] [.ptr 1 0]]),(1,.box [cZs vs])] h fun a w h=>Jp 5 [(2,.call (SIdxH2 pr xs vs hf  hl))] [(4,vb (decide (zcn pr xs 0>=0)))] h fun a w h=>qV (rT (.c (cB (decide (zcn pr xs 0>=0)))) h rfl ?_)
 rw [<- zgl];try rfl
theorem zin {xs:List α} {x:α} (h:xs[0]?=some x):x ∈ xs.take 1:=by
 cases xs with
 | nil=>cases h
 | cons y ys=>simp at h;subst h;simp
theorem cons_of_at {xs:List α} {x:α} (h:xs[0]?=some x):∃ tl,xs=x :: tl:=by
 cases xs with
 | nil=>cases h
 | cons y ys=>simp at h;subst h;exact ⟨ys,rfl⟩
theorem SRHolds0 (f:za7) (vs:List ZI) {L:Nat} (ih:∀ g ∈ f.kids,g.ok L->Fn cT 34 [] [(vF g),(vZs vs)] (vb (za7.holds vs g)) []) (hL:L+M<=20000) (hv:VOk M vs) (hf:f.ok L) (hk:f.kids.length<=9223372036854775807):Fn cT 34 [] [(vF f),(vZs vs)] (vb (f.holds vs)) []:=by
 refine fB Tryz.func34 rfl 65 fun w H B a h=>?_
 refine Jq 0 [] [(1,(vZs vs)),(2,vp 0 0),(4,vb false)] [(0,.box (zF f))] h fun a w h=>?_;refine qW (Je 1 [] [] [(8,vI f.kind)] h fun a w h=>?_);refine qZ (Je 1 [] [] [(9,vb (f.kind == 0))] h fun a w h=>?_);refine cS (f.kind == 0) h (fun hc1=>?_) (fun hc2=>?_)
 ·have hc1':=hc1;(try simp at hc1');refine Jq 1 [] [(4,vb true)] [] h fun a w h=>?_;refine qV (za6 (za2 ?_));refine rT (.c (cB true)) h rfl ?_;have hz:f.holds vs=(true):=by rw [za7.holds_eq,if_pos (by omega)];try rfl
  rw [hz];try rfl
 have hc2':=hc2;(try simp at hc2');refine Je 1 [] [9] [(11,vb (f.kind == 2))] h fun a w h=>?_;refine cS (f.kind == 2) h (fun hc3=>?_) (fun hc4=>?_)
 ·have hc3':=hc3;(try simp at hc3');refine Jq 1 [(3,.call (SRrelHolds f.r vs hL hv (((za7.ok_eq L f).1 hf).1 (by omega))))] [(4,vb (zfp vs f.r))] [] h fun a w h=>?_;refine qV (za6 (za2 ?_));refine rT (.c (cB (zfp vs f.r))) h rfl ?_;have hz:f.holds vs=(zfp vs f.r):=by rw [za7.holds_eq,if_neg (by omega),if_pos (by omega)];try rfl
  rw [hz];try rfl
 have hc4':=hc4;(try simp at hc4');refine Je 1 [] [11] [(17,vb (f.kind == 3))] h fun a w h=>?_;refine cS (f.kind == 3) h (fun hc5=>?_) (fun hc8=>?_)
 ·have hc5':=hc5;(try simp at hc5')
  rcases bF (decide ((f.kids.length:Int)>0)) with hc6 | hc7
  ·have hc6':=dT hc6;obtain ⟨x2,hx2⟩:=gl f.kids 0;refine Jq 1 [(2,.len (za1 6 za7.d f.kids)),(3,.cmp (op:=.gtr) (m:=(f.kids.length:Int)) (n:=0) (b:=true) .i64 hc6),(7,.g (xD 26 25 kb_0 ((za4 hx2 (f:=za7.d)).trans (congrArg some (za7.d_eq x2))) (OV.const (.int .i64 0) rfl))),(10,.call (ih x2 (lM hx2) (((za7.ok_eq L f).1 hf).2 _ (by unfold cnt;first | (rw [if_pos (by omega)];exact lM hx2) | (rw [if_neg (by omega),if_pos (by omega)];exact zin hx2)))))] [(4,vb (!(za7.holds vs x2)))] [] h fun a w h=>?_;refine qV (za6 (za2 ?_));refine rT (.c (cB (!(za7.holds vs x2)))) h rfl ?_;have hz:f.holds vs=(!(za7.holds vs x2)):=by rw [za7.holds_eq,if_neg (by omega),if_neg (by omega),if_pos (by omega)];obtain ⟨tl,htl⟩:=cons_of_at hx2;rw [htl];try rfl
   rw [hz];try rfl
  have hc7':=dF hc7;refine Jq 1 [(2,.len (za1 6 za7.d f.kids)),(3,.cmp (op:=.gtr) (m:=(f.kids.length:Int)) (n:=0) (b:=false) .i64 hc7)] [(4,vb false)] [] h fun a w h=>?_;refine qV (za6 (za2 ?_));refine rT (.c (cB false)) h rfl ?_;have hz:f.holds vs=(false):=by rw [za7.holds_eq,if_neg (by omega),if_neg (by omega),if_pos (by omega)];rw [cC.1 (show f.kids.length=0 by have:=dF hc7;omega)];try rfl
  rw [hz];try rfl
 have hc8':=hc8;(try simp at hc8');refine Je 1 [] [17] [(32,vb (f.kind == 4))] h fun a w h=>?_;refine cS (f.kind == 4) h (fun hc9=>?_) (fun hc14=>?_)
 ·have hc9':=hc9;(try simp at hc9');refine qW (Je 1 [] [8,32] [(5,vI 0)] h fun a w h=>?_);refine qZ ?_
  refine zcc (ι:=(Nat)) (fun j=>j<=f.kids.length/\(f.kids.take j).all (za7.holds vs)=true)
    [4] (fun j=>[(5,vN j)])
    [] (fun j=>[])
    (fun j=>f.kids.length - j) 0 ?_ h ?_
  ·exact ⟨bG _,rfl⟩
  clear h;rintro j a w hI h;obtain ⟨hI1,hI2⟩:=hI;refine qW (Je 1 [(3,.len (za1 6 za7.d f.kids))] [] [(38,vb (decide ((j:Int)<(f.kids.length:Int))))] h fun a w h=>?_);refine zag ((j:Int)<(f.kids.length:Int)) h (fun hc10 hc10'=>?_) (fun hc13 hc13'=>?_)
  ·refine qU (za0 (qW (qZ ?_)));obtain ⟨x4,hx4⟩:=gl f.kids j;refine Je 1 [(3,.g (xD 44 42 kb_0 ((za4 hx4 (f:=za7.d)).trans (congrArg some (za7.d_eq x4))) (cV 43 _))),(6,.call (ih x4 (lM hx4) (((za7.ok_eq L f).1 hf).2 _ (by unfold cnt;first | (rw [if_pos (by omega)];exact lM hx4) | (rw [if_neg (by omega),if_pos (by omega)];exact zin hx4)))))] [38] [(48,vb (!(za7.holds vs x4)))] h fun a w h=>?_;refine cS (!(za7.holds vs x4)) h (fun hc11=>?_) (fun hc12=>?_)
   ·have hc11':=hc11;(try simp at hc11');refine Je 1 [] [48] [(4,vb false)] h fun a w h=>?_;refine qV (za6 (za2 (za2 (za6 (za2 (za6 (za2 ?_)))))));refine rT (.c (cB false)) h rfl ?_;have hz:f.holds vs=(false):=by rw [za7.holds_eq,if_neg (by omega),if_neg (by omega),if_neg (by omega),if_pos (by omega)];exact zd4 hx4 (show (za7.holds vs x4)=false from by simpa using hc11)
    rw [hz];try rfl
   have hc12':=hc12;(try simp at hc12');refine qU (za5 (za0 (Jf 1 [(1,.j1 j)] [48] [(5,vI ((j:Int)+1))] h fun a w h=>?_)));refine za0 ?_;refine za9 (x:=j) (y:=j+1) h ?_ ?_
   ·exact ⟨by have:=zac hx4;omega,zfj hx4 hI2 (show (za7.holds vs x4)=true from by simpa using hc12)⟩
   show f.kids.length - (j+1)<f.kids.length - j;have:=zac hx4;omega
  refine exA (Jq 1 [] [(4,vb true)] [] h fun a w h=>?_);refine qV (za6 (za2 ?_));refine rT (.c (cB true)) h rfl ?_;have hz:f.holds vs=(true):=by rw [za7.holds_eq,if_neg (by omega),if_neg (by omega),if_neg (by omega),if_pos (by omega)];exact zf7 (dF hc13) hI2
  rw [hz];try rfl
 have hc14':=hc14;(try simp at hc14');refine Je 1 [] [8,32] [(49,vb (f.kind == 5))] h fun a w h=>?_;refine cS (f.kind == 5) h (fun hc15=>?_) (fun hc20=>?_)
 ·have hc15':=hc15;(try simp at hc15');refine Je 1 [] [49] [(6,vI 0)] h fun a w h=>?_;refine qZ ?_
  refine zcc (ι:=(Nat)) (fun j=>j<=f.kids.length/\(f.kids.take j).any (za7.holds vs)=false)
    [4] (fun j=>[(6,vN j)])
    [] (fun j=>[])
    (fun j=>f.kids.length - j) 0 ?_ h ?_
  ·exact ⟨bG _,rfl⟩
  clear h;rintro j a w hI h;obtain ⟨hI1,hI2⟩:=hI;refine qW (Je 1 [(3,.len (za1 6 za7.d f.kids))] [] [(55,vb (decide ((j:Int)<(f.kids.length:Int))))] h fun a w h=>?_);refine zag ((j:Int)<(f.kids.length:Int)) h (fun hc16 hc16'=>?_) (fun hc19 hc19'=>?_)
  ·refine qU (za0 (qW (qZ ?_)));obtain ⟨x6,hx6⟩:=gl f.kids j;refine Je 1 [(3,.g (xD 61 59 kb_0 ((za4 hx6 (f:=za7.d)).trans (congrArg some (za7.d_eq x6))) (cV 60 _))),(6,.call (ih x6 (lM hx6) (((za7.ok_eq L f).1 hf).2 _ (by unfold cnt;first | (rw [if_pos (by omega)];exact lM hx6) | (rw [if_neg (by omega),if_pos (by omega)];exact zin hx6)))))] [55] [(64,vb (za7.holds vs x6))] h fun a w h=>?_;refine cS (za7.holds vs x6) h (fun hc17=>?_) (fun hc18=>?_)
   ·refine Je 1 [] [64] [(4,vb true)] h fun a w h=>?_;refine qV (za6 (za2 (za2 (za6 (za6 (za2 ?_))))));refine rT (.c (cB true)) h rfl ?_;have hz:f.holds vs=(true):=by rw [za7.holds_eq,if_neg (by omega),if_neg (by omega),if_neg (by omega),if_neg (by omega),if_pos (by omega)];exact zl7 hx6 hc17
    rw [hz];try rfl
   refine qU (za5 (za0 (Jf 1 [(1,.j1 j)] [64] [(6,vI ((j:Int)+1))] h fun a w h=>?_)));refine za0 ?_;refine za9 (x:=j) (y:=j+1) h ?_ ?_
   ·exact ⟨by have:=zac hx6;omega,any_step hx6 hI2 hc18⟩
   show f.kids.length - (j+1)<f.kids.length - j;have:=zac hx6;omega
  refine wp_exit (zbq (zbq (zao (za5 (za0 (Jq 1 [] [(4,vb false)] [] h fun a w h=>?_))))));refine qV ?_;refine rT (.c (cB false)) h rfl ?_;have hz:f.holds vs=(false):=by rw [za7.holds_eq,if_neg (by omega),if_neg (by omega),if_neg (by omega),if_neg (by omega),if_pos (by omega)];exact any_end (dF hc19) hI2
  rw [hz];try rfl
 have hc20':=hc20;(try simp at hc20');refine qU (za5 (za0 (Jq 1 [] [(4,vb false)] [] h fun a w h=>?_)));refine qV ?_;refine rT (.c (cB false)) h rfl ?_;have hz:f.holds vs=(false):=by rw [za7.holds_eq,if_neg (by omega),if_neg (by omega),if_neg (by omega),if_neg (by omega),if_neg (by omega)];try rfl
 rw [hz];try rfl
theorem SHolds0 (f:za7) (vs:List ZI) {L:Nat} (ih:∀ g ∈ f.kids,g.ok L->Fn cT 69 [] [(vF g),(vZs vs)] (vb (za7.holds vs g)) []) (hL:L+M<=20000) (hv:VOk M vs) (hf:f.ok L) (hk:f.kids.length<=9223372036854775807):Fn cT 69 [] [(vF f),(vZs vs)] (vb (f.holds vs)) []:=by
 refine fB Tryz.func69 rfl 45 fun w H B a h=>?_
 refine Jq 0 [] [(2,vp 0 0),(3,vp 1 0),(4,vb false)] [(0,.box (zF f)),(1,.box [cZs vs])] h fun a w h=>?_;refine Jg 2 [(0,.g (Op.makeFs (d:=6) (fn:=.func 116) [(3,1,0)]))] [] [(5,vp 2 0)] [] [(2,.box [.fn (.func 116) [] [.ptr 1 0]])] h fun a w h=>?_;refine qW (Je 3 [] [] [(8,vI f.kind)] h fun a w h=>?_);refine qZ (Je 3 [] [] [(9,vb (f.kind == 0))] h fun a w h=>?_);refine cS (f.kind == 0) h (fun hc1=>?_) (fun hc2=>?_)
 ·have hc1':=hc1;(try simp at hc1');refine Jq 3 [] [(4,vb true)] [] h fun a w h=>?_;refine qV (za6 (za2 ?_));refine rT (.c (cB true)) h rfl ?_;have hz:f.holds vs=(true):=by rw [za7.holds_eq,if_pos (by omega)];try rfl
  rw [hz];try rfl
 have hc2':=hc2;(try simp at hc2');refine Je 3 [] [9] [(11,vb (f.kind == 2))] h fun a w h=>?_;refine cS (f.kind == 2) h (fun hc3=>?_) (fun hc4=>?_)
 ·have hc3':=hc3;(try simp at hc3');refine Jq 3 [(3,.call (SrelHolds f.r vs hL hv (((za7.ok_eq L f).1 hf).1 (by omega))))] [(4,vb (zfp vs f.r))] [] h fun a w h=>?_;refine qV (za6 (za2 ?_));refine rT (.c (cB (zfp vs f.r))) h rfl ?_;have hz:f.holds vs=(zfp vs f.r):=by rw [za7.holds_eq,if_neg (by omega),if_pos (by omega)];try rfl
  rw [hz];try rfl
 have hc4':=hc4;(try simp at hc4');refine Je 3 [] [3,11] [(17,vb (f.kind == 3))] h fun a w h=>?_;refine cS (f.kind == 3) h (fun hc5=>?_) (fun hc8=>?_)
 ·have hc5':=hc5;(try simp at hc5')
  rcases bF (decide ((f.kids.length:Int)>0)) with hc6 | hc7
  ·have hc6':=dT hc6;obtain ⟨x2,hx2⟩:=gl f.kids 0;refine Jq 3 [(2,.len (za1 6 za7.d f.kids)),(3,.cmp (op:=.gtr) (m:=(f.kids.length:Int)) (n:=0) (b:=true) .i64 hc6),(8,.g (xD 27 26 kb_0 ((za4 hx2 (f:=za7.d)).trans (congrArg some (za7.d_eq x2))) (OV.const (.int .i64 0) rfl))),(10,.g (Op.callV (d:=29) (t:=24) (cap:=[.ptr 1 0]) (args:=[(vF x2)]) (rs:=[(28,(vF x2))]) (tys:=#[35]) (SHolds1 x2 vs (ih x2 (lM hx2) (((za7.ok_eq L f).1 hf).2 _ (by unfold cnt;first | (rw [if_pos (by omega)];exact lM hx2) | (rw [if_neg (by omega),if_pos (by omega)];exact zin hx2))))) ke_5 (OVs.cons (cV 28 _) (OVs.nil))))] [(4,vb (!(za7.holds vs x2)))] [] h fun a w h=>?_;refine qV (za6 (za2 ?_));refine rT (.c (cB (!(za7.holds vs x2)))) h rfl ?_;have hz:f.holds vs=(!(za7.holds vs x2)):=by rw [za7.holds_eq,if_neg (by omega),if_neg (by omega),if_pos (by omega)];obtain ⟨tl,htl⟩:=cons_of_at hx2;rw [htl];try rfl
   rw [hz];try rfl
  have hc7':=dF hc7;refine Jq 3 [(2,.len (za1 6 za7.d f.kids)),(3,.cmp (op:=.gtr) (m:=(f.kids.length:Int)) (n:=0) (b:=false) .i64 hc7)] [(4,vb false)] [] h fun a w h=>?_;refine qV (za6 (za2 ?_));refine rT (.c (cB false)) h rfl ?_;have hz:f.holds vs=(false):=by rw [za7.holds_eq,if_neg (by omega),if_neg (by omega),if_pos (by omega)];rw [cC.1 (show f.kids.length=0 by have:=dF hc7;omega)];try rfl
  rw [hz];try rfl
 have hc8':=hc8;(try simp at hc8');refine Je 3 [] [17] [(32,vb (f.kind == 4))] h fun a w h=>?_;refine cS (f.kind == 4) h (fun hc9=>?_) (fun hc10=>?_)
 ·have hc9':=hc9;(try simp at hc9');refine Jq 3 [(2,.g (Op.makeFs (d:=36) (fn:=.func 119) [(5,2,0)])),(3,.call (SAnyH2 (fun g=>!za7.holds vs g) f.kids vs (fun g hg=>SHolds2 g vs (ih g hg (((za7.ok_eq L f).1 hf).2 _ (by unfold cnt;rw [if_pos (by omega)];exact hg)))) hk))] [(4,vb (!(f.kids.any (fun g=>!za7.holds vs g))))] [] h fun a w h=>?_;refine qV (za6 (za2 ?_));refine rT (.c (cB (!(f.kids.any (fun g=>!za7.holds vs g))))) h rfl ?_;have hz:f.holds vs=(!(f.kids.any (fun g=>!za7.holds vs g))):=by rw [za7.holds_eq,if_neg (by omega),if_neg (by omega),if_neg (by omega),if_pos (by omega)];rw [List.all_eq_not_any_not];try rfl
  rw [hz];try rfl
 have hc10':=hc10;(try simp at hc10');refine Je 3 [] [8,32] [(39,vb (f.kind == 5))] h fun a w h=>?_;refine cS (f.kind == 5) h (fun hc11=>?_) (fun hc12=>?_)
 ·have hc11':=hc11;(try simp at hc11');refine Jq 3 [(3,.call (SAnyH1 (za7.holds vs) f.kids vs (fun g hg=>SHolds1 g vs (ih g hg (((za7.ok_eq L f).1 hf).2 _ (by unfold cnt;rw [if_pos (by omega)];exact hg)))) hk))] [(4,vb (f.kids.any (za7.holds vs)))] [] h fun a w h=>?_;refine qV (za6 (za2 ?_));refine rT (.c (cB (f.kids.any (za7.holds vs)))) h rfl ?_;have hz:f.holds vs=(f.kids.any (za7.holds vs)):=by rw [za7.holds_eq,if_neg (by omega),if_neg (by omega),if_neg (by omega),if_neg (by omega),if_pos (by omega)];try rfl
  rw [hz];try rfl
 have hc12':=hc12;(try simp at hc12');refine qU (za5 (za0 (Jq 3 [] [(4,vb false)] [] h fun a w h=>?_)));refine qV ?_;refine rT (.c (cB false)) h rfl ?_;have hz:f.holds vs=(false):=by rw [za7.holds_eq,if_neg (by omega),if_neg (by omega),if_neg (by omega),if_neg (by omega),if_neg (by omega)];try rfl
 rw [hz];try rfl
theorem SRHolds (vs:List ZI) {L:Nat} (hL:L+M<=20000) (hv:VOk M vs) (f:za7):f.lb->f.ok L->Fn cT 34 [] [(vF f),(vZs vs)] (vb (za7.holds vs f)) [] :=
 za7.ind (P:=fun f=>f.lb->f.ok L->Fn cT 34 [] [(vF f),(vZs vs)] (vb (za7.holds vs f)) []) (fun k r ks ih hl hf=>by
  have hl:=(za7.lb_eq _).1 hl
  exact SRHolds0 ⟨k,r,ks⟩ vs (fun g hg h=>ih g hg (hl.2 g hg) h) hL hv hf hl.1.2) f
theorem SHolds (vs:List ZI) {L:Nat} (hL:L+M<=20000) (hv:VOk M vs) (f:za7):f.lb->f.ok L->Fn cT 69 [] [(vF f),(vZs vs)] (vb (za7.holds vs f)) [] :=
 za7.ind (P:=fun f=>f.lb->f.ok L->Fn cT 69 [] [(vF f),(vZs vs)] (vb (za7.holds vs f)) []) (fun k r ks ih hl hf=>by
  have hl:=(za7.lb_eq _).1 hl
  exact SHolds0 ⟨k,r,ks⟩ vs (fun g hg h=>ih g hg (hl.2 g hg) h) hL hv hf hl.1.2) f
theorem kf_0:SlT cT 23 89 5:=SlT.mk' Tryz.underlying23 (by kernel_rfl)
theorem kf_1:Sz cT 89 5 true:=Sz.mk' (by kernel_rfl) Tryz.underlying89 _ rfl
theorem kf_5:SlT cT 36 93 3:=SlT.mk' Tryz.underlying36 (by kernel_rfl)
def zdi:ZI:=⟨false,[]⟩
def bnd0:zaj:=⟨false,zdi,zdi⟩
def zam (s:zab) (v:Nat):zaj:=(s.bounds[v]?).getD bnd0
def zar (b:zaj) (n:ZI):Bool:=!b.is_ || (decide (zel b.lo.val n.val<=0) && decide (zel n.val b.hi.val<=0))
def zeb (s:zab) (i:Nat):Nat:=((s.procs[i]?).map fun p=>p.locs.length).getD 0
def zgi (s:zab) (x:StD) (i:Nat):Bool:=decide (0<=(x.locs[i]?).getD 0/\(x.locs[i]?).getD 0<(zeb s i:Int))
def zhr (s:zab) (x:StD) (v:Nat):Bool:=zar (zam s v) ((x.vals[v]?).getD zdi)
def zbk (s:zab) (x:StD):Bool:=decide (x.locs.length=s.procs.length/\x.vals.length=s.vars.length) && (zg7 x.locs.length (zgi s x) && zg7 x.vals.length (zhr s x))
def first (s:zab) (x:StD):Bool:=(zbk s x && !x.locs.any fun l=>l != 0) && s.init.holds x.vals
def zde (x y:StD):Bool:=decide (x.locs=y.locs) && decide (x.vals.map ZI.val=y.vals.map ZI.val)
def ZOk (L:Nat) (z:ZI):Prop:=Lb z.abs/\z.abs.length<=L
structure zi3 (L:Nat) (a:zb1):Prop where
  guard:a.guard.lb/\a.guard.ok L
  len:a.moves.length<=20
  mv:∀ m ∈ a.moves,TOk 20 L m.t
structure zaw (L:Nat) (s:zab):Prop where
  vars:s.vars.length<=8
  bnds:s.bounds.length<=20
  procs:s.procs.length<=6
  acts:s.acts.length<=20
  bnd:∀ b ∈ s.bounds,ZOk L b.lo/\ZOk L b.hi
  init:s.init.lb/\s.init.ok L
  act:∀ a ∈ s.acts,zi3 L a
structure zdh (M:Nat) (x:StD):Prop where
  locs:x.locs.length<=10
  vals:x.vals.length<=10
  val:∀ z ∈ x.vals,ZOk M z
variable {x:StD}
theorem zdh.vok (h:zdh M x):VOk M x.vals:=⟨bI h.vals (by decide),h.val⟩
theorem zdh.mono {M':Nat} (h:zdh M x) (hm:M<=M'):zdh M' x:=⟨h.locs,h.vals,fun z hz=>⟨(h.val z hz).1,bI (h.val z hz).2 hm⟩⟩
theorem ZOk.zero {L:Nat}:ZOk L zdi:=⟨zhe,bG _⟩
theorem zgu {L:Nat} {s:zab} (h:zaw L s) (v:Nat):ZOk L (zam s v).lo/\ZOk L (zam s v).hi:=by
 unfold zam
 cases hb:s.bounds[v]? with
 | none=>exact ⟨ZOk.zero,ZOk.zero⟩
 | some b=>exact h.bnd b (bS hb)
theorem zh9 (x y:Int):decide (zel x y<=0)=decide (x<=y):=by unfold zel;split;simp;omega;split <;> simp <;> omega
theorem cmpZ_geI (x y:Int):decide (zel x y>=0)=decide (zel y x<=0):=by unfold zel;split <;> split <;> (try split) <;> simp <;> omega
theorem zf5 (x y:Int):decide (zel x y>0)=decide (y<x):=by unfold zel;split;simp;omega;split <;> simp <;> omega
theorem cmpZ_0 (x y:Int):(zel x y == 0)=decide (x=y):=by unfold zel;split;simp;omega;split <;> simp <;> omega
theorem zjx (x y:Int):(zel x y != 0)=!decide (x=y):=by rw [bne,cmpZ_0]
theorem Sbound (s:zab) (v:Nat) (hb:s.bounds.length<=9223372036854775807):Fn cT 79 [] [vG (zat s),vN v] (vG ([cB (zam s v).is_]++zi (zam s v).lo++zi (zam s v).hi)) []:=by
 refine fB Tryz.func79 rfl 16 fun w H B a h=>Jq 0 [] [(1,vN v),(2,vp 0 0),(4,vp 1 0)] [(0,.box (zat s)),(1,.box [cB false,cB false,.d (nsl []),cB false,.d (nsl [])])] h fun a w h=>qW (Je 2 [(3,.len (za1 5 zaj.d s.bounds))] [] [(9,vb (decide ((v:Int)<(s.bounds.length:Int))))] h fun a w h=>zag ((v:Int)<(s.bounds.length:Int)) h (fun hc1 hc1'=>?_) (fun hc2 hc2'=>?_))
 ·obtain ⟨x1,hx1⟩:=gl s.bounds v;refine Jq 2 [(3,.g (xD 13 11 kf_0 (za4 hx1 (f:=zaj.d)) (cV 12 _)))] [(4,vp 1 0)] [(1,.box ([cB x1.is_]++zi x1.lo++zi x1.hi))] h fun a w h=>qV (za2 (rA 1 ([cB x1.is_]++zi x1.lo++zi x1.hi) h kf_1 rfl ?_));have hz:zam s v=x1:=by unfold zam;rw [hx1];rfl
  rw [hz];try rfl
 refine qU (za0 (Jg 2 [] [1,2,9] [] [0] [] h fun a w h=>qV (rA 1 [cB false,cB false,.d (nsl []),cB false,.d (nsl [])] h kf_1 rfl ?_)));have hz:zam s v=bnd0:=by unfold zam;rw [bX (by have:=dF hc2;omega)];rfl
 rw [hz];try rfl
theorem Swithin (s:zab) (v:Nat) (n:ZI) {L:Nat} (hL:L+M<=10000) (hs:zaw L s) (hn:ZOk M n):Fn cT 75 [] [.t (.agg (zat s)),vN v,vz n] (vb (zar (zam s v) n)) []:=by
 have lb1:=(zgu hs v).1.2;have lb2:=(zgu hs v).2.2;have ln:=hn.2;refine fB Tryz.func75 rfl 28 fun w H B a h=>Jq 0 [] [(1,vN v),(3,vp 0 0),(5,vp 1 0),(6,vb false)] [(0,.box (zat s)),(1,.box (zi n))] h fun a w h=>Jg 2 [(2,.call (Sbound s v (by have:=hs.bnds;omega)))] [1,3] [(7,vp 2 0)] [0] [(2,.box ([.d (.raw (.bool (zam s v).is_))]++zi (zam s v).lo++zi (zam s v).hi))] h fun a w h=>?_
 rcases bF (zam s v).is_ with hc1 | hc4
 ·rw [hc1] at h
  rcases bF (decide (zel (zam s v).lo.val n.val<=0)) with hc2 | hc3
  ·have hc2':=dT hc2;refine Jq 3 [(7,.call (SCmp (zam s v).lo n (zgu hs v).1.1 hn.1 (by omega) (by omega))),(8,.cmp (op:=.leq) (m:=(zel (zam s v).lo.val n.val)) (n:=0) (b:=true) .i64 hc2),(13,.call (SCmp n (zam s v).hi hn.1 (zgu hs v).2.1 (by omega) (by omega)))] [(6,vb (decide (zel n.val (zam s v).hi.val<=0)))] [] h fun a w h=>qV (rT (.c (.d (.raw (.bool (decide (zel n.val (zam s v).hi.val<=0)))))) h rfl ?_)
   have hz:zar (zam s v) n=(decide (zel n.val (zam s v).hi.val<=0)):=by
    unfold zar;simp only [hc1,hc2]
    try rfl
   rw [hz];try rfl
  have hc3':=dF hc3;refine Jq 3 [(7,.call (SCmp (zam s v).lo n (zgu hs v).1.1 hn.1 (by omega) (by omega))),(8,.cmp (op:=.leq) (m:=(zel (zam s v).lo.val n.val)) (n:=0) (b:=false) .i64 hc3)] [(6,vb false)] [] h fun a w h=>qV (rT (.c (.d (.raw (.bool false)))) h rfl ?_)
  have hz:zar (zam s v) n=(false):=by
   unfold zar;simp only [hc1,hc3]
   try rfl
  rw [hz];try rfl
 rw [hc4] at h;refine Jq 3 [] [(6,vb true)] [] h fun a w h=>qV (rT (.c (.d (.raw (.bool true)))) h rfl ?_)
 have hz:zar (zam s v) n=(true):=by
  unfold zar;simp only [hc4]
  try rfl
 rw [hz];try rfl
theorem zk0 (s:zab) (x:StD) {L:Nat} (hL:L+M<=10000) (hs:zaw L s) (hx:zdh M x):Fn cT 38 [] [vG (zat s),vG [cIs x.locs,cZs x.vals]] (vb (zbk s x)) []:=by
 have lx1:=hx.locs;have lx2:=hx.vals;have ls1:=hs.vars;have ls2:=hs.procs;refine fB Tryz.func38 rfl 61 fun w H B a h=>Jq 0 [] [(2,vp 0 0),(3,vp 1 0),(4,vb false)] [(0,.box (zat s)),(1,.box [cIs x.locs,cZs x.vals])] h fun a w h=>qW ?_
 rcases bF ((x.locs.length:Int) != (s.procs.length:Int)) with hc1 | hc2
 ·refine Je 2 [(2,.len (za1 1 za8 x.locs)),(5,.len (za1 3 zb2.d s.procs)),(6,.cmp (op:=.neq) (m:=(x.locs.length:Int)) (n:=(s.procs.length:Int)) (b:=true) .i64 hc1)] [] [(24,vb true)] h fun a w h=>cS true h (fun _=>?_) nofun
  refine Je 2 [] [24] [] h fun a w h=>qV (za2 (rT (.c (cB false)) h rfl ?_));have hz:zbk s x=false:=by unfold zbk;rw [decide_eq_false (by have:=hc1;simp at this;omega)];rfl
  rw [hz];try rfl
 refine Je 2 [(2,.len (za1 1 za8 x.locs)),(5,.len (za1 3 zb2.d s.procs)),(6,.cmp (op:=.neq) (m:=(x.locs.length:Int)) (n:=(s.procs.length:Int)) (b:=false) .i64 hc2),(10,.len (za1 2 ziD x.vals)),(13,.len (za1 1 zdz s.vars))] [] [(24,vb ((x.vals.length:Int) != (s.vars.length:Int)))] h fun a w h=>cS ((x.vals.length:Int) != (s.vars.length:Int)) h (fun hc3=>?_) (fun hc4=>?_)
 ·refine Je 2 [] [24] [] h fun a w h=>qV (za2 (rT (.c (cB false)) h rfl ?_));have hz:zbk s x=false:=by unfold zbk;rw [decide_eq_false (by have:=hc3;simp at this;omega)];rfl
  rw [hz];try rfl
 refine qU (za0 (qW (Je 2 [(2,.len (za1 1 za8 x.locs))] [24] [(26,(vIs x.locs)),(27,vN x.locs.length),(28,vI 0)] h fun a w h=>qZ ?_)))
 refine zcc (ι:=(Nat)) (fun j=>j<=x.locs.length/\zg7 j (zgi s x)=true)
   [4] (fun j=>[(28,vN j)])
   [] (fun j=>[])
   (fun j=>x.locs.length - j) 0 ?_ h ?_
 ·exact ⟨bG _,rfl⟩
 clear h;rintro j a w hI h;obtain ⟨hI1,hI2⟩:=hI;refine Je 2 [] [] [(29,vb (decide ((j:Int)<(x.locs.length:Int))))] h fun a w h=>qW (zag ((j:Int)<(x.locs.length:Int)) h (fun hc5 hc5'=>?_) (fun hc10 hc10'=>?_))
 ·refine qU (za0 (qW (qZ ?_)));obtain ⟨x1,hx1⟩:=gl x.locs j;refine Je 2 [(1,.g (xD 31 26 zdj (za4 hx1 (f:=za8)) (cV 28 _)))] [29] [(5,vN j),(6,vI x1)] h fun a w h=>?_
  rcases bF (decide (x1<0)) with hc6 | hc7
  ·have hc6':=dT hc6;refine Je 2 [(1,.cmp (op:=.lss) (m:=x1) (n:=0) (b:=true) .i64 hc6)] [5,6] [(45,vb true)] h fun a w h=>cS true h (fun _=>?_) nofun
   refine Je 2 [] [45] [(4,vb false)] h fun a w h=>qV (za6 (za2 (za2 (za6 (za2 (rT (.c (cB false)) h rfl ?_))))));have hz:zbk s x=false:=by unfold zbk;rw [decide_eq_true (by have h1:=hc2;have h2:=hc4;simp at h1 h2;omega),bE];rw [zba (zac hx1) (show zgi s x j=false by unfold zgi zeb;rw [hx1];exact decide_eq_false (by have:=dT hc6;intro h;have:=h.1;simp at this;omega))];rfl
   rw [hz];try rfl
  have hc7':=dF hc7;obtain ⟨x2,hx2⟩:=gl s.procs j;refine Je 2 [(1,.cmp (op:=.lss) (m:=x1) (n:=0) (b:=false) .i64 hc7),(7,.g (xD 40 38 kf_5 (za4 hx2 (f:=zb2.d)) (cV 39 _))),(10,.len (za1 1 zdz x2.locs))] [5,6] [(45,vb (decide (x1>=(x2.locs.length:Int))))] h fun a w h=>zag (x1>=(x2.locs.length:Int)) h (fun hc8 hc8'=>?_) (fun hc9 hc9'=>?_)
  ·refine Je 2 [] [45] [(4,vb false)] h fun a w h=>qV (za6 (za2 (za2 (za6 (za2 (rT (.c (cB false)) h rfl ?_))))));have hz:zbk s x=false:=by unfold zbk;rw [decide_eq_true (by have h1:=hc2;have h2:=hc4;simp at h1 h2;omega),bE];rw [zba (zac hx1) (show zgi s x j=false by unfold zgi zeb;rw [hx1,hx2];exact decide_eq_false (by have:=dT hc8;intro h;have:=h.2;simp at this;omega))];rfl
   rw [hz];try rfl
  refine qU (za5 (za0 (Jf 2 [(0,.j1 j)] [45] [(28,vI ((j:Int)+1))] h fun a w h=>za0 (za9 (x:=j) (y:=j+1) h ?_ ?_))))
  ·have:=zac hx1;exact ⟨by omega,zb9 hI2 (by unfold zgi zeb;rw [hx1,hx2];exact decide_eq_true ⟨by have:=dF hc7;simpa using this,by have:=dF hc9;simpa using this⟩)⟩
  show x.locs.length - (j+1)<x.locs.length - j;have:=zac hx1;omega
 refine exA (qW (Jg 2 [(2,.len (za1 2 ziD x.vals))] [3,26,27,28,29] [(48,(vZs x.vals)),(49,vN x.vals.length),(50,vI 0)] [1] [] h fun a w h=>qZ ?_))
 refine zcc (ι:=(Nat)) (fun i=>i<=x.vals.length/\zg7 i (zhr s x)=true)
   [] (fun i=>[(50,vN i)])
   [] (fun i=>[])
   (fun i=>x.vals.length - i) 0 ?_ h ?_
 ·exact ⟨bG _,rfl⟩
 clear h;rintro i a w hI h;obtain ⟨hJ1,hJ2⟩:=hI;refine Je 2 [] [] [(51,vb (decide ((i:Int)<(x.vals.length:Int))))] h fun a w h=>qW (zag ((i:Int)<(x.vals.length:Int)) h (fun hc11 hc11'=>?_) (fun hc14 hc14'=>?_))
 ·refine qU (za0 (qW (qZ ?_)));obtain ⟨x3,hx3⟩:=gl x.vals i;have gx3:=hx.val x3 (lM hx3);refine Jg 2 [(1,.g (xD 53 48 zi8 (za4 hx3 (f:=ziD)) (cV 50 _)))] [51] [(7,vN i),(8,vp 2 0)] [] [(2,.box (zi x3))] h fun a w h=>Jg 3 [(3,.call (Swithin s i x3 hL hs gx3))] [7,8] [(59,vb (!(zar (zam s i) x3)))] [2] [] h fun a w h=>cS (!(zar (zam s i) x3)) h (fun hc12=>?_) (fun hc13=>?_)
  ·refine Je 3 [] [59] [(4,vb false)] h fun a w h=>qV (za6 (za2 (za2 (za6 (za2 (rT (.c (cB false)) h rfl ?_))))));have hz:zbk s x=false:=by unfold zbk;rw [decide_eq_true (by have h1:=hc2;have h2:=hc4;simp at h1 h2;omega),bE];rw [zba (zac hx3) (show zhr s x i=false by unfold zhr;rw [hx3];exact (show (zar (zam s i) x3)=false from by simpa using hc12)),bM]
   rw [hz];try rfl
  refine qU (za5 (za0 (Jf 3 [(0,.j1 i)] [59] [(50,vI ((i:Int)+1))] h fun a w h=>za0 (za9 (x:=i) (y:=i+1) h ?_ ?_))))
  ·have:=zac hx3;exact ⟨by omega,zb9 hJ2 (by unfold zhr;rw [hx3];exact (show (zar (zam s i) x3)=true from by simpa using hc13))⟩
  show x.vals.length - (i+1)<x.vals.length - i;have:=zac hx3;omega
 refine exA (Jq 3 [] [(4,vb true)] [] h fun a w h=>qV (rT (.c (cB true)) h rfl ?_));have hz:zbk s x=true:=by unfold zbk;rw [decide_eq_true (by have h1:=hc2;have h2:=hc4;simp at h1 h2;omega),bE];rw [show x.locs.length=j by have:=dF hc10;omega,hI2,show x.vals.length=i by have:=dF hc14;omega,hJ2];rfl
 rw [hz];try rfl
theorem kg_6:zbg cT 68:=zbg.mk' (by kernel_rfl)
theorem map_take {f:α->β} {xs ys:List α} {a b:α} (hx:xs[j]?=some a) (hy:ys[j]?=some b) (h:(xs.take j).map f=(ys.take j).map f) (e:f a=f b):(xs.take (j+1)).map f=(ys.take (j+1)).map f:=by
 rw [bU,bU,hx,hy,b9,b9,h];simp [e]
theorem map_ne {f:α->β} {xs ys:List α} {a b:α} (hx:xs[j]?=some a) (hy:ys[j]?=some b) (e:f a≠f b):xs.map f≠ys.map f:=by
 intro h
 have:=congrArg (fun l=>l[j]?) h
 simp only [cH,hx,hy,Option.map_some,Option.some.injEq] at this
 exact e this
theorem map_len_ne {f:α->β} {xs ys:List α} (e:xs.length≠ys.length):xs.map f≠ys.map f:=fun h=>e (by simpa using congrArg List.length h)
theorem map_end {f:α->β} {xs ys:List α} (hl:xs.length=ys.length) (hj:¬ (j:Int)<(xs.length:Int)) (h:(xs.take j).map f=(ys.take j).map f):xs.map f=ys.map f:=by
 rwa [bR (by omega),bR (by omega)] at h
theorem SFirst1 (l:Int) :Fn cT 68 [] [vI l] (vb (l != 0)) []:=by
 refine fB Tryz.func68 rfl 5 fun w H B a h=>Jq 0 [] [(0,vI l),(2,vb false)] [] h fun a w h=>Jq 0 [] [(2,vb (l != 0))] [] h fun a w h=>qV (rT (.c (cB (l != 0))) h rfl ?_)
 rfl
theorem SIdxF1 (pr:Int->Bool) (xs:List Int) (hf:∀ x ∈ xs,Fn cT 68 [] [vI x] (vb (pr x)) []) (hl:xs.length<=9223372036854775807):Fn cT 67 [] [(vIs xs),.t (.c (.fn (.func 68) [] []))] (vI (zcn pr xs 0)) []:=by
 refine fB Tryz.func67 rfl 19 fun w H B a h=>Jq 5 [] [(0,(vIs xs)),(1,.t (.c (.fn (.func 68) [] []))),(4,vI 0)] [] h fun a w h=>qW (Jg 5 [(1,.len (za1 1 za8 xs))] [] [(7,vN xs.length),(8,vI 0)] [] [] h fun a w h=>qZ ?_)
 refine zcc (ι:=(Nat)) (fun j=>j<=xs.length/\zcn pr xs 0=zcn pr (xs.drop j) j)
   [4] (fun j=>[(8,vN j)])
   [] (fun j=>[])
   (fun j=>xs.length - j) 0 ?_ h ?_
 ·exact ⟨bG _,rfl⟩
 clear h;rintro j a w hI h;obtain ⟨hI1,hI2⟩:=hI;refine Jg 5 [] [] [(9,vb (decide ((j:Int)<(xs.length:Int))))] [] [] h fun a w h=>qW (zag ((j:Int)<(xs.length:Int)) h (fun hc1 hc1'=>?_) (fun hc4 hc4'=>?_))
 ·refine qU (za0 (qW (qZ (Jg 5 [] [9] [(5,vN j)] [] [] h fun a w h=>?_))));obtain ⟨x1,hx1⟩:=gl xs j;refine Jg 5 [(3,.g (xD 14 12 zdj (za4 hx1 (f:=za8)) (cV 13 _))),(5,.g (Op.callV (d:=16) (t:=11) (cap:=[]) (args:=[vI x1]) (rs:=[(15,vI x1)]) (tys:=#[3]) (hf x1 (lM hx1)) kg_6 (OVs.cons (cV 15 _) (OVs.nil))))] [] [(16,vb (pr x1))] [] [] h fun a w h=>cS (pr x1) h (fun hc2=>?_) (fun hc3=>?_)
  ·refine Jg 5 [] [5,16] [(4,vN j)] [] [] h fun a w h=>qV (za6 (za2 (za2 (za6 (za2 (rT (.c (cI (j:Int))) h rfl ?_))))));have hz:zcn pr xs 0=(j:Int):=by rw [hI2,zci hx1,if_pos hc2]
   rw [hz];try rfl
  refine qU (za5 (za0 (Jh 5 [(0,.j1 j)] [5,16] [(8,vI ((j:Int)+1))] [] [] h fun a w h=>za0 (za9 (x:=j) (y:=j+1) h ?_ ?_))))
  ·exact ⟨by have:=zac hx1;omega,by rw [hI2,zci hx1,if_neg (by rw [hc3];exact Bool.noConfusion)]⟩
  (try simp);omega
 refine exA (Jq 5 [] [(4,vI (-1))] [] h fun a w h=>qV (rT (.c (cI (-1))) h rfl ?_));have hz:zcn pr xs 0=-1:=by rw [hI2,bL (by omega)];rfl
 rw [hz];try rfl
theorem SAnyF1 (pr:Int->Bool) (xs:List Int) (hf:∀ x ∈ xs,Fn cT 68 [] [vI x] (vb (pr x)) []) (hl:xs.length<=9223372036854775807):Fn cT 31 [] [(vIs xs),.t (.c (.fn (.func 68) [] []))] (vb (xs.any pr)) []:=by
 refine fB Tryz.func31 rfl 9 fun w H B a h=>Jq 5 [] [(0,(vIs xs)),(1,.t (.c (.fn (.func 68) [] []))),(4,vb false)] [] h fun a w h=>Jq 5 [(2,.call (SIdxF1 pr xs  hf  hl))] [(4,vb (decide (zcn pr xs 0>=0)))] [] h fun a w h=>qV (rT (.c (cB (decide (zcn pr xs 0>=0)))) h rfl ?_)
 rw [<- zgl];try rfl
theorem SFirst (s:zab) (x:StD) {L:Nat} (hL:L+M<=10000) (hs:zaw L s) (hx:zdh M x):Fn cT 33 [] [.t (.agg (zat s)),.t (.agg [.d (.sl 1 (x.locs.map za8)),.d (.sl 2 (x.vals.map ziD))])] (vb (first s x)) []:=by
 refine fB Tryz.func33 rfl 23 fun w H B a h=>Jq 0 [] [(2,vp 0 0),(3,vp 1 0),(4,vb false)] [(0,.box (zat s)),(1,.box [.d (.sl 1 (x.locs.map za8)),.d (.sl 2 (x.vals.map ziD))])] h fun a w h=>Je 2 [(2,.call (SAnyF1 (fun l=>l != 0) x.locs (fun l _=>SFirst1 l) (by have:=hx.locs;omega)))] [] [(5,vb (x.locs.any fun l=>l != 0))] h fun a w h=>?_
 rcases bF (zbk s x) with hc1 | hc4
 ·rcases bF (x.locs.any fun l=>l != 0) with hc2 | hc3
  ·rw [hc2] at h;refine Jq 2 [(2,.call (cU (zk0 s x hL hs hx) (congrArg vb hc1)))] [(4,vb false)] [] h fun a w h=>qV (rT (.c (.d (.raw (.bool false)))) h rfl ?_);have hz:first s x=(false):=by unfold first;rw [hc1];rw [hc2];rfl
   rw [hz];try rfl
  rw [hc3] at h;refine Jq 2 [(2,.call (cU (zk0 s x hL hs hx) (congrArg vb hc1))),(12,.call (SHolds x.vals (L:=L) (M:=M) (by omega) hx.vok s.init hs.init.1 hs.init.2))] [(4,vb (za7.holds x.vals s.init))] [] h fun a w h=>qV (rT (.c (.d (.raw (.bool (za7.holds x.vals s.init))))) h rfl ?_);have hz:first s x=(za7.holds x.vals s.init):=by unfold first;rw [hc1];rw [hc3];rfl
  rw [hz];try rfl
 refine Jq 2 [(2,.call (cU (zk0 s x hL hs hx) (congrArg vb hc4)))] [(4,vb false)] [] h fun a w h=>qV (rT (.c (.d (.raw (.bool false)))) h rfl ?_);have hz:first s x=(false):=by unfold first;rw [hc4];rfl
 rw [hz];try rfl
theorem SRwithin (s:zab) (v:Nat) (n:ZI) {L:Nat} (hL:L+M<=10000) (hs:zaw L s) (hn:ZOk M n):Fn cT 43 [] [vG (zat s),vN v,vz n] (vb (zar (zam s v) n)) []:=by
 have ln:=hn.2;have lbs:=hs.bnds;refine fB Tryz.func43 rfl 41 fun w H B a h=>Jq 0 [] [(1,vN v),(3,vp 0 0),(5,vp 1 0),(6,vb false)] [(0,.box (zat s)),(1,.box (zi n))] h fun a w h=>qW ?_
 rcases bF (decide ((v:Int)>=(s.bounds.length:Int))) with hc1 | hc2
 ·have hc1':=dT hc1;refine Je 2 [(3,.len (za1 5 zaj.d s.bounds)),(4,.cmp (op:=.geq) (m:=(v:Int)) (n:=(s.bounds.length:Int)) (b:=true) .i64 hc1)] [] [(20,vb true)] h fun a w h=>cS true h (fun _=>?_) nofun
  refine Je 2 [] [20] [(6,vb true)] h fun a w h=>qV (za2 (rT (.c (cB true)) h rfl ?_));have hz:zar (zam s v) n=(true):=by rw [show zam s v=bnd0 by unfold zam;rw [bX (by have:=dT hc1;omega)];rfl];rfl
  rw [hz];try rfl
 have hc2':=dF hc2;obtain ⟨x1,hx1⟩:=gl s.bounds v;have gx1:=hs.bnd x1 (lM hx1);have l1x1:=gx1.1.2;have l2x1:=gx1.2.2;refine Je 2 [(3,.len (za1 5 zaj.d s.bounds)),(4,.cmp (op:=.geq) (m:=(v:Int)) (n:=(s.bounds.length:Int)) (b:=false) .i64 hc2),(9,.g (xD 16 14 kf_0 (za4 hx1 (f:=zaj.d)) (cV 15 _)))] [] [(20,vb (!x1.is_))] h fun a w h=>cS (!x1.is_) h (fun hc3=>?_) (fun hc4=>?_)
 ·refine Je 2 [] [20] [(6,vb true)] h fun a w h=>qV (za2 (rT (.c (cB true)) h rfl ?_));have hz:zar (zam s v) n=(true):=by rw [show zam s v=x1 by unfold zam;rw [hx1];rfl];unfold zar;rw [<- cmpZ_geI];simp only [hc3];try rfl
  rw [hz];try rfl
 refine qU (za0 ?_)
 rcases bF (decide (zel n.val x1.lo.val>=0)) with hc5 | hc6
 ·have hc5':=dT hc5;refine Jq 2 [(4,.g (xD 25 23 kf_0 (za4 hx1 (f:=zaj.d)) (cV 24 _))),(7,.call (SRCmp n x1.lo hn.1 gx1.1.1 (by omega) (by omega))),(8,.cmp (op:=.geq) (m:=(zel n.val x1.lo.val)) (n:=0) (b:=true) .i64 hc5),(14,.g (xD 35 33 kf_0 (za4 hx1 (f:=zaj.d)) (cV 34 _))),(17,.call (SRCmp n x1.hi hn.1 gx1.2.1 (by omega) (by omega)))] [(6,vb (decide (zel n.val x1.hi.val<=0)))] [] h fun a w h=>qV (rT (.c (cB (decide (zel n.val x1.hi.val<=0)))) h rfl ?_);have hz:zar (zam s v) n=(decide (zel n.val x1.hi.val<=0)):=by rw [show zam s v=x1 by unfold zam;rw [hx1];rfl];unfold zar;rw [<- cmpZ_geI];simp only [hc4,hc5];try rfl
  rw [hz];try rfl
 have hc6':=dF hc6;refine Jq 2 [(4,.g (xD 25 23 kf_0 (za4 hx1 (f:=zaj.d)) (cV 24 _))),(7,.call (SRCmp n x1.lo hn.1 gx1.1.1 (by omega) (by omega))),(8,.cmp (op:=.geq) (m:=(zel n.val x1.lo.val)) (n:=0) (b:=false) .i64 hc6)] [(6,vb false)] [] h fun a w h=>qV (rT (.c (cB false)) h rfl ?_);have hz:zar (zam s v) n=(false):=by rw [show zam s v=x1 by unfold zam;rw [hx1];rfl];unfold zar;rw [<- cmpZ_geI];simp only [hc4,hc6];try rfl
 rw [hz];try rfl
theorem SRFits (s:zab) (x:StD) {L:Nat} (hL:L+M<=10000) (hs:zaw L s) (hx:zdh M x):Fn cT 14 [] [vG (zat s),vG [cIs x.locs,cZs x.vals]] (vb (zbk s x)) []:=by
 have lx1:=hx.locs;have lx2:=hx.vals;have ls1:=hs.vars;have ls2:=hs.procs;refine fB Tryz.func14 rfl 67 fun w H B a h=>Jq 0 [] [(2,vp 0 0),(3,vp 1 0),(4,vb false)] [(0,.box (zat s)),(1,.box [cIs x.locs,cZs x.vals])] h fun a w h=>qW ?_
 rcases bF ((x.locs.length:Int) != (s.procs.length:Int)) with hc1 | hc2
 ·refine Je 2 [(2,.len (za1 1 za8 x.locs)),(5,.len (za1 3 zb2.d s.procs)),(6,.cmp (op:=.neq) (m:=(x.locs.length:Int)) (n:=(s.procs.length:Int)) (b:=true) .i64 hc1)] [] [(22,vb true)] h fun a w h=>cS true h (fun _=>?_) nofun
  refine Je 2 [] [22] [] h fun a w h=>qV (za2 (rT (.c (cB false)) h rfl ?_));have hz:zbk s x=false:=by unfold zbk;rw [decide_eq_false (by have:=hc1;simp at this;omega)];rfl
  rw [hz];try rfl
 refine Je 2 [(2,.len (za1 1 za8 x.locs)),(5,.len (za1 3 zb2.d s.procs)),(6,.cmp (op:=.neq) (m:=(x.locs.length:Int)) (n:=(s.procs.length:Int)) (b:=false) .i64 hc2),(10,.len (za1 2 ziD x.vals)),(13,.len (za1 1 zdz s.vars))] [] [(22,vb ((x.vals.length:Int) != (s.vars.length:Int)))] h fun a w h=>cS ((x.vals.length:Int) != (s.vars.length:Int)) h (fun hc3=>?_) (fun hc4=>?_)
 ·refine Je 2 [] [22] [] h fun a w h=>qV (za2 (rT (.c (cB false)) h rfl ?_));have hz:zbk s x=false:=by unfold zbk;rw [decide_eq_false (by have:=hc3;simp at this;omega)];rfl
  rw [hz];try rfl
 refine qU (za0 (qW (Je 2 [] [22] [(5,vI 0)] h fun a w h=>qZ ?_)))
 refine zcc (ι:=(Nat)) (fun j=>j<=x.locs.length/\zg7 j (zgi s x)=true)
   [4] (fun j=>[(5,vN j)])
   [] (fun j=>[])
   (fun j=>x.locs.length - j) 0 ?_ h ?_
 ·exact ⟨bG _,rfl⟩
 clear h;rintro j a w hI h;obtain ⟨hI1,hI2⟩:=hI;refine qW (Je 2 [(3,.len (za1 1 za8 x.locs))] [] [(27,vb (decide ((j:Int)<(x.locs.length:Int))))] h fun a w h=>zag ((j:Int)<(x.locs.length:Int)) h (fun hc5 hc5'=>?_) (fun hc10 hc10'=>?_))
 ·refine qU (za0 (qW (qZ ?_)));obtain ⟨x1,hx1⟩:=gl x.locs j
  rcases bF (decide (x1<0)) with hc6 | hc7
  ·have hc6':=dT hc6;refine Je 2 [(3,.g (xD 33 31 zdj (za4 hx1 (f:=za8)) (cV 32 _))),(5,.cmp (op:=.lss) (m:=x1) (n:=0) (b:=true) .i64 hc6)] [27] [(50,vb true)] h fun a w h=>cS true h (fun _=>?_) nofun
   refine Je 2 [] [50] [(4,vb false)] h fun a w h=>qV (za6 (za2 (za2 (za6 (za2 (rT (.c (cB false)) h rfl ?_))))));have hz:zbk s x=false:=by unfold zbk;rw [decide_eq_true (by have h1:=hc2;have h2:=hc4;simp at h1 h2;omega),bE];rw [zba (zac hx1) (show zgi s x j=false by unfold zgi zeb;rw [hx1];exact decide_eq_false (by have:=dT hc6;intro h;have:=h.1;simp at this;omega))];rfl
   rw [hz];try rfl
  have hc7':=dF hc7;obtain ⟨x2,hx2⟩:=gl s.procs j;refine Je 2 [(3,.g (xD 33 31 zdj (za4 hx1 (f:=za8)) (cV 32 _))),(5,.cmp (op:=.lss) (m:=x1) (n:=0) (b:=false) .i64 hc7),(10,.g (xD 40 38 zdj (za4 hx1 (f:=za8)) (cV 39 _))),(15,.g (xD 45 43 kf_5 (za4 hx2 (f:=zb2.d)) (cV 44 _))),(18,.len (za1 1 zdz x2.locs))] [27] [(50,vb (decide (x1>=(x2.locs.length:Int))))] h fun a w h=>zag (x1>=(x2.locs.length:Int)) h (fun hc8 hc8'=>?_) (fun hc9 hc9'=>?_)
  ·refine Je 2 [] [50] [(4,vb false)] h fun a w h=>qV (za6 (za2 (za2 (za6 (za2 (rT (.c (cB false)) h rfl ?_))))));have hz:zbk s x=false:=by unfold zbk;rw [decide_eq_true (by have h1:=hc2;have h2:=hc4;simp at h1 h2;omega),bE];rw [zba (zac hx1) (show zgi s x j=false by unfold zgi zeb;rw [hx1,hx2];exact decide_eq_false (by have:=dT hc8;intro h;have:=h.2;simp at this;omega))];rfl
   rw [hz];try rfl
  refine qU (za5 (za0 (Jf 2 [(1,.j1 j)] [50] [(5,vI ((j:Int)+1))] h fun a w h=>za0 (za9 (x:=j) (y:=j+1) h ?_ ?_))))
  ·have:=zac hx1;exact ⟨by omega,zb9 hI2 (by unfold zgi zeb;rw [hx1,hx2];exact decide_eq_true ⟨by have:=dF hc7;simpa using this,by have:=dF hc9;simpa using this⟩)⟩
  show x.locs.length - (j+1)<x.locs.length - j;have:=zac hx1;omega
 refine exA (qW (Je 2 [] [5,27] [(6,vI 0)] h fun a w h=>qZ ?_))
 refine zcc (ι:=(Nat)) (fun i=>i<=x.vals.length/\zg7 i (zhr s x)=true)
   [] (fun i=>[(6,vN i)])
   [] (fun i=>[])
   (fun i=>x.vals.length - i) 0 ?_ h ?_
 ·exact ⟨bG _,rfl⟩
 clear h;rintro i a w hI h;obtain ⟨hJ1,hJ2⟩:=hI;refine qW (Je 2 [(3,.len (za1 2 ziD x.vals))] [] [(55,vb (decide ((i:Int)<(x.vals.length:Int))))] h fun a w h=>zag ((i:Int)<(x.vals.length:Int)) h (fun hc11 hc11'=>?_) (fun hc14 hc14'=>?_))
 ·refine qU (za0 (qW (qZ ?_)));obtain ⟨x3,hx3⟩:=gl x.vals i;have gx3:=hx.val x3 (lM hx3);refine Je 2 [(5,.g (xD 63 61 zi8 (za4 hx3 (f:=ziD)) (cV 62 _))),(7,.call (SRwithin s i x3 hL hs gx3))] [55] [(66,vb (!(zar (zam s i) x3)))] h fun a w h=>cS (!(zar (zam s i) x3)) h (fun hc12=>?_) (fun hc13=>?_)
  ·refine Je 2 [] [66] [(4,vb false)] h fun a w h=>qV (za6 (za2 (za2 (za6 (za2 (rT (.c (cB false)) h rfl ?_))))));have hz:zbk s x=false:=by unfold zbk;rw [decide_eq_true (by have h1:=hc2;have h2:=hc4;simp at h1 h2;omega),bE];rw [zba (zac hx3) (show zhr s x i=false by unfold zhr;rw [hx3];exact (show (zar (zam s i) x3)=false from by simpa using hc12)),bM]
   rw [hz];try rfl
  refine qU (za5 (za0 (Jf 2 [(1,.j1 i)] [66] [(6,vI ((i:Int)+1))] h fun a w h=>za0 (za9 (x:=i) (y:=i+1) h ?_ ?_))))
  ·have:=zac hx3;exact ⟨by omega,zb9 hJ2 (by unfold zhr;rw [hx3];exact (show (zar (zam s i) x3)=true from by simpa using hc13))⟩
  show x.vals.length - (i+1)<x.vals.length - i;have:=zac hx3;omega
 refine exA (Jq 2 [] [(4,vb true)] [] h fun a w h=>qV (rT (.c (cB true)) h rfl ?_));have hz:zbk s x=true:=by unfold zbk;rw [decide_eq_true (by have h1:=hc2;have h2:=hc4;simp at h1 h2;omega),bE];rw [show x.locs.length=j by have:=dF hc10;omega,hI2,show x.vals.length=i by have:=dF hc14;omega,hJ2];rfl
 rw [hz];try rfl
theorem SRFirst (s:zab) (x:StD) {L:Nat} (hL:L+M<=10000) (hs:zaw L s) (hx:zdh M x):Fn cT 10 [] [vG (zat s),vG [cIs x.locs,cZs x.vals]] (vb (first s x)) []:=by
 have lx1:=hx.locs;have lx2:=hx.vals;have ls1:=hs.vars;have ls2:=hs.procs;refine fB Tryz.func10 rfl 29 fun w H B a h=>Jq 0 [] [(2,vp 0 0),(3,vp 1 0),(4,vb false)] [(0,.box (zat s)),(1,.box [cIs x.locs,cZs x.vals])] h fun a w h=>qW (Je 2 [] [] [(5,vI 0)] h fun a w h=>qZ ?_)
 refine zcc (ι:=(Nat)) (fun j=>j<=x.locs.length/\(x.locs.take j).any (fun l:Int=>l != 0)=false)
   [4] (fun j=>[(5,vN j)])
   [] (fun j=>[])
   (fun j=>x.locs.length - j) 0 ?_ h ?_
 ·exact ⟨bG _,rfl⟩
 clear h;rintro j a w hI h;obtain ⟨hI1,hI2⟩:=hI;refine qW (Je 2 [(3,.len (za1 1 za8 x.locs))] [] [(10,vb (decide ((j:Int)<(x.locs.length:Int))))] h fun a w h=>zag ((j:Int)<(x.locs.length:Int)) h (fun hc1 hc1'=>?_) (fun hc4 hc4'=>?_))
 ·refine qU (za0 (qW (qZ ?_)));obtain ⟨x1,hx1⟩:=gl x.locs j;refine Je 2 [(3,.g (xD 16 14 zdj (za4 hx1 (f:=za8)) (cV 15 _)))] [10] [(18,vb (x1 != 0))] h fun a w h=>cS (x1 != 0) h (fun hc2=>?_) (fun hc3=>?_)
  ·refine Je 2 [] [18] [(4,vb false)] h fun a w h=>qV (za6 (za2 (za2 (za6 (za2 (rT (.c (cB false)) h rfl ?_))))));have hz:first s x=(false):=by unfold first;rw [zl7 (q:=(fun l:Int=>l != 0)) hx1 hc2,Bool.not_true,bM];rfl
   rw [hz];try rfl
  refine qU (za5 (za0 (Jf 2 [(1,.j1 j)] [18] [(5,vI ((j:Int)+1))] h fun a w h=>za0 (za9 (x:=j) (y:=j+1) h ?_ ?_))))
  ·exact ⟨by have:=zac hx1;omega,any_step hx1 hI2 hc3⟩
  show x.locs.length - (j+1)<x.locs.length - j;have:=zac hx1;omega
 refine exA ?_
 rcases bF (zbk s x) with hc5 | hc6
 ·refine Jq 2 [(2,.call (cU (SRFits s x hL hs hx) (congrArg vb hc5))),(8,.call (SRHolds x.vals (L:=L) (M:=M) (by omega) hx.vok s.init hs.init.1 hs.init.2))] [(4,vb (za7.holds x.vals s.init))] [] h fun a w h=>qV (rT (.c (cB (za7.holds x.vals s.init))) h rfl ?_);have hz:first s x=(za7.holds x.vals s.init):=by unfold first;rw [hc5,any_end (q:=(fun l:Int=>l != 0)) (dF hc4) hI2];rfl
  rw [hz];try rfl
 refine Jq 2 [(2,.call (cU (SRFits s x hL hs hx) (congrArg vb hc6)))] [(4,vb false)] [] h fun a w h=>qV (rT (.c (cB false)) h rfl ?_);have hz:first s x=(false):=by unfold first;rw [hc6,any_end (q:=(fun l:Int=>l != 0)) (dF hc4) hI2];rfl
 rw [hz];try rfl
theorem SRSame18 (x y:StD) (hM:M<=40000) (hx:zdh M x) (hy:zdh M y):Fn cT 11 [] [vG [cIs x.locs,cZs x.vals],vG [cIs y.locs,cZs y.vals]] (vb (zde x y)) []:=by
 have lx1:=hx.locs;have lx2:=hx.vals;refine fB Tryz.func11 rfl 60 fun w H B a h=>Jq 0 [] [(2,vp 0 0),(3,vp 1 0),(4,vb false)] [(0,.box [cIs x.locs,cZs x.vals]),(1,.box [cIs y.locs,cZs y.vals])] h fun a w h=>qW ?_
 rcases bF ((x.locs.length:Int) != (y.locs.length:Int)) with hc1 | hc2
 ·refine Je 2 [(2,.len (za1 1 za8 x.locs)),(5,.len (za1 1 za8 y.locs)),(6,.cmp (op:=.neq) (m:=(x.locs.length:Int)) (n:=(y.locs.length:Int)) (b:=true) .i64 hc1)] [] [(22,vb true)] h fun a w h=>cS true h (fun _=>?_) nofun
  refine Je 2 [] [22] [] h fun a w h=>qV (za2 (rT (.c (cB false)) h rfl ?_));have hz:zde x y=false:=by unfold zde;rw [decide_eq_false (p:=x.locs=y.locs) (fun h=>by have:=hc1;rw [h] at this;simp at this)];rfl
  rw [hz];try rfl
 refine Je 2 [(2,.len (za1 1 za8 x.locs)),(5,.len (za1 1 za8 y.locs)),(6,.cmp (op:=.neq) (m:=(x.locs.length:Int)) (n:=(y.locs.length:Int)) (b:=false) .i64 hc2),(10,.len (za1 2 ziD x.vals)),(13,.len (za1 2 ziD y.vals))] [] [(22,vb ((x.vals.length:Int) != (y.vals.length:Int)))] h fun a w h=>cS ((x.vals.length:Int) != (y.vals.length:Int)) h (fun hc3=>?_) (fun hc4=>?_)
 ·refine Je 2 [] [22] [] h fun a w h=>qV (za2 (rT (.c (cB false)) h rfl ?_));have hz:zde x y=false:=by unfold zde;rw [decide_eq_false (p:=x.vals.map ZI.val=y.vals.map ZI.val) (map_len_ne (by have:=hc3;simp at this;omega)),bM]
  rw [hz];try rfl
 refine qU (za0 (qW (Je 2 [] [22] [(5,vI 0)] h fun a w h=>qZ ?_)))
 refine zcc (ι:=(Nat)) (fun j=>j<=x.locs.length/\(x.locs.take j).map (fun l:Int=>l)=(y.locs.take j).map (fun l:Int=>l))
   [4] (fun j=>[(5,vN j)])
   [] (fun j=>[])
   (fun j=>x.locs.length - j) 0 ?_ h ?_
 ·exact ⟨bG _,rfl⟩
 clear h;rintro j a w hI h;obtain ⟨hj1,hj2⟩:=hI;refine qW (Je 2 [(3,.len (za1 1 za8 x.locs))] [] [(27,vb (decide ((j:Int)<(x.locs.length:Int))))] h fun a w h=>zag ((j:Int)<(x.locs.length:Int)) h (fun hc5 hc5'=>?_) (fun hc8 hc8'=>?_))
 ·refine qU (za0 (qW (qZ ?_)));obtain ⟨x1,hx1⟩:=gl x.locs j;obtain ⟨x2,hx2⟩:=gl y.locs j;refine Je 2 [(3,.g (xD 33 31 zdj (za4 hx1 (f:=za8)) (cV 32 _))),(8,.g (xD 38 36 zdj (za4 hx2 (f:=za8)) (cV 37 _)))] [27] [(40,vb (x1 != x2))] h fun a w h=>cS (x1 != x2) h (fun hc6=>?_) (fun hc7=>?_)
  ·refine Je 2 [] [40] [(4,vb false)] h fun a w h=>qV (za6 (za2 (za2 (za6 (za2 (rT (.c (cB false)) h rfl ?_))))));have hz:zde x y=false:=by unfold zde;rw [decide_eq_false (p:=x.locs=y.locs) (fun h=>map_ne (f:=(fun l:Int=>l)) hx1 hx2 (by have:=hc6;simpa using this) (by rw [h]))];rfl
   rw [hz];try rfl
  refine qU (za5 (za0 (Jf 2 [(1,.j1 j)] [40] [(5,vI ((j:Int)+1))] h fun a w h=>za0 (za9 (x:=j) (y:=j+1) h ?_ ?_))))
  ·have:=zac hx1;exact ⟨by omega,map_take hx1 hx2 hj2 (by have:=hc7;simpa using this)⟩
  show x.locs.length - (j+1)<x.locs.length - j;have:=zac hx1;omega
 refine exA (qW (Je 2 [] [5,27] [(6,vI 0)] h fun a w h=>qZ ?_))
 refine zcc (ι:=(Nat)) (fun i=>i<=x.vals.length/\(x.vals.take i).map ZI.val=(y.vals.take i).map ZI.val)
   [] (fun i=>[(6,vN i)])
   [] (fun i=>[])
   (fun i=>x.vals.length - i) 0 ?_ h ?_
 ·exact ⟨bG _,rfl⟩
 clear h;rintro i a w hI h;obtain ⟨hi1,hi2⟩:=hI;refine qW (Je 2 [(3,.len (za1 2 ziD x.vals))] [] [(45,vb (decide ((i:Int)<(x.vals.length:Int))))] h fun a w h=>zag ((i:Int)<(x.vals.length:Int)) h (fun hc9 hc9'=>?_) (fun hc12 hc12'=>?_))
 ·refine qU (za0 (qW (qZ ?_)));obtain ⟨x3,hx3⟩:=gl x.vals i;have gx3:=hx.val x3 (lM hx3);have lx3:=gx3.2;obtain ⟨x4,hx4⟩:=gl y.vals i;have gx4:=hy.val x4 (lM hx4);have lx4:=gx4.2;refine Je 2 [(3,.g (xD 51 49 zi8 (za4 hx3 (f:=ziD)) (cV 50 _))),(8,.g (xD 56 54 zi8 (za4 hx4 (f:=ziD)) (cV 55 _))),(10,.call (SRCmp x3 x4 gx3.1 gx4.1 (by omega) (by omega)))] [45] [(59,vb (zel x3.val x4.val != 0))] h fun a w h=>cS (zel x3.val x4.val != 0) h (fun hc10=>?_) (fun hc11=>?_)
  ·refine Je 2 [] [59] [(4,vb false)] h fun a w h=>qV (za6 (za2 (za2 (za6 (za2 (rT (.c (cB false)) h rfl ?_))))));have hz:zde x y=false:=by unfold zde;rw [decide_eq_true (p:=x.locs=y.locs) (by have:=map_end (by have:=hc2;simp at this;omega) (dF hc8) hj2;simpa using this)];rw [decide_eq_false (p:=x.vals.map ZI.val=y.vals.map ZI.val) (map_ne hx3 hx4 (by have:=hc10;rw [zjx] at this;simpa using this))];rfl
   rw [hz];try rfl
  refine qU (za5 (za0 (Jf 2 [(1,.j1 i)] [59] [(6,vI ((i:Int)+1))] h fun a w h=>za0 (za9 (x:=i) (y:=i+1) h ?_ ?_))))
  ·have:=zac hx3;exact ⟨by omega,map_take hx3 hx4 hi2 (by have:=hc11;rw [zjx] at this;simpa using this)⟩
  show x.vals.length - (i+1)<x.vals.length - i;have:=zac hx3;omega
 refine exA (Jq 2 [] [(4,vb true)] [] h fun a w h=>qV (rT (.c (cB true)) h rfl ?_));have hz:zde x y=true:=by unfold zde;rw [decide_eq_true (p:=x.locs=y.locs) (by have:=map_end (by have:=hc2;simp at this;omega) (dF hc8) hj2;simpa using this)];rw [decide_eq_true (p:=x.vals.map ZI.val=y.vals.map ZI.val) (map_end (by have:=hc4;simp at this;omega) (dF hc12) hi2)];rfl
 rw [hz];try rfl
theorem ki_0:Sz cT 96 10 true:=Sz.mk' (by kernel_rfl) Tryz.underlying96 _ rfl
theorem ki_1:SlT cT 37 96 10:=SlT.mk' Tryz.underlying37 (by kernel_rfl)
theorem ki_2:SlT cT 94 105 5:=SlT.mk' Tryz.underlying94 (by kernel_rfl)
theorem ki_3:zbg cT 143:=zbg.mk' (by kernel_rfl)
theorem ki_5:Sz cT 105 5 true:=Sz.mk' (by kernel_rfl) Tryz.underlying105 _ rfl
def zf8 (s:zab) (i:Int):Option zb1:=if 0<=i then s.acts[i.toNat]? else none
def form0:za7:=⟨0,⟨⟨[],zdi⟩,false⟩,[]⟩
def act0:zb1:=⟨0,0,0,form0,[]⟩
def mv0:zan:=⟨0,false,⟨[],zdi⟩⟩
def zkm (a:zb1) (v:Nat):Option zan:=a.moves.find? fun m=>m.v == (v:Int)
def zax (a:zb1) (v:Nat):Bool:=match zkm a v with | some m=>m.any | none=>false
def zbx (x:StD) (a:zb1) (v:Nat):ZI:=match zkm a v with | none=>ZI.of ((x.vals[v]?).getD zdi).val | some m=>if m.any=true then zdi else ZI.of (valT m.t x.vals)
def zex (s:zab) (m:zan):Bool:=decide (m.v>=0) && decide (m.v<(s.vars.length:Int))
def zad (s:zab) (x:StD) (c:zb1):Bool:=(zbk s x && (decide (0<=c.proc/\c.proc<(s.procs.length:Int)) && ((x.locs[c.proc.toNat]?).getD 0 == c.from_) && decide (0<=c.to_/\c.to_<(zeb s c.proc.toNat:Int)))) && (!(c.moves.any fun m=>!zex s m) && c.guard.holds x.vals)
variable {a:zb1}
theorem zg9 {s:zab} (h:zf8 s i=some a):∃ k:Nat,i=(k:Int)/\s.acts[k]?=some a:=by
 unfold zf8 at h
 split at h
 ·exact ⟨i.toNat,(bV (by assumption)).symm,h⟩
 ·cases h
theorem actAt_none {s:zab} (h:zf8 s i=none):i<0\/(s.acts.length:Int)<=i:=by
 unfold zf8 at h
 split at h
 ·have:=List.getElem?_eq_none_iff.1 h;omega
 ·omega
theorem act_ok {L:Nat} {s:zab} (hs:zaw L s) (h:zf8 s i=some a):zi3 L a:=by
 obtain ⟨k,_,hk⟩:=zg9 h
 exact hs.act a (bS hk)
variable {m:zan}
theorem mv_mem (h:zkm a v=some m):m ∈ a.moves:=List.mem_of_find?_eq_some h
theorem new_ok {L:Nat} (ha:zi3 L a) (hx:zdh M x) (v:Nat):ZOk (L+M+2) (zbx x a v):=by
 unfold zbx
 split
 ·refine ⟨ZI.lb_of _,bI (ZI.len_of ?_) (bI (bJ M) (by omega))⟩
  cases hv:x.vals[v]? with
  | none=>exact zfd M
  | some z=>have g:=hx.val z (bS hv);exact cE (ZI.abs_lt g.1) (zfy g.2)
 ·rename_i m hm
  split
  ·exact ZOk.zero
  ·exact ⟨ZI.lb_of _,bI (zgy (ha.mv m (mv_mem hm)) (by decide) hx.vok (fun p hp=>hp) (bJ _)) (by omega)⟩
theorem SactN (s:zab) (i:Int) (hi:zf8 s i=none):Fn cT 76 [] [vG (zat s),vI i] (.tup [.agg (acC act0),.c (cB false)]) []:=by
 refine fB Tryz.func76 rfl 21 fun w H B a h=>Jq 0 [] [(1,vI i),(2,vp 0 0),(4,vp 1 0),(5,vb false)] [(0,.box (zat s)),(1,.box [cI 0,cI 0,cI 0,cI 0,nCl,cB false,.d (nsl []),cB false,nCl,nCl])] h fun a w h=>qW ?_
 rcases bF (decide (i<0)) with hc1 | hc2
 ·have hc1':=dT hc1;refine Je 2 [(1,.cmp (op:=.lss) (m:=i) (n:=0) (b:=true) .i64 hc1)] [] [(14,vb true)] h fun a w h=>cS true h (fun _=>?_) nofun
  refine Je 2 [] [14] [] h fun a w h=>qV (za2 ?_);replace h:=zb7 1 4 3 [cI 0,cI 0,cI 0,cI 0,nCl,cB false,.d (nsl []),cB false,nCl,nCl] h;replace h:=zb7 1 8 6 [cI 0,cI 0,cI 0,cI 0,cPs [],cB false,.d (nsl []),cB false,nCl,nCl] h;replace h:=zb7 1 9 5 [cI 0,cI 0,cI 0,cI 0,cPs [],cB false,.d (nsl []),cB false,cFs [],nCl] h;refine zdp [.agg [cI 0,cI 0,cI 0,cI 0,cPs [],cB false,.d (nsl []),cB false,cFs [],.d (.sl 5 ([].map zan.d))],.c (cB false)] h Exit.ret (.inl rfl)  rfl ⟨RV.agg _ 1 0 _ _ _ _ ki_0 rfl rfl rfl rfl,vT9,trivial⟩ ?_;rfl
 have hc2':=dF hc2;refine Je 2 [(1,.cmp (op:=.lss) (m:=i) (n:=0) (b:=false) .i64 hc2),(6,.len (za1 10 zb1.d s.acts)),(7,.cmp (op:=.geq) (m:=i) (n:=(s.acts.length:Int)) (b:=true) .i64 (decide_eq_true (by have:=actAt_none hi;have:=dF hc2;omega)))] [] [(14,vb true)] h fun a w h=>cS true h (fun _=>?_) nofun
 refine Je 2 [] [14] [] h fun a w h=>qV (za2 ?_);replace h:=zb7 1 4 3 [cI 0,cI 0,cI 0,cI 0,nCl,cB false,.d (nsl []),cB false,nCl,nCl] h;replace h:=zb7 1 8 6 [cI 0,cI 0,cI 0,cI 0,cPs [],cB false,.d (nsl []),cB false,nCl,nCl] h;replace h:=zb7 1 9 5 [cI 0,cI 0,cI 0,cI 0,cPs [],cB false,.d (nsl []),cB false,cFs [],nCl] h;refine zdp [.agg [cI 0,cI 0,cI 0,cI 0,cPs [],cB false,.d (nsl []),cB false,cFs [],.d (.sl 5 ([].map zan.d))],.c (cB false)] h Exit.ret (.inl rfl)  rfl ⟨RV.agg _ 1 0 _ _ _ _ ki_0 rfl rfl rfl rfl,vT9,trivial⟩ ?_;rfl
theorem SactS0 (s:zab) (k:Nat) (c:zb1) (hka:s.acts[k]?=some c):Fn cT 76 [] [vG (zat s),vN k] (.tup [.agg (acC c),.c (cB true)]) []:=by
 have lk:=zac hka;refine fB Tryz.func76 rfl 21 fun w H B a h=>Jq 0 [] [(1,vN k),(2,vp 0 0),(4,vp 1 0),(5,vb false)] [(0,.box (zat s)),(1,.box [cI 0,cI 0,cI 0,cI 0,nCl,cB false,.d (nsl []),cB false,nCl,nCl])] h fun a w h=>qW (Je 2 [(1,.cmp (op:=.lss) (m:=(k:Int)) (n:=0) (b:=false) .i64 (show (decide ((k:Int)<0))=false from decide_eq_false (by omega))),(6,.len (za1 10 zb1.d s.acts)),(7,.cmp (op:=.geq) (m:=(k:Int)) (n:=(s.acts.length:Int)) (b:=false) .i64 (show (decide ((k:Int)>=(s.acts.length:Int)))=false from decide_eq_false (by omega)))] [] [(14,vb false)] h fun a w h=>zbs h (qU (za0 (Jq 2 [(3,.g (xD 19 17 ki_1 (za4 hka (f:=zb1.d)) (cV 18 _)))] [(4,vp 1 0),(5,vb true)] [(1,.box (acC c))] h fun a w h=>qV (zdp [.agg (acC c),.c (cB true)] h Exit.ret (.inl rfl)  rfl ⟨RV.agg _ 1 0 _ _ _ _ ki_0 rfl rfl rfl rfl,vT9,trivial⟩ ?_)))))
 rfl
theorem SactS (s:zab) (i:Int) (c:zb1) (hi:zf8 s i=some c):Fn cT 76 [] [vG (zat s),vi .i64 i] (.tup [.agg (acC c),.c (cB true)]) []:=by
 obtain ⟨k,rfl,hk⟩:=zg9 hi
 exact SactS0 s k c hk
theorem SKMove1 (m:zan) (v:Nat) :Fn cT 143 [(1,.box [cI (v:Int)])] [vG ([cI m.v,cB m.any,cPs m.t.parts]++zi m.t.k),vp 1 0] (vb (m.v == (v:Int))) [(1,.box [cI (v:Int)])]:=by
 refine fB Tryz.func143 rfl 8 fun w H B a h=>Jq 5 [] [(1,vp 1 0),(2,vp 5 0),(3,vb false)] [(1,.box [cI (v:Int)]),(5,.box ([cI m.v,cB m.any,cPs m.t.parts]++zi m.t.k))] h fun a w h=>Jg 6 [] [1,2] [(3,vb (m.v == (v:Int)))] [5] [] h fun a w h=>qV (rT (.c (cB (m.v == (v:Int)))) h rfl ?_)
 rfl
theorem SIdxMV (pr:zan->Bool) (xs:List zan) (v:Nat) (hf:∀ x ∈ xs,Fn cT 143 [(1,.box [cI (v:Int)])] [vG ([cI x.v,cB x.any,cPs x.t.parts]++zi x.t.k),vp 1 0] (vb (pr x)) [(1,.box [cI (v:Int)])]) (hl:xs.length<=9223372036854775807):Fn cT 83 [(1,.box [cI (v:Int)])] [vS 5 (xs.map zan.d),.t (.c (.fn (.func 143) [] [.ptr 1 0]))] (vI (zcn pr xs 0)) [(1,.box [cI (v:Int)])]:=by
 refine fB Tryz.func83 rfl 19 fun w H B a h=>Jq 5 [] [(0,vS 5 (xs.map zan.d)),(1,.t (.c (.fn (.func 143) [] [.ptr 1 0]))),(4,vI 0)] [(1,.box [cI (v:Int)])] h fun a w h=>qW (Je 5 [(1,.len (za1 5 zan.d xs))] [] [(7,vN xs.length),(8,vI 0)] h fun a w h=>qZ ?_)
 refine zcc (ι:=(Nat)) (fun j=>j<=xs.length/\zcn pr xs 0=zcn pr (xs.drop j) j)
   [4] (fun j=>[(8,vN j)])
   [] (fun j=>[])
   (fun j=>xs.length - j) 0 ?_ h ?_
 ·exact ⟨bG _,rfl⟩
 clear h;rintro j a w hI h;obtain ⟨hI1,hI2⟩:=hI;refine Je 5 [] [] [(9,vb (decide ((j:Int)<(xs.length:Int))))] h fun a w h=>qW (zag ((j:Int)<(xs.length:Int)) h (fun hc1 hc1'=>?_) (fun hc4 hc4'=>?_))
 ·refine qU (za0 (qW (qZ (Je 5 [] [9] [(5,vN j)] h fun a w h=>?_))));obtain ⟨x1,hx1⟩:=gl xs j;refine Je 5 [(3,.g (xD 14 12 ki_2 (za4 hx1 (f:=zan.d)) (cV 13 _))),(5,.g (Op.callV (d:=16) (t:=11) (cap:=[.ptr 1 0]) (args:=[vG ([cI x1.v,cB x1.any,cPs x1.t.parts]++zi x1.t.k)]) (rs:=[(15,vG ([cI x1.v,cB x1.any,cPs x1.t.parts]++zi x1.t.k))]) (tys:=#[105]) (hf x1 (lM hx1)) ki_3 (OVs.cons (cV 15 _) (OVs.nil))))] [] [(16,vb (pr x1))] h fun a w h=>cS (pr x1) h (fun hc2=>?_) (fun hc3=>?_)
  ·refine Je 5 [] [5,16] [(4,vN j)] h fun a w h=>qV (za6 (za2 (za2 (za6 (za2 (rT (.c (cI (j:Int))) h rfl ?_))))));have hz:zcn pr xs 0=(j:Int):=by rw [hI2,zci hx1,if_pos hc2]
   rw [hz];try rfl
  refine qU (za5 (za0 (Jf 5 [(0,.j1 j)] [5,16] [(8,vI ((j:Int)+1))] h fun a w h=>za0 (za9 (x:=j) (y:=j+1) h ?_ ?_))))
  ·exact ⟨by have:=zac hx1;omega,by rw [hI2,zci hx1,if_neg (by rw [hc3];exact Bool.noConfusion)]⟩
  (try simp);omega
 refine exA (Jp 5 [] [(4,vI (-1))] h fun a w h=>qV (rT (.c (cI (-1))) h rfl ?_));have hz:zcn pr xs 0=-1:=by rw [hI2,bL (by omega)];rfl
 rw [hz];try rfl
theorem SmoveN0 (c:zb1) (v:Nat) (hl:c.moves.length<=20) (hix:zcn (fun m=>m.v == (v:Int)) c.moves 0=-1):Fn cT 125 [] [vG (acC c),vN v] (.tup [.agg ([cI mv0.v,cB mv0.any,cPs mv0.t.parts]++zi mv0.t.k),.c (cB false)]) []:=by
 refine fB Tryz.func125 rfl 19 fun w H B a h=>Jq 0 [] [(2,vp 0 0),(3,vp 1 0),(4,vp 2 0),(5,vb false)] [(0,.box (acC c)),(1,.box [cI (v:Int)]),(2,.box [cI 0,cB false,nCl,cB false,.d (nsl [])])] h fun a w h=>Jg 3 [(2,.g (Op.makeFs (d:=9) (fn:=.func 143) [(3,1,0)])),(3,.call (cU (SIdxMV (fun m=>m.v == (v:Int)) c.moves v (fun m _=>SKMove1 m v) (by omega)) (congrArg (vi .i64) hix)))] [3] [(6,vI (-1))] [1] [] h fun a w h=>qW (Je 3 [(1,.cmp (op:=.lss) (m:=(-1)) (n:=0) (b:=true) .i64 rfl)] [] [(12,vb true)] h fun a w h=>cS true h (fun _=>?_) nofun)
 refine Je 3 [] [12] [] h fun a w h=>qV (za2 ?_);replace h:=zb7 2 2 3 [cI 0,cB false,nCl,cB false,.d (nsl [])] h;refine zdp [.agg [cI 0,cB false,cPs [],cB false,.d (nsl [])],.c (cB false)] h Exit.ret (.inl rfl)  rfl ⟨RV.agg _ 2 0 _ _ _ _ ki_5 rfl rfl rfl rfl,vT9,trivial⟩ ?_;rfl
theorem SmoveS0 (c:zb1) (v:Nat) (m:zan) (k:Nat) (hl:c.moves.length<=20) (hix:zcn (fun m=>m.v == (v:Int)) c.moves 0=(k:Int)) (hk:c.moves[k]?=some m):Fn cT 125 [] [vG (acC c),vN v] (.tup [.agg ([cI m.v,cB m.any,cPs m.t.parts]++zi m.t.k),.c (cB true)]) []:=by
 have lk:=zac hk;refine fB Tryz.func125 rfl 19 fun w H B a h=>Jq 0 [] [(2,vp 0 0),(3,vp 1 0),(4,vp 2 0),(5,vb false)] [(0,.box (acC c)),(1,.box [cI (v:Int)]),(2,.box [cI 0,cB false,nCl,cB false,.d (nsl [])])] h fun a w h=>Jg 3 [(2,.g (Op.makeFs (d:=9) (fn:=.func 143) [(3,1,0)])),(3,.call (cU (SIdxMV (fun m=>m.v == (v:Int)) c.moves v (fun m _=>SKMove1 m v) (by omega)) (congrArg (vi .i64) hix)))] [3] [(6,vN k)] [1] [] h fun a w h=>qW (Je 3 [(1,.cmp (op:=.lss) (m:=(k:Int)) (n:=0) (b:=false) .i64 (show (decide ((k:Int)<0))=false from decide_eq_false (by omega)))] [] [(12,vb false)] h fun a w h=>zbs h (qU (za0 (Jq 3 [(3,.g (xD 17 15 ki_2 (za4 hk (f:=zan.d)) (cV 16 _)))] [(4,vp 2 0),(5,vb true)] [(2,.box ([cI m.v,cB m.any,cPs m.t.parts]++zi m.t.k))] h fun a w h=>qV (zdp [.agg ([cI m.v,cB m.any,cPs m.t.parts]++zi m.t.k),.c (cB true)] h Exit.ret (.inl rfl)  rfl ⟨RV.agg _ 2 0 _ _ _ _ ki_5 rfl rfl rfl rfl,vT9,trivial⟩ ?_)))))
 rfl
theorem SmoveN (c:zb1) (v:Nat) (hl:c.moves.length<=20) (hm:zkm c v=none):Fn cT 125 [] [vG (acC c),vi .i64 (v:Int)] (.tup [.agg ([cI mv0.v,cB mv0.any,cPs mv0.t.parts]++zi mv0.t.k),.c (cB false)]) []:=by
 rcases zg3 (fun m=>m.v == (v:Int)) c.moves with ⟨h1,_⟩ | ⟨k,m,_,_,h3⟩
 ·exact SmoveN0 c v hl h1
 ·unfold zkm at hm;rw [hm] at h3;cases h3
theorem SmoveS (c:zb1) (v:Nat) (m:zan) (hl:c.moves.length<=20) (hm:zkm c v=some m):Fn cT 125 [] [vG (acC c),vi .i64 (v:Int)] (.tup [.agg ([cI m.v,cB m.any,cPs m.t.parts]++zi m.t.k),.c (cB true)]) []:=by
 rcases zg3 (fun m=>m.v == (v:Int)) c.moves with ⟨_,h2⟩ | ⟨k,m', h1,h2,h3⟩
 ·unfold zkm at hm;rw [hm] at h2;cases h2
 ·unfold zkm at hm
  rw [hm] at h3
  injection h3 with h3
  subst h3
  exact SmoveS0 c v m k hl h1 h2
theorem SafterN (x:StD) (c:zb1) (v:Nat) {L:Nat} (hL:L+M<=10000) (hc:zi3 L c) (hx:zdh M x) (hv:v<x.vals.length) (hm:zkm c v=none):Fn cT 78 [] [vG [cIs x.locs,cZs x.vals],vG (acC c),vN v] (.tup [.agg (zi (zbx x c v)),.c (cB (zax c v))]) []:=by
 refine fB Tryz.func78 rfl 41 fun w H B a h=>Jq 0 [] [(2,vN v),(3,vp 0 0),(4,vp 1 0),(6,vp 2 0),(7,vb false)] [(0,.box [cIs x.locs,cZs x.vals]),(1,.box (acC c)),(2,.box [cB false,.d (nsl [])])] h fun a w h=>Jg 3 [(2,.call (SmoveN c v hc.len hm))] [4] [(8,vp 3 0),(9,vb false)] [1] [(3,.box ([cI mv0.v,cB mv0.any,cPs mv0.t.parts]++zi mv0.t.k))] h fun a w h=>qW (qZ (Je 4 [] [9] [(16,vb true)] h fun a w h=>cS true h (fun _=>?_) nofun))
 obtain ⟨x2,hx2⟩:=gl x.vals v;have gx2:=hx.val x2 (lM hx2);have lgx2:=gx2.2;obtain ⟨r3,er3,vr3,or3,lr3⟩:=mkZ (v:=x2.val) (m:=M) (bI (zhu gx2.1) gx2.2);refine Jg 4 [(3,.g (xD 22 20 zi8 (za4 hx2 (f:=ziD)) (cV 21 _))),(9,.g (xD 28 26 zi8 (za4 hx2 (f:=ziD)) (cV 27 _))),(12,.call (cU ((show Fn _ _ _ _ (vz (ZI.of x2.val)) _ from zke x2.neg x2.abs gx2.1 (by omega))) (congrArg vz er3.symm)))] [2,16] [] [] [(2,.box (zi r3))] h fun a w h=>qV (za6 (za2 (zdp [.agg (zi r3),.c (cB false)] h Exit.ret (.inl rfl)  rfl ⟨RV.agg _ 2 0 _ _ _ _ zgt rfl rfl rfl rfl,vT9,trivial⟩ ?_)));have hz:zbx x c v=r3:=by unfold zbx;rw [hm,er3,hx2];rfl
 have hf:zax c v=false:=by unfold zax;rw [hm]
 rw [hz,hf];try rfl
theorem SafterS (x:StD) (c:zb1) (v:Nat) (m:zan) {L:Nat} (hL:L+M<=10000) (hc:zi3 L c) (hx:zdh M x) (hv:v<x.vals.length) (hm:zkm c v=some m):Fn cT 78 [] [vG [cIs x.locs,cZs x.vals],vG (acC c),vN v] (.tup [.agg (zi (zbx x c v)),.c (cB (zax c v))]) []:=by
 refine fB Tryz.func78 rfl 41 fun w H B a h=>Jq 0 [] [(2,vN v),(3,vp 0 0),(4,vp 1 0),(6,vp 2 0),(7,vb false)] [(0,.box [cIs x.locs,cZs x.vals]),(1,.box (acC c)),(2,.box [cB false,.d (nsl [])])] h fun a w h=>Jg 3 [(2,.call (SmoveS c v m hc.len hm))] [4] [(8,vp 3 0),(9,vb true)] [1] [(3,.box ([cI m.v,cB m.any,cPs m.t.parts]++zi m.t.k))] h fun a w h=>qW (qZ (Je 4 [] [9] [(16,vb false)] h fun a w h=>zbs h (Je 4 [] [2,16] [(32,vb m.any)] h fun a w h=>cS m.any h (fun hc1=>?_) (fun hc2=>?_))))
 ·refine Je 4 [] [32] [(7,vb true)] h fun a w h=>qV (za6 (za2 (zdp [.agg [cB false,.d (nsl [])],.c (cB true)] h Exit.ret (.inl rfl)  rfl ⟨RV.agg _ 2 0 _ _ _ _ zgt rfl rfl rfl rfl,vT9,trivial⟩ ?_)));have hz:zbx x c v=zdi:=by unfold zbx;rw [hm];simp only;rw [if_pos hc1]
  have hf:zax c v=true:=by unfold zax;rw [hm];exact hc1
  rw [hz,hf];try rfl
 refine qU (za5 (za0 ?_));obtain ⟨r2,er2,vr2,or2,lr2⟩:=mkZ (v:=valT m.t x.vals) (m:=L+M+2) (bI (zgy (hc.mv m (mv_mem hm)) (by decide) hx.vok (fun p hp=>hp) (bJ _)) (by omega));refine Jg 4 [(4,.call (cU (SValue m.t x.vals (hc.mv m (mv_mem hm)) (by decide) (by omega) hx.vok) (congrArg vz er2.symm)))] [3,8,32] [] [0,3] [(2,.box (zi r2))] h fun a w h=>qV (zdp [.agg (zi r2),.c (cB false)] h Exit.ret (.inl rfl)  rfl ⟨RV.agg _ 2 0 _ _ _ _ zgt rfl rfl rfl rfl,vT9,trivial⟩ ?_);have hz:zbx x c v=r2:=by unfold zbx;rw [hm,er2];simp only;rw [if_neg (by rw [hc2];exact Bool.noConfusion)]
 have hf:zax c v=false:=by unfold zax;rw [hm];exact hc2
 rw [hz,hf];try rfl
theorem Safter (x:StD) (c:zb1) (v:Nat) {L:Nat} (hL:L+M<=10000) (hc:zi3 L c) (hx:zdh M x) (hv:v<x.vals.length):Fn cT 78 [] [vG [cIs x.locs,cZs x.vals],vG (acC c),vi .i64 (v:Int)] (.tup [.agg (zi (zbx x c v)),.c (cB (zax c v))]) []:=by
 cases hm:zkm c v with
 | none=>exact SafterN x c v hL hc hx hv hm
 | some m=>exact SafterS x c v m hL hc hx hv hm
theorem kj_0:zbg cT 122:=zbg.mk' (by kernel_rfl)
theorem kj_2:zbg cT 124:=zbg.mk' (by kernel_rfl)
theorem zcr {s:zab} (h:zbk s x=true):x.locs.length=s.procs.length/\x.vals.length=s.vars.length:=by
 unfold zbk at h;rw [bP] at h;exact of_decide_eq_true h.1
theorem SEn1 (s:zab) (m:zan) :Fn cT 122 [(0,.box (zat s))] [vG ([cI m.v,cB m.any,cPs m.t.parts]++zi m.t.k),vp 0 0] (vb (zex s m)) [(0,.box (zat s))]:=by
 refine fB Tryz.func122 rfl 15 fun w H B a h=>Jq 5 [] [(1,vp 0 0),(2,vp 5 0),(3,vb false)] [(0,.box (zat s)),(5,.box ([cI m.v,cB m.any,cPs m.t.parts]++zi m.t.k))] h fun a w h=>?_
 rcases bF (decide (m.v>=0)) with hc1 | hc2
 ·have hc1':=dT hc1;refine Jg 6 [(2,.cmp (op:=.geq) (m:=m.v) (n:=0) (b:=true) .i64 hc1),(8,.len (za1 1 zdz s.vars))] [1,2] [(3,vb (decide (m.v<(s.vars.length:Int))))] [5] [] h fun a w h=>qV (rT (.c (cB (decide (m.v<(s.vars.length:Int))))) h rfl ?_);have hz:zex s m=(decide (m.v<(s.vars.length:Int))):=by unfold zex;rw [hc1];rfl
  rw [hz];try rfl
 have hc2':=dF hc2;refine Jg 6 [(2,.cmp (op:=.geq) (m:=m.v) (n:=0) (b:=false) .i64 hc2)] [1,2] [] [5] [] h fun a w h=>qV (rT (.c (cB false)) h rfl ?_);have hz:zex s m=(false):=by unfold zex;rw [hc2];rfl
 rw [hz];try rfl
theorem SEn2 (s:zab) (m:zan) :Fn cT 124 [(3,.box [.fn (.func 122) [] [.ptr 0 0]]),(0,.box (zat s))] [vG ([cI m.v,cB m.any,cPs m.t.parts]++zi m.t.k),vp 3 0] (vb (!zex s m)) [(3,.box [.fn (.func 122) [] [.ptr 0 0]]),(0,.box (zat s))]:=by
 refine fB Tryz.func124 rfl 8 fun w H B a h=>Jq 5 [] [(1,vp 3 0),(2,vp 5 0),(3,vb false)] [(3,.box [.fn (.func 122) [] [.ptr 0 0]]),(0,.box (zat s)),(5,.box ([cI m.v,cB m.any,cPs m.t.parts]++zi m.t.k))] h fun a w h=>Jg 6 [(2,.g (Op.callV (d:=6) (t:=4) (cap:=[.ptr 0 0]) (args:=[vG ([cI m.v,cB m.any,cPs m.t.parts]++zi m.t.k)]) (rs:=[(5,vG ([cI m.v,cB m.any,cPs m.t.parts]++zi m.t.k))]) (tys:=#[105]) (SEn1 s m) kj_0 (OVs.cons (cV 5 _) (OVs.nil))))] [1,2] [(3,vb (!(zex s m)))] [5] [] h fun a w h=>qV (rT (.c (cB (!(zex s m)))) h rfl ?_)
 rfl
theorem SIdxEN (pr:zan->Bool) (xs:List zan) (s:zab) (hf:∀ x ∈ xs,Fn cT 124 [(3,.box [.fn (.func 122) [] [.ptr 0 0]]),(0,.box (zat s))] [vG ([cI x.v,cB x.any,cPs x.t.parts]++zi x.t.k),vp 3 0] (vb (pr x)) [(3,.box [.fn (.func 122) [] [.ptr 0 0]]),(0,.box (zat s))]) (hl:xs.length<=9223372036854775807):Fn cT 83 [(3,.box [.fn (.func 122) [] [.ptr 0 0]]),(0,.box (zat s))] [vS 5 (xs.map zan.d),.t (.c (.fn (.func 124) [] [.ptr 3 0]))] (vI (zcn pr xs 0)) [(3,.box [.fn (.func 122) [] [.ptr 0 0]]),(0,.box (zat s))]:=by
 refine fB Tryz.func83 rfl 19 fun w H B a h=>Jq 5 [] [(0,vS 5 (xs.map zan.d)),(1,.t (.c (.fn (.func 124) [] [.ptr 3 0]))),(4,vI 0)] [(3,.box [.fn (.func 122) [] [.ptr 0 0]]),(0,.box (zat s))] h fun a w h=>qW (Je 5 [(1,.len (za1 5 zan.d xs))] [] [(7,vN xs.length),(8,vI 0)] h fun a w h=>qZ ?_)
 refine zcc (ι:=(Nat)) (fun j=>j<=xs.length/\zcn pr xs 0=zcn pr (xs.drop j) j)
   [4] (fun j=>[(8,vN j)])
   [] (fun j=>[])
   (fun j=>xs.length - j) 0 ?_ h ?_
 ·exact ⟨bG _,rfl⟩
 clear h;rintro j a w hI h;obtain ⟨hI1,hI2⟩:=hI;refine Je 5 [] [] [(9,vb (decide ((j:Int)<(xs.length:Int))))] h fun a w h=>qW (zag ((j:Int)<(xs.length:Int)) h (fun hc1 hc1'=>?_) (fun hc4 hc4'=>?_))
 ·refine qU (za0 (qW (qZ (Je 5 [] [9] [(5,vN j)] h fun a w h=>?_))));obtain ⟨x1,hx1⟩:=gl xs j;refine Je 5 [(3,.g (xD 14 12 ki_2 (za4 hx1 (f:=zan.d)) (cV 13 _))),(5,.g (Op.callV (d:=16) (t:=11) (cap:=[.ptr 3 0]) (args:=[vG ([cI x1.v,cB x1.any,cPs x1.t.parts]++zi x1.t.k)]) (rs:=[(15,vG ([cI x1.v,cB x1.any,cPs x1.t.parts]++zi x1.t.k))]) (tys:=#[105]) (hf x1 (lM hx1)) kj_2 (OVs.cons (cV 15 _) (OVs.nil))))] [] [(16,vb (pr x1))] h fun a w h=>cS (pr x1) h (fun hc2=>?_) (fun hc3=>?_)
  ·refine Je 5 [] [5,16] [(4,vN j)] h fun a w h=>qV (za6 (za2 (za2 (za6 (za2 (rT (.c (cI (j:Int))) h rfl ?_))))));have hz:zcn pr xs 0=(j:Int):=by rw [hI2,zci hx1,if_pos hc2]
   rw [hz];try rfl
  refine qU (za5 (za0 (Jf 5 [(0,.j1 j)] [5,16] [(8,vI ((j:Int)+1))] h fun a w h=>za0 (za9 (x:=j) (y:=j+1) h ?_ ?_))))
  ·exact ⟨by have:=zac hx1;omega,by rw [hI2,zci hx1,if_neg (by rw [hc3];exact Bool.noConfusion)]⟩
  (try simp);omega
 refine exA (Jp 5 [] [(4,vI (-1))] h fun a w h=>qV (rT (.c (cI (-1))) h rfl ?_));have hz:zcn pr xs 0=-1:=by rw [hI2,bL (by omega)];rfl
 rw [hz];try rfl
theorem SAnyEN (pr:zan->Bool) (xs:List zan) (s:zab) (hf:∀ x ∈ xs,Fn cT 124 [(3,.box [.fn (.func 122) [] [.ptr 0 0]]),(0,.box (zat s))] [vG ([cI x.v,cB x.any,cPs x.t.parts]++zi x.t.k),vp 3 0] (vb (pr x)) [(3,.box [.fn (.func 122) [] [.ptr 0 0]]),(0,.box (zat s))]) (hl:xs.length<=9223372036854775807):Fn cT 123 [(3,.box [.fn (.func 122) [] [.ptr 0 0]]),(0,.box (zat s))] [vS 5 (xs.map zan.d),.t (.c (.fn (.func 124) [] [.ptr 3 0]))] (vb (xs.any pr)) [(3,.box [.fn (.func 122) [] [.ptr 0 0]]),(0,.box (zat s))]:=by
 refine fB Tryz.func123 rfl 9 fun w H B a h=>Jq 5 [] [(0,vS 5 (xs.map zan.d)),(1,.t (.c (.fn (.func 124) [] [.ptr 3 0]))),(4,vb false)] [(3,.box [.fn (.func 122) [] [.ptr 0 0]]),(0,.box (zat s))] h fun a w h=>Jp 5 [(2,.call (SIdxEN pr xs s hf  hl))] [(4,vb (decide (zcn pr xs 0>=0)))] h fun a w h=>qV (rT (.c (cB (decide (zcn pr xs 0>=0)))) h rfl ?_)
 rw [<- zgl];try rfl
theorem Senabled (s:zab) (x:StD) (c:zb1) {L:Nat} (hL:L+M<=10000) (hs:zaw L s) (hx:zdh M x) (hc:zi3 L c):Fn cT 77 [] [vG (zat s),vG [cIs x.locs,cZs x.vals],vG ([cI c.proc,cI c.from_,cI c.to_,cI c.guard.kind,cPs c.guard.r.t.parts]++zi c.guard.r.t.k++[cB c.guard.r.eq,cFs c.guard.kids,.d (.sl 5 (c.moves.map zan.d))])] (vb (zad s x c)) []:=by
 have lx1:=hx.locs;have lx2:=hx.vals;have ls1:=hs.vars;have ls2:=hs.procs;refine fB Tryz.func77 rfl 67 fun w H B a h=>Jq 0 [] [(3,vp 0 0),(4,vp 1 0),(5,vp 2 0),(6,vb false)] [(0,.box (zat s)),(1,.box [cIs x.locs,cZs x.vals]),(2,.box ([cI c.proc,cI c.from_,cI c.to_,cI c.guard.kind,cPs c.guard.r.t.parts]++zi c.guard.r.t.k++[cB c.guard.r.eq,cFs c.guard.kids,.d (.sl 5 (c.moves.map zan.d))]))] h fun a w h=>qW ?_
 rcases bF (zbk s x) with hc1 | hc14
 ·rcases bF (decide (c.proc<0)) with hc2 | hc3
  ·have hc2':=dT hc2;refine Je 3 [(2,.call (cU (zk0 s x hL hs hx) (congrArg vb hc1))),(7,.cmp (op:=.lss) (m:=c.proc) (n:=0) (b:=true) .i64 hc2)] [] [(53,vb true)] h fun a w h=>cS true h (fun _=>?_) nofun
   refine Je 3 [] [53] [] h fun a w h=>qV (za2 (rT (.c (cB false)) h rfl ?_));have hz:zad s x c=(false):=by unfold zad;rw [hc1,bE];rw [decide_eq_false (p:=0<=c.proc/\c.proc<(s.procs.length:Int)) (by have:=dT hc2;omega)];rfl
   rw [hz];try rfl
  have hc3':=dF hc3
  rcases bF (decide (c.proc>=(s.procs.length:Int))) with hc4 | hc5
  ·have hc4':=dT hc4;refine Je 3 [(2,.call (cU (zk0 s x hL hs hx) (congrArg vb hc1))),(7,.cmp (op:=.lss) (m:=c.proc) (n:=0) (b:=false) .i64 hc3),(14,.len (za1 3 zb2.d s.procs)),(15,.cmp (op:=.geq) (m:=c.proc) (n:=(s.procs.length:Int)) (b:=true) .i64 hc4)] [] [(53,vb true)] h fun a w h=>cS true h (fun _=>?_) nofun
   refine Je 3 [] [53] [] h fun a w h=>qV (za2 (rT (.c (cB false)) h rfl ?_));have hz:zad s x c=(false):=by unfold zad;rw [hc1,bE];rw [decide_eq_false (p:=0<=c.proc/\c.proc<(s.procs.length:Int)) (by have:=dT hc4;omega)];rfl
   rw [hz];try rfl
  have hc5':=dF hc5;have hfl:=zcr hc1;obtain ⟨k,hkk⟩:∃ k_:Nat,c.proc=(k_:Int):=⟨_,(bV (by have:=dF hc3;omega)).symm⟩;replace h:=cvM [] [] [] [(2,.box ([cI (k:Int),cI c.from_,cI c.to_,cI c.guard.kind,cPs c.guard.r.t.parts]++zi c.guard.r.t.k++[cB c.guard.r.eq,cFs c.guard.kids,.d (.sl 5 (c.moves.map zan.d))]))] (by rw [hkk]; try kernel_rfl) h;obtain ⟨x7,hx7⟩:=gl x.locs k
  rcases bF (x7 != c.from_) with hc6 | hc7
  ·refine Jg 3 [(2,.call (cU (zk0 s x hL hs hx) (congrArg vb hc1))),(7,.cmp (op:=.lss) (m:=(k:Int)) (n:=0) (b:=false) .i64 (show (decide ((k:Int)<0))=false from by rw [<- hkk];exact hc3)),(14,.len (za1 3 zb2.d s.procs)),(15,.cmp (op:=.geq) (m:=(k:Int)) (n:=(s.procs.length:Int)) (b:=false) .i64 (show (decide ((k:Int)>=(s.procs.length:Int)))=false from by rw [<- hkk];exact hc5)),(22,.g (xD 30 27 zdj (za4 hx7 (f:=za8)) (cV 29 _))),(26,.cmp (op:=.neq) (m:=x7) (n:=c.from_) (b:=true) .i64 hc6)] [] [(53,vb true)] [] [] h fun a w h=>cS true h (fun _=>?_) nofun
   refine Je 3 [] [53] [] h fun a w h=>qV (za2 (rT (.c (cB false)) h rfl ?_));have hz:zad s x c=(false):=by unfold zad;rw [hc1,bE];rw [decide_eq_true (p:=0<=c.proc/\c.proc<(s.procs.length:Int)) (by have:=dF hc3;have:=dF hc5;omega),show c.proc.toNat=k by omega,hx7,bK,bE];rw [show (x7 == c.from_)=false by have:=hc6;simpa using this];rfl
   rw [hz];try rfl
  rcases bF (decide (c.to_<0)) with hc8 | hc9
  ·have hc8':=dT hc8;refine Jg 3 [(2,.call (cU (zk0 s x hL hs hx) (congrArg vb hc1))),(7,.cmp (op:=.lss) (m:=(k:Int)) (n:=0) (b:=false) .i64 (show (decide ((k:Int)<0))=false from by rw [<- hkk];exact hc3)),(14,.len (za1 3 zb2.d s.procs)),(15,.cmp (op:=.geq) (m:=(k:Int)) (n:=(s.procs.length:Int)) (b:=false) .i64 (show (decide ((k:Int)>=(s.procs.length:Int)))=false from by rw [<- hkk];exact hc5)),(22,.g (xD 30 27 zdj (za4 hx7 (f:=za8)) (cV 29 _))),(26,.cmp (op:=.neq) (m:=x7) (n:=c.from_) (b:=false) .i64 hc7),(31,.cmp (op:=.lss) (m:=c.to_) (n:=0) (b:=true) .i64 hc8)] [] [(53,vb true)] [] [] h fun a w h=>cS true h (fun _=>?_) nofun
   refine Je 3 [] [53] [] h fun a w h=>qV (za2 (rT (.c (cB false)) h rfl ?_));have hz:zad s x c=(false):=by unfold zad;rw [hc1,bE];rw [decide_eq_true (p:=0<=c.proc/\c.proc<(s.procs.length:Int)) (by have:=dF hc3;have:=dF hc5;omega),show c.proc.toNat=k by omega,hx7,bK,bE];rw [show (x7 == c.from_)=true by have:=hc7;simpa using this,bE];rw [decide_eq_false (by have:=dT hc8;omega)];rfl
   rw [hz];try rfl
  have hc9':=dF hc9;obtain ⟨x12,hx12⟩:=gl s.procs k;refine Jg 3 [(2,.call (cU (zk0 s x hL hs hx) (congrArg vb hc1))),(7,.cmp (op:=.lss) (m:=(k:Int)) (n:=0) (b:=false) .i64 (show (decide ((k:Int)<0))=false from by rw [<- hkk];exact hc3)),(14,.len (za1 3 zb2.d s.procs)),(15,.cmp (op:=.geq) (m:=(k:Int)) (n:=(s.procs.length:Int)) (b:=false) .i64 (show (decide ((k:Int)>=(s.procs.length:Int)))=false from by rw [<- hkk];exact hc5)),(22,.g (xD 30 27 zdj (za4 hx7 (f:=za8)) (cV 29 _))),(26,.cmp (op:=.neq) (m:=x7) (n:=c.from_) (b:=false) .i64 hc7),(31,.cmp (op:=.lss) (m:=c.to_) (n:=0) (b:=false) .i64 hc9),(40,.g (xD 48 45 kf_5 (za4 hx12 (f:=zb2.d)) (cV 47 _))),(43,.len (za1 1 zdz x12.locs))] [] [(53,vb (decide (c.to_>=(x12.locs.length:Int))))] [] [] h fun a w h=>zag (c.to_>=(x12.locs.length:Int)) h (fun hc10 hc10'=>?_) (fun hc11 hc11'=>?_)
  ·refine Je 3 [] [53] [] h fun a w h=>qV (za2 (rT (.c (cB false)) h rfl ?_));have hz:zad s x c=(false):=by unfold zad;rw [hc1,bE];rw [decide_eq_true (p:=0<=c.proc/\c.proc<(s.procs.length:Int)) (by have:=dF hc3;have:=dF hc5;omega),show c.proc.toNat=k by omega,hx7,bK,bE];rw [show (x7 == c.from_)=true by have:=hc7;simpa using this,bE];rw [show zeb s k=x12.locs.length by unfold zeb;rw [hx12];rfl];rw [decide_eq_false (by have:=dT hc10;omega)];rfl
   rw [hz];try rfl
  refine qU (za0 (Jg 3 [(0,.g (Op.makeFs (d:=54) (fn:=.func 122) [(3,0,0)]))] [3,53] [(7,vp 3 0)] [] [(3,.box [.fn (.func 122) [] [.ptr 0 0]])] h fun a w h=>?_))
  rcases bF (c.moves.any fun m=>!zex s m) with hc12 | hc13
  ·refine Jq 4 [(2,.g (Op.makeFs (d:=57) (fn:=.func 124) [(7,3,0)])),(3,.call (cU (SAnyEN (fun m=>!zex s m) c.moves s (fun m _=>SEn2 s m) (by have:=hc.len;omega)) (congrArg vb hc12)))] [(6,vb false)] [] h fun a w h=>qV (rT (.c (cB false)) h rfl ?_);have hz:zad s x c=(false):=by unfold zad;rw [hc1,bE];rw [decide_eq_true (p:=0<=c.proc/\c.proc<(s.procs.length:Int)) (by have:=dF hc3;have:=dF hc5;omega),show c.proc.toNat=k by omega,hx7,bK,bE];rw [show (x7 == c.from_)=true by have:=hc7;simpa using this,bE];rw [show zeb s k=x12.locs.length by unfold zeb;rw [hx12];rfl];rw [decide_eq_true (p:=0<=c.to_/\c.to_<(x12.locs.length:Int)) (by have:=dF hc9;have:=dF hc11;omega),bE,hc12];rfl
   rw [hz];try rfl
  refine Jq 4 [(2,.g (Op.makeFs (d:=57) (fn:=.func 124) [(7,3,0)])),(3,.call (cU (SAnyEN (fun m=>!zex s m) c.moves s (fun m _=>SEn2 s m) (by have:=hc.len;omega)) (congrArg vb hc13))),(10,.call (SHolds x.vals (L:=L) (M:=M) (by omega) hx.vok c.guard hc.guard.1 hc.guard.2))] [(6,vb (za7.holds x.vals c.guard))] [] h fun a w h=>qV (rT (.c (cB (za7.holds x.vals c.guard))) h rfl ?_);have hz:zad s x c=(za7.holds x.vals c.guard):=by unfold zad;rw [hc1,bE];rw [decide_eq_true (p:=0<=c.proc/\c.proc<(s.procs.length:Int)) (by have:=dF hc3;have:=dF hc5;omega),show c.proc.toNat=k by omega,hx7,bK,bE];rw [show (x7 == c.from_)=true by have:=hc7;simpa using this,bE];rw [show zeb s k=x12.locs.length by unfold zeb;rw [hx12];rfl];rw [decide_eq_true (p:=0<=c.to_/\c.to_<(x12.locs.length:Int)) (by have:=dF hc9;have:=dF hc11;omega),bE,hc13];rfl
  rw [hz];try rfl
 refine Je 4 [(2,.call (cU (zk0 s x hL hs hx) (congrArg vb hc14)))] [] [(53,vb true)] h fun a w h=>cS true h (fun _=>?_) nofun
 refine Je 4 [] [53] [] h fun a w h=>qV (za2 (rT (.c (cB false)) h rfl ?_));have hz:zad s x c=false:=by unfold zad;rw [hc14];rfl
 rw [hz];try rfl
theorem SCloneI1 (xs:List Int) (hn:0<xs.length) (hl:xs.length<=1000000):Fn cT 129 [] [(vIs xs)] (vO 0 xs.length) [(0,.row 3 1 (xs.map za8))]:=by
 refine fB Tryz.func129 rfl 8 fun w H B a h=>Jq 1 [] [(0,(vIs xs)),(2,vW zaa)] [] h fun a w h=>qW (Jg 1 [(1,.g (Op.eqNilD (d:=4) (t:=3) (es:=1) (xt:=44) (yt:=44) (rows:=xs.map za8) zdj.hu ((by rw [bH];exact hn)) (OV.const zaa rfl)))] [] [(4,vb false)] [] [] h fun a w h=>zbs h (qU (za0 (Jq 1 [(0,.g (Op.buildE (d:=5) (n:=1) tb_0)),(2,.g (Op.appOD (d:=7) (t:=5) (u:=6) (n:=1) (n':=2) (len:=0) (len':=xs.length) (rows:=[].map za8) (rows2:=xs.map za8) (rows':=xs.map za8) tb_2 (by first | exact (bH _).symm | simp) (by first | (rw [cF,bH];done) | simp) (by simp) (by simp [za8]) (by first | omega | (simp at *;done) | (simp at *;omega))))] [(2,vO 2 xs.length)] [(2,.row 3 1 (xs.map za8))] h fun a w h=>qV ?_))))
 replace h:=zd8 2 0 h;refine rT (.c (.own 0 xs.length)) h rfl ?_;rfl
theorem SCloneI2 :Fn cT 129 [] [vW zaa] (vO 0 0) [(0,.row 3 1 ([].map za8))]:=by
 refine fB Tryz.func129 rfl 8 fun w H B a h=>Jq 1 [] [(0,vW zaa),(2,vW zaa)] [] h fun a w h=>qW (Jg 1 [(1,.g (Op.eqNilR (d:=4) (xt:=44) (yt:=44) (ao:=none) (n:=0) (c:=0) zdj.hu (cV 3 _) (OV.const zaa rfl)))] [] [(4,vb true)] [] [] h fun a w h=>cS true h (fun _=>?_) nofun)
 refine Jg 1 [] [4] [] [] [] h fun a w h=>qV (za2 ?_);replace h:=zg1 2 0 1 1 3 (vW zaa) h;replace h:=zd8 1 0 h;refine rT (.c (.own 0 0)) h rfl ?_;rfl
theorem SCloneI3 (ao:Addr) (c:Nat) (hc:c<=maxLen):Fn cT 129 [] [vW (.slice (some ao) 0 c)] (vO 0 0) [(0,.row 3 1 ([].map za8))]:=by
 refine fB Tryz.func129 rfl 8 fun w H B a h=>Jq 1 [] [(0,vW (.slice (some ao) 0 c)),(2,vW zaa)] [] h fun a w h=>qW (Jg 1 [(1,.g (Op.eqNilR (d:=4) (xt:=44) (yt:=44) (ao:=some ao) (n:=0) (c:=c) zdj.hu (cV 3 _) (OV.const zaa rfl)))] [] [(4,vb false)] [] [] h fun a w h=>zbs h (qU (za0 ?_)))
 replace h:=nilDSr 0 0 1 (vW (.slice (some ao) 0 c)) (some ao) c (fun e=>by cases e) hc [(0,(vIs [])),(2,vW zaa),(4,vb false)] [] h rfl rfl;refine Jq 1 [(0,.g (Op.buildE (d:=5) (n:=1) tb_0)),(2,.g (Op.appOD (d:=7) (t:=5) (u:=6) (n:=1) (n':=2) (len:=0) (len':=0) (rows:=[].map za8) (rows2:=[].map za8) (rows':=[].map za8) tb_2 (by first | exact (bH _).symm | simp) (by first | (rw [cF,bH];done) | simp) (by simp) (by simp [za8]) (by first | omega | (simp at *;done) | (simp at *;omega))))] [(2,vO 2 0)] [(2,.row 3 1 ([].map za8))] h fun a w h=>qV ?_;replace h:=zd8 2 0 h;refine rT (.c (.own 0 0)) h rfl ?_;rfl
theorem SCloneI (xs:List Int) (hl:xs.length<=1000000):Fn cT 129 [] [(vIs xs)] (vO 0 xs.length) [(0,.row 3 1 (xs.map za8))]:=by
 cases xs with
 | nil =>
  refine Fn.rawE fun ao c h1 h2=>?_
  cases ao with
  | none=>obtain rfl:=h1 rfl;exact SCloneI2
  | some ao=>exact SCloneI3 ao c h2
 | cons x xs=>exact SCloneI1 (x :: xs) (by simp) hl
theorem kk_3:ElZ cT 45 28 2:=ElZ.mk' Tryz.underlying45 _ _ rfl rfl
theorem kk_4:ElT cT 45 28 2 32:=ElT.mk' Tryz.underlying45 _ _ rfl rfl
theorem kk_5:Sz cT 47 2 true:=Sz.mk' (by kernel_rfl) Tryz.underlying47 _ rfl
def clZ (z:ZI):ZI:=ZI.of z.val
def cloneS (x:StD):StD:=⟨x.locs,x.vals.map clZ⟩
def st0:StD:=⟨[],[]⟩
def zjz (s:zab) (x:StD) (c:zb1) (v:Nat):Bool:=if zax c v=true then !((zam s v).is_ && decide (zel (zam s v).lo.val (zam s v).hi.val>0)) else zar (zam s v) (zbx x c v)
def canC (s:zab) (x:StD) (c:zb1):Bool:=zad s x c && zg7 s.vars.length (zjz s x c)
def can (s:zab) (x:StD) (i:Int):Bool:=match zf8 s i with | none=>false | some c=>canC s x c
def zej (s:zab) (x:StD):Bool:=zg7 s.acts.length (fun i=>!can s x (i:Int)) && zbk s x
def zah (c:zb1):Nat->Nat
  | 0=>0
  | v+1=>zah c v+if zax c v=true then 1 else 0
def zca (x:StD) (c:zb1) (picks:List ZI) (v:Nat):ZI:=if zax c v=true then (match picks[zah c v]? with | some p=>ZI.of p.val | none=>zdi) else zbx x c v
def zcz (s:zab) (x:StD) (c:zb1) (picks:List ZI):StD:=⟨x.locs.set c.proc.toNat c.to_,(bC s.vars.length).map (zca x c picks)⟩
def goC (s:zab) (x:StD) (c:zb1) (picks:List ZI):StD × Bool:=if zad s x c=true/\zbk s (zcz s x c picks)=true then (zcz s x c picks,true) else (st0,false)
def goS (s:zab) (x:StD) (i:Int) (picks:List ZI):StD × Bool:=if i=-1/\zej s x=true then (cloneS x,true) else match zf8 s i with | none=>(st0,false) | some c=>goC s x c picks
theorem zck {s:zab} {c:zb1} (h:zad s x c=true):zbk s x=true:=by unfold zad at h;simp only [bP] at h;exact h.1.1
theorem zee {s:zab} {c:zb1} (h:zad s x c=true):0<=c.proc/\c.proc<(s.procs.length:Int):=by unfold zad at h;simp only [bP,decide_eq_true_eq] at h;exact h.1.2.1.1
theorem zfx {f:Nat->α} {cl:List α} {y:α} (hj:j<cl.length) (hy:y=f j):((bC j).map f++cl.drop j).set j y=(bC (j+1)).map f++cl.drop (j+1):=by
 subst hy
 have hl:((bC j).map f).length=j:=by simp
 rw [List.set_append_right _ _ (by omega),hl,Nat.sub_self,b8 hj,List.set_cons_zero,List.range_succ,b9,List.append_assoc];rfl
theorem range_end {f:Nat->α} {cl:List α} (hn:cl.length=n):(bC n).map f++cl.drop n=(bC n).map f:=by rw [bL (by omega),List.append_nil]
theorem range_len {f:Nat->α} {cl:List α} (hj:j<=cl.length):((bC j).map f++cl.drop j).length=cl.length:=by rw [cF,bH,List.length_range,bZ];omega
theorem zgh {f:α->β} {xs:List α} {x:α} (h:xs[j]?=some x):(xs.take j).map f++[f x]=(xs.take (j+1)).map f:=by rw [bU,h,b9];rfl
theorem Sclone (x:StD) (hM:M<=40000) (hx:zdh M x):Fn cT 86 [] [vG [cIs x.locs,cZs x.vals]] (vG [.own 0 x.locs.length,.own 1 (x.vals.map clZ).length]) [(0,.row 3 1 (x.locs.map za8)),(1,.row 28 2 ((x.vals.map clZ).map ziD))]:=by
 have lx1:=hx.locs;have lx2:=hx.vals;refine fB Tryz.func86 rfl 29 fun w H B a h=>Jq 5 [] [(1,vp 5 0),(2,vp 6 0)] [(5,.box [cIs x.locs,cZs x.vals]),(6,.box [nCl,nCl])] h fun a w h=>Jg 7 [(2,.call (SCloneI x.locs (by omega)))] [] [(3,vp 7 0)] [] [(0,.row 3 1 (x.locs.map za8)),(7,.box [.own 0 x.locs.length,nCl])] h fun a w h=>qW ?_
 replace h:=zh4 7 1 8 2 28 [.own 0 x.locs.length,nCl] h;refine Jg 9 [(2,.len (za1 2 ziD x.vals))] [1] [(11,(vZs x.vals)),(12,vN x.vals.length),(13,vI 0)] [5] [] h fun a w h=>qZ ?_
 refine zcc (ι:=(Nat)) (fun j=>j<=x.vals.length)
   [] (fun j=>[(13,vN j)])
   [] (fun j=>[(7,.box [.own 0 x.locs.length,.own 8 ((x.vals.take j).map clZ).length]),(8,.row 28 2 (((x.vals.take j).map clZ).map ziD))])
   (fun j=>x.vals.length - j) 0 ?_ h ?_
 ·exact bG _
 clear h;rintro j a w hI h;refine Je 9 [] [] [(14,vb (decide ((j:Int)<(x.vals.length:Int))))] h fun a w h=>qW (zag ((j:Int)<(x.vals.length:Int)) h (fun hc1 hc1'=>?_) (fun hc2 hc2'=>?_))
 ·refine qU (za0 (qW (qZ ?_)));obtain ⟨x2,hx2⟩:=gl x.vals j;have gx2:=hx.val x2 (lM hx2);have lgx2:=gx2.2;refine Jg 9 [(0,.g (xD 15 11 zi8 (za4 hx2 (f:=ziD)) (cV 13 _)))] [14] [(5,vp 9 0)] [] [(9,.box (zi x2))] h fun a w h=>?_;obtain ⟨r3,er3,vr3,or3,lr3⟩:=mkZ (v:=x2.val) (m:=M) (bI (zhu gx2.1) gx2.2);refine Jh 10 [(6,.call (cU ((show Fn _ _ _ _ (vz (ZI.of x2.val)) _ from zke x2.neg x2.abs gx2.1 (by omega))) (congrArg vz er3.symm))),(7,.g (bD 24 ([r3].map ziD) [(23,vz r3)] kk_3 (.cons (i:=0) (cV 23 _) (.nil)) (by kernel_rfl) (by simp [ziD]))),(8,.g (aD 25 18 24 8 10 ((x.vals.take j).map clZ) [r3] ziD kk_4 (by simp [ziD])))] [5] [] [8,9] [(7,.box ([.own 0 x.locs.length,.own 10 (((x.vals.take j).map clZ)++[r3]).length])),(10,.row 28 2 ((((x.vals.take j).map clZ)++[r3]).map ziD))] h fun a w h=>za5 (za0 (Jf 11 [(0,.j1 j)] [] [(13,vI ((j:Int)+1))] h fun a w h=>za0 ?_));rw [show ((((x.vals.take j).map clZ)++[r3]):List ZI)=((x.vals.take (j+1)).map clZ) from (by rw [<- zgh hx2];congr 1;simp [clZ, *])] at h;replace h:=zd8 10 8 h;refine za9 (x:=j) (y:=j+1) h ?_ ?_
  ·have:=zac hx2;show j+1<=x.vals.length;omega
  show x.vals.length - (j+1)<x.vals.length - j;have:=zac hx2;omega
 refine exA (Jg 11 [] [3,11,12,13,14] [] [7] [(6,.box [.own 0 x.locs.length,.own 8 ((x.vals.take j).map clZ).length])] h fun a w h=>qV ?_);rw [show (((x.vals.take j).map clZ):List ZI)=(x.vals.map clZ) from (by rw [bR (by omega)])] at h;replace h:=zd8 8 1 h;refine rA 6 [.own 0 x.locs.length,.own 1 (x.vals.map clZ).length] h kk_5 rfl ?_;rfl
theorem SCanN (s:zab) (x:StD) (i:Int) {L:Nat} (hL:L+M<=4000) (hs:zaw L s) (hx:zdh M x) (hi:zf8 s i=none):Fn cT 39 [] [vG (zat s),vG [cIs x.locs,cZs x.vals],vI i] (vb (can s x i)) []:=by
 refine fB Tryz.func39 rfl 67 fun w H B a h=>Jq 0 [] [(2,vI i),(3,vp 0 0),(4,vp 1 0),(6,vb false)] [(0,.box (zat s)),(1,.box [cIs x.locs,cZs x.vals])] h fun a w h=>Jg 2 [(2,.call (SactN s i hi))] [2] [(7,vp 2 0),(8,vb false)] [] [(2,.box (acC act0))] h fun a w h=>qW (Je 3 [] [8] [(27,vb true)] h fun a w h=>cS true h (fun _=>?_) nofun)
 refine Je 3 [] [27] [] h fun a w h=>qV (za2 (rT (.c (cB false)) h rfl ?_));unfold can;rw [hi];try rfl
theorem SCanS (s:zab) (x:StD) (i:Int) (c:zb1) {L:Nat} (hL:L+M<=4000) (hs:zaw L s) (hx:zdh M x) (hi:zf8 s i=some c):Fn cT 39 [] [.t (.agg (zat s)),.t (.agg [.d (.sl 1 (x.locs.map za8)),.d (.sl 2 (x.vals.map ziD))]),vI i] (vb (can s x i)) []:=by
 have lx1:=hx.locs;have lx2:=hx.vals;have ls1:=hs.vars;have ls2:=hs.procs;have hc:zi3 L c:=act_ok hs hi;refine fB Tryz.func39 rfl 67 fun w H B a h=>Jq 0 [] [(2,vI i),(3,vp 0 0),(4,vp 1 0),(6,vb false)] [(0,.box (zat s)),(1,.box [.d (.sl 1 (x.locs.map za8)),.d (.sl 2 (x.vals.map ziD))])] h fun a w h=>Jg 2 [(2,.call (SactS s i c hi))] [2] [(7,vp 2 0),(8,vb true)] [] [(2,.box ([.d (.raw (.int .i64 c.proc)),.d (.raw (.int .i64 c.from_)),.d (.raw (.int .i64 c.to_)),.d (.raw (.int .i64 c.guard.kind)),.d (.sl 3 (c.guard.r.t.parts.map cW))]++zi c.guard.r.t.k++[.d (.raw (.bool c.guard.r.eq)),.d (.sl 6 (c.guard.kids.map za7.d)),.d (.sl 5 (c.moves.map zan.d))]))] h fun a w h=>qW (Je 3 [(6,.call (Senabled s x c (L:=L) (M:=M) (by omega) hs hx hc))] [8] [(27,vb (!(zad s x c)))] h fun a w h=>cS (!(zad s x c)) h (fun hc1=>?_) (fun hc2=>?_))
 ·refine Je 3 [] [27] [] h fun a w h=>qV (za2 (rT (.c (.d (.raw (.bool false)))) h rfl ?_));have hz:can s x i=false:=by unfold can;rw [hi];show canC s x c=_;unfold canC;rw [(show (zad s x c)=false from by simpa using hc1),Bool.false_and]
  rw [hz];try rfl
 refine qU (za0 (qW ?_));have hen:=(show (zad s x c)=true from by simpa using hc2);refine Je 3 [(2,.len (za1 1 zdz s.vars))] [27] [(30,vN s.vars.length),(31,vI 0)] h fun a w h=>qZ ?_
 refine zcc (ι:=(Nat)) (fun j=>j<=s.vars.length/\zg7 j (zjz s x c)=true)
   [6] (fun j=>[(31,vN j)])
   [] (fun j=>[])
   (fun j=>s.vars.length - j) 0 ?_ h ?_
 ·exact ⟨bG _,rfl⟩
 clear h;rintro j a w hI h;obtain ⟨hI1,hI2⟩:=hI;have lb1:=(zgu hs j).1.2;have lb2:=(zgu hs j).2.2;refine Je 3 [] [] [(32,vb (decide ((j:Int)<(s.vars.length:Int))))] h fun a w h=>qW (zag ((j:Int)<(s.vars.length:Int)) h (fun hc3 hc3'=>?_) (fun hc12 hc12'=>?_))
 ·refine qU (za0 (qW (qZ (Je 3 [] [32] [(9,vN j)] h fun a w h=>?_))));have gn:=new_ok hc hx j;have lgn:=gn.2;refine Jg 3 [(3,.call (Safter x c j (L:=L) (M:=M) (by omega) hc hx (by have:=zcr (zck hen);omega)))] [] [(10,vp 3 0),(11,vb (zax c j))] [] [(3,.box (zi (zbx x c j)))] h fun a w h=>qW (Jg 4 [(2,.call (Sbound s j (by have:=hs.bnds;omega)))] [] [(12,vp 4 0)] [] [(4,.box ([.d (.raw (.bool (zam s j).is_))]++zi (zam s j).lo++zi (zam s j).hi))] h fun a w h=>?_)
  rcases bF (zax c j) with hc4 | hc9
  ·rw [hc4] at h
   rcases bF (zam s j).is_ with hc5 | hc8
   ·rw [hc5] at h;refine Jq 5 [(10,.call (SCmp (zam s j).lo (zam s j).hi (zgu hs j).1.1 (zgu hs j).2.1 (by omega) (by omega)))] [(3,vp 0 0),(4,vp 1 0),(7,vp 2 0),(9,vN j),(10,vp 3 0),(11,vb true),(30,vN s.vars.length),(31,vN j),(56,vb (decide (zel (zam s j).lo.val (zam s j).hi.val>0)))] [(0,.box (zat s)),(1,.box [.d (.sl 1 (x.locs.map za8)),.d (.sl 2 (x.vals.map ziD))]),(2,.box ([.d (.raw (.int .i64 c.proc)),.d (.raw (.int .i64 c.from_)),.d (.raw (.int .i64 c.to_)),.d (.raw (.int .i64 c.guard.kind)),.d (.sl 3 (c.guard.r.t.parts.map cW))]++zi c.guard.r.t.k++[.d (.raw (.bool c.guard.r.eq)),.d (.sl 6 (c.guard.kids.map za7.d)),.d (.sl 5 (c.moves.map zan.d))])),(3,.box (zi (zbx x c j)))] h fun a w h=>zag (zel (zam s j).lo.val (zam s j).hi.val>0) h (fun hc6 hc6'=>?_) (fun hc7 hc7'=>?_)
    ·refine Je 5 [] [56] [(6,vb false)] h fun a w h=>qV (za2 (za6 (za2 (za2 (za6 (za2 (rT (.c (.d (.raw (.bool false)))) h rfl ?_)))))));have hz:can s x i=false:=by unfold can;rw [hi];show canC s x c=_;unfold canC;rw [(show (zad s x c)=true from by simpa using hc2),bE,zba (j:=j) (by have:=dT hc3;omega) (show zjz s x c j=false by unfold zjz;rw [if_pos hc4,hc5,hc6];rfl)]
     rw [hz];try rfl
    refine qU (za0 (Jg 5 [] [9,10,11,56] [(65,vb false)] [3] [] h fun a w h=>zbs h (qU (za5 (za0 (Jf 5 [(0,.j1 j)] [65] [(31,vI ((j:Int)+1))] h fun a w h=>za0 (za9 (x:=j) (y:=j+1) h ?_ ?_)))))))
    ·exact ⟨by omega,zb9 hI2 (by unfold zjz;rw [if_pos hc4,hc5,hc7];rfl)⟩
    show s.vars.length - (j+1)<s.vars.length - j;omega
   rw [hc8] at h;refine Jq 5 [] [(3,vp 0 0),(4,vp 1 0),(7,vp 2 0),(9,vN j),(10,vp 3 0),(11,vb true),(30,vN s.vars.length),(31,vN j),(56,vb false)] [(0,.box (zat s)),(1,.box [.d (.sl 1 (x.locs.map za8)),.d (.sl 2 (x.vals.map ziD))]),(2,.box ([.d (.raw (.int .i64 c.proc)),.d (.raw (.int .i64 c.from_)),.d (.raw (.int .i64 c.to_)),.d (.raw (.int .i64 c.guard.kind)),.d (.sl 3 (c.guard.r.t.parts.map cW))]++zi c.guard.r.t.k++[.d (.raw (.bool c.guard.r.eq)),.d (.sl 6 (c.guard.kids.map za7.d)),.d (.sl 5 (c.moves.map zan.d))])),(3,.box (zi (zbx x c j)))] h fun a w h=>zbs h (qU (za0 (Jg 5 [] [9,10,11,56] [(65,vb false)] [3] [] h fun a w h=>zbs h (qU (za5 (za0 (Jf 5 [(0,.j1 j)] [65] [(31,vI ((j:Int)+1))] h fun a w h=>za0 (za9 (x:=j) (y:=j+1) h ?_ ?_))))))))
   ·exact ⟨by omega,zb9 hI2 (by unfold zjz;rw [if_pos hc4,hc8];rfl)⟩
   show s.vars.length - (j+1)<s.vars.length - j;omega
  rw [hc9] at h;refine Jq 5 [] [(3,vp 0 0),(4,vp 1 0),(7,vp 2 0),(9,vN j),(10,vp 3 0),(11,vb false),(30,vN s.vars.length),(31,vN j),(56,vb false)] [(0,.box (zat s)),(1,.box [.d (.sl 1 (x.locs.map za8)),.d (.sl 2 (x.vals.map ziD))]),(2,.box ([.d (.raw (.int .i64 c.proc)),.d (.raw (.int .i64 c.from_)),.d (.raw (.int .i64 c.to_)),.d (.raw (.int .i64 c.guard.kind)),.d (.sl 3 (c.guard.r.t.parts.map cW))]++zi c.guard.r.t.k++[.d (.raw (.bool c.guard.r.eq)),.d (.sl 6 (c.guard.kids.map za7.d)),.d (.sl 5 (c.moves.map zan.d))])),(3,.box (zi (zbx x c j)))] h fun a w h=>zbs h (qU (za0 (Jg 5 [(6,.call (Swithin s j (zbx x c j) (L:=L) (M:=L+M+2) (by omega) hs gn))] [9,10,11,56] [(65,vb (!(zar (zam s j) (zbx x c j))))] [3] [] h fun a w h=>cS (!(zar (zam s j) (zbx x c j))) h (fun hc10=>?_) (fun hc11=>?_))))
  ·refine Je 5 [] [65] [(6,vb false)] h fun a w h=>qV (za6 (za2 (za2 (za6 (za2 (rT (.c (.d (.raw (.bool false)))) h rfl ?_))))));have hz:can s x i=false:=by unfold can;rw [hi];show canC s x c=_;unfold canC;rw [(show (zad s x c)=true from by simpa using hc2),bE,zba (j:=j) (by have:=dT hc3;omega) (show zjz s x c j=false by unfold zjz;rw [if_neg (by rw [hc9];exact Bool.noConfusion)];exact (show (zar (zam s j) (zbx x c j))=false from by simpa using hc10))]
   rw [hz];try rfl
  refine qU (za5 (za0 (Jf 5 [(0,.j1 j)] [65] [(31,vI ((j:Int)+1))] h fun a w h=>za0 (za9 (x:=j) (y:=j+1) h ?_ ?_))))
  ·exact ⟨by omega,zb9 hI2 (by unfold zjz;rw [if_neg (by rw [hc9];exact Bool.noConfusion)];exact (show (zar (zam s j) (zbx x c j))=true from by simpa using hc11))⟩
  show s.vars.length - (j+1)<s.vars.length - j;omega
 refine exA (Jq 5 [] [(6,vb true)] [] h fun a w h=>qV (rT (.c (.d (.raw (.bool true)))) h rfl ?_));have hz:can s x i=true:=by unfold can;rw [hi];show canC s x c=_;unfold canC;rw [(show (zad s x c)=true from by simpa using hc2),bE,show s.vars.length=j by have:=dF hc12;omega,hI2]
 rw [hz];try rfl
theorem SCan (s:zab) (x:StD) (i:Int) {L:Nat} (hL:L+M<=4000) (hs:zaw L s) (hx:zdh M x):Fn cT 39 [] [vG (zat s),vG [cIs x.locs,cZs x.vals],vi .i64 i] (vb (can s x i)) []:=by
 cases hi:zf8 s i with
 | none=>exact SCanN s x i hL hs hx hi
 | some c=>exact SCanS s x i c hL hs hx hi
theorem SStuck (s:zab) (x:StD) {L:Nat} (hL:L+M<=4000) (hs:zaw L s) (hx:zdh M x):Fn cT 85 [] [vG (zat s),vG [cIs x.locs,cZs x.vals]] (vb (zej s x)) []:=by
 have lx1:=hx.locs;have lx2:=hx.vals;have ls1:=hs.vars;have ls2:=hs.procs;have las:=hs.acts;refine fB Tryz.func85 rfl 20 fun w H B a h=>Jq 0 [] [(2,vp 0 0),(3,vp 1 0),(4,vb false)] [(0,.box (zat s)),(1,.box [cIs x.locs,cZs x.vals])] h fun a w h=>qW (Je 2 [(2,.len (za1 10 zb1.d s.acts))] [] [(8,vN s.acts.length),(9,vI 0)] h fun a w h=>qZ ?_)
 refine zcc (ι:=(Nat)) (fun j=>j<=s.acts.length/\zg7 j (fun i=>!can s x (i:Int))=true)
   [4] (fun j=>[(9,vN j)])
   [] (fun j=>[])
   (fun j=>s.acts.length - j) 0 ?_ h ?_
 ·exact ⟨bG _,rfl⟩
 clear h;rintro j a w hI h;obtain ⟨hI1,hI2⟩:=hI;refine Je 2 [] [] [(10,vb (decide ((j:Int)<(s.acts.length:Int))))] h fun a w h=>qW (zag ((j:Int)<(s.acts.length:Int)) h (fun hc1 hc1'=>?_) (fun hc4 hc4'=>?_))
 ·refine qU (za0 (qW (qZ (Je 2 [] [10] [(5,vN j)] h fun a w h=>Je 2 [(3,.call (SCan s x (j:Int) hL hs hx))] [5] [(15,vb (can s x (j:Int)))] h fun a w h=>cS (can s x (j:Int)) h (fun hc2=>?_) (fun hc3=>?_)))))
  ·refine Je 2 [] [15] [(4,vb false)] h fun a w h=>qV (za6 (za2 (za2 (za6 (za2 (rT (.c (cB false)) h rfl ?_))))));have hz:zej s x=false:=by unfold zej;rw [zba (j:=j) (by have:=dT hc1;omega) (show (!can s x (j:Int))=false by rw [hc2];rfl)];rfl
   rw [hz];try rfl
  refine qU (za5 (za0 (Jf 2 [(0,.j1 j)] [15] [(9,vI ((j:Int)+1))] h fun a w h=>za0 (za9 (x:=j) (y:=j+1) h ?_ ?_))))
  ·exact ⟨by omega,zb9 hI2 (by rw [hc3];rfl)⟩
  show s.acts.length - (j+1)<s.acts.length - j;omega
 refine exA (Jq 2 [(2,.call (zk0 s x (L:=L) (M:=M) (by omega) hs hx))] [(4,vb (zbk s x))] [] h fun a w h=>qV (rT (.c (cB (zbk s x))) h rfl ?_));have hz:zej s x=(zbk s x):=by unfold zej;rw [show s.acts.length=j by have:=dF hc4;omega,hI2];rfl
 rw [hz];try rfl
theorem free_new {c:zb1} (h:zax c v=true):zbx x c v=zdi:=by
 unfold zax at h;unfold zbx
 cases hm:zkm c v with
 | none=>rw [hm] at h;cases h
 | some m=>rw [hm] at h;simp only at h ⊢;rw [if_pos h]
theorem newV_pick {c:zb1} {p:ZI} (h:zax c v=true) (hp:(picks.drop (zah c v))[0]?=some p):zca x c picks v=ZI.of p.val:=by
 rw [List.getElem?_drop,Nat.add_zero] at hp;unfold zca;rw [if_pos h,hp]
theorem newV_out {c:zb1} (h:zax c v=true) (hp:¬ ((picks.drop (zah c v)).length:Int)>0):zca x c picks v=zdi:=by
 rw [bZ] at hp;unfold zca;rw [if_pos h,bX (by omega)]
theorem zhn {c:zb1} (h:zax c v=false):zca x c picks v=zbx x c v:=by unfold zca;rw [if_neg (by rw [h];exact Bool.noConfusion)]
theorem zfi {c:zb1} (h:zax c v=true):zah c (v+1)=zah c v+1:=by rw [zah,if_pos h]
theorem ziw {c:zb1} (h:zax c v=false):zah c (v+1)=zah c v:=by rw [zah,if_neg (by rw [h];exact Bool.noConfusion),Nat.add_zero]
theorem outS_ok {L:Nat} {s:zab} {c:zb1} (hs:zaw L s) (hx:zdh M x) (hc:zi3 L c) (hp:∀ z ∈ picks,ZOk M z):zdh (L+M+2) (zcz s x c picks):=by
 refine ⟨by simp only [zcz,cK];exact hx.locs,by simp only [zcz,bH,List.length_range];exact bI hs.vars (by decide),fun z hz=>?_⟩
 simp only [zcz,bW] at hz
 obtain ⟨v,_,rfl⟩:=hz
 unfold zca
 split
 ·split
  ·rename_i p hp2
   have g:=hp p (bS hp2)
   exact ⟨ZI.lb_of _,bI (zhu g.1) (by have:=g.2;omega)⟩
  ·exact ZOk.zero
 ·exact new_ok hc hx v
theorem SGo1 (s:zab) (x:StD) (picks:List ZI) {L:Nat} (hL:L+M<=4000) (hs:zaw L s) (hx:zdh M x) (hp:∀ z ∈ picks,ZOk M z) (hst:zej s x=true):Fn cT 42 [] [vG (zat s),vG [cIs x.locs,cZs x.vals],vI (-1),(vZs picks)] (.tup [.agg [cIs (cloneS x).locs,cZs (cloneS x).vals],.c (cB true)]) []:=by
 refine fB Tryz.func42 rfl 92 fun w H B a h=>Jq 5 [] [(2,vI (-1)),(3,(vZs picks)),(4,vp 5 0),(5,vp 6 0),(8,vp 7 0),(9,vb false)] [(5,.box (zat s)),(6,.box [cIs x.locs,cZs x.vals]),(7,.box [nCl,nCl])] h fun a w h=>qW (Je 8 [(1,.cmp (op:=.eql) (m:=(-1)) (n:=(-1)) (b:=true) .i64 rfl),(5,.call (cU (SStuck s x hL hs hx) (congrArg vb hst)))] [] [(22,vb true)] h fun a w h=>cS true h (fun _=>?_) nofun)
 refine Jg 8 [(1,.call (Sclone x (by omega) hx))] [22] [(9,vb true)] [] [(7,.box [.own 0 x.locs.length,.own 1 (x.vals.map clZ).length]),(0,.row 3 1 (x.locs.map za8)),(1,.row 28 2 ((x.vals.map clZ).map ziD))] h fun a w h=>qV (za2 ?_);replace h:=zhz 0 1 3 (x.locs.map za8) h [x.locs.length] ⟨by first | exact (bH _).symm | (simp;done) | (simp;omega),trivial⟩;replace h:=zhz 1 2 28 ((x.vals.map clZ).map ziD) h [(x.vals.map clZ).length] ⟨by first | exact (bH _).symm | (simp;done) | (simp;omega),trivial⟩;refine zdp [.agg [cIs x.locs,cZs (x.vals.map clZ)],.c (cB true)] h Exit.ret (.inl rfl)  rfl ⟨RV.agg _ 7 0 _ _ _ _ kk_5 rfl rfl rfl rfl,vT9,trivial⟩ ?_;rfl
theorem SGo2 (s:zab) (x:StD) (i:Int) (picks:List ZI) {L:Nat} (hL:L+M<=4000) (hs:zaw L s) (hx:zdh M x) (hp:∀ z ∈ picks,ZOk M z) (hst:¬ (i=-1/\zej s x=true)) (hi:zf8 s i=none):Fn cT 42 [] [vG (zat s),vG [cIs x.locs,cZs x.vals],vI i,(vZs picks)] (.tup [.agg [cIs st0.locs,cZs st0.vals],.c (cB false)]) []:=by
 refine fB Tryz.func42 rfl 92 fun w H B a h=>Jq 5 [] [(2,vI i),(3,(vZs picks)),(4,vp 5 0),(5,vp 6 0),(8,vp 7 0),(9,vb false)] [(5,.box (zat s)),(6,.box [cIs x.locs,cZs x.vals]),(7,.box [nCl,nCl])] h fun a w h=>qW ?_
 rcases bF (i == (-1)) with hc1 | hc2
 ·refine Je 8 [(1,.cmp (op:=.eql) (m:=i) (n:=(-1)) (b:=true) .i64 hc1),(5,.call (cU (SStuck s x hL hs hx) (congrArg vb (show zej s x=false by cases hq:zej s x with | false=>rfl | true=>exact absurd ⟨by have:=hc1;simpa using this,hq⟩ hst))))] [] [(22,vb false)] h fun a w h=>zbs h (qU (za0 (Jg 8 [(2,.call (SactN s i hi))] [2,22] [(10,vp 8 0),(11,vb false)] [] [(8,.box (acC act0))] h fun a w h=>qW (Je 9 [] [11] [(39,vb true)] h fun a w h=>cS true h (fun _=>?_) nofun))));refine Je 9 [] [39] [] h fun a w h=>qV (za2 ?_);replace h:=zb7 7 0 1 [nCl,nCl] h;replace h:=zb7 7 1 2 [cIs [],nCl] h;refine zdp [.agg [cIs [],cZs []],.c (cB false)] h Exit.ret (.inl rfl)  rfl ⟨RV.agg _ 7 0 _ _ _ _ kk_5 rfl rfl rfl rfl,vT9,trivial⟩ ?_;rfl
 refine Je 9 [(1,.cmp (op:=.eql) (m:=i) (n:=(-1)) (b:=false) .i64 hc2)] [] [(22,vb false)] h fun a w h=>zbs h (qU (za0 (Jg 9 [(2,.call (SactN s i hi))] [2,22] [(10,vp 9 0),(11,vb false)] [] [(9,.box (acC act0))] h fun a w h=>qW (Je 10 [] [11] [(39,vb true)] h fun a w h=>cS true h (fun _=>?_) nofun))));refine Je 10 [] [39] [] h fun a w h=>qV (za2 ?_);replace h:=zb7 7 0 1 [nCl,nCl] h;replace h:=zb7 7 1 2 [cIs [],nCl] h;refine zdp [.agg [cIs [],cZs []],.c (cB false)] h Exit.ret (.inl rfl)  rfl ⟨RV.agg _ 7 0 _ _ _ _ kk_5 rfl rfl rfl rfl,vT9,trivial⟩ ?_;rfl
theorem SGo3 (s:zab) (x:StD) (i:Int) (picks:List ZI) (c:zb1) {L:Nat} (hL:L+M<=4000) (hs:zaw L s) (hx:zdh M x) (hp:∀ z ∈ picks,ZOk M z) (hi:zf8 s i=some c):Fn cT 42 [] [.t (.agg (zat s)),.t (.agg [.d (.sl 1 (x.locs.map za8)),.d (.sl 2 (x.vals.map ziD))]),vI i,.t (.c (.d (.sl 2 (picks.map ziD))))] (.tup [.agg [.d (.sl 1 ((goC s x c picks).1.locs.map za8)),.d (.sl 2 ((goC s x c picks).1.vals.map ziD))],.c (.d (.raw (.bool (goC s x c picks).2)))]) []:=by
 have lx1:=hx.locs;have lx2:=hx.vals;have ls1:=hs.vars;have ls2:=hs.procs;have hc:zi3 L c:=act_ok hs hi;refine fB Tryz.func42 rfl 92 fun w H B a h=>Jq 5 [] [(2,vI i),(3,.t (.c (.d (.sl 2 (picks.map ziD))))),(4,vp 5 0),(5,vp 6 0),(8,vp 7 0),(9,vb false)] [(5,.box (zat s)),(6,.box [.d (.sl 1 (x.locs.map za8)),.d (.sl 2 (x.vals.map ziD))]),(7,.box [.d (.raw zaa),.d (.raw zaa)])] h fun a w h=>qW (Je 8 [(1,.cmp (op:=.eql) (m:=i) (n:=(-1)) (b:=false) .i64 (by obtain ⟨k,rfl,_⟩:=zg9 hi;exact beq_eq_false_iff_ne.2 (by omega)))] [] [(22,vb false)] h fun a w h=>zbs h (qU (za0 (Jg 8 [(2,.call (SactS s i c hi))] [2,22] [(10,vp 8 0),(11,vb true)] [] [(8,.box ([.d (.raw (.int .i64 c.proc)),.d (.raw (.int .i64 c.from_)),.d (.raw (.int .i64 c.to_)),.d (.raw (.int .i64 c.guard.kind)),.d (.sl 3 (c.guard.r.t.parts.map cW))]++zi c.guard.r.t.k++[.d (.raw (.bool c.guard.r.eq)),.d (.sl 6 (c.guard.kids.map za7.d)),.d (.sl 5 (c.moves.map zan.d))]))] h fun a w h=>qW (Je 9 [(6,.call (Senabled s x c (L:=L) (M:=M) (by omega) hs hx hc))] [11] [(39,vb (!(zad s x c)))] h fun a w h=>cS (!(zad s x c)) h (fun hc1=>?_) (fun hc2=>?_))))))
 ·refine Je 9 [] [39] [] h fun a w h=>qV (za2 ?_);replace h:=zb7 7 0 1 [.d (.raw zaa),.d (.raw zaa)] h;replace h:=zb7 7 1 2 [.d (.sl 1 ([].map za8)),.d (.raw zaa)] h;refine zdp [.agg [.d (.sl 1 ([].map za8)),.d (.sl 2 ([].map ziD))],.c (.d (.raw (.bool false)))] h Exit.ret (.inl rfl)  rfl ⟨RV.agg _ 7 0 _ _ _ _ kk_5 rfl rfl rfl rfl,vT9,trivial⟩ ?_;have hz:goC s x c picks=(st0,false):=by unfold goC;rw [if_neg (fun h=>by have:=h.1;rw [(show (zad s x c)=false from by simpa using hc1)] at this;cases this)]
  rw [hz];try rfl
 refine qU (za0 ?_);have hen:=(show (zad s x c)=true from by simpa using hc2);have hfl:=zcr (zck hen);have hpr:=zee hen;refine Jg 9 [(1,.call (Sclone x (by omega) hx))] [39] [(12,vp 9 0)] [] [(0,.row 3 1 (x.locs.map za8)),(1,.row 28 2 ((x.vals.map clZ).map ziD)),(9,.box [.own 0 x.locs.length,.own 1 (x.vals.map clZ).length])] h fun a w h=>?_;obtain ⟨k,hkk⟩:∃ k_:Nat,c.proc=(k_:Int):=⟨_,(bV (by omega)).symm⟩;replace h:=cvM [] [] [] [(8,.box ([.d (.raw (.int .i64 (k:Int))),.d (.raw (.int .i64 c.from_)),.d (.raw (.int .i64 c.to_)),.d (.raw (.int .i64 c.guard.kind)),.d (.sl 3 (c.guard.r.t.parts.map cW))]++zi c.guard.r.t.k++[.d (.raw (.bool c.guard.r.eq)),.d (.sl 6 (c.guard.kids.map za7.d)),.d (.sl 5 (c.moves.map zan.d))]))] (by rw [hkk]; try kernel_rfl) h;obtain ⟨x4,hx4⟩:=gl x.locs k;refine Jg 10 [(6,.g (xO 49 44 0 x.locs.length k zdj (cV 46 _))),(7,.g (Op.storeR (t:=49) (n:=0) (i:=k) (fo:=0) (rty:=3) (es:=1) (r:=za8 x4) (ds:=[.raw (.int .i64 c.to_)]) (rs:=[(48,vI c.to_)]) (rows:=x.locs.map za8) (rows':=(x.locs.set k c.to_).map za8) tl_7 (cV 48 _) rfl rfl rfl (za4 hx4 (f:=za8)) (by simp [za8]) (zc9 (xs:=x.locs) (F:=za8) k _ _ rfl)))] [] [] [] [(0,.row 3 1 ((x.locs.set k c.to_).map za8))] h fun a w h=>qW ?_;replace h:=cvM [] [] [] [(8,.box ([.d (.raw (.int .i64 c.proc)),.d (.raw (.int .i64 c.from_)),.d (.raw (.int .i64 c.to_)),.d (.raw (.int .i64 c.guard.kind)),.d (.sl 3 (c.guard.r.t.parts.map cW))]++zi c.guard.r.t.k++[.d (.raw (.bool c.guard.r.eq)),.d (.sl 6 (c.guard.kids.map za7.d)),.d (.sl 5 (c.moves.map zan.d))]))] (by rw [hkk]; try kernel_rfl) h;refine Jg 10 [(2,.len (za1 1 zdz s.vars))] [] [(52,vN s.vars.length),(53,vI 0)] [] [] h fun a w h=>qZ ?_
 refine zcc (ι:=(Nat)) (fun j=>j<=s.vars.length)
   [] (fun j=>[(3,.t (.c (.d (.sl 2 ((picks.drop (zah c j)).map ziD))))),(53,vN j)])
   [] (fun j=>[(1,.row 28 2 (((bC j).map (zca x c picks)++(x.vals.map clZ).drop j).map ziD))])
   (fun j=>s.vars.length - j) 0 ?_ h ?_
 ·exact bG _
 clear h;rintro j a w hI h;have hrl:=range_len (f:=(zca x c picks)) (cl:=(x.vals.map clZ)) (j:=j) (by rw [bH];omega);rw [bH] at hrl;refine Je 10 [] [] [(54,vb (decide ((j:Int)<(s.vars.length:Int))))] h fun a w h=>qW (zag ((j:Int)<(s.vars.length:Int)) h (fun hc3 hc3'=>?_) (fun hc8 hc8'=>?_))
 ·refine qU (za0 (qW (qZ (Je 10 [] [54] [(13,vN j)] h fun a w h=>?_))));have gn:=new_ok hc hx j;have lgn:=gn.2;refine Jg 10 [(3,.call (Safter x c j (L:=L) (M:=M) (by omega) hc hx (by have:=zcr (zck hen);omega)))] [] [(14,vp 10 0),(15,vb (zax c j))] [] [(10,.box (zi (zbx x c j)))] h fun a w h=>qW ?_
  rcases bF (zax c j) with hc4 | hc7
  ·rw [hc4] at h;refine Jq 11 [(3,.len (za1 2 ziD (picks.drop (zah c j))))] [(3,.t (.c (.d (.sl 2 ((picks.drop (zah c j)).map ziD))))),(4,vp 5 0),(5,vp 6 0),(8,vp 7 0),(9,vb false),(10,vp 8 0),(12,vp 9 0),(13,vN j),(14,vp 10 0),(52,vN s.vars.length),(53,vN j),(68,vb (decide (((picks.drop (zah c j)).length:Int)>0)))] [(5,.box (zat s)),(6,.box [.d (.sl 1 (x.locs.map za8)),.d (.sl 2 (x.vals.map ziD))]),(7,.box [.d (.raw zaa),.d (.raw zaa)]),(8,.box ([.d (.raw (.int .i64 c.proc)),.d (.raw (.int .i64 c.from_)),.d (.raw (.int .i64 c.to_)),.d (.raw (.int .i64 c.guard.kind)),.d (.sl 3 (c.guard.r.t.parts.map cW))]++zi c.guard.r.t.k++[.d (.raw (.bool c.guard.r.eq)),.d (.sl 6 (c.guard.kids.map za7.d)),.d (.sl 5 (c.moves.map zan.d))])),(0,.row 3 1 ((x.locs.set k c.to_).map za8)),(1,.row 28 2 (((bC j).map (zca x c picks)++(x.vals.map clZ).drop j).map ziD)),(9,.box [.own 0 x.locs.length,.own 1 (x.vals.map clZ).length]),(10,.box (zi (zbx x c j)))] h fun a w h=>zag (((picks.drop (zah c j)).length:Int)>0) h (fun hc5 hc5'=>?_) (fun hc6 hc6'=>?_)
   ·obtain ⟨x6,hx6⟩:=gl (picks.drop (zah c j)) 0;have gx6:=hp x6 (cP (lM hx6));have lgx6:=gx6.2;obtain ⟨r7,er7,vr7,or7,lr7⟩:=mkZ (v:=x6.val) (m:=M) (bI (zhu gx6.1) gx6.2);refine Jg 11 [(1,.g (xD 70 69 zi8 (za4 hx6 (f:=ziD)) (OV.const (.int .i64 0) rfl))),(5,.g (xD 74 73 zi8 (za4 hx6 (f:=ziD)) (OV.const (.int .i64 0) rfl))),(8,.call (cU ((show Fn _ _ _ _ (vz (ZI.of x6.val)) _ from zke x6.neg x6.abs gx6.1 (by omega))) (congrArg vz er7.symm)))] [68] [] [] [(10,.box (zi r7))] h fun a w h=>Jf 11 [(1,.g (Op.sliceD (d:=79) (t:=78) (l:=1) (h:=(picks.drop (zah c j)).length) (rows:=(picks.drop (zah c j)).map ziD) (rows':=((picks.drop (zah c j)).drop 1).map ziD) zi8 (BO.yes _ (OV.const (.int .i64 1) rfl)) (by rw [bH];exact BO.no _) (by first | omega | (simp at *;omega)) (by first | omega | (simp only [bH];omega) | (simp at *;omega)) (by first | (simp [List.map_drop];done) | (rw [bR (by simp <;> omega)];simp [List.map_drop]))))] [] [(3,.t (.c (.d (.sl 2 (((picks.drop (zah c j)).drop 1).map ziD)))))] h fun a w h=>za0 ?_;obtain ⟨x8,hx8⟩:=gl ((bC j).map (zca x c picks)++(x.vals.map clZ).drop j) j;refine Jh 11 [(4,.g (xO 84 81 1 (x.vals.map clZ).length j zi8 (cV 82 _))),(5,.g (Op.storeR (t:=84) (n:=1) (i:=j) (fo:=0) (rty:=28) (es:=2) (r:=ziD x8) (ds:=[.raw (.bool r7.neg),nsl r7.abs]) (rs:=[(83,vz r7)]) (rows:=((bC j).map (zca x c picks)++(x.vals.map clZ).drop j).map ziD) (rows':=(((bC j).map (zca x c picks)++(x.vals.map clZ).drop j).set j r7).map ziD) zgt (cV 83 _) rfl rfl rfl (za4 hx8 (f:=ziD)) (by simp [ziD]) (zc9 (xs:=((bC j).map (zca x c picks)++(x.vals.map clZ).drop j)) (F:=ziD) j _ _ rfl)))] [13,14] [] [10] [(1,.row 28 2 ((((bC j).map (zca x c picks)++(x.vals.map clZ).drop j).set j r7).map ziD))] h fun a w h=>za5 (za0 (Jf 11 [(0,.j1 j)] [] [(53,vI ((j:Int)+1))] h fun a w h=>za0 ?_));rw [show ((((bC j).map (zca x c picks)++(x.vals.map clZ).drop j).set j r7):List ZI)=((bC (j+1)).map (zca x c picks)++(x.vals.map clZ).drop (j+1)) from (zfx (by rw [bH];omega) (by rw [newV_pick hc4 hx6];simp [*]))] at h;replace h:=cv (fun z_:List ZI=>F.of [(3,.t (.c (.d (.sl 2 (z_.map ziD))))),(4,vp 5 0),(5,vp 6 0),(8,vp 7 0),(9,vb false),(10,vp 8 0),(12,vp 9 0),(52,vN s.vars.length),(53,vI ((j:Int)+1))] [(5,.box (zat s)),(6,.box [.d (.sl 1 (x.locs.map za8)),.d (.sl 2 (x.vals.map ziD))]),(7,.box [.d (.raw zaa),.d (.raw zaa)]),(8,.box ([.d (.raw (.int .i64 c.proc)),.d (.raw (.int .i64 c.from_)),.d (.raw (.int .i64 c.to_)),.d (.raw (.int .i64 c.guard.kind)),.d (.sl 3 (c.guard.r.t.parts.map cW))]++zi c.guard.r.t.k++[.d (.raw (.bool c.guard.r.eq)),.d (.sl 6 (c.guard.kids.map za7.d)),.d (.sl 5 (c.moves.map zan.d))])),(0,.row 3 1 ((x.locs.set k c.to_).map za8)),(1,.row 28 2 (((bC (j+1)).map (zca x c picks)++(x.vals.map clZ).drop (j+1)).map ziD)),(9,.box [.own 0 x.locs.length,.own 1 (x.vals.map clZ).length])]) (show (((picks.drop (zah c j)).drop 1):List ZI)=(picks.drop (zah c (j+1))) from (by rw [zfi hc4,List.drop_drop])) (h.conv (by kernel_rfl));refine za9 (x:=j) (y:=j+1) h ?_ ?_
    ·show j+1<=s.vars.length;omega
    show s.vars.length - (j+1)<s.vars.length - j;omega
   refine qU (za0 ?_);obtain ⟨x9,hx9⟩:=gl ((bC j).map (zca x c picks)++(x.vals.map clZ).drop j) j;refine Jh 11 [(4,.g (xO 84 81 1 (x.vals.map clZ).length j zi8 (cV 82 _))),(5,.g (Op.storeR (t:=84) (n:=1) (i:=j) (fo:=0) (rty:=28) (es:=2) (r:=ziD x9) (ds:=[.raw (.bool (zbx x c j).neg),nsl (zbx x c j).abs]) (rs:=[(83,vz (zbx x c j))]) (rows:=((bC j).map (zca x c picks)++(x.vals.map clZ).drop j).map ziD) (rows':=(((bC j).map (zca x c picks)++(x.vals.map clZ).drop j).set j (zbx x c j)).map ziD) zgt (cV 83 _) rfl rfl rfl (za4 hx9 (f:=ziD)) (by simp [ziD]) (zc9 (xs:=((bC j).map (zca x c picks)++(x.vals.map clZ).drop j)) (F:=ziD) j _ _ rfl)))] [13,14,68] [] [10] [(1,.row 28 2 ((((bC j).map (zca x c picks)++(x.vals.map clZ).drop j).set j (zbx x c j)).map ziD))] h fun a w h=>za5 (za0 (Jf 11 [(0,.j1 j)] [] [(53,vI ((j:Int)+1))] h fun a w h=>za0 ?_));rw [show ((((bC j).map (zca x c picks)++(x.vals.map clZ).drop j).set j (zbx x c j)):List ZI)=((bC (j+1)).map (zca x c picks)++(x.vals.map clZ).drop (j+1)) from (zfx (by rw [bH];omega) (by rw [newV_out hc4 (dF hc6)];exact free_new hc4))] at h;replace h:=cv (fun z_:List ZI=>F.of [(3,.t (.c (.d (.sl 2 (z_.map ziD))))),(4,vp 5 0),(5,vp 6 0),(8,vp 7 0),(9,vb false),(10,vp 8 0),(12,vp 9 0),(52,vN s.vars.length),(53,vI ((j:Int)+1))] [(5,.box (zat s)),(6,.box [.d (.sl 1 (x.locs.map za8)),.d (.sl 2 (x.vals.map ziD))]),(7,.box [.d (.raw zaa),.d (.raw zaa)]),(8,.box ([.d (.raw (.int .i64 c.proc)),.d (.raw (.int .i64 c.from_)),.d (.raw (.int .i64 c.to_)),.d (.raw (.int .i64 c.guard.kind)),.d (.sl 3 (c.guard.r.t.parts.map cW))]++zi c.guard.r.t.k++[.d (.raw (.bool c.guard.r.eq)),.d (.sl 6 (c.guard.kids.map za7.d)),.d (.sl 5 (c.moves.map zan.d))])),(0,.row 3 1 ((x.locs.set k c.to_).map za8)),(1,.row 28 2 (((bC (j+1)).map (zca x c picks)++(x.vals.map clZ).drop (j+1)).map ziD)),(9,.box [.own 0 x.locs.length,.own 1 (x.vals.map clZ).length])]) (show ((picks.drop (zah c j)):List ZI)=(picks.drop (zah c (j+1))) from (by rw [zfi hc4];have:=dF hc6;rw [bZ] at this;rw [bL (by omega),bL (by omega)])) (h.conv (by kernel_rfl));refine za9 (x:=j) (y:=j+1) h ?_ ?_
   ·show j+1<=s.vars.length;omega
   show s.vars.length - (j+1)<s.vars.length - j;omega
  rw [hc7] at h;refine Jq 11 [] [(3,.t (.c (.d (.sl 2 ((picks.drop (zah c j)).map ziD))))),(4,vp 5 0),(5,vp 6 0),(8,vp 7 0),(9,vb false),(10,vp 8 0),(12,vp 9 0),(13,vN j),(14,vp 10 0),(52,vN s.vars.length),(53,vN j),(68,vb false)] [(5,.box (zat s)),(6,.box [.d (.sl 1 (x.locs.map za8)),.d (.sl 2 (x.vals.map ziD))]),(7,.box [.d (.raw zaa),.d (.raw zaa)]),(8,.box ([.d (.raw (.int .i64 c.proc)),.d (.raw (.int .i64 c.from_)),.d (.raw (.int .i64 c.to_)),.d (.raw (.int .i64 c.guard.kind)),.d (.sl 3 (c.guard.r.t.parts.map cW))]++zi c.guard.r.t.k++[.d (.raw (.bool c.guard.r.eq)),.d (.sl 6 (c.guard.kids.map za7.d)),.d (.sl 5 (c.moves.map zan.d))])),(0,.row 3 1 ((x.locs.set k c.to_).map za8)),(1,.row 28 2 (((bC j).map (zca x c picks)++(x.vals.map clZ).drop j).map ziD)),(9,.box [.own 0 x.locs.length,.own 1 (x.vals.map clZ).length]),(10,.box (zi (zbx x c j)))] h fun a w h=>zbs h (qU (za0 ?_));obtain ⟨x10,hx10⟩:=gl ((bC j).map (zca x c picks)++(x.vals.map clZ).drop j) j;refine Jh 11 [(4,.g (xO 84 81 1 (x.vals.map clZ).length j zi8 (cV 82 _))),(5,.g (Op.storeR (t:=84) (n:=1) (i:=j) (fo:=0) (rty:=28) (es:=2) (r:=ziD x10) (ds:=[.raw (.bool (zbx x c j).neg),nsl (zbx x c j).abs]) (rs:=[(83,vz (zbx x c j))]) (rows:=((bC j).map (zca x c picks)++(x.vals.map clZ).drop j).map ziD) (rows':=(((bC j).map (zca x c picks)++(x.vals.map clZ).drop j).set j (zbx x c j)).map ziD) zgt (cV 83 _) rfl rfl rfl (za4 hx10 (f:=ziD)) (by simp [ziD]) (zc9 (xs:=((bC j).map (zca x c picks)++(x.vals.map clZ).drop j)) (F:=ziD) j _ _ rfl)))] [13,14,68] [] [10] [(1,.row 28 2 ((((bC j).map (zca x c picks)++(x.vals.map clZ).drop j).set j (zbx x c j)).map ziD))] h fun a w h=>za5 (za0 (Jf 11 [(0,.j1 j)] [] [(53,vI ((j:Int)+1))] h fun a w h=>za0 ?_));rw [show ((((bC j).map (zca x c picks)++(x.vals.map clZ).drop j).set j (zbx x c j)):List ZI)=((bC (j+1)).map (zca x c picks)++(x.vals.map clZ).drop (j+1)) from (zfx (by rw [bH];omega) (zhn hc7).symm)] at h;replace h:=cv (fun z_:List ZI=>F.of [(3,.t (.c (.d (.sl 2 (z_.map ziD))))),(4,vp 5 0),(5,vp 6 0),(8,vp 7 0),(9,vb false),(10,vp 8 0),(12,vp 9 0),(52,vN s.vars.length),(53,vI ((j:Int)+1))] [(5,.box (zat s)),(6,.box [.d (.sl 1 (x.locs.map za8)),.d (.sl 2 (x.vals.map ziD))]),(7,.box [.d (.raw zaa),.d (.raw zaa)]),(8,.box ([.d (.raw (.int .i64 c.proc)),.d (.raw (.int .i64 c.from_)),.d (.raw (.int .i64 c.to_)),.d (.raw (.int .i64 c.guard.kind)),.d (.sl 3 (c.guard.r.t.parts.map cW))]++zi c.guard.r.t.k++[.d (.raw (.bool c.guard.r.eq)),.d (.sl 6 (c.guard.kids.map za7.d)),.d (.sl 5 (c.moves.map zan.d))])),(0,.row 3 1 ((x.locs.set k c.to_).map za8)),(1,.row 28 2 (((bC (j+1)).map (zca x c picks)++(x.vals.map clZ).drop (j+1)).map ziD)),(9,.box [.own 0 x.locs.length,.own 1 (x.vals.map clZ).length])]) (show ((picks.drop (zah c j)):List ZI)=(picks.drop (zah c (j+1))) from (by rw [ziw hc7])) (h.conv (by kernel_rfl));refine za9 (x:=j) (y:=j+1) h ?_ ?_
  ·show j+1<=s.vars.length;omega
  show s.vars.length - (j+1)<s.vars.length - j;omega
 refine exA (qW ?_);replace h:=zhz 0 1 3 ((x.locs.set k c.to_).map za8) h [x.locs.length] ⟨by first | exact (bH _).symm | (simp;done) | (simp;omega),trivial⟩;replace h:=zhz 1 2 28 (((bC j).map (zca x c picks)++(x.vals.map clZ).drop j).map ziD) h [(x.vals.map clZ).length] ⟨by first | exact (bH _).symm | (simp;done) | (simp;omega),trivial⟩;replace h:=cvM [] [] [] [(9,.box ([.d (.sl 1 ((zcz s x c picks).locs.map za8)),.d (.sl 2 (((bC j).map (zca x c picks)++(x.vals.map clZ).drop j).map ziD))]))] (by rw [<- show ((x.locs.set k c.to_):List Int)=(zcz s x c picks).locs from (by show _=x.locs.set c.proc.toNat c.to_;rw [show c.proc.toNat=k by omega])]; try kernel_rfl) h;rw [show (((bC j).map (zca x c picks)++(x.vals.map clZ).drop j):List ZI)=(zcz s x c picks).vals from (by rw [show j=s.vars.length by omega,range_end (by rw [bH];omega)];rfl)] at h;refine Jq 11 [(2,.call (zk0 s (zcz s x c picks) (L:=L) (M:=L+M+2) (by omega) hs (outS_ok hs hx hc hp)))] [(8,vp 7 0),(9,vb false),(12,vp 9 0),(89,vb (!(zbk s (zcz s x c picks))))] [(7,.box [.d (.raw zaa),.d (.raw zaa)]),(9,.box [.d (.sl 1 ((zcz s x c picks).locs.map za8)),.d (.sl 2 ((zcz s x c picks).vals.map ziD))])] h fun a w h=>cS (!(zbk s (zcz s x c picks))) h (fun hc9=>?_) (fun hc10=>?_)
 ·refine Je 11 [] [89] [] h fun a w h=>qV (za2 ?_);replace h:=zb7 7 0 1 [.d (.raw zaa),.d (.raw zaa)] h;replace h:=zb7 7 1 2 [.d (.sl 1 ([].map za8)),.d (.raw zaa)] h;refine zdp [.agg [.d (.sl 1 ([].map za8)),.d (.sl 2 ([].map ziD))],.c (.d (.raw (.bool false)))] h Exit.ret (.inl rfl)  rfl ⟨RV.agg _ 7 0 _ _ _ _ kk_5 rfl rfl rfl rfl,vT9,trivial⟩ ?_;have hz:goC s x c picks=(st0,false):=by unfold goC;rw [if_neg (fun h=>by have:=h.2;rw [(show (zbk s (zcz s x c picks))=false from by simpa using hc9)] at this;cases this)]
  rw [hz];try rfl
 refine qU (za0 (Jq 11 [] [(8,vp 7 0),(9,vb true)] [(7,.box [.d (.sl 1 ((zcz s x c picks).locs.map za8)),.d (.sl 2 ((zcz s x c picks).vals.map ziD))])] h fun a w h=>qV (zdp [.agg [.d (.sl 1 ((zcz s x c picks).locs.map za8)),.d (.sl 2 ((zcz s x c picks).vals.map ziD))],.c (.d (.raw (.bool true)))] h Exit.ret (.inl rfl)  rfl ⟨RV.agg _ 7 0 _ _ _ _ kk_5 rfl rfl rfl rfl,vT9,trivial⟩ ?_)));have hz:goC s x c picks=(zcz s x c picks,true):=by unfold goC;rw [if_pos ⟨(show (zad s x c)=true from by simpa using hc2),(show (zbk s (zcz s x c picks))=true from by simpa using hc10)⟩]
 rw [hz];try rfl
def zcg (y:StD) (c:zb1):Nat->List ZI
  | 0=>[]
  | v+1=>if zax c v=true then zcg y c v++[(y.vals[v]?).getD zdi] else zcg y c v
def zh5 (s:zab) (x:StD) (c:zb1) (y:StD):Bool:=(zad s x c && zbk s y) && ((goC s x c (zcg y c s.vars.length)).2 && zde y (goC s x c (zcg y c s.vars.length)).1)
def zcp (s:zab) (x:StD) (i:Int) (y:StD):Bool:=if i=-1 then zej s x && zde x y else match zf8 s i with | none=>false | some c=>zh5 s x c y
theorem st0_ok:zdh M st0:=⟨bG _,bG _,fun z hz=>(by cases hz)⟩
theorem SGo (s:zab) (x:StD) (i:Int) (picks:List ZI) {L:Nat} (hL:L+M<=4000) (hs:zaw L s) (hx:zdh M x) (hp:∀ z ∈ picks,ZOk M z):Fn cT 42 [] [vG (zat s),vG [cIs x.locs,cZs x.vals],vi .i64 i,(vZs picks)] (.tup [.agg [cIs (goS s x i picks).1.locs,cZs (goS s x i picks).1.vals],.c (cB (goS s x i picks).2)]) []:=by
 by_cases hn:i=-1/\zej s x=true
 ·obtain ⟨rfl,hst⟩:=hn
  have:goS s x (-1) picks=(cloneS x,true):=by unfold goS;rw [if_pos ⟨rfl,hst⟩]
  rw [this];exact SGo1 s x picks hL hs hx hp hst
 ·cases hi:zf8 s i with
  | none =>
   have:goS s x i picks=(st0,false):=by unfold goS;rw [if_neg hn,hi]
   rw [this];exact SGo2 s x i picks hL hs hx hp hn hi
  | some c =>
   have:goS s x i picks=goC s x c picks:=by unfold goS;rw [if_neg hn,hi]
   rw [this];exact SGo3 s x i picks c hL hs hx hp hi
theorem kn_0:SlT cT 42 47 2:=SlT.mk' Tryz.underlying42 (by kernel_rfl)
theorem kn_1:ElT cT 42 47 2 48:=ElT.mk' Tryz.underlying42 _ _ rfl rfl
theorem kn_10:SlT cT 57 110 9:=SlT.mk' Tryz.underlying57 (by kernel_rfl)
theorem zjk:ElZ cT 59 4 1:=ElZ.mk' Tryz.underlying59 _ _ rfl rfl
theorem kn_13:ElT cT 59 4 1 1:=ElT.mk' Tryz.underlying59 _ _ rfl rfl
theorem kn_15:ElZ cT 181 59 1:=ElZ.mk' Tryz.underlying181 _ _ rfl rfl
theorem kn_16:ElT cT 181 59 1 24:=ElT.mk' Tryz.underlying181 _ _ rfl rfl
structure RunOk (M:Nat) (r:RunD):Prop where
  len:r.stem.length+r.cycle.length<=20
  stem:∀ x ∈ r.stem,zdh M x
  cycle:∀ x ∈ r.cycle,zdh M x
theorem RunOk.all {r:RunD} (h:RunOk M r):∀ x ∈ r.stem++r.cycle,zdh M x:=fun x hx=>(List.mem_append.1 hx).elim (h.stem x) (h.cycle x)
def nxt (r:RunD) (i:Nat):StD:=if i+1<(r.stem++r.cycle).length then ((r.stem++r.cycle)[i+1]?).getD st0 else (r.cycle[0]?).getD st0
def stepOk (s:zab) (r:RunD) (i:Nat):Bool:=zcp s (((r.stem++r.cycle)[i]?).getD st0) ((r.acts[i]?).getD 0) (nxt r i)
def right (s:zab) (r:RunD):Bool:=decide (r.cycle.length≠0/\r.acts.length=(r.stem++r.cycle).length) && (first s (((r.stem++r.cycle)[0]?).getD st0) && zg7 (r.stem++r.cycle).length (stepOk s r))
def zak (p:zal) (x:StD):Bool:=if p.at_=true then decide (0<=p.proc/\p.proc<(x.locs.length:Int)) && ((x.locs[p.proc.toNat]?).getD 0 == p.loc) else p.f.holds x.vals
def zfl (L:Nat) (p:zal):Prop:=p.f.lb/\p.f.ok L
def zai (ps:List zal) (x:StD):List Bool:=ps.map fun p=>zak p x
theorem SholdsP (p:zal) (x:StD) {L:Nat} (hL:L+M<=4000) (hp:zfl L p) (hx:zdh M x):Fn cT 148 [] [vG ([cB p.at_,cI p.proc,cI p.loc,cI p.f.kind,cPs p.f.r.t.parts]++zi p.f.r.t.k++[cB p.f.r.eq,cFs p.f.kids]),vG [cIs x.locs,cZs x.vals]] (vb (zak p x)) []:=by
 have lx1:=hx.locs;refine fB Tryz.func148 rfl 34 fun w H B a h=>?_
 refine Jq 0 [] [(2,vp 0 0),(3,vp 1 0),(4,vb false)] [(0,.box ([cB p.at_,cI p.proc,cI p.loc,cI p.f.kind,cPs p.f.r.t.parts]++zi p.f.r.t.k++[cB p.f.r.eq,cFs p.f.kids])),(1,.box [cIs x.locs,cZs x.vals])] h fun a w h=>?_;refine qW (Jp 2 [] [(2,vp 0 0),(3,vp 1 0),(4,vb false),(6,vb p.at_)] h fun a w h=>?_);refine cS p.at_ h (fun hc1=>?_) (fun hc6=>?_)
 ·rcases bF (decide (p.proc>=0)) with hc2 | hc5
  ·have hc2':=dT hc2
   rcases bF (decide (p.proc<(x.locs.length:Int))) with hc3 | hc4
   ·have hc3':=dT hc3;obtain ⟨k,hkk⟩:∃ k_:Nat,p.proc=(k_:Int):=⟨_,(bV (by have:=dT hc2;omega)).symm⟩;replace h:=h.conv (f':=F.of [(2,vp 0 0),(3,vp 1 0),(4,vb false),(6,vb p.at_)] [(0,.box ([cB p.at_,cI (k:Int),cI p.loc,cI p.f.kind,cPs p.f.r.t.parts]++zi p.f.r.t.k++[cB p.f.r.eq,cFs p.f.kids])),(1,.box [cIs x.locs,cZs x.vals])]) (by rw [hkk]);obtain ⟨x1,hx1⟩:=gl x.locs k;refine Jq 2 [(2,.cmp (op:=.geq) (m:=(k:Int)) (n:=0) (b:=true) .i64 (show (decide ((k:Int)>=0))=true from by rw [<- hkk];exact hc2)),(8,.len (za1 1 za8 x.locs)),(9,.cmp (op:=.lss) (m:=(k:Int)) (n:=(x.locs.length:Int)) (b:=true) .i64 (show (decide ((k:Int)<(x.locs.length:Int)))=true from by rw [<- hkk];exact hc3)),(16,.g (xD 23 20 zdj (za4 hx1 (f:=za8)) (cV 22 _)))] [(2,vp 0 0),(3,vp 1 0),(4,vb (x1 == p.loc))] [(0,.box ([cB p.at_,cI (k:Int),cI p.loc,cI p.f.kind,cPs p.f.r.t.parts]++zi p.f.r.t.k++[cB p.f.r.eq,cFs p.f.kids])),(1,.box [cIs x.locs,cZs x.vals])] h fun a w h=>?_;refine qV (za2 ?_);refine rT (.c (cB (x1 == p.loc))) h rfl ?_;have hz:zak p x=(x1 == p.loc):=by unfold zak;rw [if_pos hc1];rw [decide_eq_true (p:=0<=p.proc/\p.proc<(x.locs.length:Int)) (by have:=dT hc2;have:=dT hc3;omega),show p.proc.toNat=k by omega,hx1];rfl
    rw [hz];try rfl
   have hc4':=dF hc4;refine Jp 2 [(2,.cmp (op:=.geq) (m:=p.proc) (n:=0) (b:=true) .i64 hc2),(8,.len (za1 1 za8 x.locs)),(9,.cmp (op:=.lss) (m:=p.proc) (n:=(x.locs.length:Int)) (b:=false) .i64 hc4)] [(2,vp 0 0),(3,vp 1 0),(4,vb false)] h fun a w h=>?_;refine qV (za2 ?_);refine rT (.c (cB false)) h rfl ?_;have hz:zak p x=(false):=by unfold zak;rw [if_pos hc1];rw [decide_eq_false (by have:=dF hc4;omega)];rfl
   rw [hz];try rfl
  have hc5':=dF hc5;refine Jp 2 [(2,.cmp (op:=.geq) (m:=p.proc) (n:=0) (b:=false) .i64 hc5)] [(2,vp 0 0),(3,vp 1 0),(4,vb false)] h fun a w h=>?_;refine qV (za2 ?_);refine rT (.c (cB false)) h rfl ?_;have hz:zak p x=(false):=by unfold zak;rw [if_pos hc1];rw [decide_eq_false (by have:=dF hc5;omega)];rfl
  rw [hz];try rfl
 refine qU (za0 (Jq 2 [(4,.call (SHolds x.vals (L:=L) (M:=M) (by omega) hx.vok p.f hp.1 hp.2))] [(4,vb (za7.holds x.vals p.f))] [] h fun a w h=>?_));refine qV ?_;refine rT (.c (cB (za7.holds x.vals p.f))) h rfl ?_;have hz:zak p x=(za7.holds x.vals p.f):=by unfold zak;rw [if_neg (by rw [hc6];exact Bool.noConfusion)]
 rw [hz];try rfl
theorem SLetter (ps:List zal) (x:StD) {L:Nat} (hL:L+M<=4000) (hps:∀ p ∈ ps,zfl L p) (hpl:ps.length<=1000) (hx:zdh M x):Fn cT 138 [] [vS 9 (ps.map zal.d),vG [cIs x.locs,cZs x.vals]] (vS 1 ((zai ps x).map za3)) []:=by
 refine fB Tryz.func138 rfl 22 fun w H B a h=>?_
 refine Jq 0 [] [(0,vS 9 (ps.map zal.d)),(3,vp 0 0),(4,vW zaa)] [(0,.box [cIs x.locs,cZs x.vals])] h fun a w h=>?_;refine Jp 1 [] [(0,vS 9 (ps.map zal.d)),(3,vp 0 0),(4,vW zaa),(5,vW zaa)] h fun a w h=>?_;refine qW ?_;replace h:=nilOSs 5 0 1 1 4 (vW zaa) [(0,vS 9 (ps.map zal.d)),(3,vp 0 0),(4,vW zaa),(5,vO 1 0)] [(0,.box [cIs x.locs,cZs x.vals]),(1,.row 4 1 ([].map za3))] h (by kernel_rfl) rfl rfl;refine Jp 2 [(1,.len (za1 9 zal.d ps))] [(3,vp 0 0),(4,vW zaa),(5,vO 1 0),(8,vS 9 (ps.map zal.d)),(9,vN ps.length),(10,vI 0)] h fun a w h=>?_;refine qZ ?_
 refine loopS (ι:=(Nat)) (fun j=>j<=ps.length)
   (fun j=>[(3,vp 0 0),(4,vW zaa),(5,vO 1 ((ps.take j).map (fun p=>zak p x)).length),(8,vS 9 (ps.map zal.d)),(9,vN ps.length),(10,vN j)])
   (fun j=>[(0,.box [cIs x.locs,cZs x.vals]),(1,.row 4 1 (((ps.take j).map (fun p=>zak p x)).map za3))])
   (fun j=>ps.length - j) 0 ?_ h (by kernel_rfl) (by kernel_rfl) ?_
 ·exact bG _
 clear h;rintro j a w hI h;have hfl:((ps.take j).map (fun p=>zak p x)).length<=j:=by rw [bH,bT];omega
 refine Jp 2 [] [(3,vp 0 0),(4,vW zaa),(5,vO 1 ((ps.take j).map (fun p=>zak p x)).length),(8,vS 9 (ps.map zal.d)),(9,vN ps.length),(10,vN j),(11,vb (decide ((j:Int)<(ps.length:Int))))] h fun a w h=>?_;refine qW ?_;refine zag ((j:Int)<(ps.length:Int)) h (fun hc1 hc1'=>?_) (fun hc2 hc2'=>?_)
 ·refine qU (za0 (qW (qZ ?_)));obtain ⟨x1,hx1⟩:=gl ps j;refine Jq 2 [(0,.g (xD 12 8 kn_10 (za4 hx1 (f:=zal.d)) (cV 10 _)))] [(3,vp 0 0),(4,vW zaa),(5,vO 1 ((ps.take j).map (fun p=>zak p x)).length),(7,vp 2 0),(8,vS 9 (ps.map zal.d)),(9,vN ps.length),(10,vN j)] [(0,.box [cIs x.locs,cZs x.vals]),(1,.row 4 1 (((ps.take j).map (fun p=>zak p x)).map za3)),(2,.box ([cB x1.at_,cI x1.proc,cI x1.loc,cI x1.f.kind,cPs x1.f.r.t.parts]++zi x1.f.r.t.k++[cB x1.f.r.eq,cFs x1.f.kids]))] h fun a w h=>?_;refine Jn 3 [(3,.call (SholdsP x1 x hL (hps x1 (lM hx1)) hx)),(4,.g (bD 18 ([zak x1 x].map za3) [(17,vb (zak x1 x))] zjk (.cons (i:=0) (cV 17 _) (.nil)) (by kernel_rfl) (by simp [za3]))),(5,.g (aD 19 14 18 1 3 ((ps.take j).map (fun p=>zak p x)) [zak x1 x] za3 kn_13 (by simp [za3])))] [(3,vp 0 0),(4,vW zaa),(5,vO 3 (((ps.take j).map (fun p=>zak p x))++[zak x1 x]).length),(8,vS 9 (ps.map zal.d)),(9,vN ps.length),(10,vN j)] [(0,.box [cIs x.locs,cZs x.vals]),(3,.row 4 1 ((((ps.take j).map (fun p=>zak p x))++[zak x1 x]).map za3))] h fun a w h=>?_;refine za5 (za0 (Jl 4 [(0,.j1 j)] [(3,vp 0 0),(4,vW zaa),(5,vO 3 (((ps.take j).map (fun p=>zak p x))++[zak x1 x]).length),(8,vS 9 (ps.map zal.d)),(9,vN ps.length),(10,vI ((j:Int)+1))] h fun a w h=>?_));refine za0 ?_;rw [show ((((ps.take j).map (fun p=>zak p x))++[zak x1 x]):List Bool)=((ps.take (j+1)).map (fun p=>zak p x)) from (by rw [<- zgh hx1])] at h;replace h:=renS 3 1 [(3,vp 0 0),(4,vW zaa),(5,vO 1 ((ps.take (j+1)).map (fun p=>zak p x)).length),(8,vS 9 (ps.map zal.d)),(9,vN ps.length),(10,vI ((j:Int)+1))] [(0,.box [cIs x.locs,cZs x.vals]),(1,.row 4 1 (((ps.take (j+1)).map (fun p=>zak p x)).map za3))] h;refine za9 (x:=j) (y:=j+1) h ?_ ?_
  ·have:=zac hx1;show j+1<=ps.length;omega
  show ps.length - (j+1)<ps.length - j;have:=zac hx1;omega
 refine exA (Jq 4 [] [(4,vO 1 ((ps.take j).map (fun p=>zak p x)).length)] [(1,.row 4 1 (((ps.take j).map (fun p=>zak p x)).map za3))] h fun a w h=>?_);refine qV ?_;rw [show (((ps.take j).map (fun p=>zak p x)):List Bool)=(ps.map (fun p=>zak p x)) from (by rw [bR (by omega)])] at h;replace h:=pubS 1 1 4 ((ps.map (fun p=>zak p x)).map za3) [(4,vS 1 ((ps.map (fun p=>zak p x)).map za3))] [] h rfl (show zeu _ [(ps.map (fun p=>zak p x)).length] from ⟨by first | exact (bH _).symm | (simp;done) | (simp;omega),trivial⟩) trivial;refine rT (.c (.d (.sl 1 ((ps.map (fun p=>zak p x)).map za3)))) h rfl ?_;rfl
theorem SRmove (c:zb1) (v:Nat) (hl:c.moves.length<=20):Fn cT 46 [] [vG (acC c),vN v] (vI (zcn (fun m=>m.v == (v:Int)) c.moves 0)) []:=by
 refine fB Tryz.func46 rfl 22 fun w H B a h=>Jq 0 [] [(1,vN v),(2,vp 0 0),(4,vI 0)] [(0,.box (acC c))] h fun a w h=>qW (Je 1 [] [] [(5,vI 0)] h fun a w h=>qZ ?_)
 refine zcc (ι:=(Nat)) (fun j=>j<=c.moves.length/\zcn (fun m=>m.v == (v:Int)) c.moves 0=zcn (fun m=>m.v == (v:Int)) (c.moves.drop j) j)
   [4] (fun j=>[(5,vN j)])
   [] (fun j=>[])
   (fun j=>c.moves.length - j) 0 ?_ h ?_
 ·exact ⟨bG _,rfl⟩
 clear h;rintro j a w hI h;obtain ⟨hI1,hI2⟩:=hI;refine qW (Je 1 [(3,.len (za1 5 zan.d c.moves))] [] [(10,vb (decide ((j:Int)<(c.moves.length:Int))))] h fun a w h=>zag ((j:Int)<(c.moves.length:Int)) h (fun hc1 hc1'=>?_) (fun hc4 hc4'=>?_))
 ·refine qU (za0 (qW (qZ ?_)));obtain ⟨x1,hx1⟩:=gl c.moves j;refine Je 1 [(3,.g (xD 16 14 ki_2 (za4 hx1 (f:=zan.d)) (cV 15 _)))] [10] [(20,vb (x1.v == (v:Int)))] h fun a w h=>cS (x1.v == (v:Int)) h (fun hc2=>?_) (fun hc3=>?_)
  ·refine Je 1 [] [20] [(4,vN j)] h fun a w h=>qV (za6 (za2 (za2 (za6 (za2 (rT (.c (cI (j:Int))) h rfl ?_))))));have hz:zcn (fun m=>m.v == (v:Int)) c.moves 0=(j:Int):=by rw [hI2,zci hx1,if_pos hc2]
   rw [hz];try rfl
  refine qU (za5 (za0 (Jf 1 [(1,.j1 j)] [20] [(5,vI ((j:Int)+1))] h fun a w h=>za0 (za9 (x:=j) (y:=j+1) h ?_ ?_))))
  ·exact ⟨by have:=zac hx1;omega,by rw [hI2,zci hx1,if_neg (by rw [hc3];exact Bool.noConfusion)]⟩
  show c.moves.length - (j+1)<c.moves.length - j;have:=zac hx1;omega
 refine exA (Jq 1 [] [(4,vI (-1))] [] h fun a w h=>qV (rT (.c (cI (-1))) h rfl ?_));have hz:zcn (fun m=>m.v == (v:Int)) c.moves 0=-1:=by rw [hI2,bL (by omega)];rfl
 rw [hz];try rfl
theorem there_no {s:zab} (h1:decide (m.v<0)=false) (h2:decide (m.v>=(s.vars.length:Int))=false):(!zex s m)=false:=by
 have:=of_decide_eq_false h1;have:=of_decide_eq_false h2
 unfold zex;rw [decide_eq_true (by omega),decide_eq_true (by omega)];rfl
theorem there_lo {s:zab} (h1:decide (m.v<0)=true):(!zex s m)=true:=by
 have:=of_decide_eq_true h1;unfold zex;rw [decide_eq_false (by omega)];rfl
theorem there_hi {s:zab} (h2:decide (m.v>=(s.vars.length:Int))=true):(!zex s m)=true:=by
 have:=of_decide_eq_true h2;unfold zex;rw [decide_eq_false (p:=m.v<(s.vars.length:Int)) (by omega),bM];rfl
theorem SRbeginsN (s:zab) (x:StD) (i:Int) {L:Nat} (hL:L+M<=4000) (hs:zaw L s) (hx:zdh M x) (hi:zf8 s i=none):Fn cT 45 [] [vG (zat s),vG [cIs x.locs,cZs x.vals],vI i] (vb false) []:=by
 refine fB Tryz.func45 rfl 100 fun w H B a h=>Jq 0 [] [(2,vI i),(3,vp 0 0),(4,vp 1 0),(6,vb false)] [(0,.box (zat s)),(1,.box [cIs x.locs,cZs x.vals])] h fun a w h=>qW ?_
 rcases bF (decide (i<0)) with hc1 | hc2
 ·have hc1':=dT hc1;refine Je 2 [(1,.cmp (op:=.lss) (m:=i) (n:=0) (b:=true) .i64 hc1)] [] [(23,vb true)] h fun a w h=>cS true h (fun _=>?_) nofun
  refine Je 2 [] [23] [] h fun a w h=>qV (za2 (rT (.c (cB false)) h rfl ?_));rfl
 have hc2':=dF hc2;refine Je 2 [(1,.cmp (op:=.lss) (m:=i) (n:=0) (b:=false) .i64 hc2),(6,.len (za1 10 zb1.d s.acts)),(7,.cmp (op:=.geq) (m:=i) (n:=(s.acts.length:Int)) (b:=true) .i64 (decide_eq_true (by have:=actAt_none hi;have:=dF hc2;omega)))] [] [(23,vb true)] h fun a w h=>cS true h (fun _=>?_) nofun
 refine Je 2 [] [23] [] h fun a w h=>qV (za2 (rT (.c (cB false)) h rfl ?_));rfl
theorem zj2 (s:zab) (x:StD) (ki:Nat) (c:zb1) {L:Nat} (hL:L+M<=4000) (hs:zaw L s) (hx:zdh M x) (hka:s.acts[ki]?=some c):Fn cT 45 [] [vG (zat s),vG [cIs x.locs,cZs x.vals],vN ki] (vb (zad s x c)) []:=by
 have lx1:=hx.locs;have lx2:=hx.vals;have ls1:=hs.vars;have ls2:=hs.procs;have lki:=zac hka;have hc:zi3 L c:=hs.act c (lM hka);have lmv:=hc.len;refine fB Tryz.func45 rfl 100 fun w H B a h=>Jq 0 [] [(2,vN ki),(3,vp 0 0),(4,vp 1 0),(6,vb false)] [(0,.box (zat s)),(1,.box [cIs x.locs,cZs x.vals])] h fun a w h=>qW (Je 2 [(1,.cmp (op:=.lss) (m:=(ki:Int)) (n:=0) (b:=false) .i64 (show (decide ((ki:Int)<0))=false from decide_eq_false (by omega))),(6,.len (za1 10 zb1.d s.acts)),(7,.cmp (op:=.geq) (m:=(ki:Int)) (n:=(s.acts.length:Int)) (b:=false) .i64 (show (decide ((ki:Int)>=(s.acts.length:Int)))=false from decide_eq_false (by omega))),(12,.call (SRFits s x (L:=L) (M:=M) (by omega) hs hx))] [] [(23,vb (!(zbk s x)))] h fun a w h=>cS (!(zbk s x)) h (fun hc1=>?_) (fun hc2=>?_))
 ·refine Je 2 [] [23] [] h fun a w h=>qV (za2 (rT (.c (cB false)) h rfl ?_));have hz:zad s x c=false:=by unfold zad;rw [(show (zbk s x)=false from by simpa using hc1)];rfl
  rw [hz];try rfl
 refine qU (za0 (Jg 2 [(3,.g (xD 27 25 ki_1 (za4 hka (f:=zb1.d)) (cV 26 _)))] [2,23] [(7,vp 2 0)] [] [(2,.box ([cI c.proc,cI c.from_,cI c.to_,cI c.guard.kind,cPs c.guard.r.t.parts]++zi c.guard.r.t.k++[cB c.guard.r.eq,cFs c.guard.kids,.d (.sl 5 (c.moves.map zan.d))]))] h fun a w h=>qW ?_))
 rcases bF (decide (c.proc<0)) with hc3 | hc4
 ·have hc3':=dT hc3;refine Je 3 [(2,.cmp (op:=.lss) (m:=c.proc) (n:=0) (b:=true) .i64 hc3)] [] [(68,vb true)] h fun a w h=>cS true h (fun _=>?_) nofun
  refine Je 3 [] [68] [] h fun a w h=>qV (za2 (rT (.c (cB false)) h rfl ?_));have hz:zad s x c=(false):=by unfold zad;rw [(show (zbk s x)=true from by simpa using hc2),bE];rw [decide_eq_false (p:=0<=c.proc/\c.proc<(s.procs.length:Int)) (by have:=dT hc3;omega)];rfl
  rw [hz];try rfl
 have hc4':=dF hc4
 rcases bF (decide (c.proc>=(s.procs.length:Int))) with hc5 | hc6
 ·have hc5':=dT hc5;refine Je 3 [(2,.cmp (op:=.lss) (m:=c.proc) (n:=0) (b:=false) .i64 hc4),(8,.len (za1 3 zb2.d s.procs)),(9,.cmp (op:=.geq) (m:=c.proc) (n:=(s.procs.length:Int)) (b:=true) .i64 hc5)] [] [(68,vb true)] h fun a w h=>cS true h (fun _=>?_) nofun
  refine Je 3 [] [68] [] h fun a w h=>qV (za2 (rT (.c (cB false)) h rfl ?_));have hz:zad s x c=(false):=by unfold zad;rw [(show (zbk s x)=true from by simpa using hc2),bE];rw [decide_eq_false (p:=0<=c.proc/\c.proc<(s.procs.length:Int)) (by have:=dT hc5;omega)];rfl
  rw [hz];try rfl
 have hc6':=dF hc6;have hfl:=zcr (show (zbk s x)=true from by simpa using hc2);obtain ⟨k,hkk⟩:∃ k_:Nat,c.proc=(k_:Int):=⟨_,(bV (by have:=dF hc4;omega)).symm⟩;replace h:=cvM [] [] [] [(2,.box ([cI (k:Int),cI c.from_,cI c.to_,cI c.guard.kind,cPs c.guard.r.t.parts]++zi c.guard.r.t.k++[cB c.guard.r.eq,cFs c.guard.kids,.d (.sl 5 (c.moves.map zan.d))]))] (by rw [hkk]; try kernel_rfl) h;obtain ⟨x2,hx2⟩:=gl x.locs k
 rcases bF (x2 != c.from_) with hc7 | hc8
 ·refine Jg 3 [(2,.cmp (op:=.lss) (m:=(k:Int)) (n:=0) (b:=false) .i64 (show (decide ((k:Int)<0))=false from by rw [<- hkk];exact hc4)),(8,.len (za1 3 zb2.d s.procs)),(9,.cmp (op:=.geq) (m:=(k:Int)) (n:=(s.procs.length:Int)) (b:=false) .i64 (show (decide ((k:Int)>=(s.procs.length:Int)))=false from by rw [<- hkk];exact hc6)),(16,.g (xD 45 42 zdj (za4 hx2 (f:=za8)) (cV 44 _))),(20,.cmp (op:=.neq) (m:=x2) (n:=c.from_) (b:=true) .i64 hc7)] [] [(68,vb true)] [] [] h fun a w h=>cS true h (fun _=>?_) nofun
  refine Je 3 [] [68] [] h fun a w h=>qV (za2 (rT (.c (cB false)) h rfl ?_));have hz:zad s x c=(false):=by unfold zad;rw [(show (zbk s x)=true from by simpa using hc2),bE];rw [decide_eq_true (p:=0<=c.proc/\c.proc<(s.procs.length:Int)) (by have:=dF hc4;have:=dF hc6;omega),show c.proc.toNat=k by omega,hx2,bK,bE];rw [show (x2 == c.from_)=false by have:=hc7;simpa using this];rfl
  rw [hz];try rfl
 rcases bF (decide (c.to_<0)) with hc9 | hc10
 ·have hc9':=dT hc9;refine Jg 3 [(2,.cmp (op:=.lss) (m:=(k:Int)) (n:=0) (b:=false) .i64 (show (decide ((k:Int)<0))=false from by rw [<- hkk];exact hc4)),(8,.len (za1 3 zb2.d s.procs)),(9,.cmp (op:=.geq) (m:=(k:Int)) (n:=(s.procs.length:Int)) (b:=false) .i64 (show (decide ((k:Int)>=(s.procs.length:Int)))=false from by rw [<- hkk];exact hc6)),(16,.g (xD 45 42 zdj (za4 hx2 (f:=za8)) (cV 44 _))),(20,.cmp (op:=.neq) (m:=x2) (n:=c.from_) (b:=false) .i64 hc8),(25,.cmp (op:=.lss) (m:=c.to_) (n:=0) (b:=true) .i64 hc9)] [] [(68,vb true)] [] [] h fun a w h=>cS true h (fun _=>?_) nofun
  refine Je 3 [] [68] [] h fun a w h=>qV (za2 (rT (.c (cB false)) h rfl ?_));have hz:zad s x c=(false):=by unfold zad;rw [(show (zbk s x)=true from by simpa using hc2),bE];rw [decide_eq_true (p:=0<=c.proc/\c.proc<(s.procs.length:Int)) (by have:=dF hc4;have:=dF hc6;omega),show c.proc.toNat=k by omega,hx2,bK,bE];rw [show (x2 == c.from_)=true by have:=hc8;simpa using this,bE];rw [decide_eq_false (by have:=dT hc9;omega)];rfl
  rw [hz];try rfl
 have hc10':=dF hc10;obtain ⟨x3,hx3⟩:=gl s.procs k;refine Jg 3 [(2,.cmp (op:=.lss) (m:=(k:Int)) (n:=0) (b:=false) .i64 (show (decide ((k:Int)<0))=false from by rw [<- hkk];exact hc4)),(8,.len (za1 3 zb2.d s.procs)),(9,.cmp (op:=.geq) (m:=(k:Int)) (n:=(s.procs.length:Int)) (b:=false) .i64 (show (decide ((k:Int)>=(s.procs.length:Int)))=false from by rw [<- hkk];exact hc6)),(16,.g (xD 45 42 zdj (za4 hx2 (f:=za8)) (cV 44 _))),(20,.cmp (op:=.neq) (m:=x2) (n:=c.from_) (b:=false) .i64 hc8),(25,.cmp (op:=.lss) (m:=c.to_) (n:=0) (b:=false) .i64 hc10),(34,.g (xD 63 60 kf_5 (za4 hx3 (f:=zb2.d)) (cV 62 _))),(37,.len (za1 1 zdz x3.locs))] [] [(68,vb (decide (c.to_>=(x3.locs.length:Int))))] [] [] h fun a w h=>zag (c.to_>=(x3.locs.length:Int)) h (fun hc11 hc11'=>?_) (fun hc12 hc12'=>?_)
 ·refine Je 3 [] [68] [] h fun a w h=>qV (za2 (rT (.c (cB false)) h rfl ?_));have hz:zad s x c=(false):=by unfold zad;rw [(show (zbk s x)=true from by simpa using hc2),bE];rw [decide_eq_true (p:=0<=c.proc/\c.proc<(s.procs.length:Int)) (by have:=dF hc4;have:=dF hc6;omega),show c.proc.toNat=k by omega,hx2,bK,bE];rw [show (x2 == c.from_)=true by have:=hc8;simpa using this,bE];rw [show zeb s k=x3.locs.length by unfold zeb;rw [hx3];rfl];rw [decide_eq_false (by have:=dT hc11;omega)];rfl
  rw [hz];try rfl
 refine qU (za0 (qW (Je 3 [] [68] [(8,vI 0)] h fun a w h=>qZ ?_)))
 refine zcc (ι:=(Nat)) (fun j=>j<=c.moves.length/\(c.moves.take j).any (fun m=>!zex s m)=false)
   [6] (fun j=>[(8,vN j)])
   [] (fun j=>[])
   (fun j=>c.moves.length - j) 0 ?_ h ?_
 ·exact ⟨bG _,rfl⟩
 clear h;rintro j a w hI h;obtain ⟨hI1,hI2⟩:=hI;refine qW (Je 3 [(3,.len (za1 5 zan.d c.moves))] [] [(73,vb (decide ((j:Int)<(c.moves.length:Int))))] h fun a w h=>zag ((j:Int)<(c.moves.length:Int)) h (fun hc13 hc13'=>?_) (fun hc18 hc18'=>?_))
 ·refine qU (za0 (qW (qZ ?_)));obtain ⟨x4,hx4⟩:=gl c.moves j
  rcases bF (decide (x4.v<0)) with hc14 | hc15
  ·have hc14':=dT hc14;refine Je 3 [(3,.g (xD 79 77 ki_2 (za4 hx4 (f:=zan.d)) (cV 78 _))),(6,.cmp (op:=.lss) (m:=x4.v) (n:=0) (b:=true) .i64 hc14)] [73] [(94,vb true)] h fun a w h=>cS true h (fun _=>?_) nofun
   refine Je 3 [] [94] [(6,vb false)] h fun a w h=>qV (za6 (za2 (za2 (za6 (za2 (rT (.c (cB false)) h rfl ?_))))));have hz:zad s x c=(false):=by unfold zad;rw [(show (zbk s x)=true from by simpa using hc2),bE];rw [decide_eq_true (p:=0<=c.proc/\c.proc<(s.procs.length:Int)) (by have:=dF hc4;have:=dF hc6;omega),show c.proc.toNat=k by omega,hx2,bK,bE];rw [show (x2 == c.from_)=true by have:=hc8;simpa using this,bE];rw [show zeb s k=x3.locs.length by unfold zeb;rw [hx3];rfl];rw [decide_eq_true (p:=0<=c.to_/\c.to_<(x3.locs.length:Int)) (by have:=dF hc10;have:=dF hc12;omega),bE,(zl7 (q:=(fun m=>!zex s m)) hx4 (there_lo hc14))];rfl
   rw [hz];try rfl
  have hc15':=dF hc15;refine Je 3 [(3,.g (xD 79 77 ki_2 (za4 hx4 (f:=zan.d)) (cV 78 _))),(6,.cmp (op:=.lss) (m:=x4.v) (n:=0) (b:=false) .i64 hc15),(11,.g (xD 87 85 ki_2 (za4 hx4 (f:=zan.d)) (cV 86 _))),(16,.len (za1 1 zdz s.vars))] [73] [(94,vb (decide (x4.v>=(s.vars.length:Int))))] h fun a w h=>zag (x4.v>=(s.vars.length:Int)) h (fun hc16 hc16'=>?_) (fun hc17 hc17'=>?_)
  ·refine Je 3 [] [94] [(6,vb false)] h fun a w h=>qV (za6 (za2 (za2 (za6 (za2 (rT (.c (cB false)) h rfl ?_))))));have hz:zad s x c=(false):=by unfold zad;rw [(show (zbk s x)=true from by simpa using hc2),bE];rw [decide_eq_true (p:=0<=c.proc/\c.proc<(s.procs.length:Int)) (by have:=dF hc4;have:=dF hc6;omega),show c.proc.toNat=k by omega,hx2,bK,bE];rw [show (x2 == c.from_)=true by have:=hc8;simpa using this,bE];rw [show zeb s k=x3.locs.length by unfold zeb;rw [hx3];rfl];rw [decide_eq_true (p:=0<=c.to_/\c.to_<(x3.locs.length:Int)) (by have:=dF hc10;have:=dF hc12;omega),bE,(zl7 (q:=(fun m=>!zex s m)) hx4 (there_hi hc16))];rfl
   rw [hz];try rfl
  refine qU (za5 (za0 (Jf 3 [(1,.j1 j)] [94] [(8,vI ((j:Int)+1))] h fun a w h=>za0 (za9 (x:=j) (y:=j+1) h ?_ ?_))))
  ·exact ⟨by have:=zac hx4;omega,any_step hx4 hI2 (there_no hc15 hc17)⟩
  show c.moves.length - (j+1)<c.moves.length - j;have:=zac hx4;omega
 refine exA (Jq 3 [(4,.call (SRHolds x.vals (L:=L) (M:=M) (by omega) hx.vok c.guard hc.guard.1 hc.guard.2))] [(6,vb (za7.holds x.vals c.guard))] [] h fun a w h=>qV (rT (.c (cB (za7.holds x.vals c.guard))) h rfl ?_));have hz:zad s x c=(za7.holds x.vals c.guard):=by unfold zad;rw [(show (zbk s x)=true from by simpa using hc2),bE];rw [decide_eq_true (p:=0<=c.proc/\c.proc<(s.procs.length:Int)) (by have:=dF hc4;have:=dF hc6;omega),show c.proc.toNat=k by omega,hx2,bK,bE];rw [show (x2 == c.from_)=true by have:=hc8;simpa using this,bE];rw [show zeb s k=x3.locs.length by unfold zeb;rw [hx3];rfl];rw [decide_eq_true (p:=0<=c.to_/\c.to_<(x3.locs.length:Int)) (by have:=dF hc10;have:=dF hc12;omega),bE,(any_end (q:=(fun m=>!zex s m)) (dF hc18) hI2)];rfl
 rw [hz];try rfl
theorem range_keep {f:Nat->α} {cl:List α} {y:α} (hj:cl[j]?=some y) (hy:y=f j):(bC j).map f++cl.drop j=(bC (j+1)).map f++cl.drop (j+1):=by
 obtain ⟨hlt,rfl⟩:=b7.1 hj
 rw [b8 hlt,hy,List.range_succ,b9,List.append_assoc];rfl
theorem newV_at {c:zb1} {p:ZI} (h:zax c v=true) (hp:picks[zah c v]?=some p):zca x c picks v=ZI.of p.val:=by unfold zca;rw [if_pos h,hp]
theorem newV_no {c:zb1} (h:zax c v=true) (hp:¬ ((zah c v:Nat):Int)<(picks.length:Int)):zca x c picks v=zdi:=by unfold zca;rw [if_pos h,bX (by omega)]
theorem zcj {c:zb1} {b:Bool} (hm:zkm c v=some m) (h:m.any=b):zax c v=b:=by unfold zax;rw [hm];exact h
theorem zh8 {c:zb1} (hm:zkm c v=none):zax c v=false:=by unfold zax;rw [hm]
theorem new_some {c:zb1} (hm:zkm c v=some m) (h:m.any=false):zbx x c v=ZI.of (valT m.t x.vals):=by unfold zbx;rw [hm];simp only;rw [if_neg (by rw [h];exact Bool.noConfusion)]
theorem new_none {c:zb1} {z:ZI} (hm:zkm c v=none) (hz:x.vals[v]?=some z):zbx x c v=clZ z:=by unfold zbx;rw [hm,hz];rfl
theorem cnt_le (c:zb1):∀ v,zah c v<=v
 | 0=>bJ _
 | v+1=>by rw [zah];have:=cnt_le c v;split <;> omega
theorem SRGo3 (s:zab) (x:StD) (ki:Nat) (picks:List ZI) (c:zb1) {L:Nat} (hL:L+M<=4000) (hs:zaw L s) (hx:zdh M x) (hp:∀ z ∈ picks,ZOk M z) (hka:s.acts[ki]?=some c) (hpl:picks.length<=9223372036854775807):Fn cT 131 [] [vG (zat s),vG [cIs x.locs,cZs x.vals],vN ki,(vZs picks)] (.tup [.agg [cIs (goC s x c picks).1.locs,cZs (goC s x c picks).1.vals],.c (cB (goC s x c picks).2)]) []:=by
 have lx1:=hx.locs;have lx2:=hx.vals;have ls1:=hs.vars;have ls2:=hs.procs;have lki:=zac hka;have hc:zi3 L c:=hs.act c (lM hka);have lmv:=hc.len;have lvv:=hx.vals;refine fB Tryz.func131 rfl 139 fun w H B a h=>Jq 5 [] [(2,vN ki),(3,(vZs picks)),(4,vp 5 0),(5,vp 6 0),(8,vp 7 0),(9,vb false)] [(5,.box (zat s)),(6,.box [cIs x.locs,cZs x.vals]),(7,.box [nCl,nCl])] h fun a w h=>Jg 8 [] [] [(10,vp 8 0)] [] [(8,.box [nCl,nCl])] h fun a w h=>qW ?_
 replace h:=zh4 8 0 9 1 3 [nCl,nCl] h;replace h:=zh4 8 1 10 2 28 [.own 9 0,nCl] h;refine Je 11 [] [] [(11,vI 0)] h fun a w h=>qZ ?_
 refine zcc (ι:=(Nat)) (fun j=>j<=x.locs.length)
   [] (fun j=>[(11,vN j)])
   [] (fun j=>[(8,.box [.own 9 (x.locs.take j).length,.own 10 0]),(9,.row 3 1 ((x.locs.take j).map za8))])
   (fun j=>x.locs.length - j) 0 ?_ h ?_
 ·exact bG _
 clear h;rintro j a w hI h;refine qW (Je 11 [(3,.len (za1 1 za8 x.locs))] [] [(22,vb (decide ((j:Int)<(x.locs.length:Int))))] h fun a w h=>zag ((j:Int)<(x.locs.length:Int)) h (fun hc1 hc1'=>?_) (fun hc2 hc2'=>?_))
 ·refine qU (za0 (qW (qZ ?_)));obtain ⟨x1,hx1⟩:=gl x.locs j;refine Jh 11 [(5,.g (xD 30 28 zdj (za4 hx1 (f:=za8)) (cV 29 _))),(7,.g (bD 32 ([x1].map za8) [(31,vI x1)] tb_0 (.cons (i:=0) (cV 31 _) (.nil)) (by kernel_rfl) (by simp [za8]))),(8,.g (aD 33 26 32 9 11 (x.locs.take j) [x1] za8 tb_2 (by simp [za8])))] [22] [] [9] [(8,.box ([.own 11 ((x.locs.take j)++[x1]).length,.own 10 0])),(11,.row 3 1 (((x.locs.take j)++[x1]).map za8))] h fun a w h=>za5 (za0 (Jf 12 [(1,.j1 j)] [] [(11,vI ((j:Int)+1))] h fun a w h=>za0 ?_));rw [show (((x.locs.take j)++[x1]):List Int)=(x.locs.take (j+1)) from (by rw [bU,hx1];rfl)] at h;replace h:=zd8 11 9 h;refine za9 (x:=j) (y:=j+1) h ?_ ?_
  ·show j+1<=x.locs.length;omega
  show x.locs.length - (j+1)<x.locs.length - j;omega
 refine exA (qW ?_);rw [show ((x.locs.take j):List Int)=x.locs from (by rw [bR (by omega)])] at h;refine Jp 12 [] [(2,vN ki),(3,(vZs picks)),(4,vp 5 0),(5,vp 6 0),(8,vp 7 0),(9,vb false),(10,vp 8 0),(12,vI 0)] h fun a w h=>qZ ?_
 refine loopS (ι:=(Nat)) (fun i=>i<=x.vals.length)
   (fun i=>[(2,vN ki),(3,(vZs picks)),(4,vp 5 0),(5,vp 6 0),(8,vp 7 0),(9,vb false),(10,vp 8 0),(12,vN i)])
   (fun i=>[(5,.box (zat s)),(6,.box [cIs x.locs,cZs x.vals]),(7,.box [nCl,nCl]),(8,.box [.own 9 x.locs.length,.own 10 ((x.vals.take i).map clZ).length]),(9,.row 3 1 (x.locs.map za8)),(10,.row 28 2 (((x.vals.take i).map clZ).map ziD))])
   (fun i=>x.vals.length - i) 0 ?_ h (by kernel_rfl) (by kernel_rfl) ?_
 ·exact bG _
 clear h;rintro i a w hI h;refine qW (Je 12 [(3,.len (za1 2 ziD x.vals))] [] [(39,vb (decide ((i:Int)<(x.vals.length:Int))))] h fun a w h=>zag ((i:Int)<(x.vals.length:Int)) h (fun hc3 hc3'=>?_) (fun hc4 hc4'=>?_))
 ·refine qU (za0 (qW (qZ ?_)));obtain ⟨x2,hx2⟩:=gl x.vals i;have gx2:=hx.val x2 (lM hx2);have lgx2:=gx2.2;obtain ⟨r3,er3,vr3,or3,lr3⟩:=mkZ (v:=x2.val) (m:=M) (bI (zhu gx2.1) gx2.2);refine Jh 12 [(5,.g (xD 47 45 zi8 (za4 hx2 (f:=ziD)) (cV 46 _))),(7,.call (cU ((show Fn _ _ _ _ (vz (ZI.of x2.val)) _ from SRClean x2 gx2.1 (by omega))) (congrArg vz er3.symm))),(8,.g (bD 50 ([r3].map ziD) [(49,vz r3)] kk_3 (.cons (i:=0) (cV 49 _) (.nil)) (by kernel_rfl) (by simp [ziD]))),(9,.g (aD 51 43 50 10 12 ((x.vals.take i).map clZ) [r3] ziD kk_4 (by simp [ziD])))] [39] [] [10] [(8,.box ([.own 9 x.locs.length,.own 12 (((x.vals.take i).map clZ)++[r3]).length])),(12,.row 28 2 ((((x.vals.take i).map clZ)++[r3]).map ziD))] h fun a w h=>za5 (za0 (Jf 13 [(1,.j1 i)] [] [(12,vI ((i:Int)+1))] h fun a w h=>za0 ?_));rw [show ((((x.vals.take i).map clZ)++[r3]):List ZI)=((x.vals.take (i+1)).map clZ) from (by rw [<- zgh hx2];congr 1;simp [clZ, *])] at h;replace h:=zd8 12 10 h;refine za9 (x:=i) (y:=i+1) h ?_ ?_
  ·show i+1<=x.vals.length;omega
  show x.vals.length - (i+1)<x.vals.length - i;omega
 refine exA (qW ?_);rw [show (((x.vals.take i).map clZ):List ZI)=(x.vals.map clZ) from (by rw [bR (by omega)])] at h;refine Jp 13 [(1,.cmp (op:=.eql) (m:=(ki:Int)) (n:=(-1)) (b:=false) .i64 (beq_eq_false_iff_ne.2 (by omega)))] [(2,vN ki),(3,(vZs picks)),(4,vp 5 0),(5,vp 6 0),(8,vp 7 0),(9,vb false),(10,vp 8 0),(54,vb false)] h fun a w h=>zbs h (qU (za0 (qW (Je 13 [(3,.call (zj2 s x ki c hL hs hx hka))] [54] [(64,vb (!(zad s x c)))] h fun a w h=>cS (!(zad s x c)) h (fun hc5=>?_) (fun hc6=>?_)))))
 ·refine Je 13 [] [64] [] h fun a w h=>qV (za2 ?_);replace h:=zb7 7 0 1 [nCl,nCl] h;replace h:=zb7 7 1 2 [cIs [],nCl] h;refine zdp [.agg [cIs [],cZs []],.c (cB false)] h Exit.ret (.inl rfl)  rfl ⟨RV.agg _ 7 0 _ _ _ _ kk_5 rfl rfl rfl rfl,vT9,trivial⟩ ?_;have hz:goC s x c picks=(st0,false):=by unfold goC;rw [if_neg (fun h=>by have:=h.1;rw [(show (zad s x c)=false from by simpa using hc5)] at this;cases this)]
  rw [hz];try rfl
 refine qU (za0 (Jd 13 [(3,.g (xD 69 67 ki_1 (za4 hka (f:=zb1.d)) (cV 68 _)))] [2,64] [(13,vp 13 0)] [(5,.box (zat s)),(6,.box [cIs x.locs,cZs x.vals]),(7,.box [nCl,nCl]),(8,.box [.own 9 x.locs.length,.own 10 (x.vals.map clZ).length]),(9,.row 3 1 (x.locs.map za8)),(10,.row 28 2 ((x.vals.map clZ).map ziD)),(13,.box ([cI c.proc,cI c.from_,cI c.to_,cI c.guard.kind,cPs c.guard.r.t.parts]++zi c.guard.r.t.k++[cB c.guard.r.eq,cFs c.guard.kids,.d (.sl 5 (c.moves.map zan.d))]))] h fun a w h=>?_));have hen:=(show (zad s x c)=true from by simpa using hc6);have hfl:=zcr (zck hen);have hpr:=zee hen;obtain ⟨k0,hkk0⟩:∃ k_:Nat,c.proc=(k_:Int):=⟨_,(bV (by omega)).symm⟩;replace h:=cvM [] [] [] [(13,.box ([cI (k0:Int),cI c.from_,cI c.to_,cI c.guard.kind,cPs c.guard.r.t.parts]++zi c.guard.r.t.k++[cB c.guard.r.eq,cFs c.guard.kids,.d (.sl 5 (c.moves.map zan.d))]))] (by rw [hkk0]; try kernel_rfl) h;obtain ⟨x5,hx5⟩:=gl x.locs k0;refine Jg 14 [(6,.g (xO 77 72 9 x.locs.length k0 zdj (cV 74 _))),(7,.g (Op.storeR (t:=77) (n:=9) (i:=k0) (fo:=0) (rty:=3) (es:=1) (r:=za8 x5) (ds:=[.raw (.int .i64 c.to_)]) (rs:=[(76,vI c.to_)]) (rows:=x.locs.map za8) (rows':=(x.locs.set k0 c.to_).map za8) tl_7 (cV 76 _) rfl rfl rfl (za4 hx5 (f:=za8)) (by simp [za8]) (zc9 (xs:=x.locs) (F:=za8) k0 _ _ rfl)))] [] [] [] [(9,.row 3 1 ((x.locs.set k0 c.to_).map za8))] h fun a w h=>?_;replace h:=cvM [] [] [] [(13,.box ([cI c.proc,cI c.from_,cI c.to_,cI c.guard.kind,cPs c.guard.r.t.parts]++zi c.guard.r.t.k++[cB c.guard.r.eq,cFs c.guard.kids,.d (.sl 5 (c.moves.map zan.d))]))] (by rw [hkk0]; try kernel_rfl) h;refine Jg 14 [] [] [(14,vI 0)] [] [] h fun a w h=>qW (Je 14 [] [] [(15,vI 0)] h fun a w h=>qZ ?_)
 refine zcc (ι:=(Nat)) (fun j=>j<=x.vals.length)
   [] (fun j=>[(14,vI ((zah c j:Nat):Int)),(15,vN j)])
   [] (fun j=>[(10,.row 28 2 (((bC j).map (zca x c picks)++(x.vals.map clZ).drop j).map ziD))])
   (fun j=>x.vals.length - j) 0 ?_ h ?_
 ·exact bG _
 clear h;rintro j a w hI h;have hrl:=range_len (f:=(zca x c picks)) (cl:=(x.vals.map clZ)) (j:=j) (by rw [bH];omega);rw [bH] at hrl;have hcf:=cnt_le c j;refine qW (Je 14 [(3,.len (za1 2 ziD x.vals))] [] [(82,vb (decide ((j:Int)<(x.vals.length:Int))))] h fun a w h=>zag ((j:Int)<(x.vals.length:Int)) h (fun hc7 hc7'=>?_) (fun hc12 hc12'=>?_))
 ·refine qU (za0 (qW (qZ ?_)))
  rcases zg3 (fun m=>m.v == (j:Int)) c.moves with ⟨hix,hm⟩ | ⟨k,m,hix,hmk,hm⟩
  ·replace hm:zkm c j=none:=hm;refine Jq 14 [(2,.call (cU (SRmove c j lmv) (congrArg (vi .i64) hix)))] [(3,(vZs picks)),(4,vp 5 0),(5,vp 6 0),(8,vp 7 0),(9,vb false),(10,vp 8 0),(13,vp 13 0),(14,vI ((zah c j:Nat):Int)),(15,vN j),(16,vI (-1))] [(5,.box (zat s)),(6,.box [cIs x.locs,cZs x.vals]),(7,.box [nCl,nCl]),(8,.box [.own 9 x.locs.length,.own 10 (x.vals.map clZ).length]),(9,.row 3 1 ((x.locs.set k0 c.to_).map za8)),(10,.row 28 2 (((bC j).map (zca x c picks)++(x.vals.map clZ).drop j).map ziD)),(13,.box ([cI c.proc,cI c.from_,cI c.to_,cI c.guard.kind,cPs c.guard.r.t.parts]++zi c.guard.r.t.k++[cB c.guard.r.eq,cFs c.guard.kids,.d (.sl 5 (c.moves.map zan.d))]))] h fun a w h=>Je 14 [(1,.cmp (op:=.geq) (m:=(-1)) (n:=0) (b:=false) .i64 rfl)] [] [(97,vb false)] h fun a w h=>zbs h (Je 14 [(1,.cmp (op:=.geq) (m:=(-1)) (n:=0) (b:=false) .i64 rfl)] [97] [(119,vb false)] h fun a w h=>zbs h (qU (za5 (za0 (Jf 14 [(1,.j1 j)] [16,119] [(15,vI ((j:Int)+1))] h fun a w h=>za0 ?_)))));obtain ⟨zq,hzq⟩:∃ z_:ZI,x.vals[j]?=some z_:=⟨_,List.getElem?_eq_getElem (by omega)⟩;rw [show (((bC j).map (zca x c picks)++(x.vals.map clZ).drop j):List ZI)=((bC (j+1)).map (zca x c picks)++(x.vals.map clZ).drop (j+1)) from (range_keep (za4 hzq (f:=clZ)) (by rw [zhn (zh8 hm),new_none hm hzq]))] at h;replace h:=cv (fun z_:Int=>F.of [(3,(vZs picks)),(4,vp 5 0),(5,vp 6 0),(8,vp 7 0),(9,vb false),(10,vp 8 0),(13,vp 13 0),(14,vI z_),(15,vI ((j:Int)+1))] [(5,.box (zat s)),(6,.box [cIs x.locs,cZs x.vals]),(7,.box [nCl,nCl]),(8,.box [.own 9 x.locs.length,.own 10 (x.vals.map clZ).length]),(9,.row 3 1 ((x.locs.set k0 c.to_).map za8)),(10,.row 28 2 (((bC (j+1)).map (zca x c picks)++(x.vals.map clZ).drop (j+1)).map ziD)),(13,.box ([cI c.proc,cI c.from_,cI c.to_,cI c.guard.kind,cPs c.guard.r.t.parts]++zi c.guard.r.t.k++[cB c.guard.r.eq,cFs c.guard.kids,.d (.sl 5 (c.moves.map zan.d))]))]) (show (((zah c j:Nat):Int):Int)=((zah c (j+1):Nat):Int) from (by rw [ziw (zh8 hm)])) (h.conv (by kernel_rfl));refine za9 (x:=j) (y:=j+1) h ?_ ?_
   ·show j+1<=x.vals.length;omega
   show x.vals.length - (j+1)<x.vals.length - j;omega
  replace hm:zkm c j=some m:=hm;have lmk:=zac hmk;refine Jq 14 [(2,.call (cU (SRmove c j lmv) (congrArg (vi .i64) hix)))] [(3,(vZs picks)),(4,vp 5 0),(5,vp 6 0),(8,vp 7 0),(9,vb false),(10,vp 8 0),(13,vp 13 0),(14,vI ((zah c j:Nat):Int)),(15,vN j),(16,vN k)] [(5,.box (zat s)),(6,.box [cIs x.locs,cZs x.vals]),(7,.box [nCl,nCl]),(8,.box [.own 9 x.locs.length,.own 10 (x.vals.map clZ).length]),(9,.row 3 1 ((x.locs.set k0 c.to_).map za8)),(10,.row 28 2 (((bC j).map (zca x c picks)++(x.vals.map clZ).drop j).map ziD)),(13,.box ([cI c.proc,cI c.from_,cI c.to_,cI c.guard.kind,cPs c.guard.r.t.parts]++zi c.guard.r.t.k++[cB c.guard.r.eq,cFs c.guard.kids,.d (.sl 5 (c.moves.map zan.d))]))] h fun a w h=>Je 14 [(1,.cmp (op:=.geq) (m:=(k:Int)) (n:=0) (b:=true) .i64 (show (decide ((k:Int)>=0))=true from decide_eq_true (by omega))),(6,.g (xD 94 92 ki_2 (za4 hmk (f:=zan.d)) (cV 93 _)))] [] [(97,vb m.any)] h fun a w h=>cS m.any h (fun hc8=>?_) (fun hc11=>?_)
  ·obtain ⟨x8,hx8⟩:=gl ((bC j).map (zca x c picks)++(x.vals.map clZ).drop j) j;refine Jg 14 [(4,.g (xO 102 99 10 (x.vals.map clZ).length j zi8 (cV 100 _))),(5,.g (Op.storeR (t:=102) (n:=10) (i:=j) (fo:=0) (rty:=28) (es:=2) (r:=ziD x8) (ds:=[.raw (.bool false),nsl []]) (rs:=[(101,vG [cB false,.d (nsl [])])]) (rows:=((bC j).map (zca x c picks)++(x.vals.map clZ).drop j).map ziD) (rows':=(((bC j).map (zca x c picks)++(x.vals.map clZ).drop j).set j (ZI.mk false [])).map ziD) zgt (cV 101 _) rfl rfl rfl (za4 hx8 (f:=ziD)) (by simp [ziD]) (zc9 (xs:=((bC j).map (zca x c picks)++(x.vals.map clZ).drop j)) (F:=ziD) j _ _ rfl)))] [16,97] [] [] [(10,.row 28 2 ((((bC j).map (zca x c picks)++(x.vals.map clZ).drop j).set j (ZI.mk false [])).map ziD))] h fun a w h=>qW (Je 14 [(2,.len (za1 2 ziD picks))] [] [(106,vb (decide (((zah c j:Nat):Int)<(picks.length:Int))))] h fun a w h=>zag (((zah c j:Nat):Int)<(picks.length:Int)) h (fun hc9 hc9'=>?_) (fun hc10 hc10'=>?_))
   ·obtain ⟨x9,hx9⟩:=gl picks (zah c j);have gx9:=hp x9 (lM hx9);have lgx9:=gx9.2;obtain ⟨r10,er10,vr10,or10,lr10⟩:=mkZ (v:=x9.val) (m:=M) (bI (zhu gx9.1) gx9.2);refine Jh 14 [(5,.g (xD 112 110 zi8 (za4 hx9 (f:=ziD)) (cV 111 _))),(7,.call (cU ((show Fn _ _ _ _ (vz (ZI.of x9.val)) _ from SRClean x9 gx9.1 (by omega))) (congrArg vz er10.symm))),(8,.g (xO 115 108 10 (x.vals.map clZ).length j zi8 (cV 109 _))),(9,.g (Op.storeR (t:=115) (n:=10) (i:=j) (fo:=0) (rty:=28) (es:=2) (r:=ziD (ZI.mk false [])) (ds:=[.raw (.bool r10.neg),nsl r10.abs]) (rs:=[(114,vz r10)]) (rows:=(((bC j).map (zca x c picks)++(x.vals.map clZ).drop j).set j (ZI.mk false [])).map ziD) (rows':=((((bC j).map (zca x c picks)++(x.vals.map clZ).drop j).set j (ZI.mk false [])).set j r10).map ziD) zgt (cV 114 _) rfl rfl rfl (za4 (cR (b7.1 hx8).1) (f:=ziD)) (by simp [ziD]) (zc9 (xs:=(((bC j).map (zca x c picks)++(x.vals.map clZ).drop j).set j (ZI.mk false []))) (F:=ziD) j _ _ rfl)))] [106] [] [] [(10,.row 28 2 (((((bC j).map (zca x c picks)++(x.vals.map clZ).drop j).set j (ZI.mk false [])).set j r10).map ziD))] h fun a w h=>?_;refine za0 (Jf 14 [(1,.add .i64 (m:=((zah c j:Nat):Int)) (n:=1) i6)] [] [(14,vI (((zah c j:Nat):Int)+1))] h fun a w h=>za5 (za0 (Jf 14 [(1,.j1 j)] [] [(15,vI ((j:Int)+1))] h fun a w h=>za0 ?_)));rw [show (((((bC j).map (zca x c picks)++(x.vals.map clZ).drop j).set j (ZI.mk false [])).set j r10):List ZI)=((bC (j+1)).map (zca x c picks)++(x.vals.map clZ).drop (j+1)) from (by rw [List.set_set];exact zfx (by rw [bH];omega) (by rw [newV_at (zcj hm hc8) hx9];simp [*]))] at h;replace h:=cv (fun z_:Int=>F.of [(3,(vZs picks)),(4,vp 5 0),(5,vp 6 0),(8,vp 7 0),(9,vb false),(10,vp 8 0),(13,vp 13 0),(14,vI z_),(15,vI ((j:Int)+1))] [(5,.box (zat s)),(6,.box [cIs x.locs,cZs x.vals]),(7,.box [nCl,nCl]),(8,.box [.own 9 x.locs.length,.own 10 (x.vals.map clZ).length]),(9,.row 3 1 ((x.locs.set k0 c.to_).map za8)),(10,.row 28 2 (((bC (j+1)).map (zca x c picks)++(x.vals.map clZ).drop (j+1)).map ziD)),(13,.box ([cI c.proc,cI c.from_,cI c.to_,cI c.guard.kind,cPs c.guard.r.t.parts]++zi c.guard.r.t.k++[cB c.guard.r.eq,cFs c.guard.kids,.d (.sl 5 (c.moves.map zan.d))]))]) (show (((zah c j:Nat):Int)+1:Int)=((zah c (j+1):Nat):Int) from (by rw [zfi (zcj hm hc8)];omega)) (h.conv (by kernel_rfl));refine za9 (x:=j) (y:=j+1) h ?_ ?_
    ·show j+1<=x.vals.length;omega
    show x.vals.length - (j+1)<x.vals.length - j;omega
   refine qU (za0 (Jf 14 [(1,.add .i64 (m:=((zah c j:Nat):Int)) (n:=1) i6)] [106] [(14,vI (((zah c j:Nat):Int)+1))] h fun a w h=>za5 (za0 (Jf 14 [(1,.j1 j)] [] [(15,vI ((j:Int)+1))] h fun a w h=>za0 ?_))));rw [show ((((bC j).map (zca x c picks)++(x.vals.map clZ).drop j).set j (ZI.mk false [])):List ZI)=((bC (j+1)).map (zca x c picks)++(x.vals.map clZ).drop (j+1)) from (zfx (by rw [bH];omega) (by rw [newV_no (zcj hm hc8) (dF hc10)];rfl))] at h;replace h:=cv (fun z_:Int=>F.of [(3,(vZs picks)),(4,vp 5 0),(5,vp 6 0),(8,vp 7 0),(9,vb false),(10,vp 8 0),(13,vp 13 0),(14,vI z_),(15,vI ((j:Int)+1))] [(5,.box (zat s)),(6,.box [cIs x.locs,cZs x.vals]),(7,.box [nCl,nCl]),(8,.box [.own 9 x.locs.length,.own 10 (x.vals.map clZ).length]),(9,.row 3 1 ((x.locs.set k0 c.to_).map za8)),(10,.row 28 2 (((bC (j+1)).map (zca x c picks)++(x.vals.map clZ).drop (j+1)).map ziD)),(13,.box ([cI c.proc,cI c.from_,cI c.to_,cI c.guard.kind,cPs c.guard.r.t.parts]++zi c.guard.r.t.k++[cB c.guard.r.eq,cFs c.guard.kids,.d (.sl 5 (c.moves.map zan.d))]))]) (show (((zah c j:Nat):Int)+1:Int)=((zah c (j+1):Nat):Int) from (by rw [zfi (zcj hm hc8)];omega)) (h.conv (by kernel_rfl));refine za9 (x:=j) (y:=j+1) h ?_ ?_
   ·show j+1<=x.vals.length;omega
   show x.vals.length - (j+1)<x.vals.length - j;omega
  refine Je 14 [(1,.cmp (op:=.geq) (m:=(k:Int)) (n:=0) (b:=true) .i64 (show (decide ((k:Int)>=0))=true from decide_eq_true (by omega)))] [97] [(119,vb true)] h fun a w h=>cS true h (fun _=>?_) nofun
  obtain ⟨r11,er11,vr11,or11,lr11⟩:=mkZ (v:=valT m.t x.vals) (m:=L+M+2) (bI (zgy (hc.mv m (lM hmk)) (by decide) hx.vok (fun p hp=>hp) (bJ _)) (by omega));obtain ⟨x12,hx12⟩:=gl ((bC j).map (zca x c picks)++(x.vals.map clZ).drop j) j;refine Jh 14 [(6,.g (xD 126 124 ki_2 (za4 hmk (f:=zan.d)) (cV 125 _))),(11,.call (cU (SRValue m.t x.vals (hc.mv m (lM hmk)) (by decide) (by omega) hx.vok) (congrArg vz er11.symm))),(12,.g (xO 132 121 10 (x.vals.map clZ).length j zi8 (cV 122 _))),(13,.g (Op.storeR (t:=132) (n:=10) (i:=j) (fo:=0) (rty:=28) (es:=2) (r:=ziD x12) (ds:=[.raw (.bool r11.neg),nsl r11.abs]) (rs:=[(131,vz r11)]) (rows:=((bC j).map (zca x c picks)++(x.vals.map clZ).drop j).map ziD) (rows':=(((bC j).map (zca x c picks)++(x.vals.map clZ).drop j).set j r11).map ziD) zgt (cV 131 _) rfl rfl rfl (za4 hx12 (f:=ziD)) (by simp [ziD]) (zc9 (xs:=((bC j).map (zca x c picks)++(x.vals.map clZ).drop j)) (F:=ziD) j _ _ rfl)))] [16,119] [] [] [(10,.row 28 2 ((((bC j).map (zca x c picks)++(x.vals.map clZ).drop j).set j r11).map ziD))] h fun a w h=>za5 (za0 (Jf 14 [(1,.j1 j)] [] [(15,vI ((j:Int)+1))] h fun a w h=>za0 ?_));rw [show ((((bC j).map (zca x c picks)++(x.vals.map clZ).drop j).set j r11):List ZI)=((bC (j+1)).map (zca x c picks)++(x.vals.map clZ).drop (j+1)) from (zfx (by rw [bH];omega) (by rw [zhn (zcj hm hc11),new_some hm hc11];simp [*]))] at h;replace h:=cv (fun z_:Int=>F.of [(3,(vZs picks)),(4,vp 5 0),(5,vp 6 0),(8,vp 7 0),(9,vb false),(10,vp 8 0),(13,vp 13 0),(14,vI z_),(15,vI ((j:Int)+1))] [(5,.box (zat s)),(6,.box [cIs x.locs,cZs x.vals]),(7,.box [nCl,nCl]),(8,.box [.own 9 x.locs.length,.own 10 (x.vals.map clZ).length]),(9,.row 3 1 ((x.locs.set k0 c.to_).map za8)),(10,.row 28 2 (((bC (j+1)).map (zca x c picks)++(x.vals.map clZ).drop (j+1)).map ziD)),(13,.box ([cI c.proc,cI c.from_,cI c.to_,cI c.guard.kind,cPs c.guard.r.t.parts]++zi c.guard.r.t.k++[cB c.guard.r.eq,cFs c.guard.kids,.d (.sl 5 (c.moves.map zan.d))]))]) (show (((zah c j:Nat):Int):Int)=((zah c (j+1):Nat):Int) from (by rw [ziw (zcj hm hc11)])) (h.conv (by kernel_rfl));refine za9 (x:=j) (y:=j+1) h ?_ ?_
  ·show j+1<=x.vals.length;omega
  show x.vals.length - (j+1)<x.vals.length - j;omega
 refine exA (qW ?_);replace h:=zhz 9 1 3 ((x.locs.set k0 c.to_).map za8) h [x.locs.length] ⟨by first | exact (bH _).symm | (simp;done) | (simp;omega),trivial⟩;replace h:=zhz 10 2 28 (((bC j).map (zca x c picks)++(x.vals.map clZ).drop j).map ziD) h [(x.vals.map clZ).length] ⟨by first | exact (bH _).symm | (simp;done) | (simp;omega),trivial⟩;replace h:=cvM [] [] [] [(8,.box ([cIs (zcz s x c picks).locs,cZs ((bC j).map (zca x c picks)++(x.vals.map clZ).drop j)]))] (by rw [<- show ((x.locs.set k0 c.to_):List Int)=(zcz s x c picks).locs from (by show _=x.locs.set c.proc.toNat c.to_;rw [show c.proc.toNat=k0 by omega])]; try kernel_rfl) h;rw [show (((bC j).map (zca x c picks)++(x.vals.map clZ).drop j):List ZI)=(zcz s x c picks).vals from (by rw [show j=s.vars.length by omega,range_end (by rw [bH];omega)];rfl)] at h;refine Jq 14 [(2,.call (SRFits s (zcz s x c picks) (L:=L) (M:=L+M+2) (by omega) hs (outS_ok hs hx hc hp)))] [(8,vp 7 0),(9,vb false),(10,vp 8 0),(136,vb (!(zbk s (zcz s x c picks))))] [(7,.box [nCl,nCl]),(8,.box [cIs (zcz s x c picks).locs,cZs (zcz s x c picks).vals])] h fun a w h=>cS (!(zbk s (zcz s x c picks))) h (fun hc13=>?_) (fun hc14=>?_)
 ·refine Je 14 [] [136] [] h fun a w h=>qV (za2 ?_);replace h:=zb7 7 0 1 [nCl,nCl] h;replace h:=zb7 7 1 2 [cIs [],nCl] h;refine zdp [.agg [cIs [],cZs []],.c (cB false)] h Exit.ret (.inl rfl)  rfl ⟨RV.agg _ 7 0 _ _ _ _ kk_5 rfl rfl rfl rfl,vT9,trivial⟩ ?_;have hz:goC s x c picks=(st0,false):=by unfold goC;rw [if_neg (fun h=>by have:=h.2;rw [(show (zbk s (zcz s x c picks))=false from by simpa using hc13)] at this;cases this)]
  rw [hz];try rfl
 refine qU (za0 (Jq 14 [] [(8,vp 7 0),(9,vb true)] [(7,.box [cIs (zcz s x c picks).locs,cZs (zcz s x c picks).vals])] h fun a w h=>qV (zdp [.agg [cIs (zcz s x c picks).locs,cZs (zcz s x c picks).vals],.c (cB true)] h Exit.ret (.inl rfl)  rfl ⟨RV.agg _ 7 0 _ _ _ _ kk_5 rfl rfl rfl rfl,vT9,trivial⟩ ?_)));have hz:goC s x c picks=(zcz s x c picks,true):=by unfold goC;rw [if_pos ⟨(show (zad s x c)=true from by simpa using hc6),(show (zbk s (zcz s x c picks))=true from by simpa using hc14)⟩]
 rw [hz];try rfl
theorem cnt_step_le (c:zb1) (v:Nat):zah c v<=zah c (v+1):=by rw [zah];omega
theorem cnt_mono (c:zb1) {u:Nat} (h:u<=v):zah c u<=zah c v:=by
 induction v with
 | zero=>rw [Nat.le_zero.1 h];exact bJ _
 | succ v ih =>
  rcases Nat.lt_or_ge u (v+1) with h1 | h1
  ·exact bI (ih (by omega)) (cnt_step_le c v)
  ·rw [show u=v+1 by omega];exact bJ _
def zbh (f:Nat->ZI) (c:zb1):Nat->List ZI
  | 0=>[]
  | v+1=>if zax c v=true then zbh f c v++[f v] else zbh f c v
theorem zf2 (f:Nat->ZI) (c:zb1):∀ n,(zbh f c n).length=zah c n
 | 0=>rfl
 | n+1=>by
  rw [zbh,zah]
  split
  ·rw [cF,zf2 f c n];rfl
  ·rw [zf2 f c n];rfl
theorem freeL_at (f:Nat->ZI) (c:zb1) (hv:zax c v=true):∀ n,v<n->(zbh f c n)[zah c v]?=some (f v)
 | n+1,h=>by
  rw [zbh]
  rcases Nat.lt_or_ge v n with h1 | h1
  ·have ih:=freeL_at f c hv n h1
   split
   ·rw [List.getElem?_append_left (by rw [zf2];exact cE (by rw [zfi hv];omega) (cnt_mono c h1))];exact ih
   ·exact ih
  ·obtain rfl:v=n:=by omega
   rw [if_pos hv,List.getElem?_append_right (by rw [zf2];exact bJ _),zf2,Nat.sub_self];rfl
theorem picks_freeL (y:StD) (c:zb1):∀ n,zcg y c n=zbh (fun v=>(y.vals[v]?).getD zdi) c n
 | 0=>rfl
 | n+1=>by rw [zcg,zbh,picks_freeL y c n]
theorem zkx (h:∀ v,ZOk M (f v)) (c:zb1):∀ n,∀ z ∈ zbh f c n,ZOk M z
 | 0,z,hz=>by cases hz
 | n+1,z,hz=>by
  rw [zbh] at hz
  split at hz
  ·rcases List.mem_append.1 hz with h1 | h1
   ·exact zkx h c n z h1
   ·rw [List.mem_singleton.1 h1];exact h n
  ·exact zkx h c n z hz
def zc0 (s:zab) (v:Nat):ZI:=if (zam s v).is_=true then (zam s v).lo else zdi
theorem low_ok {L:Nat} {s:zab} (hs:zaw L s) (v:Nat):ZOk L (zc0 s v):=by
 unfold zc0;split
 ·exact (zgu hs v).1
 ·exact ZOk.zero
theorem cmp_self (x:Int):decide (zel x x<=0)=true:=by unfold zel;simp
theorem within_of (b:zaj) (z:ZI):zar b (ZI.of z.val)=zar b z:=by unfold zar;rw [ZI.val_of]
theorem within_val {b:zaj} {p q:ZI} (h:p.val=q.val):zar b p=zar b q:=by unfold zar;rw [h]
theorem nlocs_in {s:zab} (h:zbk s x=true) {i:Nat} (hi:i<x.locs.length):zgi s x i=true:=by
 unfold zbk at h;simp only [bP] at h;exact zbf.1 h.2.1 i hi
theorem vals_in {s:zab} (h:zbk s x=true) {i:Nat} (hi:i<x.vals.length):zhr s x i=true:=by
 unfold zbk at h;simp only [bP] at h;exact zbf.1 h.2.2 i hi
theorem enabled_to {s:zab} {c:zb1} (h:zad s x c=true):0<=c.to_/\c.to_<(zeb s c.proc.toNat:Int):=by unfold zad at h;simp only [bP,decide_eq_true_eq] at h;exact h.1.2.2
theorem fits_out {s:zab} {c:zb1} (picks:List ZI) (h:zad s x c=true):zbk s (zcz s x c picks)=zg7 s.vars.length (fun v=>zar (zam s v) (zca x c picks v)):=by
 have hf:=zck h;have hl:=zcr hf;have hp:=zee h;have ht:=enabled_to h
 have e1:(zcz s x c picks).locs.length=s.procs.length:=by simp only [zcz,cK];exact hl.1
 have e2:(zcz s x c picks).vals.length=s.vars.length:=by simp [zcz]
 unfold zbk
 rw [decide_eq_true ⟨e1,e2⟩,bE]
 have a1:zg7 (zcz s x c picks).locs.length (zgi s (zcz s x c picks))=true:=zbf.2 fun i hi=>by
  rw [e1] at hi
  have h1:=nlocs_in hf (i:=i) (by omega)
  unfold zgi at h1 ⊢
  by_cases hi2:i=c.proc.toNat
  ·subst hi2
   have:(zcz s x c picks).locs[c.proc.toNat]?=some c.to_:=by simp only [zcz];exact cR (by omega)
   rw [this];exact decide_eq_true ht
  ·have:(zcz s x c picks).locs[i]?=x.locs[i]?:=by simp only [zcz];exact List.getElem?_set_ne (Ne.symm hi2)
   rw [this];exact h1
 rw [a1,bE,e2]
 refine allN_congr fun v hv=>?_
 unfold zhr
 have:(zcz s x c picks).vals[v]?=some (zca x c picks v):=by simp [zcz,cH,List.getElem?_range hv]
 rw [this];rfl
theorem fits_lows {s:zab} {c:zb1} (h:zad s x c=true):zbk s (zcz s x c (zbh (zc0 s) c s.vars.length))=zg7 s.vars.length (zjz s x c):=by
 rw [fits_out _ h]
 refine allN_congr fun v hv=>?_
 unfold zjz
 by_cases hf:zax c v=true
 ·rw [if_pos hf,newV_at hf (freeL_at (zc0 s) c hf _ hv),within_of]
  unfold zar zc0
  cases hb:(zam s v).is_ with
  | false=>simp
  | true =>
   simp only [if_true,Bool.not_true,Bool.false_or,bE,cmp_self]
   by_cases hc:zel (zam s v).lo.val (zam s v).hi.val<=0
   ·rw [decide_eq_true hc,decide_eq_false (by omega)];rfl
   ·rw [decide_eq_false hc,decide_eq_true (by omega)];rfl
 ·rw [if_neg hf,zhn (by simpa using hf)]
theorem can_goC {s:zab} {c:zb1}:(goC s x c (zbh (zc0 s) c s.vars.length)).2=canC s x c:=by
 unfold goC canC
 cases he:zad s x c with
 | false=>rfl
 | true =>
  rw [fits_lows he]
  cases ha:zg7 s.vars.length (zjz s x c) with
  | false=>rfl
  | true=>rfl
theorem zjp {c:zb1} {q:ZI} (h:zax c v=true) (hq:q=f v):zbh f c v++[q]=zbh f c (v+1):=by rw [zbh,if_pos h,hq]
theorem freeL_kept {c:zb1} (h:zax c v=false):zbh f c v=zbh f c (v+1):=by rw [zbh,if_neg (by rw [h];exact Bool.noConfusion)]
theorem SRCanN (s:zab) (x:StD) (i:Int) {L:Nat} (hL:L+M<=1900) (hs:zaw L s) (hx:zdh M x) (hi:zf8 s i=none):Fn cT 88 [] [vG (zat s),vG [cIs x.locs,cZs x.vals],vI i] (vb false) []:=by
 refine fB Tryz.func88 rfl 80 fun w H B a h=>Jq 0 [] [(2,vI i),(3,vp 0 0),(4,vp 1 0),(6,vb false)] [(0,.box (zat s)),(1,.box [cIs x.locs,cZs x.vals])] h fun a w h=>qW (Je 2 [(3,.call (SRbeginsN s x i (by omega) hs hx hi))] [] [(17,vb true)] h fun a w h=>cS true h (fun _=>?_) nofun)
 refine Je 2 [] [17] [] h fun a w h=>qV (za2 (rT (.c (cB false)) h rfl ?_));rfl
theorem SRCanS (s:zab) (x:StD) (ki:Nat) (c:zb1) {L:Nat} (hL:L+M<=1900) (hs:zaw L s) (hx:zdh M x) (hka:s.acts[ki]?=some c):Fn cT 88 [] [vG (zat s),vG [cIs x.locs,cZs x.vals],vN ki] (vb (canC s x c)) []:=by
 have lx1:=hx.locs;have lx2:=hx.vals;have ls1:=hs.vars;have ls2:=hs.procs;have lki:=zac hka;have hc:zi3 L c:=hs.act c (lM hka);have lmv:=hc.len;have lvv:=hx.vals;have lbn:=hs.bnds;refine fB Tryz.func88 rfl 80 fun w H B a h=>Jq 5 [] [(2,vN ki),(3,vp 5 0),(4,vp 6 0),(6,vb false)] [(5,.box (zat s)),(6,.box [cIs x.locs,cZs x.vals])] h fun a w h=>qW (Je 7 [(3,.call (zj2 s x ki c (L:=L) (M:=M) (by omega) hs hx hka))] [] [(17,vb (!(zad s x c)))] h fun a w h=>cS (!(zad s x c)) h (fun hc1=>?_) (fun hc2=>?_))
 ·refine Je 7 [] [17] [] h fun a w h=>qV (za2 (rT (.c (cB false)) h rfl ?_));have hz:canC s x c=false:=by unfold canC;rw [(show (zad s x c)=false from by simpa using hc1)];rfl
  rw [hz];try rfl
 refine qU (za0 ?_);have hen:=(show (zad s x c)=true from by simpa using hc2);have hfl:=zcr (zck hen);refine Jg 7 [(0,.g (Op.buildE (d:=18) (n:=7) kk_3))] [17] [(7,vO 7 0)] [] [(7,.row 28 2 ([].map ziD))] h fun a w h=>qW (Je 8 [] [] [(8,vI 0)] h fun a w h=>qZ ?_)
 refine zcc (ι:=(Nat)) (fun j=>j<=x.vals.length)
   [] (fun j=>[(7,vO 7 (zbh (zc0 s) c j).length),(8,vN j)])
   [] (fun j=>[(7,.row 28 2 ((zbh (zc0 s) c j).map ziD))])
   (fun j=>x.vals.length - j) 0 ?_ h ?_
 ·exact bG _
 clear h;rintro j a w hI h;have hcf:=cnt_le c j;have hfll:=zf2 (zc0 s) c j;refine qW (Je 8 [(3,.len (za1 2 ziD x.vals))] [] [(23,vb (decide ((j:Int)<(x.vals.length:Int))))] h fun a w h=>zag ((j:Int)<(x.vals.length:Int)) h (fun hc3 hc3'=>?_) (fun hc10 hc10'=>?_))
 ·refine qU (za0 (qW (qZ ?_)))
  rcases zg3 (fun m=>m.v == (j:Int)) c.moves with ⟨hix,hm⟩ | ⟨k,m,hix,hmk,hm⟩
  ·replace hm:zkm c j=none:=hm;refine Jq 8 [(3,.g (xD 29 27 ki_1 (za4 hka (f:=zb1.d)) (cV 28 _))),(6,.call (cU (SRmove c j lmv) (congrArg (vi .i64) hix)))] [(2,vN ki),(3,vp 5 0),(4,vp 6 0),(6,vb false),(7,vO 7 (zbh (zc0 s) c j).length),(8,vN j),(9,vI (-1))] [(5,.box (zat s)),(6,.box [cIs x.locs,cZs x.vals]),(7,.row 28 2 ((zbh (zc0 s) c j).map ziD))] h fun a w h=>Je 8 [(1,.cmp (op:=.geq) (m:=(-1)) (n:=0) (b:=false) .i64 rfl)] [9] [(46,vb false)] h fun a w h=>zbs h (qU (za5 (za0 (Jf 8 [(1,.j1 j)] [46] [(8,vI ((j:Int)+1))] h fun a w h=>za0 ?_))));replace h:=cvM [] [(7,vO 7 (zbh (zc0 s) c (j+1)).length)] [] [(7,.row 28 2 ((zbh (zc0 s) c (j+1)).map ziD))] (by rw [<- show ((zbh (zc0 s) c j):List ZI)=(zbh (zc0 s) c (j+1)) from (freeL_kept (zh8 hm))]; try kernel_rfl) h;refine za9 (x:=j) (y:=j+1) h ?_ ?_
   ·show j+1<=x.vals.length;omega
   show x.vals.length - (j+1)<x.vals.length - j;omega
  replace hm:zkm c j=some m:=hm;have lmk:=zac hmk;refine Jq 8 [(3,.g (xD 29 27 ki_1 (za4 hka (f:=zb1.d)) (cV 28 _))),(6,.call (cU (SRmove c j lmv) (congrArg (vi .i64) hix)))] [(2,vN ki),(3,vp 5 0),(4,vp 6 0),(6,vb false),(7,vO 7 (zbh (zc0 s) c j).length),(8,vN j),(9,vN k)] [(5,.box (zat s)),(6,.box [cIs x.locs,cZs x.vals]),(7,.row 28 2 ((zbh (zc0 s) c j).map ziD))] h fun a w h=>Je 8 [(1,.cmp (op:=.geq) (m:=(k:Int)) (n:=0) (b:=true) .i64 (show (decide ((k:Int)>=0))=true from decide_eq_true (by omega))),(6,.g (xD 39 37 ki_1 (za4 hka (f:=zb1.d)) (cV 38 _))),(10,.g (xD 43 41 ki_2 (za4 hmk (f:=zan.d)) (cV 42 _)))] [9] [(46,vb m.any)] h fun a w h=>cS m.any h (fun hc4=>?_) (fun hc9=>?_)
  ·refine Jg 8 [] [46] [(10,vp 8 0)] [] [(8,.box [cB false,.d (nsl [])])] h fun a w h=>qW ?_
   rcases bF (decide ((j:Int)<(s.bounds.length:Int))) with hc5 | hc8
   ·have hc5':=dT hc5;obtain ⟨x4,hx4⟩:=gl s.bounds j;refine Je 9 [(3,.len (za1 5 zaj.d s.bounds)),(4,.cmp (op:=.lss) (m:=(j:Int)) (n:=(s.bounds.length:Int)) (b:=true) .i64 hc5),(9,.g (xD 57 55 kf_0 (za4 hx4 (f:=zaj.d)) (cV 56 _)))] [] [(60,vb x4.is_)] h fun a w h=>cS x4.is_ h (fun hc6=>?_) (fun hc7=>?_)
    ·refine Jh 9 [(3,.g (xD 64 62 kf_0 (za4 hx4 (f:=zaj.d)) (cV 63 _)))] [60] [] [] [(8,.box (zi x4.lo))] h fun a w h=>za0 (Jh 9 [(2,.g (bD 69 ([x4.lo].map ziD) [(68,vz x4.lo)] kk_3 (.cons (i:=0) (cV 68 _) (.nil)) (by kernel_rfl) (by simp [ziD]))),(3,.g (aD 70 67 69 7 9 (zbh (zc0 s) c j) [x4.lo] ziD kk_4 (by simp [ziD])))] [10] [(7,vO 9 ((zbh (zc0 s) c j)++[x4.lo]).length)] [7,8] [(9,.row 28 2 (((zbh (zc0 s) c j)++[x4.lo]).map ziD))] h fun a w h=>za5 (za0 (Jf 10 [(1,.j1 j)] [] [(8,vI ((j:Int)+1))] h fun a w h=>za0 ?_)));rw [show (((zbh (zc0 s) c j)++[x4.lo]):List ZI)=(zbh (zc0 s) c (j+1)) from (zjp (zcj hm hc4) (by unfold zc0 zam;rw [hx4,bK,if_pos hc6]))] at h;replace h:=zd8 9 7 h;refine za9 (x:=j) (y:=j+1) h ?_ ?_
     ·show j+1<=x.vals.length;omega
     show x.vals.length - (j+1)<x.vals.length - j;omega
    refine qU (za0 (Jh 10 [(2,.g (bD 69 ([(ZI.mk false [])].map ziD) [(68,vG [cB false,.d (nsl [])])] kk_3 (.cons (i:=0) (cV 68 _) (.nil)) (by kernel_rfl) (by simp [ziD]))),(3,.g (aD 70 67 69 7 10 (zbh (zc0 s) c j) [(ZI.mk false [])] ziD kk_4 (by simp [ziD])))] [10,60] [(7,vO 10 ((zbh (zc0 s) c j)++[(ZI.mk false [])]).length)] [7,8] [(10,.row 28 2 (((zbh (zc0 s) c j)++[(ZI.mk false [])]).map ziD))] h fun a w h=>za5 (za0 (Jf 11 [(1,.j1 j)] [] [(8,vI ((j:Int)+1))] h fun a w h=>za0 ?_))));rw [show (((zbh (zc0 s) c j)++[(ZI.mk false [])]):List ZI)=(zbh (zc0 s) c (j+1)) from (zjp (zcj hm hc4) (by unfold zc0 zam;rw [hx4,bK,if_neg (by rw [hc7];exact Bool.noConfusion)];try rfl))] at h;replace h:=zd8 10 7 h;refine za9 (x:=j) (y:=j+1) h ?_ ?_
    ·show j+1<=x.vals.length;omega
    show x.vals.length - (j+1)<x.vals.length - j;omega
   have hc8':=dF hc8;refine Je 11 [(3,.len (za1 5 zaj.d s.bounds)),(4,.cmp (op:=.lss) (m:=(j:Int)) (n:=(s.bounds.length:Int)) (b:=false) .i64 hc8)] [] [(60,vb false)] h fun a w h=>zbs h (qU (za0 (Jh 11 [(2,.g (bD 69 ([(ZI.mk false [])].map ziD) [(68,vG [cB false,.d (nsl [])])] kk_3 (.cons (i:=0) (cV 68 _) (.nil)) (by kernel_rfl) (by simp [ziD]))),(3,.g (aD 70 67 69 7 11 (zbh (zc0 s) c j) [(ZI.mk false [])] ziD kk_4 (by simp [ziD])))] [10,60] [(7,vO 11 ((zbh (zc0 s) c j)++[(ZI.mk false [])]).length)] [7,8] [(11,.row 28 2 (((zbh (zc0 s) c j)++[(ZI.mk false [])]).map ziD))] h fun a w h=>za5 (za0 (Jf 12 [(1,.j1 j)] [] [(8,vI ((j:Int)+1))] h fun a w h=>za0 ?_)))));rw [show (((zbh (zc0 s) c j)++[(ZI.mk false [])]):List ZI)=(zbh (zc0 s) c (j+1)) from (zjp (zcj hm hc4) (by unfold zc0 zam;rw [bX (by have:=dF hc8;omega)];rfl))] at h;replace h:=zd8 11 7 h;refine za9 (x:=j) (y:=j+1) h ?_ ?_
   ·show j+1<=x.vals.length;omega
   show x.vals.length - (j+1)<x.vals.length - j;omega
  refine qU (za5 (za0 (Jf 12 [(1,.j1 j)] [46] [(8,vI ((j:Int)+1))] h fun a w h=>za0 ?_)));replace h:=cvM [] [(7,vO 7 (zbh (zc0 s) c (j+1)).length)] [] [(7,.row 28 2 ((zbh (zc0 s) c (j+1)).map ziD))] (by rw [<- show ((zbh (zc0 s) c j):List ZI)=(zbh (zc0 s) c (j+1)) from (freeL_kept (zcj hm hc9))]; try kernel_rfl) h;refine za9 (x:=j) (y:=j+1) h ?_ ?_
  ·show j+1<=x.vals.length;omega
  show x.vals.length - (j+1)<x.vals.length - j;omega
 refine exA ?_;replace h:=cvM [] [(7,vO 7 (zbh (zc0 s) c s.vars.length).length)] [] [(7,.row 28 2 ((zbh (zc0 s) c s.vars.length).map ziD))] (by rw [<- show ((zbh (zc0 s) c j):List ZI)=(zbh (zc0 s) c s.vars.length) from (by rw [show j=s.vars.length by omega])]; try kernel_rfl) h;replace h:=zhz 7 2 28 ((zbh (zc0 s) c s.vars.length).map ziD) h [(zbh (zc0 s) c s.vars.length).length] ⟨by first | exact (bH _).symm | (simp;done) | (simp;omega),trivial⟩;refine Jq 12 [(4,.call (SRGo3 s x ki (zbh (zc0 s) c s.vars.length) c (L:=L) (M:=L+M) (by omega) hs (hx.mono (by omega)) (fun z hz=>⟨(zkx (low_ok hs) c _ z hz).1,bI (zkx (low_ok hs) c _ z hz).2 (by omega)⟩) hka (by rw [zf2];have:=cnt_le c s.vars.length;omega)))] [(6,vb false),(12,vb (goC s x c (zbh (zc0 s) c s.vars.length)).2)] [] h fun a w h=>Jq 13 [] [(6,vb (goC s x c (zbh (zc0 s) c s.vars.length)).2)] [] h fun a w h=>qV (rT (.c (cB (goC s x c (zbh (zc0 s) c s.vars.length)).2)) h rfl ?_);rw [<- can_goC];try rfl
theorem SRCan (s:zab) (x:StD) (i:Int) {L:Nat} (hL:L+M<=1900) (hs:zaw L s) (hx:zdh M x):Fn cT 88 [] [vG (zat s),vG [cIs x.locs,cZs x.vals],vi .i64 i] (vb (can s x i)) []:=by
 unfold can
 cases hi:zf8 s i with
 | none=>exact SRCanN s x i hL hs hx hi
 | some c=>obtain ⟨ki,rfl,hka⟩:=zg9 hi;exact SRCanS s x ki c hL hs hx hka
theorem SRStuck (s:zab) (x:StD) {L:Nat} (hL:L+M<=1900) (hs:zaw L s) (hx:zdh M x):Fn cT 44 [] [vG (zat s),vG [cIs x.locs,cZs x.vals]] (vb (zej s x)) []:=by
 have lx1:=hx.locs;have lx2:=hx.vals;have ls1:=hs.vars;have ls2:=hs.procs;have las:=hs.acts;refine fB Tryz.func44 rfl 20 fun w H B a h=>Jq 0 [] [(2,vp 0 0),(3,vp 1 0),(4,vb false)] [(0,.box (zat s)),(1,.box [cIs x.locs,cZs x.vals])] h fun a w h=>qW (Je 2 [] [] [(5,vI 0)] h fun a w h=>qZ ?_)
 refine zcc (ι:=(Nat)) (fun j=>j<=s.acts.length/\zg7 j (fun i=>!can s x (i:Int))=true)
   [4] (fun j=>[(5,vN j)])
   [] (fun j=>[])
   (fun j=>s.acts.length - j) 0 ?_ h ?_
 ·exact ⟨bG _,rfl⟩
 clear h;rintro j a w hI h;obtain ⟨hI1,hI2⟩:=hI;refine qW (Je 2 [(3,.len (za1 10 zb1.d s.acts))] [] [(10,vb (decide ((j:Int)<(s.acts.length:Int))))] h fun a w h=>zag ((j:Int)<(s.acts.length:Int)) h (fun hc1 hc1'=>?_) (fun hc4 hc4'=>?_))
 ·refine qU (za0 (qW (qZ (Je 2 [(3,.call (SRCan s x (j:Int) hL hs hx))] [10] [(16,vb (can s x (j:Int)))] h fun a w h=>cS (can s x (j:Int)) h (fun hc2=>?_) (fun hc3=>?_)))))
  ·refine Je 2 [] [16] [(4,vb false)] h fun a w h=>qV (za6 (za2 (za2 (za6 (za2 (rT (.c (cB false)) h rfl ?_))))));have hz:zej s x=false:=by unfold zej;rw [zba (j:=j) (by have:=dT hc1;omega) (show (!can s x (j:Int))=false by rw [hc2];rfl)];rfl
   rw [hz];try rfl
  refine qU (za5 (za0 (Jf 2 [(1,.j1 j)] [16] [(5,vI ((j:Int)+1))] h fun a w h=>za0 (za9 (x:=j) (y:=j+1) h ?_ ?_))))
  ·exact ⟨by omega,zb9 hI2 (by rw [hc3];rfl)⟩
  show s.acts.length - (j+1)<s.acts.length - j;omega
 refine exA (Jq 2 [(2,.call (SRFits s x (L:=L) (M:=M) (by omega) hs hx))] [(4,vb (zbk s x))] [] h fun a w h=>qV (rT (.c (cB (zbk s x))) h rfl ?_));have hz:zej s x=(zbk s x):=by unfold zej;rw [show s.acts.length=j by have:=dF hc4;omega,hI2];rfl
 rw [hz];try rfl
end S
end Go.Proofs.YtdnhcneallkljaaGreat
