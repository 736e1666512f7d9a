/-
  Part 1 of the proof of the statement WholeWords. It holds for every input.
-/
import Derived.WalkKit
import Derived.Test.YtjnkkdfojfjncaaGreatProg
import Derived.WalkSpells
import Derived.WalkLawsBesides
import Derived.Laws.AppendOwnNone
import Derived.Laws.CopyOwn
import Derived.Lib.Hide
import Derived.Deep.QuietTactic
import Derived.BigQuiet
import Derived.Deep.LoopGhost
import Derived.Deep.RegionHeld3
import Derived.Deep.DeepCutAuto
import Derived.StillTail
import Derived.Below
import Derived.Deep.MidRow
import Derived.Laws.StructEq
import Derived.IntWalk
import Derived.Laws.AppendOwn
import Derived.Great.BuildSlice
set_option maxRecDepth 100000
set_option maxHeartbeats 20000000
open Go.RowKit
open Nat renaming eq_of_beq_eq_true->bA,le_refl->bM,le_trans->bN,mul_le_mul_right->bO,add_mul->bQ,mul_comm->bT,zero_add->bV,add_assoc->cD,lt_or_ge->cF,zero_le->cH,mul_le_mul_left->cU,lt_of_lt_of_le->cV,pos_of_ne_zero->c7,div_add_mod->c8
open List renaming getElem?_eq_some_iff->bB,mem_flatMap->bC,mem_map->bE,getElem?_eq_getElem->bG,length_take->bH,all_eq_true->bI,length_map->bJ,getElem?_take->bL,mem_of_getElem?->bP,mem_range->bS,getD_eq_getElem?_getD->bU,mem_append->bW,mem_append_right->bX,getElem?_map->bY,getElem?_drop->bZ,mem_append_left->b7,mem_cons->b9,length_cons->cC,mem_filter->cE,length_drop->cG,map_cons->cK,mem_cons_of_mem->cL,getElem?_append_left->cN,length_eq_zero_iff->cO,length_append->cP,getElem?_set_self->cQ,getElem?_set_ne->cR,getElem?_eq_none->cT,range_eq_range'->cX,flatten_cons->cY,getElem?_append_right->cZ,getElem_mem->dA,mem_of_mem_take->dB,take_of_length_le->dC,mem_or_eq_of_mem_set->dD,pairwise_lt_range->dG,getElem?_cons_succ->dH
open Bool renaming and_eq_true->bF,false_eq_true->cJ,or_eq_true->cM
open Array renaming getD_eq_getD_getElem?->bK,getElem?_eq_some_iff->bR,getElem?_eq_getElem->b8,getElem?_setIfInBounds_ne->dE
open Option renaming map_eq_some_iff->cA,bind_some->cW
open Go.Proofs.Tryz renaming prog->dI
namespace Go.Proofs.YtjnkkdfojfjncaaGreat
variable {m n k b o:Nat} {zs xs ys:List Nat} {w w':World} {v:Value} {ao:Option Addr}
def lim (zs:List Nat) (i:Nat):Nat:=zs.getD i 0
def Lb (zs:List Nat):Prop:=∀ z ∈ zs,z<4294967296
def pw (n:Nat):Nat:=4294967296 ^ n
def nV:List Nat->Nat
  | []=>0
  | x :: xs=>x+4294967296*nV xs
def vk (zs:List Nat) (k:Nat):Nat:=nV (zs.take k)
def zdw (zs:List Nat):Prop:=Lb zs/\(0<zs.length->lim zs (zs.length - 1)≠0)
theorem pw_zero:pw 0=1:=rfl
theorem pw_succ (n:Nat):pw (n+1)=4294967296*pw n:=by unfold pw;rw [Nat.pow_succ,bT]
theorem pw_pos (n:Nat):0<pw n:=Nat.pow_pos (by omega)
theorem pw_add (m n:Nat):pw (m+n)=pw m*pw n:=Nat.pow_add _ _ _
theorem pw_le (h:m<=n):pw m<=pw n:=Nat.pow_le_pow_right (by omega) h
theorem lim_of_le {i:Nat} (h:zs.length<=i):lim zs i=0:=by
 unfold lim;rw [bU,cT h];rfl
theorem lim_take {i:Nat} (h:i<k):lim (zs.take k) i=lim zs i:=by
 unfold lim;simp [bU,h]
theorem lim_drop (zs:List Nat) (k i:Nat):lim (zs.drop k) i=lim zs (k+i):=by
 unfold lim;simp [bU,bZ]
theorem lim_map_at {i:Nat} (h:i<zs.length):zs[i]?=some (lim zs i):=by
 unfold lim;simp [bU,h]
theorem val_nil:nV []=0:=rfl
theorem val_append (xs ys:List Nat):nV (xs++ys)=nV xs+pw xs.length*nV ys:=by
 induction xs with
 | nil=>simp [nV,pw]
 | cons x xs ih =>
  simp only [List.cons_append,nV,cC,pw_succ,ih,Nat.mul_add,Nat.mul_assoc,cD]
theorem val_snoc (xs:List Nat) (x:Nat):nV (xs++[x])=nV xs+pw xs.length*x:=by
 rw [val_append];simp [nV]
theorem val_lt (h:Lb xs):nV xs<pw xs.length:=by
 induction xs with
 | nil=>simp [nV,pw]
 | cons x xs ih =>
  have h1:=h x (by simp)
  have h2:=ih (fun z hz=>h z (by simp [hz]))
  simp only [nV,cC,pw_succ]
  omega
theorem Lb_nil:Lb []:=fun _ h=>by simp at h
theorem Lb_take (h:Lb zs) (k:Nat):Lb (zs.take k):=fun z hz=>h z (dB hz)
theorem Lb_drop (h:Lb zs) (k:Nat):Lb (zs.drop k):=fun z hz=>h z (List.mem_of_mem_drop hz)
theorem vk_full (h:zs.length<=k):vk zs k=nV zs:=by rw [vk,dC h]
theorem vk_succ (zs:List Nat) (k:Nat):vk zs (k+1)=vk zs k+pw k*lim zs k:=by
 by_cases h:k<zs.length
 ·have:zs.take (k+1)=zs.take k++[lim zs k]:=by
   rw [List.take_add_one,lim_map_at h]
   rfl
  rw [vk,this,val_snoc,bH,Nat.min_eq_left (by omega)]
  rfl
 ·rw [vk_full (by omega),vk_full (by omega),lim_of_le (by omega)];simp
theorem canon_nil:zdw []:=⟨Lb_nil,fun h=>by simp at h⟩
theorem canon_ge (h:zdw zs) (hp:0<zs.length):pw (zs.length - 1)<=nV zs:=by
 have h1:=vk_succ zs (zs.length - 1)
 rw [Nat.sub_add_cancel hp,vk_full (bM _)] at h1
 have h2:=h.2 hp
 have:pw (zs.length - 1)*1<=pw (zs.length - 1)*lim zs (zs.length - 1):=cU _ (by omega)
 omega
theorem zh1 (hx:Lb xs) (hy:zdw ys) (h:xs.length<ys.length):nV xs<nV ys:=by
 have h1:=val_lt hx
 have h2:=canon_ge hy (by omega)
 have h3:pw xs.length<=pw (ys.length - 1):=pw_le (by omega)
 omega
theorem val_inj (hx:Lb xs) (hy:Lb ys) (hl:xs.length=ys.length) (h:nV xs=nV ys):xs=ys:=by
 induction xs generalizing ys with
 | nil=>cases ys with
  | nil=>rfl
  | cons y ys=>simp at hl
 | cons x xs ih=>cases ys with
  | nil=>simp at hl
  | cons y ys =>
   have a:=hx x (by simp)
   have b:=hy y (by simp)
   simp only [nV] at h
   have e1:x=y:=by omega
   have e2:nV xs=nV ys:=by omega
   rw [e1,ih (fun z hz=>hx z (by simp [hz])) (fun z hz=>hy z (by simp [hz])) (by simpa using hl) e2]
theorem canon_inj (hx:zdw xs) (hy:zdw ys) (h:nV xs=nV ys):xs=ys:=by
 rcases Nat.lt_trichotomy xs.length ys.length with hl | hl | hl
 ·have:=zh1 hx.1 hy hl;omega
 ·exact val_inj hx.1 hy.1 hl h
 ·have:=zh1 hy.1 hx hl;omega
theorem zdn (h:zdw zs) (hv:nV zs=m) (hm:m<pw n):zs.length<=n:=by
 rcases cF n zs.length with h1 | h1
 ·have h2:=canon_ge h (by omega)
  have h3:pw n<=pw (zs.length - 1):=pw_le (by omega)
  omega
 ·exact h1
theorem mul_lt_pw {x y:Nat} (hx:x<pw m) (hy:y<pw n):x*y<pw (m+n):=by
 rw [pw_add]
 rcases Nat.eq_zero_or_pos y with h | h
 ·subst h;have:=Nat.mul_pos (pw_pos m) (pw_pos n);omega
 ·exact cV (Nat.mul_lt_mul_of_pos_right hx h) (cU _ (Nat.le_of_lt hy))
def bk (ao:Option Addr):Nat:=match ao with | some a=>a.block | none=>0
def of (ao:Option Addr):Nat:=match ao with | some a=>a.off | none=>0
def Ext (w w':World):Prop:=Below w.heap.size w w'
theorem Ext.refl (w:World):Ext w w:=Below.refl _ _
theorem Ext.size (h:Ext w w'):w.heap.size<=w'.heap.size:=Below.size h
theorem Ext.trans {a b c:World} (h:Ext a b) (k:Ext b c):Ext a c:=Below.trans h (Below.mono k h.size)
theorem Ext.alloc {a:World} (h:Ext a w) (o:Obj):Ext a (w.alloc o):=Below.alloc h h.size o
theorem Ext.drew {a:World} (h:Ext a w):Ext a w.drew:=Below.drew h
theorem Ext.drewN {a:World} (h:Ext a w) (n:Nat):Ext a (w.drewN n):=by
 have:∀ m,(w.drewN m).heap=w.heap/\(w.drewN m).os=w.os/\(w.drewN m).tape=w.tape/\(w.drewN m).output=w.output:=by
  intro m;exact ⟨rfl,rfl,rfl,rfl⟩
 obtain ⟨h1,h2,h3,h4⟩:=this n
 exact ⟨h2.trans h.os,h3.trans h.tape,h4.trans h.output,by rw [h1];exact Below.size h,fun k hk=>by rw [h1];exact h.block k hk⟩
theorem Ext.store {a:World} (h:Ext a w) {p:Addr} (hp:a.heap.size<=p.block) (u:Value):Ext a (w.setCell p u):=Below.setCell h hp u
theorem Ext.cell (h:Ext w w') {p:Addr} (hc:w.cell? p=some v):w'.cell? p=some v :=
 (Below.cell h (World.block_lt_of_cell? w p hc)).trans hc
theorem Ext.below (h:Ext w w'):Below w.heap.size w w':=h
structure Rd (w:World) (ao:Option Addr) (c:Nat) (zs:List Nat):Prop where
  cap:zs.length<=c
  mx:c<=9223372036854775807
  nl:ao=none->c=0
  lb:Lb zs
  ad:0<zs.length->ao=some ⟨bk ao,of ao,none⟩
  cell:∀ i,i<zs.length->w.cell? ⟨bk ao,of ao+i,none⟩=some (.int .u32 (lim zs i))
theorem Rd.nil (w:World):Rd w none 0 []:=⟨bM _,by omega,fun _=>rfl,Lb_nil,fun h=>by simp at h,fun i h=>by simp at h⟩
theorem Rd.ext {c:Nat} (h:Rd w ao c zs) (k:Ext w w'):Rd w' ao c zs :=
 ⟨h.cap,h.mx,h.nl,h.lb,h.ad,fun i hi=>k.cell (h.cell i hi)⟩
theorem Rd.take {c:Nat} (h:Rd w ao c zs) (k:Nat) (_hk:k<=zs.length) (c':Nat) (hc':(zs.take k).length<=c') (hc2:c'<=c):Rd w ao c' (zs.take k):=by
 refine ⟨hc', bN hc2 h.mx,fun e=>by have:=h.nl e;omega,Lb_take h.lb _,?_,?_⟩
 ·intro hp;rw [bH] at hp;exact h.ad (by omega)
 ·intro i hi;rw [bH] at hi;rw [lim_take (by omega)];exact h.cell i (by omega)
theorem Rd.drop {c:Nat} (h:Rd w (some ⟨b,o,none⟩) c zs) (k:Nat) (hk:k<=zs.length):Rd w (some ⟨b,o+k,none⟩) (c - k) (zs.drop k):=by
 have h1:=h.cap
 refine ⟨by rw [cG];omega,bN (Nat.sub_le _ _) h.mx,fun e=>by simp at e,Lb_drop h.lb _,fun _=>rfl,?_⟩
 intro i hi
 rw [cG] at hi
 have:=h.cell (k+i) (by omega)
 simp only [bk,of] at this ⊢
 rw [lim_drop,cD];exact this
theorem Rd.isAt {c:Nat} (h:Rd w ao c zs) (hp:0<zs.length):∃ b o,ao=some ⟨b,o,none⟩:=⟨_,_,h.ad hp⟩
theorem Rd.blt {c:Nat} (h:Rd w ao c zs) (hp:0<zs.length):bk ao<w.heap.size :=
 World.block_lt_of_cell? w _ (h.cell 0 hp)
structure Own (w:World) (B:Nat) (ao:Option Addr) (c:Nat) (zs:List Nat):Prop where
  lb:Lb zs
  row:w.ownsRow B 151 1 (.slice ao zs.length c) zs.length (zs.map fun (x:Nat)=>Value.int .u32 (x:Int))
theorem Own.nil (w:World) (B:Nat):Own w B none 0 []:=⟨Lb_nil,World.ownsRow_nil _ _ _ _⟩
theorem Own.lt {B:Nat} {c:Nat} (h:Own w B ao c zs):∀ k,(Value.slice ao zs.length c).ownBlock=some k->B<=k/\k<w.heap.size:=h.row.lt
theorem Own.blk {B:Nat} {c:Nat} (h:Own w B ao c zs) (hp:0<zs.length):B<=bk ao/\bk ao<w.heap.size/\of ao=0/\ao=some ⟨bk ao,0,none⟩:=by
 rcases h.row.2 with ⟨hv,hn⟩ | ⟨g,cap,cur,hv,hb,hg,hnc,hcm,hcs,htake⟩
 ·omega
 ·simp only [Value.slice.injEq,true_and] at hv
  obtain ⟨rfl,rfl⟩:=hv
  exact ⟨hb,(bR.1 hg).1,rfl,rfl⟩
theorem Own.frozen {B:Nat} {c:Nat} (h:Own w B ao c zs) (hp:0<zs.length) (i:Nat):w.frozen? ⟨bk ao,of ao+i,none⟩=false:=by
 rcases h.row.2 with ⟨hv,hn⟩ | ⟨g,cap,cur,hv,hb,hg,hnc,hcm,hcs,htake⟩
 ·omega
 ·have hr:=h.row
  simp only [Value.slice.injEq,true_and] at hv
  obtain ⟨rfl,rfl⟩:=hv
  simp only [bk,of,bV]
  exact hr.frozenAt i
theorem Own.alloc {B:Nat} {c:Nat} (h:Own w B ao c zs) (o:Obj):Own (w.alloc o) B ao c zs:=⟨h.lb,h.row.alloc o⟩
theorem Own.ext {B:Nat} {c:Nat} (h:Own w B ao c zs) (k:Ext w w'):Own w' B ao c zs :=
 ⟨h.lb,h.row.kept (row:=none) ⟨k.os,k.tape,k.output,k.size,fun i hi _=>k.block i hi⟩ (by cases hv:Value.ownBlock _ <;> simp)⟩
theorem Own.mono {B B':Nat} {c:Nat} (h:Own w B ao c zs) (hB:B'<=B):Own w B' ao c zs:=by
 refine ⟨h.lb,h.row.1,?_⟩
 rcases h.row.2 with hn | ⟨g,cap,cur,hv,hb,rest⟩
 ·exact .inl hn
 ·exact .inr ⟨g,cap,cur,hv,bN hB hb,rest⟩
theorem Own.take {B:Nat} {c:Nat} (h:Own w B ao c zs) (k:Nat) (hk:k<=zs.length):Own w B ao c (zs.take k):=by
 refine ⟨Lb_take h.lb _,by simp,?_⟩
 rw [bH,Nat.min_eq_left hk]
 rcases h.row.2 with ⟨hv,hn⟩ | ⟨g,cap,cur,hv,hb,hg,hnc,hcm,hcs,htake⟩
 ·simp at hv
  obtain ⟨rfl,_,rfl⟩:=hv
  refine .inl ⟨?_,by omega⟩
  simp;omega
 ·simp only [Value.slice.injEq,true_and] at hv
  obtain ⟨rfl,rfl⟩:=hv
  refine .inr ⟨g,c,cur,rfl,hb,hg,by omega,hcm,hcs,?_⟩
  rw [List.map_take,<- htake,List.take_take]
  congr 1
  omega
theorem Rd.kept {c:Nat} {g:Nat} (h:Rd w ao c zs) (k:w.grownBy w' (some g)) (hne:0<zs.length->bk ao≠g):Rd w' ao c zs :=
 ⟨h.cap,h.mx,h.nl,h.lb,h.ad,fun i hi=>k.cell (h.cell i hi) (by simp;exact hne (by omega))⟩
theorem Own.kept {B:Nat} {c:Nat} {g:Nat} (h:Own w B ao c zs) (k:w.grownBy w' (some g)) (hne:(Value.slice ao zs.length c).ownBlock≠some g):Own w' B ao c zs :=
 ⟨h.lb,h.row.kept k (.inr hne)⟩
theorem Own.store {B:Nat} {c:Nat} (h:Own w B ao c zs) (i:Nat) (hi:i<zs.length) (E:Int) (y:Nat) (hE:E=(y:Int)) (hy:y<4294967296) :
  Own (w.setCell ⟨bk ao,of ao+i,none⟩ (.int .u32 E)) B ao c (zs.set i y)/\w.grownBy (w.setCell ⟨bk ao,of ao+i,none⟩ (.int .u32 E)) (some (bk ao)):=by
 subst hE
 obtain ⟨h1,h2,h3,h4⟩:=h.blk (by omega)
 have hr:=h.row
 rw [h4] at hr
 have:=hr.stored i (.int .u32 (y:Int))
 rw [h3,bV]
 refine ⟨⟨?_,?_⟩,this.2⟩
 ·intro z hz
  rcases dD hz with hm | hm
  ·exact h.lb z hm
  ·omega
 ·rw [h4,List.length_set,List.map_set]
  exact this.1
def GotN (w:World) (m:Nat) (e:Ending) (w':World):Prop:=∃ ao c zs,e = .returned (.slice ao zs.length c)/\Own w' w.heap.size ao c zs/\zdw zs/\nV zs=m/\Ext w w'
def Qt (w w':World):Prop:=∃ n,w'=w.drewN n
theorem Qt.refl (w:World):Qt w w:=⟨0,rfl⟩
theorem Qt.drewN (h:Qt w w') (n:Nat):Qt w (w'.drewN n):=by
 obtain ⟨m,rfl⟩:=h
 exact ⟨m+n,by simp [World.drewN,cD]⟩
theorem Qt.ext (h:Qt w w'):Ext w w':=by
 obtain ⟨m,rfl⟩:=h
 exact (Ext.refl w).drewN m
def GotSub (w:World) (m n:Nat) (e:Ending) (w':World):Prop :=
  ∃ ao c zs,e = .returned (.tuple #[.slice ao zs.length c,.bool (decide (n<=m))])/\Own w' w.heap.size ao c zs/\zdw zs/\nV zs=m - n/\Ext w w'
theorem Rd.hi {c:Nat} (h:Rd w ao c zs) (k:Nat) (hk:k<=zs.length):Rd w (if c=k then ao else ao.map (·.add k)) (c - k) (zs.drop k):=by
 have h1:=h.cap
 rcases cF k zs.length with h2 | h2
 ·obtain ⟨b,o,rfl⟩:=h.isAt (by omega)
  rw [if_neg (by omega)]
  have h3:=h.drop k hk
  have e:(some (⟨b,o,none⟩:Addr)).map (·.add k)=some ⟨b,o+k,none⟩:=by
   simp only [Option.map_some,Addr.add]
   split
   ·subst_vars;rfl
   ·rfl
  rw [e]
  exact h3
 ·have e:zs.drop k=[]:=List.drop_eq_nil_of_le h2
  rw [e]
  refine ⟨cH _,bN (Nat.sub_le _ _) h.mx,?_,Lb_nil,fun hp=>by simp at hp,fun i hi=>by simp at hi⟩
  intro hn
  by_cases hc:c=k
  ·omega
  ·rw [if_neg hc] at hn
   have:=h.nl (by simpa using hn)
   omega
theorem Rd.lo {c:Nat} (h:Rd w ao c zs) (k:Nat) (hk:k<=zs.length):Rd w (if k=0 then ao else ao.map (·.add 0)) k (zs.take k):=by
 have h1:=h.take k hk k (by rw [bH];omega) (bN hk h.cap)
 have e:(if k=0 then ao else ao.map (·.add 0))=ao:=by
  split
  ·rfl
  ·cases ao with
   | none=>rfl
   | some a=>rfl
 rw [e];exact h1
def vd (zs:List Nat) (k:Nat):Nat:=nV (zs.drop k)
def GotM (w:World) (m L:Nat) (e:Ending) (w':World):Prop :=
  ∃ ao c zs B,e = .returned (.slice ao zs.length c)/\w.heap.size<=B/\Own w' B ao c zs/\Hid (zdw zs)/\Hid (nV zs=m)/\zs.length<=L/\Ext w w'
theorem GotN.len {L:Nat} {e:Ending} (h:GotN w m e w') (hm:m<pw L):GotM w m L e w':=by
 obtain ⟨ao,c,zs,he,ho,hc,hv,hx⟩:=h
 exact ⟨ao,c,zs,w.heap.size,he,bM _,ho,hc,hv,zdn hc hv hm,hx⟩
def GotSM (w:World) (m n L:Nat) (b:Bool) (e:Ending) (w':World):Prop :=
  ∃ ao c zs B,e = .returned (.tuple #[.slice ao zs.length c,.bool b])/\w.heap.size<=B/\Own w' B ao c zs/\Hid (zdw zs)/\Hid (nV zs=m - n)/\zs.length<=L/\Ext w w'
theorem GotSub.len {L:Nat} {b:Bool} {e:Ending} (h:GotSub w m n e w') (hm:m<pw L) (hb:decide (n<=m)=b):GotSM w m n L b e w':=by
 obtain ⟨ao,c,zs,he,ho,hc,hv,hx⟩:=h
 subst hb
 exact ⟨ao,c,zs,w.heap.size,he,bM _,ho,hc,hv,zdn hc hv (by omega),hx⟩
def iv (s:Bool) (zs:List Nat):Int:=if s then -(nV zs:Int) else (nV zs:Int)
theorem iv_abs (s:Bool) (zs:List Nat):(iv s zs).natAbs=nV zs:=by cases s <;> simp [iv]
def CanZ (s:Bool) (zs:List Nat):Prop:=zdw zs/\(zs.length=0->s=false)
theorem CanZ.neg_iff {s:Bool} (h:CanZ s zs):s=decide (iv s zs<0):=by
 cases s
 ·simp [iv]
 ·have hl:zs.length≠0:=fun e=>by have:=h.2 e;simp at this
  have:=canon_ge h.1 (by omega)
  have:=pw_pos (zs.length - 1)
  simp [iv];omega
theorem CanZ.inj {s t:Bool} (hx:CanZ s xs) (hy:CanZ t ys) (h:iv s xs=iv t ys):s=t/\xs=ys:=by
 have h1:s=t:=by rw [hx.neg_iff,hy.neg_iff,h]
 refine ⟨h1,canon_inj hx.1 hy.1 ?_⟩
 rw [<- iv_abs s xs,<- iv_abs t ys,h]
theorem CanZ.nil:CanZ false []:=⟨canon_nil,fun _=>rfl⟩
theorem CanZ.pos (h:zdw zs):CanZ false zs:=⟨h,fun _=>rfl⟩
theorem CanZ.neg (h:zdw zs) (hp:0<zs.length) (s:Bool):CanZ s zs:=⟨h,fun e=>by omega⟩
def GotP (v:Value) (w:World) (e:Ending) (w':World):Prop:=e = .returned v/\Ext w w'
theorem Ext.st {a:World} (h:Ext a w) (hb:a.heap.size<=b) (o:Nat) (u:Value):Ext a (w.setCell ⟨b,o,none⟩ u):=Ext.store h hb u
theorem grown_set (w:World) (p:Addr) (u:Value):w.grownBy (w.setCell p u) (some p.block) :=
 ⟨rfl,rfl,rfl,by simp [World.setCell],fun k _ hne=>Below.heap_setCell _ _ _ _ (fun e=>hne (by rw [e]))⟩
theorem Own.st {B:Nat} {c:Nat} (h:Own w B ao c zs) (hb:b<B) (o:Nat) (u:Value):Own (w.setCell ⟨b,o,none⟩ u) B ao c zs :=
 ⟨h.lb,h.row.kept (grown_set w _ u) (by
  cases hv:(Value.slice ao zs.length c).ownBlock with
  | none=>exact .inl rfl
  | some k=>right;intro e;have:=(h.lt k hv).1;simp at e;omega)⟩
theorem Own.drew {B:Nat} {c:Nat} (h:Own w B ao c zs):Own w.drew B ao c zs:=h.ext ((Ext.refl w).drew)
def sgn (z:Int):Int:=if z<0 then -1 else if 0<z then 1 else 0
def cmpZ (x y:Int):Int:=if x<y then -1 else if y<x then 1 else 0
namespace S
variable {α β ι:Type} {K:List Nat} {a:Act} {P:Program} {Q:Exit->Act->World->Prop} {t off es fo n' bs:Nat} {draw ag:Bool} {x:Operand} {op:BinOp} {xt yt ty el rty:TypeId} {arr:List Value} {fz:Nat × Nat} {fn:Func} {y:Code} {w0:World} {z:Value}
inductive D where
  | raw (v:Value)
  | sl (es:Nat) (rows:List (List D))
  deriving Inhabited
abbrev Im:=Nat->Option Obj
def flat:Value->Bool
  | .agg _ | .tuple _=>false
  | _=>true
inductive DR (H:Im):D->Value->Prop
  | raw (v:Value) (h:flat v=true):DR H (.raw v) v
  | nil (es:Nat) (ao:Option Addr) (c:Nat) (h:ao=none->c=0) (hc:c<=maxLen):DR H (.sl es []) (.slice ao 0 c)
  | sl (es:Nat) (rows:List (List D)) (b o c:Nat) (arr:Array Value) (ty:TypeId) (fz:Nat × Nat) (vs:Nat->Nat->Value) (hp:0<rows.length) (hb:H b=some (.cells arr ty fz))
      (hl:rows.length<=c) (hc:c<=maxLen) (hes:∀ i (hi:i<rows.length),(rows[i]'hi).length=es)
      (hv:∀ i (_hi:i<rows.length) j,j<es->arr[o+i*es+j]?=some (vs i j)) (hr:∀ i (hi:i<rows.length) j (hj:j<rows[i].length),DR H rows[i][j] (vs i j)) :
      DR H (.sl es rows) (.slice (some ⟨b,o,none⟩) rows.length c)
def Le (H H':Im):Prop:=∀ b o,H b=some o->H' b=some o
theorem Le.refl (H:Im):Le H H:=fun _ _ h=>h
theorem Le.trans {A B C:Im} (h:Le A B) (k:Le B C):Le A C:=fun b o x=>k b o (h b o x)
variable {H H':Im}
theorem DR.mono (hl:Le H H') {x:D} (h:DR H x v):DR H' x v:=by
 induction h with
 | raw v h=>exact .raw v h
 | nil es ao c h hc=>exact .nil es ao c h hc
 | sl es rows b o c arr ty fz vs hp hb hl2 hc hes hv _ ih=>exact .sl es rows b o c arr ty fz vs hp (hl _ _ hb) hl2 hc hes hv ih
theorem DR.flat {x:D} (h:DR H x v):flat v=true:=by cases h <;> first | assumption | rfl
inductive A where
  | d (x:D)
  | ptr (n o:Nat)
inductive C where
  | d (x:D)
  | ptr (n o:Nat)
  | own (n len:Nat)
  | sub (n o len:Nat)
  | el (xs:List D)
  | fn (f:Fn) (first cap:List A)
  | any
  | mp (n:Nat)
inductive T where
  | c (x:C)
  | agg (cs:List C)
inductive V where
  | t (x:T)
  | tup (xs:List T)
inductive L where
  | box (cs:List C)
  | row (ty:TypeId) (es:Nat) (rows:List (List D))
  | rowc (ty:TypeId) (es:Nat) (rows:List (List C))
  | bld (ty:TypeId) (c:C) (rest:List C)
  | mp (es:List (Value × D))
  | mpx (arr:List MapEntry) (cl:Nat)
  | it (n since:Nat) (seen:List Nat) (cl:Nat)
abbrev Bl:=Nat->Option (Nat × Nat)
def zat {α β:Type} (R:α->β->Prop):List α->List β->Prop
  | [],[]=>True
  | a :: xs,b :: ys=>R a b/\zat R xs ys
  | _,_=>False
theorem zat.length {R:α->β->Prop}:∀ {xs:List α} {ys:List β}, zat R xs ys->xs.length=ys.length
 | [],[],_=>rfl
 | _ :: _,_ :: _,h=>by simp [zat.length h.2]
 | [],_ :: _,h=>h.elim
 | _ :: _,[],h=>h.elim
theorem zat.mono {R R':α->β->Prop}:∀ {xs:List α} {ys:List β}, zat R xs ys->(∀ a ∈ xs,∀ b,R a b->R' a b)->zat R' xs ys
 | [],[],_,_=>trivial
 | _ :: _,_ :: _,h,k=>⟨k _ (by simp) _ h.1,h.2.mono fun a ha b=>k a (by simp [ha]) b⟩
 | [],_ :: _,h,_=>h.elim
 | _ :: _,[],h,_=>h.elim
theorem zat.get {R:α->β->Prop}:∀ {xs:List α} {ys:List β}, zat R xs ys->∀ i (hi:i<xs.length),∃ b,ys[i]?=some b/\R xs[i] b
 | a :: xs,b :: ys,h,0,_=>⟨b,rfl,h.1⟩
 | a :: xs,b :: ys,h,i+1,hi=>by
  obtain ⟨x,hx,hr⟩:=h.2.get i (by simp at hi;omega)
  exact ⟨x,by simpa using hx,by simpa using hr⟩
 | [],[],_,_,hi=>by simp at hi
 | [],_ :: _,h,_,_=>h.elim
 | _ :: _,[],h,_,_=>h.elim
theorem zat.append {R:α->β->Prop}:∀ {xs:List α} {ys:List β} {zs:List α} {us:List β}, zat R xs ys->zat R zs us->zat R (xs++zs) (ys++us)
 | [],[],_,_,_,k=>k
 | _ :: _,_ :: _,_,_,h,k=>⟨h.1,h.2.append k⟩
 | [],_ :: _,_,_,h,_=>h.elim
 | _ :: _,[],_,_,h,_=>h.elim
theorem zat.set {R:α->β->Prop}:∀ {xs:List α} {ys:List β} (i:Nat) {a:α} {b:β}, zat R xs ys->R a b->zat R (xs.set i a) (ys.set i b)
 | [],[],_,_,_,_,_=>trivial
 | _ :: _,_ :: _,0,_,_,h,k=>⟨k,h.2⟩
 | _ :: _,_ :: _,i+1,_,_,h,k=>⟨h.1,h.2.set i k⟩
 | [],_ :: _,_,_,_,h,_=>h.elim
 | _ :: _,[],_,_,_,h,_=>h.elim
theorem zat.mapL {γ:Type} {R:α->β->Prop} {R':γ->β->Prop} (g:α->γ):∀ {xs:List α} {ys:List β}, zat R xs ys->(∀ a ∈ xs,∀ b,R a b->R' (g a) b)->zat R' (xs.map g) ys
 | [],[],_,_=>trivial
 | _ :: _,_ :: _,h,k=>⟨k _ (by simp) _ h.1,h.2.mapL g fun a ha b=>k a (by simp [ha]) b⟩
 | [],_ :: _,h,_=>h.elim
 | _ :: _,[],h,_=>h.elim
theorem zat.take {R:α->β->Prop}:∀ {xs:List α} {ys:List β} (n:Nat),zat R xs ys->zat R (xs.take n) (ys.take n)
 | [],[],n,_=>by simp [zat]
 | _ :: _,_ :: _,0,_=>trivial
 | _ :: _,_ :: _,n+1,h=>⟨h.1,h.2.take n⟩
 | [],_ :: _,_,h=>h.elim
 | _ :: _,[],_,h=>h.elim
theorem zat.drop {R:α->β->Prop}:∀ {xs:List α} {ys:List β} (n:Nat),zat R xs ys->zat R (xs.drop n) (ys.drop n)
 | [],[],n,_=>by simp [zat]
 | _ :: _,_ :: _,0,h=>h
 | _ :: _,_ :: _,n+1,h=>h.2.drop n
 | [],_ :: _,_,h=>h.elim
 | _ :: _,[],_,h=>h.elim
section reps
variable (H:Im) (B:Bl)
def AR:A->Value->Prop
  | .d x,v=>DR H x v
  | .ptr n o,v=>∃ b c,B n=some (b,c)/\v = .pointer (some ⟨b,o,none⟩)
def CR:C->Value->Prop
  | .d x,v=>DR H x v
  | .ptr n o,v=>∃ b c,B n=some (b,c)/\v = .pointer (some ⟨b,o,none⟩)
  | .own n k,v=>match B n with | none=>k=0/\∃ ao,v = .slice ao 0 0 | some (b,c)=>v = .slice (some ⟨b,0,none⟩) k c
  | .el xs,v=>∃ b o arr ty fz,H b=some (.cells arr ty fz)/\v = .pointer (some ⟨b,o,none⟩)/\∀ j (hj:j<xs.length),∃ u,arr[o+j]?=some u/\DR H xs[j] u
  | .fn f fs cs,v=>∃ vs ws:List Value,v = .func f ⟨vs⟩ ⟨ws⟩/\zat (AR H B) fs vs/\zat (AR H B) cs ws
  | .sub n o len,v=>(∃ ao c,v = .slice ao len c)/\(0<len->∃ b c k,B n=some (b,c)/\v = .slice (some ⟨b,o,none⟩) len k)
  | .any,v=>flat v=true
  | .mp n,v=>∃ b c,B n=some (b,c)/\v = .map (some b)
def TR:T->Value->Prop
  | .c x,v=>CR H B x v
  | .agg cs,v=>∃ vs:List Value,v = .agg ⟨vs⟩/\zat (CR H B) cs vs
def VR:V->Value->Prop
  | .t x,v=>TR H B x v
  | .tup xs,v=>∃ vs:List Value,v = .tuple ⟨vs⟩/\zat (TR H B) xs vs
def Brn (arr:List MapEntry) (cl:Nat):Prop:=(∀ x ∈ arr,x.born<cl)/\(arr.map (·.born)).Nodup
theorem Brn.nil (cl:Nat):Brn [] cl:=⟨fun x hx=>(by cases hx),List.nodup_nil⟩
theorem Brn.snoc {arr:List MapEntry} {cl:Nat} (h:Brn arr cl) (k v:Value):Brn (arr++[⟨k,v,cl⟩]) (cl+1):=by
 refine ⟨fun x hx=>?_,?_⟩
 ·rcases bW.1 hx with h1 | h1
  ·have:=h.1 x h1;omega
  ·rw [List.mem_singleton.1 h1];exact Nat.lt_succ_self _
 ·rw [List.map_append,List.nodup_append]
  refine ⟨h.2,by simp,fun a ha b hb=>?_⟩
  obtain ⟨x,hx,rfl⟩:=bE.1 ha
  have:=h.1 x hx
  have hb:b=cl:=by simpa using hb
  omega
def LR (w:World) (n:Nat):L->Prop
  | .box cs=>∃ b c arr ty,B n=some (b,c)/\w.heap[b]?=some (.cells ⟨arr⟩ ty (0,0))/\zat (CR H B) cs arr
  | .row ty es rows=>match B n with
    | none=>rows=[]
    | some (b,c)=>∃ arr:List Value,w.heap[b]?=some (.cells ⟨arr⟩ ty (0,0))/\arr.length=c*es/\rows.length<=c/\c<=maxLen/\(∀ r ∈ rows,r.length=es)/\zat (DR H) rows.flatten (arr.take (rows.length*es))
  | .rowc ty es rows=>match B n with
    | none=>rows=[]
    | some (b,c)=>∃ arr:List Value,w.heap[b]?=some (.cells ⟨arr⟩ ty (0,0))/\arr.length=c*es/\rows.length<=c/\c<=maxLen/\(∀ r ∈ rows,r.length=es)/\zat (CR H B) rows.flatten (arr.take (rows.length*es))
  | .bld ty x rest=>∃ b c v1 v2 vr,B n=some (b,c)/\w.heap[b]?=some (.cells ⟨v1 :: v2 :: vr⟩ ty (0,0))/\(v1 = .pointer none\/v1 = .pointer (some ⟨b,0,none⟩))/\(v2 = .slice none 0 0\/∃ g n c,v2 = .slice (some ⟨g,0,none⟩) n c/\0<c)/\CR H B x v2/\zat (CR H B) rest vr
  | .mp es=>∃ b c arr cl,B n=some (b,c)/\w.heap[b]?=some (.map ⟨arr⟩ cl)/\zat (fun (p:Value × D) (e:MapEntry)=>e.key=p.1/\DR H p.2 e.val) es arr/\Brn arr cl
  | .mpx arr cl=>∃ b c,B n=some (b,c)/\w.heap[b]?=some (.map ⟨arr⟩ cl)
  | .it m since seen cl=>∃ b c b2 c2,B n=some (b,c)/\B m=some (b2,c2)/\w.heap[b]?=some (.mapIter (some b2) since ⟨seen⟩ cl)
end reps
def A.tags:A->List Nat
  | .d _=>[]
  | .ptr n _=>[n]
def C.tags:C->List Nat
  | .d _ | .any | .el _=>[]
  | .ptr n _ | .own n _ | .sub n _ _ | .mp n=>[n]
  | .fn _ fs cs=>fs.flatMap A.tags++cs.flatMap A.tags
def T.tags:T->List Nat
  | .c x=>x.tags
  | .agg cs=>cs.flatMap C.tags
def V.tags:V->List Nat
  | .t x=>x.tags
  | .tup xs=>xs.flatMap T.tags
def L.tags:L->List Nat
  | .box cs=>cs.flatMap C.tags
  | .row _ _ _=>[]
  | .rowc _ _ rows=>rows.flatten.flatMap C.tags
  | .bld _ c rest=>c.tags++rest.flatMap C.tags
  | .mp _=>[]
  | .mpx _ _=>[]
  | .it n _ _ _=>[n]
section mono
variable {H H':Im} {B B':Bl}
theorem AR.mono (hl:Le H H') {x:A} (hB:∀ n ∈ x.tags,B' n=B n) (h:AR H B x v):AR H' B' x v:=by
 cases x with
 | d x=>exact DR.mono hl h
 | ptr n o=>obtain ⟨b,c,hb,hv⟩:=h;exact ⟨b,c,(hB n (by simp [A.tags])).trans hb,hv⟩
theorem CR.mono (hl:Le H H') {x:C} (hB:∀ n ∈ x.tags,B' n=B n) (h:CR H B x v):CR H' B' x v:=by
 cases x with
 | d x=>exact DR.mono hl h
 | ptr n o=>obtain ⟨b,c,hb,hv⟩:=h;exact ⟨b,c,(hB n (by simp [C.tags])).trans hb,hv⟩
 | own n k=>simp only [CR] at h ⊢;rw [hB n (by simp [C.tags])];exact h
 | el xs =>
  obtain ⟨b,o,arr,ty,fz,hb,hv,hx⟩:=h
  exact ⟨b,o,arr,ty,fz,hl _ _ hb,hv,fun j hj=>let ⟨u,h1,h2⟩:=hx j hj;⟨u,h1,h2.mono hl⟩⟩
 | fn f fs cs =>
  obtain ⟨vs,ws,hv,h1,h2⟩:=h
  refine ⟨vs,ws,hv,h1.mono fun a ha b=>AR.mono hl fun n hn=>hB n ?_,h2.mono fun a ha b=>AR.mono hl fun n hn=>hB n ?_⟩
  ·simp only [C.tags,bW,bC];exact .inl ⟨a,ha,hn⟩
  ·simp only [C.tags,bW,bC];exact .inr ⟨a,ha,hn⟩
 | sub n o len=>exact ⟨h.1,fun hl=>let ⟨b,c,k,h1,h2⟩:=h.2 hl;⟨b,c,k,(hB n (by simp [C.tags])).trans h1,h2⟩⟩
 | any=>exact h
 | mp n=>obtain ⟨b,c,hb,hv⟩:=h;exact ⟨b,c,(hB n (by simp [C.tags])).trans hb,hv⟩
theorem TR.mono (hl:Le H H') {x:T} (hB:∀ n ∈ x.tags,B' n=B n) (h:TR H B x v):TR H' B' x v:=by
 cases x with
 | c x=>exact CR.mono hl hB h
 | agg cs =>
  obtain ⟨vs,hv,h1⟩:=h
  exact ⟨vs,hv,h1.mono fun a ha b=>CR.mono hl fun n hn=>hB n (by simp only [T.tags,bC];exact ⟨a,ha,hn⟩)⟩
theorem VR.mono (hl:Le H H') {x:V} (hB:∀ n ∈ x.tags,B' n=B n) (h:VR H B x v):VR H' B' x v:=by
 cases x with
 | t x=>exact TR.mono hl hB h
 | tup xs =>
  obtain ⟨vs,hv,h1⟩:=h
  exact ⟨vs,hv,h1.mono fun a ha b=>TR.mono hl fun n hn=>hB n (by simp only [V.tags,bC];exact ⟨a,ha,hn⟩)⟩
theorem LR.mono (hl:Le H H') {x:L} (hn:B' n=B n) (hB:∀ n ∈ x.tags,B' n=B n) (hw:∀ b c,B n=some (b,c)->w'.heap[b]?=w.heap[b]?) (h:LR H B w n x):LR H' B' w' n x:=by
 cases x with
 | box cs =>
  obtain ⟨b,c,arr,ty,hb,hc,h1⟩:=h
  exact ⟨b,c,arr,ty,hn.trans hb,(hw b c hb).trans hc,h1.mono fun a ha v=>CR.mono hl fun m hm=>hB m (by simp only [L.tags,bC];exact ⟨a,ha,hm⟩)⟩
 | row ty es rows =>
  simp only [LR] at h ⊢
  rw [hn]
  cases hb:B n with
  | none=>rw [hb] at h;exact h
  | some p =>
   obtain ⟨b,c⟩:=p
   rw [hb] at h
   obtain ⟨arr,h1,h2,h3,h4,h5,h6⟩:=h
   exact ⟨arr,(hw b c hb).trans h1,h2,h3,h4,h5,h6.mono fun a _ v=>DR.mono hl⟩
 | rowc ty es rows =>
  simp only [LR] at h ⊢
  rw [hn]
  cases hb:B n with
  | none=>rw [hb] at h;exact h
  | some p =>
   obtain ⟨b,c⟩:=p
   rw [hb] at h
   obtain ⟨arr,h1,h2,h3,h4,h5,h6⟩:=h
   exact ⟨arr,(hw b c hb).trans h1,h2,h3,h4,h5,h6.mono fun a ha v=>CR.mono hl fun m hm=>hB m (by simp only [L.tags,bC];exact ⟨a,ha,hm⟩)⟩
 | bld ty x rest =>
  obtain ⟨b,c,v1,v2,vr,hb,hc,h1,h0,h2,h3⟩:=h
  exact ⟨b,c,v1,v2,vr,hn.trans hb,(hw b c hb).trans hc,h1,h0,CR.mono hl (fun m hm=>hB m (by simp only [L.tags];exact b7 _ hm)) h2,h3.mono fun a ha v=>CR.mono hl fun m hm=>hB m (by simp only [L.tags];exact bX _ (bC.2 ⟨a,ha,hm⟩))⟩
 | mp es =>
  obtain ⟨b,c,arr,cl,hb,hc,h1,h9⟩:=h
  exact ⟨b,c,arr,cl,hn.trans hb,(hw b c hb).trans hc,h1.mono fun a _ e h2=>⟨h2.1,h2.2.mono hl⟩,h9⟩
 | mpx arr cl=>obtain ⟨b,c,hb,hc⟩:=h;exact ⟨b,c,hn.trans hb,(hw b c hb).trans hc⟩
 | it m since seen cl=>obtain ⟨b,c,b2,c2,hb,h2,hc⟩:=h;exact ⟨b,c,b2,c2,hn.trans hb,(hB m (by simp [L.tags])).trans h2,(hw b c hb).trans hc⟩
end mono
structure F where
  s:Nat->Option V
  l:Nat->Option L
structure E where
  w:World
  H:Im
  B:Bl
  K:List Nat
  n:Nat
def E.may (e:E) (b:Nat):Prop:=∃ n ∈ e.K,∃ c,e.B n=some (b,c)
structure Ext (may:Nat->Prop) (w w':World):Prop where
  os:w'.os=w.os
  tape:w'.tape=w.tape
  output:w'.output=w.output
  size:w.heap.size<=w'.heap.size
  block:∀ b,b<w.heap.size->¬ may b->w'.heap[b]?=w.heap[b]?
theorem Ext.refl (may:Nat->Prop) (w:World):Ext may w w:=⟨rfl,rfl,rfl,bM _,fun _ _ _=>rfl⟩
def TabH (_:Im):Prop:=True
theorem TabH.mono (_:TabH H) (_:Le H H'):TabH H':=trivial
structure Ok (e:E) (f:F) (H:Im) (B:Bl) (a:Act) (w:World):Prop where
  df:a.defers=[]
  n:a.tmps.size=e.n
  ext:Ext e.may e.w w
  sat:∀ b o,H b=some o->w.heap[b]?=some o
  slot:∀ t v,f.s t=some v->VR H B v (a.tmps.getD t undef)
  loc:∀ n l,f.l n=some l->LR H B w n l
  priv:∀ n l b c,f.l n=some l->B n=some (b,c)->b<w.heap.size/\H b=none/\(e.may b\/e.w.heap.size<=b)
  inj:∀ n m l l' b c c', f.l n=some l->f.l m=some l'->B n=some (b,c)->B m=some (b,c')->n=m
  low:∀ b,b<e.w.heap.size->H b=e.H b
  le:Le e.H H
  keep:∀ n ∈ e.K,B n=e.B n
  tab:TabH e.H
def St (e:E) (f:F) (a:Act) (w:World):Prop:=∃ H B,Ok e f H B a w
structure I where
  rs:List (Nat × V):=[]
  rl:List (Nat × L):=[]
  ws:List (Nat × Option V):=[]
  wl:List (Nat × Option L):=[]
  nw:List Nat:=[]
  k0:Bool:=false
def F.app (f:F) (i:I):F :=
  ⟨fun t=>match i.ws.lookup t with | some v=>v | none=>f.s t,fun n=>match i.wl.lookup n with | some l=>l | none=>f.l n⟩
def F.le (f g:F):Prop:=(∀ t v,g.s t=some v->f.s t=some v)/\(∀ n l,g.l n=some l->f.l n=some l)
def zfl (f:F) (i:I):Prop:=(∀ p ∈ i.rs,f.s p.1=some p.2)/\(∀ p ∈ i.rl,f.l p.1=some p.2)
def New (K:List Nat) (f:F) (n:Nat):Prop:=n ∉ K/\f.l n=none/\(∀ t v,f.s t=some v->n ∉ v.tags)/\(∀ m l,f.l m=some l->n ∉ l.tags)
variable {f:F}
theorem New.ne (h:New K f n) {l:L} (hm:f.l m=some l):m≠n:=fun e=>by have:=h.2.1;rw [<- e,hm] at this;cases this
variable {e:E}
theorem St.weaken {g:F} (h:St e f a w) (hl:f.le g):St e g a w:=by
 obtain ⟨H,B,h⟩:=h
 exact ⟨H,B,h.df,h.n,h.ext,h.sat,fun t v hv=>h.slot t v (hl.1 t v hv),fun n l hn=>h.loc n l (hl.2 n l hn),fun n l b c hn=>h.priv n l b c (hl.2 n l hn),fun n m l l' b c c' h1 h2=>h.inj n m l l' b c c' (hl.2 n l h1) (hl.2 m l' h2),h.low,h.le,h.keep,h.tab⟩
theorem St.drew (h:St e f a w):St e f a { w with drawn:=w.drawn+1 }:=by
 obtain ⟨H,B,h⟩:=h
 exact ⟨H,B,h.df,h.n,⟨h.ext.os,h.ext.tape,h.ext.output,h.ext.size,h.ext.block⟩,h.sat,h.slot,fun n l hn=>LR.mono (Le.refl _) rfl (fun _ _=>rfl) (fun _ _ _=>rfl) (h.loc n l hn),h.priv,h.inj,h.low,h.le,h.keep,h.tab⟩
def FitsE (e:E) (i:I):Prop:=(∀ p ∈ i.ws,p.1<e.n)/\(i.k0=true->e.K=[])
def zar (P:Program) (o:Oper) (i:I):Prop :=
  ∀ (e:E) (f:F) (a:Act) (w:World) (Q:Exit->Act->World->Prop),St e f a w->zfl f i->(∀ n ∈ i.nw,New e.K f n)->FitsE e i->Oper.wp P o a w (fun a' w'=>St e (f.app i) a' w') Q
def gv (b:Bool):V:=.t (.c (.d (.raw (.bool b))))
inductive Does (P:Program) (ops:Array Oper) (o:Oper) (i:I):Prop
  | run (hg:o.guard=none) (h:zar P o i)
  | runG (j:Nat) (b:Bool) (d:Nat) (hg:o.guard=some (j,b)) (hd:(ops[j]?).bind (·.dst)=some d) (hr:(d,gv b) ∈ i.rs) (h:zar P o i)
  | skip (j:Nat) (b:Bool) (d:Nat) (hg:o.guard=some (j,b)) (hd:(ops[j]?).bind (·.dst)=some d) (hr:(d,gv (!b)) ∈ i.rs) (hw:i.ws=(o.dst.toList.map fun t=>(t,some (.tup [])))) (hl:i.wl=[]) (hn:i.nw=[])
  | skip2 (j:Nat) (b:Bool) (d:Nat) (hg:o.guard=some (j,b)) (hd:(ops[j]?).bind (·.dst)=some d) (hr:(d,V.tup []) ∈ i.rs) (hw:i.ws=(o.dst.toList.map fun t=>(t,some (.tup [])))) (hl:i.wl=[]) (hn:i.nw=[])
variable {B:Bl}
theorem yielded_of {ops:Array Oper} (h:Ok e f H B a w) {j d:Nat} {b:Bool} (hd:(ops[j]?).bind (·.dst)=some d) (hf:f.s d=some (gv b)):yielded ops a.tmps j=some b:=by
 have h1:=h.slot d _ hf
 simp only [gv,VR,TR,CR] at h1
 generalize hx:a.tmps.getD d undef=x at h1
 cases h1
 unfold yielded
 rw [hd]
 simp only [cW]
 rw [bK] at hx
 cases hy:a.tmps[d]? with
 | none=>rw [hy] at hx;simp [undef] at hx
 | some y=>rw [hy] at hx;simp at hx;subst hx;rfl
theorem undef_tup:VR H B (.tup []) undef:=⟨[],rfl,trivial⟩
theorem St.forget (h:St e f a w) (dst:Option Nat) (i:I) (hw:i.ws=(dst.toList.map fun t=>(t,some (.tup [])))) (hl:i.wl=[]):St e (f.app i) (a.put dst undef) w:=by
 obtain ⟨H,B,h⟩:=h
 have hs:∀ t v,(f.app i).s t=some v->(f.s t=some v/\dst≠some t)\/(dst=some t/\v = .tup []):=by
  intro t v hv
  cases dst with
  | none=>simp [F.app,hw] at hv;exact .inl ⟨hv,by simp⟩
  | some d =>
   simp only [F.app,hw,Option.toList_some,cK,List.map_nil,List.lookup] at hv
   cases hc:(t == d) with
   | true=>rw [hc] at hv;simp at hv hc;exact .inr ⟨by rw [hc],hv.symm⟩
   | false=>rw [hc] at hv;exact .inl ⟨hv,by intro e;simp at e;simp [e] at hc⟩
 have hll:∀ n,(f.app i).l n=f.l n:=by intro n;simp [F.app,hl]
 refine ⟨H,B,?_,?_,h.ext,h.sat,?_,?_,?_,?_,h.low,h.le,h.keep,h.tab⟩
 ·cases dst <;> exact h.df
 ·cases dst <;> simp [Act.put,h.n]
 ·intro t v hv
  rcases hs t v hv with ⟨h1,h2⟩ | ⟨h1,h2⟩
  ·have:=h.slot t v h1
   cases dst with
   | none=>exact this
   | some d =>
    have hne:d≠t:=fun e=>h2 (by rw [e])
    simpa [Act.put,bK, dE hne] using this
  ·subst h1 h2
   have:(a.put (some t) undef).tmps.getD t undef=undef:=by
    simp only [Act.put,bK]
    rw [Array.getElem?_setIfInBounds]
    split
    ·split <;> rfl
    ·rename_i hx;exact absurd rfl hx
   rw [this];exact undef_tup
 ·intro n l hn;rw [hll] at hn;exact h.loc n l hn
 ·intro n l b c hn;rw [hll] at hn;exact h.priv n l b c hn
 ·intro n m l l' b c c' h1 h2;rw [hll] at h1 h2;exact h.inj n m l l' b c c' h1 h2
theorem yielded_none {ops:Array Oper} (h:Ok e f H B a w) {j d:Nat} (hd:(ops[j]?).bind (·.dst)=some d) (hf:f.s d=some (.tup [])):yielded ops a.tmps j=none:=by
 obtain ⟨vs,h1,h2⟩:=h.slot d _ hf
 have h3:vs=[]:=by cases vs with
  | nil=>rfl
  | cons _ _=>exact h2.elim
 subst h3
 unfold yielded
 rw [hd]
 simp only [cW]
 rw [bK] at h1
 cases hx:a.tmps[d]? with
 | none=>rfl
 | some y=>rw [hx] at h1;simp at h1;subst h1;rfl
variable {i:I}
theorem Does.wpOp {ops:Array Oper} {o:Oper} (hk:ops[k]?=some o) (hd:Does P ops o i)
  (h:St e f a w) (hr:zfl f i) (hn:∀ n ∈ i.nw,New e.K f n) (hb:FitsE e i):Go.wpOp P ops Q k (fun a' w'=>St e (f.app i) a' w') a w:=by
 unfold Go.wpOp
 simp only [hk]
 cases hd with
 | run hg h1=>simp only [Region.wanted,hg,if_true];exact .inl (h1 e f a w Q h hr hn hb)
 | runG j b d hg hd2 hr2 h1 =>
  obtain ⟨H,B,h'⟩:=id h
  have hy:=yielded_of h' hd2 (hr.1 _ hr2)
  simp only [Region.wanted,hg,hy,beq_self_eq_true,if_true]
  exact .inl (h1 e f a w Q h hr hn hb)
 | skip j b d hg hd2 hr2 hw hl hn2 =>
  obtain ⟨H,B,h'⟩:=id h
  have hy:=yielded_of h' hd2 (hr.1 _ hr2)
  have:(some (!b) == some b)=false:=by cases b <;> rfl
  simp only [Region.wanted,hg,hy,this,cJ,if_false]
  exact h.forget _ i hw hl
 | skip2 j b d hg hd2 hr2 hw hl hn2 =>
  obtain ⟨H,B,h'⟩:=id h
  have hy:=yielded_none h' hd2 (hr.1 _ hr2)
  have:((none:Option Bool) == some b)=false:=rfl
  simp only [Region.wanted,hg,hy,this,cJ,if_false]
  exact h.forget _ i hw hl
def I.wtags (i:I):List Nat :=
  (i.ws.flatMap fun p=>match p.2 with | some v=>v.tags | none=>[])++(i.wl.flatMap fun p=>p.1 :: match p.2 with | some l=>l.tags | none=>[])
def zcm (l:List Nat) (n:Nat):Bool:=l.any (Nat.beq n ·)
theorem zb5 {l:List Nat}:zcm l n=true ↔ n ∈ l:=by
 unfold zcm
 rw [List.any_eq_true]
 constructor
 ·rintro ⟨x,hx,he⟩;rw [bA he];exact hx
 ·intro h;exact ⟨n,h,Nat.beq_refl n⟩
def ze7 (xs ys:List Nat):Bool:=xs.all fun x=>!zcm ys x
theorem zbj (h:ze7 xs ys=true) {x:Nat} (hx:x ∈ xs):x ∉ ys:=by
 unfold ze7 at h
 have:=bI.1 h x hx
 intro hy
 rw [zb5.2 hy] at this
 cases this
def ment (j i:I):Bool:=ze7 i.nw j.wtags
def disj (i j:I):Bool :=
  ze7 (i.ws.map (·.1)) (j.rs.map (·.1)) && ze7 (i.ws.map (·.1)) (j.ws.map (·.1)) && ze7 (j.ws.map (·.1)) (i.rs.map (·.1)) &&
  (ze7 (i.wl.map (·.1)) (j.rl.map (·.1)) && ze7 (i.wl.map (·.1)) (j.wl.map (·.1)) && ze7 (j.wl.map (·.1)) (i.rl.map (·.1)))
theorem zci {l:List (Nat × β)} (h:n ∉ l.map (·.1)):l.lookup n=none:=by
 induction l with
 | nil=>rfl
 | cons p l ih =>
  simp at h
  obtain ⟨a,b⟩:=p
  have:(n == a)=false:=by simp;exact h.1
  simp only [List.lookup,this]
  exact ih (by simpa using h.2)
theorem zae {l:List (Nat × β)} {b:β} (h:l.lookup n=some b):(n,b) ∈ l:=by
 induction l with
 | nil=>cases h
 | cons p l ih =>
  obtain ⟨x,y⟩:=p
  simp only [List.lookup] at h
  cases hc:(n == x) with
  | true=>rw [hc] at h;simp at h hc;subst h hc;simp
  | false=>rw [hc] at h;exact cL _ (ih h)
theorem zfx (h:t ∉ i.ws.map (·.1)):(f.app i).s t=f.s t:=by simp only [F.app,zci h]
theorem zfy (h:t ∉ i.wl.map (·.1)):(f.app i).l t=f.l t:=by simp only [F.app,zci h]
structure Disj (i j:I):Prop where
  a1:∀ t ∈ i.ws.map (·.1),t ∉ j.rs.map (·.1)
  a2:∀ t ∈ i.ws.map (·.1),t ∉ j.ws.map (·.1)
  a3:∀ t ∈ j.ws.map (·.1),t ∉ i.rs.map (·.1)
  b1:∀ t ∈ i.wl.map (·.1),t ∉ j.rl.map (·.1)
  b2:∀ t ∈ i.wl.map (·.1),t ∉ j.wl.map (·.1)
  b3:∀ t ∈ j.wl.map (·.1),t ∉ i.rl.map (·.1)
variable {j:I}
theorem disj_spec (h:disj i j=true):Disj i j:=by
 simp only [disj,bF] at h
 exact ⟨fun t ht=>zbj h.1.1.1 ht,fun t ht=>zbj h.1.1.2 ht,fun t ht=>zbj h.1.2 ht,fun t ht=>zbj h.2.1.1 ht,fun t ht=>zbj h.2.1.2 ht,fun t ht=>zbj h.2.2 ht⟩
theorem Disj.comm (h:Disj i j) (f:F):(f.app i).app j=(f.app j).app i:=by
 unfold F.app
 simp only [F.mk.injEq]
 constructor
 ·funext t
  cases h1:j.ws.lookup t with
  | none=>rfl
  | some v =>
   have hj:t ∈ j.ws.map (·.1):=by have:=zae h1;exact bE.2 ⟨_,this,rfl⟩
   have hi:t ∉ i.ws.map (·.1):=fun hi=>h.a2 t hi hj
   simp only [zci hi]
 ·funext t
  cases h1:j.wl.lookup t with
  | none=>rfl
  | some v =>
   have hj:t ∈ j.wl.map (·.1):=by have:=zae h1;exact bE.2 ⟨_,this,rfl⟩
   have hi:t ∉ i.wl.map (·.1):=fun hi=>h.b2 t hi hj
   simp only [zci hi]
theorem Disj.reads (h:Disj i j):zfl (f.app i) j ↔ zfl f j:=by
 unfold zfl
 constructor
 ·rintro ⟨h1,h2⟩
  exact ⟨fun p hp=>by rw [<- h1 p hp,zfx (fun hm=>h.a1 _ hm (bE.2 ⟨p,hp,rfl⟩))],fun p hp=>by rw [<- h2 p hp,zfy (fun hm=>h.b1 _ hm (bE.2 ⟨p,hp,rfl⟩))]⟩
 ·rintro ⟨h1,h2⟩
  exact ⟨fun p hp=>by rw [zfx (fun hm=>h.a1 _ hm (bE.2 ⟨p,hp,rfl⟩))];exact h1 p hp,fun p hp=>by rw [zfy (fun hm=>h.b1 _ hm (bE.2 ⟨p,hp,rfl⟩))];exact h2 p hp⟩
theorem Disj.symm (h:Disj i j):Disj j i :=
 ⟨fun t h1 h2=>h.a3 t h1 h2,fun t h1 h2=>h.a2 t h2 h1,fun t h1 h2=>h.a1 t h1 h2,fun t h1 h2=>h.b3 t h1 h2,fun t h1 h2=>h.b2 t h2 h1,fun t h1 h2=>h.b1 t h1 h2⟩
theorem New.app (h:New K f n) (hm:ment j i=true) (hn:n ∈ i.nw):New K (f.app j) n:=by
 have hw:n ∉ j.wtags:=zbj hm hn
 obtain ⟨h1,h2,h3,h4⟩:=h
 have hk:n ∉ j.wl.map (·.1):=by
  intro hx
  obtain ⟨p,hp,rfl⟩:=bE.1 hx
  exact hw (bX _ (bC.2 ⟨p,hp,by simp⟩))
 refine ⟨h1,by rw [zfy hk];exact h2,?_,?_⟩
 ·intro t v hv
  simp only [F.app] at hv
  cases hl:j.ws.lookup t with
  | none=>rw [hl] at hv;exact h3 t v hv
  | some x =>
   rw [hl] at hv
   simp at hv
   subst hv
   intro hx
   exact hw (b7 _ (bC.2 ⟨_,zae hl,hx⟩))
 ·intro t v hv
  simp only [F.app] at hv
  cases hl:j.wl.lookup t with
  | none=>rw [hl] at hv;exact h4 t v hv
  | some x =>
   rw [hl] at hv
   simp at hv
   subst hv
   intro hx
   exact hw (bX _ (bC.2 ⟨_,zae hl,cL _ hx⟩))
def at_ (is:List I) (k:Nat):I:=is.getD k {}
def RunL (is:List I):F->List Nat->F->Prop
  | f,[],g=>f.le g
  | f,k :: l,g=>zfl f (at_ is k)/\RunL is (f.app (at_ is k)) l g
theorem RunL.first {is:List I} {g:F} {l2:List Nat}:∀ (l1:List Nat) (f:F),RunL is f (l1++k :: l2) g->(∀ j ∈ l1,Disj (at_ is j) (at_ is k)) ->
  zfl f (at_ is k)/\RunL is (f.app (at_ is k)) (l1++l2) g
 | [],f,h,_=>h
 | j :: l1,f,h,hd=>by
  obtain ⟨h1,h2⟩:=h
  obtain ⟨h3,h4⟩:=RunL.first l1 _ h2 (fun x hx=>hd x (by simp [hx]))
  have hj:=hd j (by simp)
  refine ⟨hj.reads.1 h3,hj.symm.reads.2 h1,?_⟩
  rw [<- hj.comm]
  exact h4
def pre (o:Oper):List Nat:=(o.after.toList.filter (Region.binds .any)).map (·.on)
def ze4:List Nat->List Oper->List Nat
  | acc,[]=>acc
  | acc,o :: os=>ze4 (acc++[(pre o).foldl (fun s j=>s ||| (2 ^ j ||| acc.getD j 0)) 0]) os
def masks (ops:List Oper):List Nat:=ze4 [] ops
theorem zgu (acc:List Nat) (j:Nat):∀ (l:List Nat) (s:Nat),(l.foldl (fun s j=>s ||| (2 ^ j ||| acc.getD j 0)) s).testBit j=true->s.testBit j=true\/∃ p ∈ l,j=p\/(acc.getD p 0).testBit j=true
 | [],s,h => .inl h
 | p :: l,s,h=>by
  simp only [List.foldl_cons] at h
  rcases zgu acc j l _ h with h1 | ⟨q,hq,h1⟩
  ·rw [Nat.testBit_or,Nat.testBit_or,cM,cM] at h1
   rcases h1 with h1 | h1 | h1
   ·exact .inl h1
   ·rw [Nat.testBit_two_pow] at h1;simp at h1;exact .inr ⟨p,by simp,.inl h1.symm⟩
   ·exact .inr ⟨p,by simp,.inr h1⟩
  ·exact .inr ⟨q,by simp [hq],h1⟩
theorem getD_app {l m:List Nat} (h:k<l.length):(l++m).getD k 0=l.getD k 0:=by
 rw [bU,bU,cN h]
theorem getD_out {l:List Nat} (h:l.length<=k):l.getD k 0=0:=by
 rw [bU,cT h];rfl
def MaskOk (ops:List Oper) (acc:List Nat):Prop:=∀ k,k<acc.length->∀ j,(acc.getD k 0).testBit j=true->∃ o,ops[k]?=some o/\∃ p ∈ pre o,j=p\/(p<k/\(acc.getD p 0).testBit j=true)
theorem zgz (all:List Oper):∀ (os:List Oper) (acc:List Nat),MaskOk all acc->all.drop acc.length=os->MaskOk all (ze4 acc os)
 | [],acc,h,_=>h
 | o :: os,acc,h,hd=>by
  have h0:all[acc.length]?=some o:=by
   have:=congrArg (fun l=>l[0]?) hd
   simpa using this
  refine zgz all os _ ?_ ?_
  ·intro k hk j hj
   simp at hk
   rcases cF k acc.length with hlt | hge
   ·rw [getD_app hlt] at hj
    obtain ⟨o', ho', p,hp,h1⟩:=h k hlt j hj
    refine ⟨o', ho', p,hp,h1.imp id fun ⟨h2,h3⟩=>⟨h2,?_⟩⟩
    rw [getD_app (by omega)];exact h3
   ·obtain rfl:k=acc.length:=by omega
    refine ⟨o,h0,?_⟩
    have e:(acc++[List.foldl (fun s j=>s ||| (2 ^ j ||| acc.getD j 0)) 0 (pre o)]).getD acc.length 0=List.foldl (fun s j=>s ||| (2 ^ j ||| acc.getD j 0)) 0 (pre o):=by simp
    rw [e] at hj
    rcases zgu acc j _ _ hj with h1 | ⟨p,hp,h1⟩
    ·simp at h1
    ·refine ⟨p,hp,h1.imp id fun h2=>?_⟩
     rcases cF p acc.length with hlt | hge
     ·exact ⟨hlt,by rw [getD_app hlt];exact h2⟩
     ·rw [getD_out hge] at h2;simp at h2
  ·have:List.drop 1 (all.drop acc.length)=os:=by rw [hd];rfl
   rw [List.drop_drop] at this
   simpa using this
theorem masks_ok (ops:List Oper):MaskOk ops (masks ops):=zgz ops ops [] (fun k hk=>by simp at hk) rfl
theorem zej:∀ (os:List Oper) (acc:List Nat),(ze4 acc os).length=acc.length+os.length
 | [],acc=>by simp [ze4]
 | o :: os,acc=>by rw [ze4,zej os];simp;omega
def zg7 (draw:Bool) (ops:List Oper) (is:List I):Bool :=
  let ms:=masks ops
  (List.range ops.length).all fun k =>
    ((pre (ops.getD k default)).all fun p=>Nat.blt p k) &&
    (List.range k).all fun j=>ment (at_ is j) (at_ is k) && (!draw || (ms.getD k 0).testBit j || (disj (at_ is j) (at_ is k) && ment (at_ is k) (at_ is j)))
theorem ze2 {ops:List Oper} {is:List I} (h:zg7 draw ops is=true) (hk:k<ops.length) :
  (∀ p ∈ pre (ops.getD k default),p<k)/\∀ j,j<k->ment (at_ is j) (at_ is k)=true/\(draw=true->((masks ops).getD k 0).testBit j=true\/(Disj (at_ is j) (at_ is k)/\ment (at_ is k) (at_ is j)=true)):=by
 have h1:=bI.1 h k (bS.2 hk)
 rw [bF] at h1
 refine ⟨fun p hp=>by have:=bI.1 h1.1 p hp;simpa [Nat.blt_eq] using this,fun j hj=>?_⟩
 have h2:=bI.1 h1.2 j (bS.2 hj)
 rw [bF] at h2
 refine ⟨h2.1,fun hd=>?_⟩
 rw [hd] at h2
 have h3:=h2.2
 simp only [Bool.not_true,Bool.false_or,cM,bF] at h3
 exact h3.imp id fun h4=>⟨disj_spec h4.1,h4.2⟩
section
variable {P:Program} {ops:Array Oper} {is:List I} {e:E} {g:F} {Q:Exit->Act->World->Prop}
theorem wpOps_run (hdo:∀ k o,ops[k]?=some o->Does P ops o (at_ is k)) (hb:∀ k,FitsE e (at_ is k)) (hQ:∀ a w,St e g a w->Q .normal a w) :
  ∀ (l:List Nat) (f:F) (a:Act) (w:World),(∀ k ∈ l,k<ops.size)->l.Pairwise (fun j k=>ment (at_ is j) (at_ is k)=true)->(∀ k ∈ l,∀ n ∈ (at_ is k).nw,New e.K f n)->RunL is f l g->St e f a w->wpOps P ops Q l a w
 | [],f,a,w,_,_,_,hr,h=>hQ a w (h.weaken hr)
 | k :: l,f,a,w,hs,hp,hn,hr,h=>by
  rw [wpOps_cons]
  have hk:=hs k (by simp)
  obtain ⟨hr1,hr2⟩:=hr
  obtain ⟨hp1,hp2⟩:=List.pairwise_cons.1 hp
  refine wpOp_mono (fun a' w' h'=>?_) (Does.wpOp (b8 hk) (hdo k _ (b8 hk)) h hr1 (hn k (by simp)) (hb k))
  exact wpOps_run hdo hb hQ l _ a' w' (fun x hx=>hs x (by simp [hx])) hp2 (fun x hx n hn2=>(hn x (by simp [hx]) n hn2).app (hp1 x hx) hn2) hr2 h'
def left (listed:Array Bool) (n:Nat):List Nat:=(List.range n).filter fun k=>!listed.getD k true
theorem zho {listed:Array Bool}:k ∈ left listed n ↔ k<n/\listed.getD k true=false:=by unfold left;rw [cE,bS];simp
theorem left_split {listed:Array Bool} (hk:k<n) (hl:listed.getD k true=false) :
  ∃ l1 l2,left listed n=l1++k :: l2/\left (listed.setIfInBounds k true) n=l1++l2/\(∀ j ∈ l1,j<k/\listed.getD j true=false)/\(∀ j ∈ l2,k<j/\listed.getD j true=false):=by
 have hr:List.range n=List.range k++k :: List.range' (k+1) (n - k - 1):=by
  rw [cX, cX]
  have:List.range' 0 n=List.range' 0 (k+(1+(n - k - 1))):=by congr 1;omega
  rw [this,<- List.range'_append_1,bV,Nat.add_comm 1,List.range'_succ]
 refine ⟨(List.range k).filter (fun j=>!listed.getD j true),(List.range' (k+1) (n - k - 1)).filter (fun j=>!listed.getD j true),?_,?_,?_,?_⟩
 ·unfold left;rw [hr,List.filter_append,List.filter_cons];simp [hl]
 ·unfold left
  rw [hr,List.filter_append,List.filter_cons]
  have hks:k<listed.size:=by
   rcases cF k listed.size with h' | h'
   ·exact h'
   ·simp [Array.getElem?_eq_none h'] at hl
  have h0:(listed.setIfInBounds k true).getD k true=true:=by simp [hks]
  simp only [h0,Bool.not_true,cJ,if_false]
  congr 1
  ·refine List.filter_congr fun j hj=>?_
   have:=bS.1 hj
   rw [getD_set_ne true (by omega)]
  ·refine List.filter_congr fun j hj=>?_
   have:=List.mem_range'_1.1 hj
   rw [getD_set_ne true (by omega)]
 ·intro j hj
  rw [cE,bS] at hj
  exact ⟨hj.1,by simpa using hj.2⟩
 ·intro j hj
  rw [cE,List.mem_range'_1] at hj
  exact ⟨by omega,by simpa using hj.2⟩
theorem wpAny_run (hdo:∀ k o,ops[k]?=some o->Does P ops o (at_ is k)) (hb:∀ k,FitsE e (at_ is k)) (hQ:∀ a w,St e g a w->Q .normal a w) (hpo:zg7 true ops.toList is=true) :
    ∀ (fuel:Nat) (listed:Array Bool) (f:F) (a:Act) (w:World),listed.size=ops.size->(∀ k o,ops[k]?=some o->listed.getD k true=true->∀ p ∈ pre o,listed.getD p false=true)->(left listed ops.size).length<=fuel ->
      (∀ k ∈ left listed ops.size,∀ n ∈ (at_ is k).nw,New e.K f n)->RunL is f (left listed ops.size) g->St e f a w->wpAny P .any ops Q fuel listed a w:=by
  have hops:∀ k o,ops[k]?=some o->ops.toList.getD k default=o:=fun k o h=>by simp [h]
  -- the least that is left is ready
  have hready:∀ (listed:Array Bool),listed.size=ops.size->∀ k,left listed ops.size=k :: (left listed ops.size).tail->k ∈ Region.ready .any ops listed:=by
    intro listed hsz k hk
    have hkm:k ∈ left listed ops.size:=by rw [hk];simp
    obtain ⟨h1,h2⟩:=zho.1 hkm
    rw [mem_ready]
    refine ⟨h2,ops[k],b8 h1,fun ed he hbd=>?_⟩
    have hlt:ed.on<k:=by
      have:=(ze2 hpo (k:=k) (by simpa using h1)).1 ed.on (by
        rw [hops k _ (b8 h1)]
        exact bE.2 ⟨ed,cE.2 ⟨by simpa using he,hbd⟩,rfl⟩)
      exact this
    rcases hx:listed.getD ed.on false with _ | _
    · exfalso
      have hlt2:ed.on<listed.size:=by omega
      have hx2:listed.getD ed.on true=false:=by
        rw [bK, b8 hlt2] at hx ⊢
        exact hx
      have hm:ed.on ∈ left listed ops.size:=zho.2 ⟨by omega,hx2⟩
      have hs:(left listed ops.size).Pairwise (·<·):=List.Pairwise.filter _ (dG)
      rw [hk] at hm hs
      rcases b9.1 hm with h3 | h3
      · omega
      · have:=(List.pairwise_cons.1 hs).1 _ h3;omega
    · rfl
  intro fuel
  induction fuel with
  | zero =>
    intro listed f a w hsz hcl hle hn hr h
    have h0:left listed ops.size=[]:=cO.1 (by omega)
    rw [h0] at hr
    refine ⟨?_,hQ a w (h.weaken hr)⟩
    refine List.eq_nil_iff_forall_not_mem.2 fun k hk=>?_
    obtain ⟨h1,o,ho,_⟩:=mem_ready.1 hk
    have:k ∈ left listed ops.size:=zho.2 ⟨(bR.1 ho).1,h1⟩
    rw [h0] at this
    cases this
  | succ fuel ih =>
    intro listed f a w hsz hcl hle hn hr h
    refine ⟨fun h0=>?_,fun k hk=>?_⟩
    · cases hl:left listed ops.size with
      | nil=>rw [hl] at hr;exact hQ a w (h.weaken hr)
      | cons k l =>
        have:=hready listed hsz k (by rw [hl];rfl)
        rw [h0] at this
        cases this
    · obtain ⟨h1,o,ho,hall⟩:=mem_ready.1 hk
      have hks:=(bR.1 ho).1
      obtain ⟨l1,l2,e1,e2,e3,e4⟩:=left_split hks h1
      -- whoever k waits for, and they in turn, is listed
      have hanc:∀ m,∀ x,x<ops.size->x<m->(∀ o,ops[x]?=some o->∀ p ∈ pre o,listed.getD p false=true)->∀ j,((masks ops.toList).getD x 0).testBit j=true->listed.getD j false=true:=by
        intro m
        induction m with
        | zero=>intro x _ hx;omega
        | succ m ihm =>
          intro x hxs hx hpre j hj
          have hxl:x<(masks ops.toList).length:=by unfold masks;rw [zej];simpa using hxs
          obtain ⟨o', ho', p,hp,h2⟩:=masks_ok ops.toList x hxl j hj
          have ho2:ops[x]?=some o':=by simpa using ho'
          have hpl:=hpre o' ho2 p hp
          rcases h2 with rfl | ⟨h3,h4⟩
          · exact hpl
          · refine ihm p (by omega) (by omega) (fun o3 ho3 q hq=>hcl p o3 ho3 ?_ q hq) j h4
            have:p<listed.size:=by omega
            rw [bK, b8 this] at hpl ⊢
            exact hpl
      have hpk:∀ o', ops[k]?=some o'->∀ p ∈ pre o', listed.getD p false=true:=by
        intro o' ho' p hp
        rw [ho] at ho'
        injection ho' with ho'
        subst ho'
        obtain ⟨ed,he,rfl⟩:=bE.1 hp
        rw [cE] at he
        exact hall ed (by simpa using he.1) he.2
      have hnot:∀ j,j<ops.size->listed.getD j true=false->((masks ops.toList).getD k 0).testBit j≠true:=by
        intro j hj hl ht
        have:=hanc (k+1) k hks (by omega) hpk j ht
        have hjs:j<listed.size:=by omega
        rw [bK, b8 hjs] at this hl
        simp at this hl
        rw [hl] at this
        cases this
      have hd1:∀ j ∈ l1,Disj (at_ is j) (at_ is k)/\ment (at_ is k) (at_ is j)=true:=by
        intro j hj
        obtain ⟨hjk,hjl⟩:=e3 j hj
        exact (((ze2 hpo (k:=k) (by simpa using hks)).2 j hjk).2 rfl).resolve_left (hnot j (by omega) hjl)
      rw [e1] at hr
      obtain ⟨hr1,hr2⟩:=RunL.first l1 f hr (fun j hj=>(hd1 j hj).1)
      have hkn:∀ n ∈ (at_ is k).nw,New e.K f n:=hn k (by rw [e1];simp)
      refine wpOp_mono (fun a' w' h'=>?_) (Does.wpOp ho (hdo k o ho) h hr1 hkn (hb k))
      refine ih (listed.setIfInBounds k true) (f.app (at_ is k)) a' w' (by simpa using hsz) ?_ ?_ ?_ ?_ h'
      · intro x ox hox hxl p hp
        by_cases hxk:k=x
        · subst hxk
          exact getD_set_true (hpk ox hox p hp)
        · rw [getD_set_ne true hxk] at hxl
          exact getD_set_true (hcl x ox hox hxl p hp)
      · rw [e2];rw [e1] at hle;simp at hle ⊢;omega
      · intro x hx n hnx
        rw [e2] at hx
        have hxn:New e.K f n:=hn x (by rw [e1];rcases bW.1 hx with h3 | h3 <;> simp [h3]) n hnx
        refine hxn.app ?_ hnx
        rcases bW.1 hx with h3 | h3
        · exact (hd1 x h3).2
        · obtain ⟨hkx,hxl⟩:=e4 x h3
          have hxs:x<ops.size:=(zho.1 (by rw [e1];simp [h3])).1
          exact ((ze2 hpo (k:=x) (by simpa using hxs)).2 k hkx).1
      · rw [e2];exact hr2
theorem wp_region_S {id:Nat} (is:List I) (g:F) (hm:P.follows .mixedOrders=true) (hpo:zg7 draw ops.toList is=true)
  (hdo:∀ k o,ops[k]?=some o->Does P ops o (at_ is k)) (hb:∀ k,FitsE e (at_ is k)) (hn:∀ k,∀ n ∈ (at_ is k).nw,New e.K f n)
  (hr:RunL is f (List.range ops.size) g) (h:St e f a w) (hQ:∀ a w,St e g a w->Q .normal a w):(Code.region id ops draw).wp P Q a w:=by
 cases draw with
 | false =>
  refine wp_region (wpOps_run hdo hb hQ _ f a w (fun k hk=>bS.1 hk) ?_ (fun k _=>hn k) hr h)
  refine List.Pairwise.imp_of_mem ?_ dG
  intro j k hj hk hjk
  exact ((ze2 hpo (k:=k) (by simpa using bS.1 hk)).2 j hjk).1
 | true =>
  refine wp_region_any hm (wpAny_run hdo hb hQ hpo _ _ f a _ (by simp) ?_ ?_ (fun k _=>hn k) ?_ h.drew)
  ·intro k o ho hl
   have hks:=(bR.1 ho).1
   simp [bK, hks] at hl
  ·refine bN (List.length_filter_le _ _) (by simp)
  ·have:left (Array.replicate ops.size false) ops.size=List.range ops.size:=by
    unfold left
    refine List.filter_eq_self.2 fun k hk=>?_
    have:=bS.1 hk
    simp [bK, this]
   rw [this]
   exact hr
end
theorem Ok.put {g:F} (h:Ok e f H B a w) {d:Nat} {x:Option V} (hd:d<e.n) (hs:∀ t,g.s t=if t=d then x else f.s t) (hl:∀ n,g.l n=f.l n) (hx:∀ y,x=some y->VR H B y v) :
  Ok e g H B (a.put (some d) v) w:=by
 refine ⟨h.df,by simp [Act.put,h.n],h.ext,h.sat,?_,fun n l hn=>h.loc n l (by rw [<- hl];exact hn),fun n l b c hn=>h.priv n l b c (by rw [<- hl];exact hn),fun n m l l' b c c' h1 h2=>h.inj n m l l' b c c' (by rw [<- hl];exact h1) (by rw [<- hl];exact h2),h.low,h.le,h.keep,h.tab⟩
 intro t y hy
 rw [hs] at hy
 split at hy
 ·rename_i e1
  subst e1
  have:t<a.tmps.size:=by rw [h.n];exact hd
  simpa [Act.put,bK, this] using hx y hy
 ·rename_i e1
  have:=h.slot t y hy
  simpa [Act.put,bK, dE (Ne.symm e1)] using this
theorem zek (f:F) (d:Nat) (x:Option V) (i:I) (h:i.ws=[(d,x)]) (t:Nat):(f.app i).s t=if t=d then x else f.s t:=by
 simp only [F.app,h,List.lookup]
 by_cases e:t=d
 ·subst e;simp
 ·have:(t == d)=false:=by simp;exact e
  simp [this,e]
theorem app0_s (f:F) (i:I) (h:i.ws=[]) (t:Nat):(f.app i).s t=f.s t:=by simp [F.app,h]
theorem app0_l (f:F) (i:I) (h:i.wl=[]) (n:Nat):(f.app i).l n=f.l n:=by simp [F.app,h]
theorem zh3 (f:F) (m:Nat) (x:Option L) (i:I) (h:i.wl=[(m,x)]) (t:Nat):(f.app i).l t=if t=m then x else f.l t:=by
 simp only [F.app,h,List.lookup]
 by_cases e:t=m
 ·subst e;simp
 ·have:(t == m)=false:=by simp;exact e
  simp [this,e]
theorem zar.value {o:Oper} (d:Nat) (x:V) (hd:o.dst=some d) (hw:i.ws=[(d,some x)]) (hl:i.wl=[])
  (h:∀ (e:E) (f:F) (H:Im) (B:Bl) (a:Act) (w:World),Ok e f H B a w->zfl f i->∃ v,(execOp a.eval o).run P w = .ok (.value v) w/\VR H B x v):zar P o i:=by
 rintro e f a w Q ⟨H,B,hok⟩ hr hn hb
 obtain ⟨v,hrun,hv⟩:=h e f H B a w hok hr
 unfold Oper.wp
 rw [hrun,Oper.upon_value,hd]
 exact ⟨H,B,hok.put (x:=some x) (hb.1 (d,some x) (by rw [hw];simp)) (zek f d (some x) i hw) (app0_l f i hl) (fun y hy=>by injection hy with hy;subst hy;exact hv)⟩
inductive OV:Operand->V->List (Nat × V)->Prop
  | tmp (t:Nat) (x:V):OV (.tmp t) x [(t,x)]
  | const (v:Value) (h:flat v=true):OV (.const v) (.t (.c (.d (.raw v)))) []
  | func (f:FuncId):OV (.func f) (.t (.c (.fn (.func f) [] []))) []
variable {rs:List (Nat × V)}
theorem OV.eval {v:V} (h:OV x v rs) (hok:Ok e f H B a w) (hr:∀ p ∈ rs,f.s p.1=some p.2):VR H B v (a.eval x):=by
 cases h with
 | tmp t x=>exact hok.slot t _ (hr (t,v) (by simp))
 | const u hf=>exact DR.raw u hf
 | func g=>exact ⟨[],[],rfl,trivial,trivial⟩
variable {rs':List (Nat × V)} {cs:List C}
section
variable {P:Program}
def vi (k:IntKind) (n:Int):V:=.t (.c (.d (.raw (.int k n))))
def vb (b:Bool):V:=.t (.c (.d (.raw (.bool b))))
def vs (s:ByteArray):V:=.t (.c (.d (.raw (.string s))))
def vp (n o:Nat):V:=.t (.c (.ptr n o))
theorem Op.move {d:Nat} {v:V} {ty pos af gd} (h:OV x v rs):zar P ⟨some d,.move x,ty,pos,af,gd⟩ { rs:=rs,ws:=[(d,some v)] } :=
 zar.value d v rfl rfl rfl fun _e _f _H _B a _w hok hr=>⟨a.eval x,rfl,h.eval hok hr.1⟩
theorem Op.assign {d:Nat} {v:V} {ty pos af gd} (h:OV x v rs):zar P ⟨some d,.assign x,ty,pos,af,gd⟩ { rs:=rs,ws:=[(d,some v)] } :=
 zar.value d v rfl rfl rfl fun _e _f _H _B a _w hok hr=>⟨a.eval x,rfl,h.eval hok hr.1⟩
theorem VR.rawI {u:Value} (h:VR H B (.t (.c (.d (.raw v)))) u):u=v:=by cases h;rfl
theorem VR.ptrI {u:Value} (h:VR H B (.t (.c (.ptr n o))) u):∃ b c,B n=some (b,c)/\u = .pointer (some ⟨b,o,none⟩):=h
theorem Op.raw1 {o:Oper} {d:Nat} {u:Value} (hd:o.dst=some d) (h:OV x (.t (.c (.d (.raw v)))) rs) (hf:flat u=true) (hrun:∀ (ρ:Operand->Value) w,ρ x=v->(execOp ρ o).run P w = .ok (.value u) w) :
  zar P o { rs:=rs,ws:=[(d,some (.t (.c (.d (.raw u)))))] } :=
 zar.value d _ hd rfl rfl fun _e _f _H _B a w hok hr=>⟨u,hrun a.eval w (h.eval hok hr.1).rawI,DR.raw u hf⟩
theorem Op.raw2 {o:Oper} {d:Nat} {y:Operand} {v' u:Value} (hd:o.dst=some d) (h:OV x (.t (.c (.d (.raw v)))) rs) (h':OV y (.t (.c (.d (.raw v')))) rs') (hf:flat u=true)
  (hrun:∀ (ρ:Operand->Value) w,ρ x=v->ρ y=v'->(execOp ρ o).run P w = .ok (.value u) w) :
  zar P o { rs:=rs++rs', ws:=[(d,some (.t (.c (.d (.raw u)))))] } :=
 zar.value d _ hd rfl rfl fun _e _f _H _B a w hok hr =>
  ⟨u,hrun a.eval w (h.eval hok fun p hp=>hr.1 p (b7 _ hp)).rawI (h'.eval hok fun p hp=>hr.1 p (bX _ hp)).rawI,DR.raw u hf⟩
theorem Op.arith {d:Nat} {y:Operand} {k:IntKind} {m n r:Int} {pos af gd} (h:OV x (vi k m) rs) (h':OV y (vi k n) rs')
  (hop:(op = .add/\r=m+n)\/(op = .sub/\r=m - n)\/(op = .mul/\r=m*n)) (hr:k.wrap r=r):zar P ⟨some d,.binOp op xt x y yt,ty,pos,af,gd⟩ { rs:=rs++rs', ws:=[(d,some (vi k r))] }:=by
 refine Op.raw2 rfl h h' rfl fun ρ w h1 h2=>?_
 rcases hop with ⟨rfl,rfl⟩ | ⟨rfl,rfl⟩ | ⟨rfl,rfl⟩ <;> simp [execOp,h1,h2,eqGuard,binOp,Op.intArith,hr,go_sem]
def cmpB:BinOp->Int->Int->Bool
  | .eql,a,b=>a == b
  | .neq,a,b=>a != b
  | .lss,a,b=>decide (a<b)
  | .leq,a,b=>decide (a<=b)
  | .gtr,a,b=>decide (a>b)
  | .geq,a,b=>decide (a>=b)
  | _,_,_=>false
def isCmp:BinOp->Bool
  | .eql | .neq | .lss | .leq | .gtr | .geq=>true
  | _=>false
theorem Op.cmp {d:Nat} {y:Operand} {k:IntKind} {m n:Int} {b:Bool} {pos af gd} (h:OV x (vi k m) rs) (h':OV y (vi k n) rs')
  (hop:isCmp op=true) (hb:cmpB op m n=b):zar P ⟨some d,.binOp op xt x y yt,ty,pos,af,gd⟩ { rs:=rs++rs', ws:=[(d,some (vb b))] }:=by
 subst hb
 refine Op.raw2 rfl h h' rfl fun ρ w h1 h2=>?_
 cases op <;> first | (simp [isCmp] at hop;done) | simp [execOp,h1,h2,eqGuard,binOp,Op.intCmp,cmpB,go_sem]
theorem Op.cmpb {d:Nat} {y:Operand} {m n b:Bool} {pos af gd} (ht:P.underlying xt=some .bool) (h:OV x (vb m) rs) (h':OV y (vb n) rs')
  (hop:(op = .eql/\b=(m == n))\/(op = .neq/\b=(m != n))):zar P ⟨some d,.binOp op xt x y yt,ty,pos,af,gd⟩ { rs:=rs++rs', ws:=[(d,some (vb b))] }:=by
 refine Op.raw2 rfl h h' rfl fun ρ w h1 h2=>?_
 have he:(Op.equal xt (.bool m) (.bool n)).run P w = .ok (m == n) w:=run_equalIn_bool' w 9999 xt m n ht
 rcases hop with ⟨rfl,rfl⟩ | ⟨rfl,rfl⟩ <;> simp [execOp,h1,h2,eqGuard,binOp,he,go_sem] <;> cases m <;> cases n <;> rfl
theorem Op.not {d:Nat} {m:Bool} {pos af gd} (h:OV x (vb m) rs):zar P ⟨some d,.unOp .not xt x,ty,pos,af,gd⟩ { rs:=rs,ws:=[(d,some (vb (!m)))] } :=
 Op.raw1 rfl h rfl fun ρ w h1=>by simp [execOp,h1,Op.unary,go_sem]
theorem Op.neg {d:Nat} {k:IntKind} {m r:Int} {pos af gd} (h:OV x (vi k m) rs) (he:r=-m) (hr:k.wrap r=r):zar P ⟨some d,.unOp .neg xt x,ty,pos,af,gd⟩ { rs:=rs,ws:=[(d,some (vi k r))] } :=
 Op.raw1 rfl h rfl fun ρ w h1=>by subst he;simp [execOp,h1,Op.unary,Op.intArith,hr,go_sem]
theorem Op.conv {d:Nat} {k k':IntKind} {m r:Int} {pos af gd} (ht:P.underlying yt=some (.int k')) (hs:P.underlying xt=some (.int k)) (h:OV x (vi k m) rs) (hr:k'.wrap m=r):zar P ⟨some d,.convert xt yt x,ty,pos,af,gd⟩ { rs:=rs,ws:=[(d,some (vi k' r))] } :=
 Op.raw1 rfl h rfl fun ρ w h1=>by simp [execOp,h1,convert,run_underlying ht,run_underlying hs,Conv.intToInt,hr,go_sem]
theorem Op.pickT {d:Nat} {y:Operand} {v:V} {ty pos af gd} (h:OV x v rs):zar P ⟨some d,.pick (.tmp t) x y,ty,pos,af,gd⟩ { rs:=(t,vb true) :: rs,ws:=[(d,some v)] } :=
 zar.value d v rfl rfl rfl fun e f H B a w hok hr=>⟨a.eval x,by
  have:=(hok.slot t _ (hr.1 (t,vb true) (by simp))).rawI
  have h2:a.eval (.tmp t) = .bool true:=this
  generalize a.eval=ρ at h2 ⊢
  simp [execOp,h2,asBool,go_sem],h.eval hok fun p hp=>hr.1 p (by simp [hp])⟩
theorem Op.pickF {d:Nat} {y:Operand} {v:V} {ty pos af gd} (h:OV y v rs):zar P ⟨some d,.pick (.tmp t) x y,ty,pos,af,gd⟩ { rs:=(t,vb false) :: rs,ws:=[(d,some v)] } :=
 zar.value d v rfl rfl rfl fun e f H B a w hok hr=>⟨a.eval y,by
  have:=(hok.slot t _ (hr.1 (t,vb false) (by simp))).rawI
  have h2:a.eval (.tmp t) = .bool false:=this
  generalize a.eval=ρ at h2 ⊢
  simp [execOp,h2,asBool,go_sem],h.eval hok fun p hp=>hr.1 p (by simp [hp])⟩
structure Sz (P:Program) (t:TypeId) (n:Nat) (agg:Bool):Prop where
  size:(P.info? t).map (·.size)=some n
  isAgg:∀ w,(isAgg t).run P w = .ok agg w
theorem Sz.mk' {t:TypeId} {d:TypeDesc} (hs:(P.info? t).map (·.size)=some n) (hu:P.underlying t=some d) (agg:Bool) (ha:agg=match d with | .struct _ | .array _ _=>true | _=>false):Sz P t n agg :=
 ⟨hs,fun w=>by subst ha;unfold Go.isAgg;simp only [Sem.run_bind,run_underlying hu,Result.andThen_ok];cases d <;> rfl⟩
theorem Sz.sizeOf {t:TypeId} {g:Bool} (h:Sz P t n g) (w:World):(Go.sizeOf t).run P w = .ok n w:=by
 have:=h.size
 cases hi:P.info? t with
 | none=>rw [hi] at this;cases this
 | some i =>
  rw [hi] at this
  injection this with this
  have e1:(typeInfo t).run P w = .ok i w:=by unfold typeInfo;simp only [Sem.run_bind,run_program,Result.andThen_ok,hi];rfl
  unfold Go.sizeOf
  simp [e1,this,go_sem]
structure Fd (P:Program) (t:TypeId) (k:Nat) (off n:Nat) (agg:Bool):Prop where
  ex:∃ fields f,P.underlying t=some (.struct fields)/\fields[k]?=some f/\f.offset=off/\Sz P f.type n agg
theorem Op.extract {d:Nat} {xs:List T} {x:T} {ty pos af gd} (h:xs[k]?=some x):zar P ⟨some d,.extract (.tmp t) k,ty,pos,af,gd⟩ { rs:=[(t,.tup xs)],ws:=[(d,some (.t x))] } :=
 zar.value d _ rfl rfl rfl fun e f H B a w hok hr=>by
  obtain ⟨us,hu,h2⟩:=hok.slot t _ (hr.1 (t,.tup xs) (by simp))
  obtain ⟨hk,rfl⟩:=bB.1 h
  obtain ⟨u,h3,h4⟩:=h2.get k hk
  refine ⟨u,?_,h4⟩
  have h5:a.eval (.tmp t) = .tuple ⟨us⟩:=hu
  generalize a.eval=ρ at h5 ⊢
  simp [execOp,h5,Instr.extract,h3,go_sem]
theorem part_agg {t:TypeId} (hs:Sz P t n true) {us:List Value} (h:zat (CR H B) cs us) {xs:List C} (hx:(cs.drop off).take n=xs) (w:World) :
  ∃ v,(part t ⟨us⟩ off).run P w = .ok v w/\TR H B (.agg xs) v:=by
 refine ⟨.agg ⟨(us.drop off).take n⟩,?_,_,rfl,?_⟩
 ·unfold part
  simp [Sem.run_bind,hs.isAgg w,hs.sizeOf w,go_sem,List.extract_eq_take_drop]
 ·rw [<- hx];exact (h.drop off).take n
theorem part_c {t:TypeId} (hs:Sz P t n false) {us:List Value} (h:zat (CR H B) cs us) {x:C} (hx:cs[off]?=some x) (w:World) :
  ∃ v,(part t ⟨us⟩ off).run P w = .ok v w/\TR H B (.c x) v:=by
 obtain ⟨hk,rfl⟩:=bB.1 hx
 obtain ⟨u,h3,h4⟩:=h.get off hk
 refine ⟨u,?_,h4⟩
 unfold part
 simp [Sem.run_bind,hs.isAgg w,h3,go_sem]
theorem Op.field_agg {d:Nat} {xs:List C} {ty pos af gd} (hf:Fd P xt k off n true) (h:(cs.drop off).take n=xs):zar P ⟨some d,.field xt (.tmp t) k,ty,pos,af,gd⟩ { rs:=[(t,.t (.agg cs))],ws:=[(d,some (.t (.agg xs)))] } :=
 zar.value d _ rfl rfl rfl fun e f H B a w hok hr=>by
  obtain ⟨us,hu,h2⟩:=hok.slot t _ (hr.1 (t,.t (.agg cs)) (by simp))
  obtain ⟨fields,fd,g1,g2,rfl,g4⟩:=hf.ex
  obtain ⟨v,h3,h4⟩:=part_agg (P:=P) g4 h2 h w
  refine ⟨v,?_,h4⟩
  have h5:a.eval (.tmp t) = .agg ⟨us⟩:=hu
  generalize a.eval=ρ at h5 ⊢
  simp only [execOp,h5,Instr.field,Sem.run_bind,run_underlying g1,Result.andThen_ok,g2,asAgg,Sem.run_pure,h3]
theorem Op.field_c {d:Nat} {x:C} {ty pos af gd} (hf:Fd P xt k off n false) (h:cs[off]?=some x):zar P ⟨some d,.field xt (.tmp t) k,ty,pos,af,gd⟩ { rs:=[(t,.t (.agg cs))],ws:=[(d,some (.t (.c x)))] } :=
 zar.value d _ rfl rfl rfl fun e f H B a w hok hr=>by
  obtain ⟨us,hu,h2⟩:=hok.slot t _ (hr.1 (t,.t (.agg cs)) (by simp))
  obtain ⟨fields,fd,g1,g2,rfl,g4⟩:=hf.ex
  obtain ⟨v,h3,h4⟩:=part_c (P:=P) g4 h2 h w
  refine ⟨v,?_,h4⟩
  have h5:a.eval (.tmp t) = .agg ⟨us⟩:=hu
  generalize a.eval=ρ at h5 ⊢
  simp only [execOp,h5,Instr.field,Sem.run_bind,run_underlying g1,Result.andThen_ok,g2,asAgg,Sem.run_pure,h3]
end
def cellsOf:T->List C
  | .c x=>[x]
  | .agg cs=>cs
theorem CR.flat {x:C} (h:CR H B x v):flat v=true:=by
 cases x with
 | d x=>exact DR.flat h
 | ptr n o=>obtain ⟨b,c,_,rfl⟩:=h;rfl
 | own n k =>
  simp only [CR] at h
  split at h
  ·obtain ⟨_,ao,h⟩:=h;rw [h];rfl
  ·rw [h];rfl
 | el xs=>obtain ⟨b,o,arr,ty,fz,hb,rfl,hx⟩:=h;rfl
 | fn f fs cs=>obtain ⟨a,b,rfl,_⟩:=h;rfl
 | sub n o len=>obtain ⟨⟨ao,c,rfl⟩,_⟩:=h;rfl
 | any=>exact h
 | mp n=>obtain ⟨b,c,_,rfl⟩:=h;rfl
theorem flat_cells (h:flat v=true):v.cells=⟨[v]⟩:=by cases v <;> first | rfl | cases h
theorem zf3 (h:flat v=true):v.oneCell'=true:=by cases v <;> first | rfl | cases h
theorem TR.cells {x:T} (h:TR H B x v):∃ l:List Value,v.cells=⟨l⟩/\zat (CR H B) (cellsOf x) l:=by
 cases x with
 | c x=>exact ⟨[v],flat_cells (CR.flat h),h,trivial⟩
 | agg cs=>obtain ⟨vs,rfl,h2⟩:=h;exact ⟨vs,rfl,h2⟩
theorem Ok.new {g:F} (h:Ok e f H B a w) (hn:New e.K f n) (o:Obj) (c:Nat) (l:L)
  (hs:∀ t,g.s t=f.s t) (hl:∀ m,g.l m=if m=n then some l else f.l m)
  (lr:LR H (fun m=>if m=n then some (w.heap.size,c) else B m) (w.alloc o) n l):Ok e g H (fun m=>if m=n then some (w.heap.size,c) else B m) a (w.alloc o):=by
 have hB:∀ m,m≠n->(fun m=>if m=n then some (w.heap.size,c) else B m) m=B m:=fun m hm=>by simp [hm]
 have hold:∀ b,b<w.heap.size->(w.alloc o).heap[b]?=w.heap[b]?:=fun b hb=>Below.heap_alloc w o b hb
 have hH:H w.heap.size=none:=by
  cases hx:H w.heap.size with
  | none=>rfl
  | some x=>have:=h.sat _ _ hx;simp at this
 refine ⟨h.df,h.n,⟨h.ext.os,h.ext.tape,h.ext.output,?_,?_⟩,?_,?_,?_,?_,?_,h.low,h.le,?_,h.tab⟩
 ·have:=h.ext.size;simp;omega
 ·intro b hb hm;have:=h.ext.size;rw [hold b (by omega)];exact h.ext.block b hb hm
 ·intro b x hx
  have h1:=h.sat b x hx
  have:b<w.heap.size:=(bR.1 h1).1
  rw [hold b this];exact h1
 ·intro t v hv
  rw [hs] at hv
  exact VR.mono (Le.refl _) (fun m hm=>hB m (fun e=>hn.2.2.1 t v hv (e ▸ hm))) (h.slot t v hv)
 ·intro m l' hm
  rw [hl] at hm
  split at hm
  ·rename_i e1;subst e1;injection hm with hm;subst hm;exact lr
  ·rename_i e1
   refine LR.mono (Le.refl _) (hB m e1) (fun x hx=>hB x (fun e=>hn.2.2.2 m l' hm (e ▸ hx))) (fun b c hb=>?_) (h.loc m l' hm)
   exact hold b (h.priv m l' b c hm hb).1
 ·intro m l' b c' hm hb
  rw [hl] at hm
  split at hm
  ·rename_i e1
   subst e1
   simp at hb
   obtain ⟨rfl,rfl⟩:=hb
   exact ⟨by simp,hH,.inr h.ext.size⟩
  ·rename_i e1
   simp only [if_neg e1] at hb
   obtain ⟨h1,h2,h3⟩:=h.priv m l' b c' hm hb
   exact ⟨by simp;omega,h2,h3⟩
 ·intro m k l1 l2 b c1 c2 h1 h2 b1 b2
  rw [hl] at h1 h2
  by_cases e1:m=n <;> by_cases e2:k=n
  ·rw [e1,e2]
  ·simp [e1] at b1
   simp only [if_neg e2] at h2 b2
   have:=(h.priv k l2 b c2 h2 b2).1
   omega
  ·simp [e2] at b2
   simp only [if_neg e1] at h1 b1
   have:=(h.priv m l1 b c1 h1 b1).1
   omega
  ·simp only [if_neg e1,if_neg e2] at h1 h2 b1 b2
   exact h.inj m k l1 l2 b c1 c2 h1 h2 b1 b2
 ·intro m hm
  have:m≠n:=fun e=>hn.1 (e ▸ hm)
  exact (hB m this).trans (h.keep m hm)
variable {l':L}
section
variable {P:Program}
theorem zar.news {o:Oper} (d n:Nat) (x:V) (l:L) (hd:o.dst=some d) (hw:i.ws=[(d,some x)]) (hl:i.wl=[(n,some l)]) (hn:n ∈ i.nw)
  (h:∀ (e:E) (f:F) (H:Im) (B:Bl) (a:Act) (w:World),Ok e f H B a w->zfl f i->New e.K f n->∃ v c ob,(execOp a.eval o).run P w = .ok (.value v) (w.alloc ob) /\
   LR H (fun m=>if m=n then some (w.heap.size,c) else B m) (w.alloc ob) n l/\VR H (fun m=>if m=n then some (w.heap.size,c) else B m) x v):zar P o i:=by
 rintro e f a w Q ⟨H,B,hok⟩ hr hnw hb
 have hnew:=hnw n hn
 obtain ⟨v,c,ob,hrun,hlr,hvr⟩:=h e f H B a w hok hr hnew
 unfold Oper.wp
 rw [hrun,Oper.upon_value,hd]
 have h1:Ok e ⟨f.s,fun m=>if m=n then some l else f.l m⟩ H (fun m=>if m=n then some (w.heap.size,c) else B m) a (w.alloc ob):=hok.new hnew ob c l (fun _=>rfl) (fun _=>rfl) hlr
 exact ⟨H,_,h1.put (x:=some x) (hb.1 (d,some x) (by rw [hw];simp)) (zek f d (some x) i hw) (zh3 f n (some l) i hl) (fun y hy=>by injection hy with hy;subst hy;exact hvr)⟩
theorem zat.tagsMono {p:Nat × Nat} {l:List Value} (h:zat (CR H B) cs l) (ht:∀ c ∈ cs,n ∉ c.tags):zat (CR H (fun m=>if m=n then some p else B m)) cs l :=
 h.mono fun a ha b=>CR.mono (Le.refl _) fun m hm=>by
  have:m≠n:=fun e=>ht a ha (e ▸ hm)
  simp [this]
theorem Op.box {d:Nat} {v:T} {pos af gd} (h:OV x (.t v) rs) (cs:List C) (hc:cellsOf v=cs) :
  zar P ⟨some d,.box el x,ty,pos,af,gd⟩ { rs:=rs,ws:=[(d,some (vp n 0))],wl:=[(n,some (.box cs))],nw:=[n] }:=by
 subst hc
 refine zar.news d n _ _ rfl rfl rfl (by simp) fun e f H B a w hok hr hn=>?_
 have hv:=h.eval hok hr.1
 obtain ⟨l,h1,h2⟩:=TR.cells hv
 have ht:∀ c ∈ cellsOf v,n ∉ c.tags:=by
  intro c hc hm
  cases h with
  | tmp t y =>
   refine hn.2.2.1 t _ (hr.1 (t,.t v) (by simp)) ?_
   cases v with
   | c y=>simp [cellsOf] at hc;subst hc;exact hm
   | agg cs=>simp only [V.tags,T.tags,bC];exact ⟨c,hc,hm⟩
  | const u hf=>simp [cellsOf] at hc;subst hc;simp [C.tags] at hm
  | func g=>simp [cellsOf] at hc;subst hc;simp [C.tags] at hm
 refine ⟨.pointer (some ⟨w.heap.size,0,none⟩),0,.cells ⟨l⟩ el,?_,⟨w.heap.size,0,l,el,by simp,heap_alloc_new w _,zat.tagsMono h2 ht⟩,⟨w.heap.size,0,by simp,rfl⟩⟩
 simp only [execOp,Instr.box,newVar,newRow,newObj,h1,Sem.run_bind,Sem.run_pure]
 rfl
theorem Op.alloc {d:Nat} {pos af gd} (z:Value) (hz:(P.info? el).bind (·.zero)=some z) (cs:List C) (l:List Value) (hl:z.cells=⟨l⟩) (hc:∀ H B,zat (CR H B) cs l) :
  zar P ⟨some d,.alloc el,ty,pos,af,gd⟩ { ws:=[(d,some (vp n 0))],wl:=[(n,some (.box cs))],nw:=[n] }:=by
 refine zar.news d n _ _ rfl rfl rfl (by simp) fun e f H B a w hok hr hn=>⟨.pointer (some ⟨w.heap.size,0,none⟩),0,.cells ⟨l⟩ el,?_,⟨w.heap.size,0,l,el,by simp,heap_alloc_new w _,hc _ _⟩,⟨w.heap.size,0,by simp,rfl⟩⟩
 cases hi:P.info? el with
 | none=>rw [hi] at hz;cases hz
 | some i =>
  rw [hi] at hz
  have hz':i.zero=some z:=hz
  have e1:(zeroValue el).run P w = .ok z w:=by
   unfold zeroValue typeInfo
   simp only [Sem.run_bind,run_program,Result.andThen_ok,hi,Sem.run_pure,hz']
  simp only [execOp,Instr.alloc,Sem.run_bind,e1,Result.andThen_ok,newVar,newRow,newObj,hl,Sem.run_pure]
  rfl
theorem Op.fieldAddr {d:Nat} {pos af gd} (hf:Fd P xt k off m ag) (hm:m≠0) (o':Nat) (ho:o+off=o'):zar P ⟨some d,.fieldAddr xt (.tmp t) k,ty,pos,af,gd⟩ { rs:=[(t,vp n o)],ws:=[(d,some (vp n o'))] } :=
 zar.value d _ rfl rfl rfl fun e f H B a w hok hr=>by
  obtain ⟨b,c,hb,hu⟩:=(hok.slot t _ (hr.1 (t,vp n o) (by simp))).ptrI
  obtain ⟨fields,fd,g1,g2,rfl,g4⟩:=hf.ex
  subst ho
  refine ⟨.pointer (some ⟨b,o+fd.offset,none⟩),?_,⟨b,c,hb,rfl⟩⟩
  have h5:a.eval (.tmp t) = .pointer (some ⟨b,o,none⟩):=hu
  generalize a.eval=ρ at h5 ⊢
  simp only [execOp,h5,Instr.fieldAt,Sem.run_bind,run_underlying g1,Result.andThen_ok,g2,Instr.sureAddr,Sem.run_pure,fieldPlace,g4.sizeOf,hm,if_false,Addr.add_mid]
theorem zc8 (h:w.heap[b]?=some (.cells ⟨arr⟩ ty fz)) (hv:arr[o]?=some v):w.cell? ⟨b,o,none⟩=some v:=by
 simp [World.cell?, h,hv]
theorem zd5 {t:TypeId} (hs:Sz P t n true) {cs:List Value} (hl:cs.length=n) (hc:w.rangeAt b o cs):(loadVar t ⟨b,o,none⟩).run P w = .ok (.agg cs.toArray) w:=by
 have hl':(loadCells ⟨b,o,none⟩ cs.length).run P w = .ok cs.toArray w :=
  run_loadCells_list (P:=P) w ⟨b,o,none⟩ cs (fun j v hv=>by rw [Addr.add_mid];exact hc j v hv)
 rw [hl] at hl'
 unfold loadVar
 simp only [Sem.run_bind,hs.isAgg,Result.andThen_ok,if_true,hs.sizeOf,hl', Sem.run_pure]
theorem ze1 {t:TypeId} (hs:Sz P t n false) (hc:w.cell? ⟨b,o,none⟩=some v):(loadVar t ⟨b,o,none⟩).run P w = .ok v w:=by
 unfold loadVar
 simp only [Sem.run_bind,hs.isAgg,Result.andThen_ok,cJ,if_false]
 unfold load
 simp only [Sem.run,hc]
theorem Op.load_agg {d:Nat} {xs:List C} {pos af gd} (hs:Sz P xt m true) (h:(cs.drop o).take m=xs) (hm:xs.length=m):zar P ⟨some d,.load xt (.tmp t),ty,pos,af,gd⟩ { rs:=[(t,vp n o)],rl:=[(n,.box cs)],ws:=[(d,some (.t (.agg xs)))] } :=
 zar.value d _ rfl rfl rfl fun e f H B a w hok hr=>by
  obtain ⟨b,c,hb,hu⟩:=(hok.slot t _ (hr.1 (t,vp n o) (by simp))).ptrI
  obtain ⟨b', c', arr,ty', hb', hc,h2⟩:=hok.loc n _ (hr.2 (n,.box cs) (by simp))
  rw [hb] at hb'
  injection hb' with hb'
  obtain ⟨rfl,rfl⟩:=Prod.mk.injEq .. ▸ hb'
  have h3:zat (CR H B) xs ((arr.drop o).take m):=by rw [<- h];exact (h2.drop o).take m
  refine ⟨.agg ((arr.drop o).take m).toArray,?_,⟨_,rfl,h3⟩⟩
  have h5:a.eval (.tmp t) = .pointer (some ⟨b,o,none⟩):=hu
  generalize a.eval=ρ at h5 ⊢
  have h6:=zd5 (P:=P) hs (w:=w) (b:=b) (o:=o) (cs:=(arr.drop o).take m) (by rw [<- h3.length,hm]) (fun j v hv=>by
   refine zc8 hc ?_
   rw [bL] at hv
   split at hv
   ·rw [bZ] at hv;exact hv
   ·cases hv)
  simp only [execOp,h5,Instr.loadAt,Instr.sureAddr,Sem.run_bind,Sem.run_pure,Result.andThen_ok,h6]
theorem Op.load_c {d:Nat} {x:C} {pos af gd} (hs:Sz P xt m false) (h:cs[o]?=some x):zar P ⟨some d,.load xt (.tmp t),ty,pos,af,gd⟩ { rs:=[(t,vp n o)],rl:=[(n,.box cs)],ws:=[(d,some (.t (.c x)))] } :=
 zar.value d _ rfl rfl rfl fun e f H B a w hok hr=>by
  obtain ⟨b,c,hb,hu⟩:=(hok.slot t _ (hr.1 (t,vp n o) (by simp))).ptrI
  obtain ⟨b', c', arr,ty', hb', hc,h2⟩:=hok.loc n _ (hr.2 (n,.box cs) (by simp))
  rw [hb] at hb'
  injection hb' with hb'
  obtain ⟨rfl,rfl⟩:=Prod.mk.injEq .. ▸ hb'
  obtain ⟨ho,rfl⟩:=bB.1 h
  obtain ⟨v,h3,h4⟩:=h2.get o ho
  refine ⟨v,?_,h4⟩
  have h5:a.eval (.tmp t) = .pointer (some ⟨b,o,none⟩):=hu
  generalize a.eval=ρ at h5 ⊢
  have h6:=ze1 (P:=P) hs (zc8 hc h3)
  simp only [execOp,h5,Instr.loadAt,Instr.sureAddr,Sem.run_bind,Sem.run_pure,Result.andThen_ok,h6]
def zg5 {α:Type}:List α->Nat->List α->List α
  | l,_,[]=>l
  | l,o,v :: r=>zg5 (l.set o v) (o+1) r
theorem zbz:∀ (r l:List α) (o:Nat),(zg5 l o r).length=l.length
 | [],_,_=>rfl
 | v :: r,l,o=>by rw [zg5,zbz r];simp
theorem zat.put {R:α->β->Prop}:∀ {xs:List α} {ys:List β} {us:List α} {vs:List β} (o:Nat),zat R us vs->zat R xs ys->zat R (zg5 us o xs) (zg5 vs o ys)
 | [],[],_,_,_,h,_=>h
 | _ :: _,_ :: _,_,_,o,h,k=>zat.put (o+1) (h.set o k.1) k.2
 | [],_ :: _,_,_,_,_,k=>k.elim
 | _ :: _,[],_,_,_,_,k=>k.elim
theorem setCell_same (h:w.heap[b]?=some (.cells ⟨arr⟩ ty fz)) (v:Value):(w.setCell ⟨b,o,none⟩ v).heap[b]?=some (.cells ⟨arr.set o v⟩ ty fz):=by
 simp [World.setCell,Array.getElem?_modify,h]
theorem zcr:∀ (vs:List Value) (o:Nat) (w:World) (arr:List Value),w.heap[b]?=some (.cells ⟨arr⟩ ty fz) ->
  (w.setCells b o vs).heap[b]?=some (.cells ⟨zg5 arr o vs⟩ ty fz)/\(∀ k,k≠b->(w.setCells b o vs).heap[k]?=w.heap[k]?)/\(w.setCells b o vs).heap.size=w.heap.size/\(w.setCells b o vs).os=w.os/\(w.setCells b o vs).tape=w.tape/\(w.setCells b o vs).output=w.output
 | [],_,_,_,h=>⟨h,fun _ _=>rfl,rfl,rfl,rfl,rfl⟩
 | v :: r,o,w,arr,h=>by
  obtain ⟨h1,h2,h3,h4,h5,h6⟩:=zcr r (o+1) (w.setCell ⟨b,o,none⟩ v) (arr.set o v) (setCell_same h v)
  refine ⟨h1,fun k hk=>(h2 k hk).trans (Below.heap_setCell w _ v k hk),?_,h4,h5,h6⟩
  rw [World.setCells,h3];simp [World.setCell]
theorem Ok.write {g:F} (h:Ok e f H B a w) {c:Nat} {l:L} (hn:f.l n=some l) (hb:B n=some (b,c))
    (hs:∀ t,g.s t=f.s t) (hl:∀ m,g.l m=if m=n then some l' else f.l m) (hk:∀ k,k≠b->w'.heap[k]?=w.heap[k]?) (hz:w'.heap.size=w.heap.size) (ho:w'.os=w.os) (ht:w'.tape=w.tape) (hu:w'.output=w.output)
    (lr:LR H B w' n l'):Ok e g H B a w':=by
  obtain ⟨p1,p2,p3⟩:=h.priv n l b c hn hb
  refine ⟨h.df,h.n,⟨ho.trans h.ext.os,ht.trans h.ext.tape,hu.trans h.ext.output,by rw [hz];exact h.ext.size,?_⟩,?_,fun t v hv=>h.slot t v (by rw [<- hs];exact hv),?_,?_,?_,h.low,h.le,h.keep,h.tab⟩
  · intro k hk1 hk2
    have hne:k≠b:=by rintro rfl;rcases p3 with p | p;exact hk2 p;omega
    rw [hk k hne];exact h.ext.block k hk1 hk2
  · intro k o hko
    have hne:k≠b:=by rintro rfl;rw [p2] at hko;cases hko
    rw [hk k hne];exact h.sat k o hko
  · intro m l2 hm
    rw [hl] at hm
    split at hm
    · rename_i e1;subst e1;injection hm with hm;subst hm;exact lr
    · rename_i e1
      refine LR.mono (Le.refl _) rfl (fun _ _=>rfl) (fun b2 c2 hb2=>?_) (h.loc m l2 hm)
      refine hk b2 ?_
      rintro rfl
      exact e1 (h.inj m n l2 l b2 c2 c hm hn hb2 hb)
  · intro m l2 b2 c2 hm hb2
    rw [hz]
    rw [hl] at hm
    split at hm
    · rename_i e1;subst e1;exact h.priv m l b2 c2 hn hb2
    · exact h.priv m l2 b2 c2 hm hb2
  · intro m k l1 l2 b1 c1 c2 h1 h2 b1' b2'
    rw [hl] at h1 h2
    have g1 : ∃ x, f.l m = some x := by split at h1; · rename_i e1; subst e1; exact ⟨l, hn⟩
                                        · exact ⟨l1,h1⟩
    have g2 : ∃ x, f.l k = some x := by split at h2; · rename_i e1; subst e1; exact ⟨l, hn⟩
                                        · exact ⟨l2,h2⟩
    obtain ⟨x1,g1⟩:=g1
    obtain ⟨x2,g2⟩:=g2
    exact h.inj m k x1 x2 b1 c1 c2 g1 g2 b1' b2'
theorem St.put0 {g:F} (h:St e f a w) {dst:Option Nat} (hd:dst=none) (hs:∀ t,g.s t=f.s t) (hl:∀ n,g.l n=f.l n):St e g (a.put dst undef) w:=by
 subst hd
 exact h.weaken ⟨fun t v hv=>by rw [<- hs];exact hv,fun n l hn=>by rw [<- hl];exact hn⟩
theorem Op.store {cs':List C} {v:T} {pos af gd} (hs:Sz P xt m ag) (h:OV x (.t v) rs) (hm:(cellsOf v).length=m) (ho:Nat.ble (o+m) cs.length=true) (hc:zg5 cs o (cellsOf v)=cs') :
  zar P ⟨none,.store xt (.tmp t) x,ty,pos,af,gd⟩ { rs:=(t,vp n o) :: rs,rl:=[(n,.box cs)],wl:=[(n,some (.box cs'))] }:=by
 rintro e f a w Q ⟨H,B,hok⟩ hr hnw hb0
 obtain ⟨b,c,hb,hu⟩:=(hok.slot t _ (hr.1 (t,vp n o) (by simp))).ptrI
 have hfl:=hr.2 (n,.box cs) (by simp)
 obtain ⟨b', c', arr,ty', hb', hcl,h2⟩:=hok.loc n _ hfl
 rw [hb] at hb'
 injection hb' with hb'
 obtain ⟨rfl,rfl⟩:=Prod.mk.injEq .. ▸ hb'
 have hv:=h.eval hok (fun p hp=>hr.1 p (by simp [hp]))
 obtain ⟨l,h3,h4⟩:=TR.cells hv
 have hll:l.length=m:=by rw [<- h4.length,hm]
 have ho':o+m<=arr.length:=by rw [<- h2.length];exact Nat.le_of_ble_eq_true ho
 have hrun:(storeVar xt ⟨b,o,none⟩ (a.eval x)).run P w = .ok () (w.setCells b o l):=by
  have hst:=run_storeCells_cells (P:=P) b o l 0 w (fun j hj=>by
    rw [zc8 hcl (o:=o+0+j) (v:=arr[o+0+j]'(by omega)) (bG _)];rfl) (fun j hj=>by simp [World.frozen?, hcl]) (fun v hv=>by
    obtain ⟨i,hi,rfl⟩:=List.getElem_of_mem hv
    obtain ⟨y,hy,hR⟩:=h4.get i (by rw [h4.length];exact hi)
    rw [bG hi] at hy
    injection hy with hy
    rw [hy]
    exact zf3 (CR.flat hR))
  unfold storeVar
  simp only [Sem.run_bind,hs.sizeOf,Result.andThen_ok,h3,hll,List.size_toArray,ne_eq,not_true_eq_false,if_false]
  simpa using hst
 obtain ⟨k1,k2,k3,k4,k5,k6⟩:=zcr l o w arr hcl
 have h5:a.eval (.tmp t) = .pointer (some ⟨b,o,none⟩):=hu
 unfold Oper.wp
 have hexec:(execOp a.eval ⟨none,.store xt (.tmp t) x,ty,pos,af,gd⟩).run P w = .ok .skip (w.setCells b o l):=by
  generalize hq:a.eval x=q at hrun
  generalize a.eval=ρ at h5 hq ⊢
  simp only [execOp,h5,hq,Instr.storeAt,Instr.sureAddr,Sem.run_bind,Sem.run_pure,Result.andThen_ok,hrun]
 rw [hexec,Oper.upon_skip]
 subst hc
 refine St.put0 ⟨H,B,hok.write (g:=⟨f.s,fun m=>if m=n then some (.box (zg5 cs o (cellsOf v))) else f.l m⟩) (l' := .box (zg5 cs o (cellsOf v))) hfl hb (fun _=>rfl) (fun _=>rfl) k2 k3 k4 k5 k6 ⟨b,c,_,ty', hb,k1,h2.put o h4⟩⟩ rfl (app0_s _ _ rfl) (fun m=>zh3 f n _ _ rfl m)
end
structure Pre (ps:List (Nat × L)) (args:List V) (w:World) (H:Im) (B:Bl) (vals:List Value):Prop where
  sat:∀ b o,H b=some o->w.heap[b]?=some o
  loc:∀ p ∈ ps,LR H B w p.1 p.2
  priv:∀ p ∈ ps,∀ b c,B p.1=some (b,c)->b<w.heap.size/\H b=none
  inj:∀ p ∈ ps,∀ q ∈ ps,∀ b c c', B p.1=some (b,c)->B q.1=some (b,c')->p.1=q.1
  arg:zat (VR H B) args vals
  tab:TabH H
def mayP (ps:List (Nat × L)) (B:Bl) (b:Nat):Prop:=∃ p ∈ ps,∃ c,B p.1=some (b,c)
structure Post (ps:List (Nat × L)) (w:World) (H:Im) (B:Bl) (res:V) (qs:List (Nat × L)) (v:Value) (w':World) (H':Im) (B':Bl):Prop where
  le:Le H H'
  low:∀ b,b<w.heap.size->H' b=H b
  sat:∀ b o,H' b=some o->w'.heap[b]?=some o
  loc:∀ p ∈ qs,LR H' B' w' p.1 p.2
  priv:∀ p ∈ qs,∀ b c,B' p.1=some (b,c)->b<w'.heap.size/\H' b=none/\(mayP ps B b\/w.heap.size<=b)
  inj:∀ p ∈ qs,∀ q ∈ qs,∀ b c c', B' p.1=some (b,c)->B' q.1=some (b,c')->p.1=q.1
  keep:∀ n,n ∈ ps.map (·.1)\/n ∉ qs.map (·.1)->B' n=B n
  res:VR H' B' res v
  ext:Ext (mayP ps B) w w'
def Fn (P:Program) (k:FuncId) (ps:List (Nat × L)) (args:List V) (res:V) (qs:List (Nat × L)):Prop :=
  ∀ (w:World) (H:Im) (B:Bl) (vals:List Value),Pre ps args w H B vals->Calls P k ⟨vals⟩ w fun en w'=>∃ v H' B', en = .returned v/\Post ps w H B res qs v w' H' B'
def zcn (rs:List (Nat × V)) (ps qs:List (Nat × L)) (d:Nat) (res:V):I :=
  { rs:=rs,rl:=ps,ws:=[(d,some res)],wl:=qs.map (fun q=>(q.1,some q.2))++ps.map (fun p=>(p.1,none)),nw:=(qs.map (·.1)).filter fun n=>!zcm (ps.map (·.1)) n }
variable {qs:List (Nat × L)}
theorem lookup_wl {ps:List (Nat × L)} (n:Nat):(qs.map (fun q=>(q.1,some q.2))++ps.map (fun p=>(p.1,(none:Option L)))).lookup n=(match qs.lookup n with | some l=>some (some l) | none=>if n ∈ ps.map (·.1) then some none else none):=by
 induction qs with
 | nil =>
  simp only [List.map_nil,List.nil_append,List.lookup]
  induction ps with
  | nil=>rfl
  | cons p ps ih =>
   simp only [cK,List.lookup,b9]
   by_cases e:n=p.1
   ·simp [e]
   ·have:(n == p.1)=false:=by simp;exact e
    rw [this];simp only [ih,e,false_or]
 | cons q qs ih =>
  simp only [cK,List.cons_append,List.lookup]
  cases hc:(n == q.1) with
  | true=>rfl
  | false=>exact ih
variable {res:V}
theorem Ok.called {g:F} {B':Bl} (h:Ok e f H B a w) {ps:List (Nat × L)} (hp:∀ p ∈ ps,f.l p.1=some p.2)
  (hn:∀ n,n ∈ qs.map (·.1)->n ∉ ps.map (·.1)->New e.K f n) (post:Post ps w H B res qs v w' H' B') (hs:∀ t,g.s t=f.s t)
  (hl:∀ n,g.l n=match qs.lookup n with | some l=>some l | none=>if n ∈ ps.map (·.1) then none else f.l n):Ok e g H' B' a w':=by
 have hps:∀ p ∈ ps,p.1 ∈ ps.map (·.1):=fun p h=>bE.2 ⟨p,h,rfl⟩
 have keepT:∀ m,(m ∈ qs.map (·.1)->m ∉ ps.map (·.1)->False)->B' m=B m:=by
  intro m hm
  refine post.keep m ?_
  by_cases h1:m ∈ ps.map (·.1)
  ·exact .inl h1
  ·exact .inr fun h2=>hm h2 h1
 have may:∀ b,mayP ps B b->b<w.heap.size/\H b=none/\(e.may b\/e.w.heap.size<=b):=by
  rintro b ⟨p,hp1,c,hb⟩
  exact h.priv p.1 p.2 b c (hp p hp1) hb
 -- what g knows of a name: it is one of qs, or an old one beside ps
 have cls:∀ n l,g.l n=some l->((n,l) ∈ qs)\/(n ∉ qs.map (·.1)/\n ∉ ps.map (·.1)/\f.l n=some l):=by
  intro n l hnl
  rw [hl] at hnl
  cases hq:qs.lookup n with
  | some x=>rw [hq] at hnl;injection hnl with hnl;subst hnl;exact .inl (zae hq)
  | none =>
   rw [hq] at hnl
   by_cases hm:n ∈ ps.map (·.1)
   ·rw [if_pos hm] at hnl;cases hnl
   ·rw [if_neg hm] at hnl
    refine .inr ⟨fun hm2=>?_,hm,hnl⟩
    obtain ⟨q,hq1,rfl⟩:=bE.1 hm2
    have:∀ (l:List (Nat × L)),q ∈ l->l.lookup q.1≠none:=by
     intro l
     induction l with
     | nil=>intro h;cases h
     | cons x l ih =>
      intro hx
      simp only [List.lookup]
      cases hc:(q.1 == x.1) with
      | true=>simp
      | false =>
       rcases b9.1 hx with rfl | hx
       ·simp at hc
       ·exact ih hx
    exact this qs hq1 hq
 have oldB:∀ n,n ∉ qs.map (·.1)->B' n=B n:=fun n hn2=>post.keep n (.inr hn2)
 refine ⟨h.df,h.n,⟨post.ext.os.trans h.ext.os,post.ext.tape.trans h.ext.tape,post.ext.output.trans h.ext.output,bN h.ext.size post.ext.size,?_⟩,post.sat,?_,?_,?_,?_,?_,h.le.trans post.le,?_,h.tab⟩
 ·intro b hb hm
  have:=h.ext.size
  rw [post.ext.block b (by omega) (fun hx=>by
   obtain ⟨_,_,h3⟩:=may b hx
   rcases h3 with h3 | h3
   ·exact hm h3
   ·omega)]
  exact h.ext.block b hb hm
 ·intro t x hx
  rw [hs] at hx
  exact VR.mono post.le (fun m hm=>keepT m fun h1 h2=>(hn m h1 h2).2.2.1 t x hx hm) (h.slot t x hx)
 ·intro n l hnl
  rcases cls n l hnl with h1 | ⟨h1,h2,h3⟩
  ·exact post.loc (n,l) h1
  ·refine LR.mono post.le (oldB n h1) (fun m hm=>keepT m fun k1 k2=>(hn m k1 k2).2.2.2 n l h3 hm) (fun b c hb=>?_) (h.loc n l h3)
   obtain ⟨p1,p2,p3⟩:=h.priv n l b c h3 hb
   refine post.ext.block b p1 ?_
   rintro ⟨p,hp1,c', hb'⟩
   have:=h.inj n p.1 l p.2 b c c' h3 (hp p hp1) hb hb'
   exact h2 (this ▸ hps p hp1)
 ·intro n l b c hnl hb
  rcases cls n l hnl with h1 | ⟨h1,h2,h3⟩
  ·obtain ⟨p1,p2,p3⟩:=post.priv (n,l) h1 b c hb
   refine ⟨p1,p2,?_⟩
   rcases p3 with p3 | p3
   ·exact (may b p3).2.2
   ·exact .inr (bN h.ext.size p3)
  ·rw [oldB n h1] at hb
   obtain ⟨p1,p2,p3⟩:=h.priv n l b c h3 hb
   exact ⟨cV p1 post.ext.size,by rw [post.low b p1];exact p2,p3⟩
 ·intro n m l l' b c c' h1 h2 b1 b2
  have cross:∀ n l b c m l' c', (n,l) ∈ qs->B' n=some (b,c)->m ∉ qs.map (·.1)->m ∉ ps.map (·.1)->f.l m=some l'->B' m=some (b,c')->False:=by
   intro n l b c m l' c' q1 q2 q3 q4 q5 q6
   rw [oldB m q3] at q6
   have:=h.priv m l' b c' q5 q6
   rcases (post.priv (n,l) q1 b c q2).2.2 with ⟨p,hp1,c2,hb2⟩ | hge
   ·have:=h.inj m p.1 l' p.2 b c' c2 q5 (hp p hp1) q6 hb2
    exact q4 (this ▸ hps p hp1)
   ·omega
  rcases cls n l h1 with k1 | ⟨k1,k2,k3⟩ <;> rcases cls m l' h2 with j1 | ⟨j1,j2,j3⟩
  ·exact post.inj (n,l) k1 (m,l') j1 b c c' b1 b2
  ·exact (cross n l b c m l' c' k1 b1 j1 j2 j3 b2).elim
  ·exact (cross m l' b c' n l c j1 b2 k1 k2 k3 b1).elim
  ·rw [oldB n k1] at b1
   rw [oldB m j1] at b2
   exact h.inj n m l l' b c c' k3 j3 b1 b2
 ·intro b hb
  have:=h.ext.size
  rw [post.low b (by omega)]
  exact h.low b hb
 ·intro n hn2
  refine (keepT n fun h1 h2=>(hn n h1 h2).1 hn2).trans (h.keep n hn2)
inductive OVs:List Operand->List V->List (Nat × V)->Prop
  | nil:OVs [] [] []
  | cons {x:Operand} {v:V} {rs:List (Nat × V)} {xs:List Operand} {vs:List V} {rs':List (Nat × V)} (h:OV x v rs) (t:OVs xs vs rs'):OVs (x :: xs) (v :: vs) (rs++rs')
theorem OVs.eval {xs:List Operand} {vs:List V} (h:OVs xs vs rs) (hok:Ok e f H B a w) (hr:∀ p ∈ rs,f.s p.1=some p.2):zat (VR H B) vs (xs.map a.eval):=by
 induction h with
 | nil=>trivial
 | cons h t ih=>exact ⟨h.eval hok fun p hp=>hr p (b7 _ hp),ih fun p hp=>hr p (bX _ hp)⟩
variable {args:List V}
section
variable {P:Program}
def zax (P : Program) (k : FuncId) : Prop := (P.funcs[k]?).map (fun fn => fn.name == "runtime.NumGoroutine" || fn.body.isNone) = some false
theorem zg3 {k:FuncId} (hk:zax P k) (args:Array Value) (w:World):(callFunc k args).run P w = .ok (.enter k args) w:=by
 unfold zax at hk
 cases hf:P.funcs[k]? with
 | none=>rw [hf] at hk;cases hk
 | some fn =>
  rw [hf] at hk
  injection hk with hk
  rw [Bool.or_eq_false_iff] at hk
  unfold callFunc
  simp only [Sem.run_bind,run_program,Result.andThen_ok,hf,hk.1,hk.2,cJ,if_false,Sem.run_pure]
theorem Op.call {k:FuncId} {ps:List (Nat × L)} (hc:Fn P k ps args res qs) (hk:zax P k) {d:Nat} {xs:List Operand} {tys:Array TypeId} {ty pos af gd} (h:OVs xs args rs) :
  zar P ⟨some d,.call { callee:=.value (.func k),args:=⟨xs⟩,argTypes:=tys }, ty,pos,af,gd⟩ (zcn rs ps qs d res):=by
 rintro e f a w Q ⟨H,B,hok⟩ hr hnw hb
 have hex:(execOp a.eval ⟨some d,.call { callee:=.value (.func k),args:=⟨xs⟩,argTypes:=tys }, ty,pos,af,gd⟩).run P w = .ok (.enter k ⟨xs.map a.eval⟩) w:=by
  have h1:a.eval (.func k) = .func (.func k) #[] #[]:=rfl
  have h2:(⟨xs⟩:Array Operand).map a.eval=⟨xs.map a.eval⟩:=by simp
  simp only [execOp,resolve,h1,h2,Deferred.ofValue,Sem.run_bind,Sem.run_pure,Result.andThen_ok,invoke]
  rw [zg3 hk]
  simp
 have hargs:=h.eval hok hr.1
 have hps:∀ p ∈ ps,f.l p.1=some p.2:=hr.2
 have pre:Pre ps args w H B (xs.map a.eval):=⟨hok.sat,fun p hp=>hok.loc _ _ (hps p hp),fun p hp b c hb2=>by
   obtain ⟨h1,h2,_⟩:=hok.priv _ _ b c (hps p hp) hb2
   exact ⟨h1,h2⟩,fun p hp q hq b c c' h1 h2=>hok.inj _ _ _ _ b c c' (hps p hp) (hps q hq) h1 h2,hargs,hok.tab.mono hok.le⟩
 unfold Oper.wp
 rw [hex,Oper.upon_enter]
 refine (hc w H B _ pre).mono ?_
 rintro en w' ⟨v,H', B', rfl,post⟩
 have hnew:∀ n,n ∈ qs.map (·.1)->n ∉ ps.map (·.1)->New e.K f n:=by
  intro n h1 h2
  refine hnw n ?_
  simp only [zcn,cE]
  refine ⟨h1,?_⟩
  cases hx:zcm (ps.map (·.1)) n with
  | false=>rfl
  | true=>exact absurd (zb5.1 hx) h2
 have h1:Ok e ⟨f.s,(f.app (zcn rs ps qs d res)).l⟩ H' B' a w':=hok.called (g:=⟨f.s,(f.app (zcn rs ps qs d res)).l⟩) hps hnew post (fun _=>rfl) (fun n=>by
  simp only [F.app,zcn,lookup_wl]
  cases qs.lookup n with
  | some l=>rfl
  | none=>by_cases hm:n ∈ ps.map (·.1) <;> simp [hm])
 exact ⟨H', B', h1.put (x:=some res) (hb.1 (d,some res) (by simp [zcn])) (zek f d (some res) _ rfl) (fun n=>rfl) (fun y hy=>by injection hy with hy;subst hy;exact post.res)⟩
inductive RV (P:Program) (f:F):ResultVar->T->Prop
  | tmp (t:Nat) (x:T) (h:f.s t=some (.t x)):RV P f (.tmp t) x
  | agg (t n o m:Nat) (ty:TypeId) (cs xs:List C) (hs:Sz P ty m true) (h:f.s t=some (vp n o)) (hl:f.l n=some (.box cs)) (hx:(cs.drop o).take m=xs) (hm:xs.length=m):RV P f (.cell t ty) (.agg xs)
  | c (t n o m:Nat) (ty:TypeId) (cs:List C) (x:C) (hs:Sz P ty m false) (h:f.s t=some (vp n o)) (hl:f.l n=some (.box cs)) (hx:cs[o]?=some x):RV P f (.cell t ty) (.c x)
theorem vT9 {x : T} (h : f.s t = some (.t x) := by kernel_rfl) : RV P f (.tmp t) x := .tmp t x h
def resV:ResultVar->Array Value->Sem Value
  | .tmp t,tmps=>pure (tmps.getD t undef)
  | .cell a t,tmps=>do loadVar t (<- asAddr (tmps.getD a undef))
theorem RV.run {r:ResultVar} {x:T} (h:RV P f r x) (hok:Ok e f H B a w):∃ v,(resV r a.tmps).run P w = .ok v w/\TR H B x v:=by
 cases h with
 | tmp t x h=>exact ⟨_,rfl,hok.slot t _ h⟩
 | agg t n o m ty cs xs hs h hl hx hm =>
  obtain ⟨b,c,hb,hu⟩:=(hok.slot t _ h).ptrI
  obtain ⟨b', c', arr,ty', hb', hc,h2⟩:=hok.loc n _ hl
  rw [hb] at hb'
  injection hb' with hb'
  obtain ⟨rfl,rfl⟩:=Prod.mk.injEq .. ▸ hb'
  have h3:zat (CR H B) xs ((arr.drop o).take m):=by rw [<- hx];exact (h2.drop o).take m
  have h6:=zd5 (P:=P) hs (w:=w) (b:=b) (o:=o) (cs:=(arr.drop o).take m) (by rw [<- h3.length,hm]) (fun j v hv=>by
   refine zc8 hc ?_
   rw [bL] at hv
   split at hv
   ·rw [bZ] at hv;exact hv
   ·cases hv)
  refine ⟨_,?_,⟨_,rfl,h3⟩⟩
  simp only [resV,hu,asAddr,Sem.run_bind,Sem.run_pure,Result.andThen_ok,h6]
 | c t n o m ty cs x hs h hl hx =>
  obtain ⟨b,c,hb,hu⟩:=(hok.slot t _ h).ptrI
  obtain ⟨b', c', arr,ty', hb', hc,h2⟩:=hok.loc n _ hl
  rw [hb] at hb'
  injection hb' with hb'
  obtain ⟨rfl,rfl⟩:=Prod.mk.injEq .. ▸ hb'
  obtain ⟨ho,rfl⟩:=bB.1 hx
  obtain ⟨v,h3,h4⟩:=h2.get o ho
  refine ⟨v,?_,h4⟩
  simp only [resV,hu,asAddr,Sem.run_bind,Sem.run_pure,Result.andThen_ok,ze1 (P:=P) hs (zc8 hc h3)]
theorem run_mapM (g:ResultVar->Sem Value):∀ (l:List ResultVar) (vs:List Value),zat (fun r v=>(g r).run P w = .ok v w) l vs->(l.mapM g).run P w = .ok vs w
 | [],[],_=>rfl
 | r :: l,v :: vs,h=>by
  rw [List.mapM_cons]
  simp only [Sem.run_bind,h.1,Result.andThen_ok,run_mapM g l vs h.2,Sem.run_pure]
 | [],_ :: _,h=>h.elim
 | _ :: _,[],h=>h.elim
def resOf:List T->V
  | [x] => .t x
  | xs => .tup xs
theorem results_run {rs:List ResultVar} (hf:fn.results=⟨rs⟩) {xs:List T} (hok:Ok e f H B a w) (h:zat (RV P f) rs xs) :
  ∃ v,(results fn a.tmps).run P w = .ok v w/\VR H B (resOf xs) v:=by
 have h1:∃ vs,zat (fun r v=>(resV r a.tmps).run P w = .ok v w) rs vs/\zat (TR H B) xs vs:=by
  clear hf
  induction rs generalizing xs with
  | nil=>cases xs with
   | nil=>exact ⟨[],trivial,trivial⟩
   | cons x xs=>exact h.elim
  | cons r rs ih=>cases xs with
   | nil=>exact h.elim
   | cons x xs =>
    obtain ⟨vs,k1,k2⟩:=ih h.2
    obtain ⟨v,k3,k4⟩:=h.1.run hok
    exact ⟨v :: vs,⟨k3,k1⟩,⟨k4,k2⟩⟩
 obtain ⟨vs,h2,h3⟩:=h1
 have h4:=run_mapM (P:=P) (fun r=>resV r a.tmps) rs vs h2
 refine ⟨if h:vs.length=1 then vs[0] else .tuple ⟨vs⟩,?_,?_⟩
 ·have e1:results fn a.tmps=(do
    let vs <- fn.results.mapM fun r=>resV r a.tmps
    pure (if h:vs.size=1 then vs[0] else .tuple vs)):=by
   unfold results
   congr 1
   congr 1
   funext r
   cases r <;> rfl
  rw [e1,hf,List.mapM_toArray]
  simp only [Sem.run_bind,Sem.run_map,h4,Result.andThen_ok,Sem.run_pure]
  simp
 ·have hl:=h3.length
  match xs,vs,h3 with
  | [],[],_=>exact ⟨[],rfl,trivial⟩
  | [x],[v],h3=>exact h3.1
  | x :: y :: xs,u :: v :: vs,h3=>exact ⟨u :: v :: vs,by simp,h3⟩
def RetQ (e:E) (ps:List (Nat × L)) (res:V) (qs:List (Nat × L)) (en:Ending) (w':World):Prop:=∃ v H' B', en = .returned v/\Post ps e.w e.H e.B res qs v w' H' B'
theorem St.ret {rs:List ResultVar} {xs:List T} {ps:List (Nat × L)} (h:St e f a w) (hK:e.K=ps.map (·.1)) (hf:fn.results=⟨rs⟩) (hx:zat (RV P f) rs xs) (hres:resOf xs=res)
  (hq:∀ q ∈ qs,f.l q.1=some q.2) (ht:(res.tags++qs.flatMap fun q=>q.2.tags).all (zcm (qs.map (·.1)))=true) (n:Exit) (hn:n = .ret\/n = .normal) :
  bodyPost P fn (RetQ e ps res qs) n a w:=by
 obtain ⟨H,B,hok⟩:=h
 obtain ⟨v,hv,hr⟩:=results_run (P:=P) hf hok hx
 have hm:∀ b,e.may b ↔ mayP ps e.B b:=by
  intro b
  unfold E.may mayP
  rw [hK]
  constructor
  ·rintro ⟨m,hm,c,hb⟩;obtain ⟨p,hp,rfl⟩:=bE.1 hm;exact ⟨p,hp,c,hb⟩
  ·rintro ⟨p,hp,c,hb⟩;exact ⟨p.1,bE.2 ⟨p,hp,rfl⟩,c,hb⟩
 have hB:∀ m,m ∈ qs.map (·.1)->(fun m=>if zcm (qs.map (·.1)) m then B m else e.B m) m=B m:=fun m hm=>by simp [zb5.2 hm]
 have htag:∀ m ∈ res.tags++qs.flatMap (fun q=>q.2.tags),m ∈ qs.map (·.1):=fun m hm=>zb5.1 (bI.1 ht m hm)
 have main:a.defers=[]/\∃ v,(results fn a.tmps).run P w = .ok v w/\RetQ e ps res qs (.returned v) w:=by
  refine ⟨hok.df,v,hv,v,H,fun m=>if zcm (qs.map (·.1)) m then B m else e.B m,rfl,?_⟩
  refine ⟨hok.le,hok.low,hok.sat,?_,?_,?_,?_,?_,⟨hok.ext.os,hok.ext.tape,hok.ext.output,hok.ext.size,fun b hb hb2=>hok.ext.block b hb (fun h=>hb2 ((hm b).1 h))⟩⟩
  ·intro q hq1
   have hmem:q.1 ∈ qs.map (·.1):=bE.2 ⟨q,hq1,rfl⟩
   refine LR.mono (Le.refl _) (hB _ hmem) (fun m hm=>hB m (htag m (bX _ (bC.2 ⟨q,hq1,hm⟩)))) (fun _ _ _=>rfl) (hok.loc _ _ (hq q hq1))
  ·intro q hq1 b c hb
   have hmem:q.1 ∈ qs.map (·.1):=bE.2 ⟨q,hq1,rfl⟩
   have hb:=(hB _ hmem).symm.trans hb
   obtain ⟨p1,p2,p3⟩:=hok.priv _ _ b c (hq q hq1) hb
   exact ⟨p1,p2,p3.imp (hm b).1 id⟩
  ·intro q hq1 q' hq2 b c c' h1 h2
   have h1:=(hB _ (bE.2 ⟨q,hq1,rfl⟩)).symm.trans h1
   have h2:=(hB _ (bE.2 ⟨q', hq2,rfl⟩)).symm.trans h2
   exact hok.inj _ _ _ _ b c c' (hq q hq1) (hq q' hq2) h1 h2
  ·intro m hm2
   by_cases hx:zcm (qs.map (·.1)) m=true
   ·simp only [hx,if_true]
    rcases hm2 with h1 | h1
    ·exact hok.keep m (by rw [hK];exact h1)
    ·exact absurd (zb5.1 hx) h1
   ·simp [hx]
  ·rw [hres] at hr
   exact VR.mono (Le.refl _) (fun m hm=>hB m (htag m (b7 _ hm))) hr
 rcases hn with rfl | rfl <;> exact main
theorem Fn.of {k:FuncId} {c:Code} {ps:List (Nat × L)} (hf:P.funcs[k]?=some fn) (hb:fn.body=some c) (f:F) (N:Nat) (hN:args.length+(fn.ntmps - args.length)=N)
  (hfs:∀ t v,f.s t=some v->args[t]?=some v) (hfl:∀ n l,f.l n=some l->(n,l) ∈ ps)
  (h:∀ (w:World) (H:Im) (B:Bl) (a:Act),St ⟨w,H,B,ps.map (·.1),N⟩ f a w->c.wp P (bodyPost P fn (RetQ ⟨w,H,B,ps.map (·.1),N⟩ ps res qs)) a w):Fn P k ps args res qs:=by
 intro w H B vals pre
 refine calls_of_wp hf hb (h w H B _ ⟨H,B,rfl,?_,⟨rfl,rfl,rfl,bM _,fun _ _ _=>rfl⟩,pre.sat,?_,?_,?_,?_,fun _ _=>rfl,Le.refl _,fun _ _=>rfl,pre.tab⟩)
 ·have:=pre.arg.length
  simp [<- hN,<- this]
 ·intro t v hv
  have h1:=hfs t v hv
  obtain ⟨ht,rfl⟩:=bB.1 h1
  obtain ⟨u,h2,h3⟩:=pre.arg.get t ht
  have htv:t<vals.length:=(bB.1 h2).1
  have:(((⟨vals⟩:Array Value)++Array.replicate (fn.ntmps - (⟨vals⟩:Array Value).size) undef).getD t undef)=u:=by
   rw [bK, Array.getElem?_append_left (by simpa using htv)]
   simp [h2]
  rw [this]
  exact h3
 ·intro n l hn;exact pre.loc _ (hfl n l hn)
 ·intro n l b c hn hb2
  obtain ⟨h1,h2⟩:=pre.priv _ (hfl n l hn) b c hb2
  exact ⟨h1,h2,.inl ⟨n,bE.2 ⟨_,hfl n l hn,rfl⟩,c,hb2⟩⟩
 ·intro n m l l' b c c' h1 h2 b1 b2
  exact pre.inj _ (hfl n l h1) _ (hfl m l' h2) b c c' b1 b2
section
variable {Q:Exit->Act->World->Prop} {e:E} {f:F} {a:Act} {w:World}
theorem wp_cond_S {x:Code} (b:Bool) (h:St e f a w) (ht:f.s t=some (vb b)) (hx:b=true->x.wp P Q a w) (hy:b=false->y.wp P Q a w):(Code.cond (.tmp t) x y).wp P Q a w:=by
 obtain ⟨H,B,hok⟩:=h
 have:=(hok.slot t _ ht).rawI
 exact wp_cond_split this hx hy
theorem wp_loop_S {c:Code} (fs:ι->F) (μ:ι->Nat) (x:ι) (h:St e (fs x) a w) (round:∀ x a w,St e (fs x) a w->c.wp P (Exit.then (fun a' w'=>∃ y,μ y<μ x/\St e (fs y) a' w') Q) a w):(Code.loop c).wp P Q a w:=by
 intro b k cs
 have key:∀ n x a w,μ x=n->St e (fs x) a w->∃ en a' w', Q en a' w'/\Arrives P (lone (b.at a (.code c :: .inLoop c :: k)) cs w) b k cs en a' w':=by
  intro n
  induction n using Nat.strongRecOn with
  | _ n ih =>
   intro x a w hn hI
   obtain ⟨en,a₁,w₁,hq,harr⟩:=round x a w hI b (.inLoop c :: k) cs
   cases en with
   | normal =>
    obtain ⟨y,hlt,hI₁⟩:=hq
    obtain ⟨e₂,a₂,w₂,hq₂,harr₂⟩:=ih (μ y) (hn ▸ hlt) y a₁ w₁ rfl hI₁
    exact ⟨e₂,a₂,w₂,hq₂,.of_steps (Steps.trans harr (.one step_inLoop)) harr₂⟩
   | exit id=>exact ⟨_,a₁,w₁,hq,.pass (x:=.inLoop c) rfl (fun _ _ => .inl (by simp)) harr⟩
   | goto l=>exact ⟨_,a₁,w₁,hq,.pass (x:=.inLoop c) rfl (fun _ _ => .inl (by simp)) harr⟩
   | ret=>exact ⟨_,a₁,w₁,hq,.pass (x:=.inLoop c) rfl (fun _ _ => .inl (by simp)) harr⟩
   | panic ch=>exact ⟨_,a₁,w₁,hq,.pass (x:=.inLoop c) rfl (fun _ _ => .inl (by simp)) harr⟩
   | outgrown=>exact ⟨_,a₁,w₁,hq,.pass (x:=.inLoop c) rfl (fun _ _ => .inl (by simp)) harr⟩
 obtain ⟨en,a', w', hq,harr⟩:=key _ x a w rfl h
 exact ⟨en,a', w', hq,.of_steps (.one step_loop) harr⟩
theorem wp_seq_mid {x:Code} (g:F) (hx:x.wp P (Exit.then (fun a w=>St e g a w) Q) a w) (hy:∀ a w,St e g a w->y.wp P Q a w):(Code.seq x y).wp P Q a w :=
 wp_seq (wp_mono hx fun en a w hq=>by
  cases en with
  | normal=>exact hy a w hq
  | _=>exact hq)
theorem zdt {id:Nat} (h:Q .normal a w):Exit.inBlock id Q (.exit id) a w:=by simp only [Exit.inBlock,if_true];exact h
end
end
def F.of (sl:List (Nat × V)) (lc:List (Nat × L)):F:=⟨fun t=>sl.lookup t,fun n=>lc.lookup n⟩
def AllDo (P:Program) (ops:Array Oper):List Oper->List I->Prop
  | [],[]=>True
  | o :: os,i :: is=>Does P ops o i/\AllDo P ops os is
  | _,_=>False
theorem AllDo.get {ops:Array Oper}:∀ {os:List Oper} {is:List I}, AllDo P ops os is->∀ (k:Nat) (o:Oper),os[k]?=some o->Does P ops o (at_ is k)
 | o :: os,i :: is,h,0,x,hx=>by simp at hx;subst hx;exact h.1
 | o :: os,i :: is,h,k+1,x,hx=>by
  have:=AllDo.get h.2 k x (by simpa using hx)
  simpa [at_] using this
 | [],[],_,k,x,hx=>by simp at hx
 | _ :: _,[],h,_,_,_=>h.elim
 | [],_ :: _,h,_,_,_=>h.elim
theorem AllDo.length {ops:Array Oper}:∀ {os:List Oper} {is:List I}, AllDo P ops os is->os.length=is.length
 | o :: os,i :: is,h=>by simp [AllDo.length h.2]
 | [],[],_=>rfl
 | _ :: _,[],h=>h.elim
 | [],_ :: _,h=>h.elim
def runS:F->List I->List (Option V)
  | _,[]=>[]
  | f,i :: is=>i.rs.map (fun p=>f.s p.1)++runS (f.app i) is
def wantS (is:List I):List (Option V):=is.flatMap fun i=>i.rs.map fun p=>some p.2
def runN:F->List I->List (Option L)
  | _,[]=>[]
  | f,i :: is=>i.rl.map (fun p=>f.l p.1)++runN (f.app i) is
def wantN (is:List I):List (Option L):=is.flatMap fun i=>i.rl.map fun p=>some p.2
def zhb:F->List I->F
  | f,[]=>f
  | f,i :: is=>zhb (f.app i) is
theorem zh2 {a b c d:List α} (h:a++b=c++d) (hl:a.length=c.length):a=c/\b=d:=List.append_inj h hl
theorem zam {l:List α} {f:α->β} {g:α->β} (h:l.map f=l.map g):∀ x ∈ l,f x=g x:=by
 induction l with
 | nil=>intro x hx;cases hx
 | cons a l ih =>
  simp only [cK,List.cons.injEq] at h
  intro x hx
  rcases b9.1 hx with rfl | hx
  ·exact h.1
  ·exact ih h.2 x hx
theorem RunL.of {g:F}:∀ (pre is:List I) (f:F),runS f is=wantS is->runN f is=wantN is->(zhb f is).le g->RunL (pre++is) f (List.range' pre.length is.length) g
 | pre,[],f,_,_,h=>by simpa [RunL,zhb] using h
 | pre,i :: is,f,h1,h2,h3=>by
  have e:at_ (pre++i :: is) pre.length=i:=by simp [at_]
  simp only [cC,List.range'_succ,RunL,e]
  have s1:=zh2 h1 (by simp)
  have s2:=zh2 h2 (by simp)
  refine ⟨⟨fun p hp=>?_,fun p hp=>?_⟩,?_⟩
  ·exact zam s1.1 p hp
  ·exact zam s2.1 p hp
  ·have:=RunL.of (g:=g) (pre++[i]) is (f.app i) s1.2 s2.2 h3
   simpa using this
def zhn (K:List Nat) (sl:List (Nat × V)) (lc:List (Nat × L)) (n:Nat):Bool:=!zcm K n && (sl.all fun p=>!zcm p.2.tags n) && lc.all fun p=>!Nat.beq p.1 n && !zcm p.2.tags n
variable {sl:List (Nat × V)} {lc:List (Nat × L)}
theorem zb9 (h:zhn K sl lc n=true):New K (F.of sl lc) n:=by
 simp only [zhn,bF] at h
 obtain ⟨⟨h1,h2⟩,h3⟩:=h
 have nh:∀ {l:List Nat}, (!zcm l n)=true->n ∉ l:=fun h hm=>by rw [zb5.2 hm] at h;cases h
 refine ⟨nh h1,?_,fun t v hv=>?_,fun m l hm=>?_⟩
 ·cases hl:lc.lookup n with
  | none=>exact hl
  | some x =>
   have:=bI.1 h3 _ (zae hl)
   simp at this
 ·exact nh (bI.1 h2 _ (zae hv))
 ·have:=bI.1 h3 _ (zae hm)
  rw [bF] at this
  exact nh this.2
def chk (draw:Bool) (ops:List Oper) (is:List I) (N:Nat) (K:List Nat) (sl:List (Nat × V)) (lc:List (Nat × L)):Bool :=
  zg7 draw ops is && (is.all fun i=>i.ws.all fun p=>Nat.blt p.1 N) && (is.all fun i=>i.nw.all (zhn K sl lc)) && is.all fun i=>!i.k0 || K.isEmpty
def leS (f:F) (sl:List (Nat × V)):List (Option V):=sl.map fun p=>f.s p.1
def leN (f:F) (lc:List (Nat × L)):List (Option L):=lc.map fun p=>f.l p.1
theorem zf8 (h1:leS f sl=sl.map fun p=>some p.2) (h2:leN f lc=lc.map fun p=>some p.2):f.le (F.of sl lc) :=
 ⟨fun _ _ hv=>zam h1 _ (zae hv),fun _ _ hv=>zam h2 _ (zae hv)⟩
section
variable {P:Program} {Q:Exit->Act->World->Prop} {w0:World} {H0:Im} {B0:Bl} {K:List Nat} {N:Nat}
theorem region {id:Nat} {ops:Array Oper} (is:List I) (sl':List (Nat × V)) (lc':List (Nat × L)) (hm:P.follows .mixedOrders=true)
  (hdo:AllDo P ops ops.toList is) (hc:chk draw ops.toList is N K sl lc=true) (h1:runS (F.of sl lc) is=wantS is) (h2:runN (F.of sl lc) is=wantN is)
  (h3:leS (zhb (F.of sl lc) is) sl'=sl'.map fun p=>some p.2) (h4:leN (zhb (F.of sl lc) is) lc'=lc'.map fun p=>some p.2)
  (h:St ⟨w0,H0,B0,K,N⟩ (F.of sl lc) a w) (hQ:∀ a w,St ⟨w0,H0,B0,K,N⟩ (F.of sl' lc') a w->Q .normal a w):(Code.region id ops draw).wp P Q a w:=by
 simp only [chk,bF] at hc
 obtain ⟨⟨⟨c1,c2⟩,c3⟩,c4⟩:=hc
 have hmem:∀ k,at_ is k ∈ is\/at_ is k={}:=by
  intro k
  unfold at_
  rw [bU]
  cases hk:is[k]? with
  | none=>exact .inr rfl
  | some x=>exact .inl (bP hk)
 refine wp_region_S is (F.of sl' lc') hm c1 (fun k o ho=>hdo.get k o (by simpa using ho)) ?_ ?_ ?_ h hQ
 ·intro k
  refine ⟨fun p hp=>?_,fun h0=>?_⟩
  ·rcases hmem k with hk | hk
   ·have:=bI.1 (bI.1 c2 _ hk) p hp
    simpa [Nat.blt_eq] using this
   ·rw [hk] at hp;cases hp
  ·rcases hmem k with hk | hk
   ·have:=bI.1 c4 _ hk
    rw [h0] at this
    simpa using this
   ·rw [hk] at h0;cases h0
 ·intro k n hn
  rcases hmem k with hk | hk
  ·exact zb9 (bI.1 (bI.1 c3 _ hk) n hn)
  ·rw [hk] at hn;cases hn
 ·have:=RunL.of (g:=F.of sl' lc') [] is (F.of sl lc) h1 h2 (zf8 h3 h4)
  have hl:=hdo.length
  simp only [List.nil_append,List.length_nil] at this
  rw [cX, <- Array.length_toList,hl]
  exact this
theorem condS {x:Code} (b:Bool) (h:St ⟨w0,H0,B0,K,N⟩ (F.of sl lc) a w) (ht:(F.of sl lc).s t=some (vb b)) (hx:b=true->x.wp P Q a w) (hy:b=false->y.wp P Q a w):(Code.cond (.tmp t) x y).wp P Q a w :=
 wp_cond_S b h ht hx hy
theorem loopS {c:Code} (I:ι->Prop) (sls:ι->List (Nat × V)) (lcs:ι->List (Nat × L)) (μ:ι->Nat) (x:ι) (hI:I x) (h:St ⟨w0,H0,B0,K,N⟩ (F.of sl lc) a w)
  (h1:leS (F.of sl lc) (sls x)=(sls x).map fun p=>some p.2) (h2:leN (F.of sl lc) (lcs x)=(lcs x).map fun p=>some p.2)
  (round:∀ x a w,I x->St ⟨w0,H0,B0,K,N⟩ (F.of (sls x) (lcs x)) a w->c.wp P (Exit.then (fun a' w'=>∃ y,(I y/\μ y<μ x)/\St ⟨w0,H0,B0,K,N⟩ (F.of (sls y) (lcs y)) a' w') Q) a w):(Code.loop c).wp P Q a w:=by
 refine wp_loop_S (ι:={x // I x}) (fun x=>F.of (sls x.1) (lcs x.1)) (fun x=>μ x.1) ⟨x,hI⟩ (h.weaken (zf8 h1 h2)) fun x a w hst=>wp_mono (round x.1 a w x.2 hst) fun en a w hq=>?_
 cases en with
 | normal=>obtain ⟨y,⟨hy,hlt⟩,hst⟩:=hq;exact ⟨⟨y,hy⟩,hlt,hst⟩
 | _=>exact hq
theorem zaj {I:ι->Prop} {sls:ι->List (Nat × V)} {lcs:ι->List (Nat × L)} {μ:ι->Nat} {x:ι} (y:ι) (h:St ⟨w0,H0,B0,K,N⟩ (F.of sl lc) a w) (hy:I y) (hlt:μ y<μ x)
  (h1:leS (F.of sl lc) (sls y)=(sls y).map fun p=>some p.2:=by kernel_rfl) (h2:leN (F.of sl lc) (lcs y)=(lcs y).map fun p=>some p.2:=by kernel_rfl):∃ y,(I y/\μ y<μ x)/\St ⟨w0,H0,B0,K,N⟩ (F.of (sls y) (lcs y)) a w :=
 ⟨y,⟨hy,hlt⟩,h.weaken (zf8 h1 h2)⟩
theorem midS {x:Code} (sl':List (Nat × V)) (lc':List (Nat × L)) (hx:x.wp P (Exit.then (fun a w=>St ⟨w0,H0,B0,K,N⟩ (F.of sl' lc') a w) Q) a w) (hy:∀ a w,St ⟨w0,H0,B0,K,N⟩ (F.of sl' lc') a w->y.wp P Q a w):(Code.seq x y).wp P Q a w :=
 wp_seq_mid (F.of sl' lc') hx hy
theorem atS {sl':List (Nat × V)} {lc':List (Nat × L)} (h:St ⟨w0,H0,B0,K,N⟩ (F.of sl lc) a w) (h1:leS (F.of sl lc) sl'=sl'.map fun p=>some p.2:=by kernel_rfl) (h2:leN (F.of sl lc) lc'=lc'.map fun p=>some p.2:=by kernel_rfl):St ⟨w0,H0,B0,K,N⟩ (F.of sl' lc') a w :=
 h.weaken (zf8 h1 h2)
theorem zgx {rs:List ResultVar} {ps:List (Nat × L)} (xs:List T) (h:St ⟨w0,H0,B0,ps.map (·.1),N⟩ (F.of sl lc) a w) (n:Exit) (hn:n = .ret\/n = .normal) (hf:fn.results=⟨rs⟩) (hx:zat (RV P (F.of sl lc)) rs xs) (hres:resOf xs=res)
  (hq:leN (F.of sl lc) qs=qs.map fun p=>some p.2:=by kernel_rfl) (ht:(res.tags++qs.flatMap fun q=>q.2.tags).all (zcm (qs.map (·.1)))=true:=by kernel_rfl):bodyPost P fn (RetQ ⟨w0,H0,B0,ps.map (·.1),N⟩ ps res qs) n a w :=
 St.ret h rfl hf hx hres (fun q hq1=>zam hq q hq1) ht n hn
def argS:Nat->List V->List (Nat × V)
  | _,[]=>[]
  | k,v :: vs=>(k,v) :: argS (k+1) vs
theorem zhz:∀ (vs:List V) (k t:Nat) (v:V),(argS k vs).lookup t=some v->k<=t/\vs[t - k]?=some v
 | [],_,_,_,h=>by cases h
 | x :: vs,k,t,v,h=>by
  simp only [argS,List.lookup] at h
  cases hc:(t == k) with
  | true =>
   rw [hc] at h
   simp at h hc
   subst h hc
   simp
  | false =>
   rw [hc] at h
   simp at hc
   obtain ⟨h1,h2⟩:=zhz vs (k+1) t v h
   refine ⟨by omega,?_⟩
   have:t - k=(t - (k+1))+1:=by omega
   rw [this]
   simpa using h2
theorem Fn.body {k:FuncId} {c:Code} {ps:List (Nat × L)} (hf:P.funcs[k]?=some fn) (hb:fn.body=some c) (N:Nat) (hN:args.length+(fn.ntmps - args.length)=N)
  (h:∀ (w:World) (H:Im) (B:Bl) (a:Act),St ⟨w,H,B,ps.map (·.1),N⟩ (F.of (argS 0 args) ps) a w->c.wp P (bodyPost P fn (RetQ ⟨w,H,B,ps.map (·.1),N⟩ ps res qs)) a w):Fn P k ps args res qs :=
 Fn.of hf hb (F.of (argS 0 args) ps) N hN (fun t v hv=>by have:=(zhz args 0 t v hv).2;simpa using this) (fun n l hl=>zae hl) h
end
variable {H0:Im} {B0:Bl}
section
variable {next:Act->World->Prop} {Q:Exit->Act->World->Prop} {a:Act} {w:World} {id:Nat}
theorem za1 (h:next a w):Exit.then next Q .normal a w:=h
theorem zgt (h:Q (.exit id) a w):Exit.then next Q (.exit id) a w:=h
theorem za5 (h:Q .ret a w):Exit.then next Q .ret a w:=h
theorem exA {n1 n2 n3:Act->World->Prop} {i:Nat} (h:n3 a w):(Code.exit i).wp P (Exit.then n1 (Exit.then n2 (Exit.inBlock i (Exit.then n3 Q)))) a w:=wp_exit (zgt (zgt (zdt (za1 h))))
theorem zd1 {N:Nat} {x:Code} (h:St ⟨w0,H0,B0,K,N⟩ (F.of sl lc) a w) (hy:y.wp P Q a w) (ht:(F.of sl lc).s t=some (vb false):=by kernel_rfl):(Code.cond (.tmp t) x y).wp P Q a w:=condS false h ht nofun fun _=>hy
theorem fB {k:FuncId} {c:Code} {ps:List (Nat × L)} (hf:P.funcs[k]?=some fn) (hb:fn.body=some c) (N:Nat) (h:∀ (w:World) (H:Im) (B:Bl) (a:Act),St ⟨w,H,B,ps.map (·.1),N⟩ (F.of (argS 0 args) ps) a w->c.wp P (bodyPost P fn (RetQ ⟨w,H,B,ps.map (·.1),N⟩ ps res qs)) a w) (hN:args.length+(fn.ntmps - args.length)=N:=by kernel_rfl):Fn P k ps args res qs:=Fn.body hf hb N hN h
theorem za7 (h:Q .normal a w):Exit.inBlock id Q .normal a w:=h
theorem zaa (h:Q .ret a w):Exit.inBlock id Q .ret a w:=h
end
theorem St.conv {f':F} (h:St e f a w) (hf:f=f'):St e f' a w:=hf ▸ h
theorem Fn.cast {k:FuncId} {ps:List (Nat × L)} {res':V} (h:Fn P k ps args res qs) (e:res=res'):Fn P k ps args res' qs:=e ▸ h
theorem run_mapMA (g:α->Sem β):∀ (l:List α) (vs:List β),zat (fun r v=>(g r).run P w = .ok v w) l vs->(l.mapM g).run P w = .ok vs w
 | [],[],_=>rfl
 | r :: l,v :: vs,h=>by
  rw [List.mapM_cons]
  simp only [Sem.run_bind,h.1,Result.andThen_ok,run_mapMA g l vs h.2,Sem.run_pure]
 | [],_ :: _,h=>h.elim
 | _ :: _,[],h=>h.elim
def zfk (pl:List (Nat × Nat)):List C->List (Nat × T)->Option (List C)
  | cells,[]=>some cells
  | cells,(i,x) :: r=>match pl[i]? with
    | none=>none
    | some (off,size)=>if (cellsOf x).length=size/\off+size<=cells.length then zfk pl (zg5 cells off (cellsOf x)) r else none
theorem fold_put (off:Nat):∀ (l:List Value) (k:Nat) (cells:List Value),(l.zipIdx k).foldl (fun (cs:Array Value) (p:Value × Nat)=>cs.setIfInBounds (off+p.2) p.1) ⟨cells⟩=⟨zg5 cells (off+k) l⟩
 | [],_,_=>rfl
 | v :: r,k,cells=>by
  simp only [List.zipIdx_cons,List.foldl_cons,List.setIfInBounds_toArray]
  rw [fold_put off r (k+1),zg5]
  rfl
theorem fill_ok (pl:List (Nat × Nat)):∀ (parts:List (Nat × T)) (us:List (Nat × Value)) (cs:List C) (cells:List Value) (out:List C),zat (fun p u=>p.1=u.1/\TR H B p.2 u.2) parts us->zat (CR H B) cs cells->zfk pl cs parts=some out ->
  ∃ l,Instr.fill ((⟨pl⟩:Array (Nat × Nat))[·]?) ⟨cells⟩ us=some ⟨l⟩/\zat (CR H B) out l
 | [],[],cs,cells,out,_,hc,hf=>by simp only [zfk,Option.some.injEq] at hf;subst hf;exact ⟨cells,rfl,hc⟩
 | (i,x) :: r,(j,u) :: us,cs,cells,out,h,hc,hf=>by
  obtain ⟨⟨h1,h2⟩,h3⟩:=h
  simp only at h1 h2
  subst h1
  simp only [zfk] at hf
  cases hp:pl[i]? with
  | none=>rw [hp] at hf;cases hf
  | some q =>
   obtain ⟨off,size⟩:=q
   rw [hp] at hf
   simp only at hf
   split at hf
   ·rename_i hcond
    obtain ⟨l,g1,g2⟩:=TR.cells h2
    obtain ⟨l', k1,k2⟩:=fill_ok pl r us _ _ out h3 (hc.put off g2) hf
    refine ⟨l', ?_,k2⟩
    have e1:((⟨pl⟩:Array (Nat × Nat))[i]?)=some (off,size):=by simpa using hp
    have hl:l.length=size:=by rw [<- g2.length];exact hcond.1
    have hcl:=hc.length
    simp only [Instr.fill,e1,g1]
    rw [if_neg (by simp [hl];omega)]
    have:=fold_put off l 0 cells
    rw [Nat.add_zero] at this
    rw [<- k1,<- this]
    congr 1
    rw [<- Array.foldl_toList,Array.toList_zipIdx]
   ·cases hf
 | [],_ :: _,_,_,_,h,_,_=>h.elim
 | _ :: _,[],_,_,_,h,_,_=>h.elim
inductive OPs:List (Nat × Operand)->List (Nat × T)->List (Nat × V)->Prop
  | nil:OPs [] [] []
  | cons {i:Nat} {x:Operand} {v:T} {rs:List (Nat × V)} {xs:List (Nat × Operand)} {vs:List (Nat × T)} {rs':List (Nat × V)} (h:OV x (.t v) rs) (t:OPs xs vs rs'):OPs ((i,x) :: xs) ((i,v) :: vs) (rs++rs')
theorem OPs.eval {xs:List (Nat × Operand)} {vs:List (Nat × T)} (h:OPs xs vs rs) (hok:Ok e f H B a w) (hr:∀ p ∈ rs,f.s p.1=some p.2) :
  zat (fun p u=>p.1=u.1/\TR H B p.2 u.2) vs (xs.map fun p=>(p.1,a.eval p.2)):=by
 induction h with
 | nil=>trivial
 | cons h t ih=>exact ⟨⟨rfl,h.eval hok fun p hp=>hr p (b7 _ hp)⟩,ih fun p hp=>hr p (bX _ hp)⟩
theorem i64_id {t:Int} (h1:-9223372036854775808<=t) (h2:t<=9223372036854775807):IntKind.i64.wrap t=t:=Go.IntWalk.i64_in t ⟨h1,h2⟩
def I.also (i:I) (t:Nat) (v:V):I:={ i with rs:=(t,v) :: i.rs }
theorem zar.also {o:Oper} {v:V} (h:zar P o i):zar P o (i.also t v) :=
 fun e f a w Q hst hr hn hb=>h e f a w Q hst ⟨fun p hp=>hr.1 p (cL _ hp),hr.2⟩ hn hb
theorem zax.mk' {k : FuncId} (h : (P.funcs[k]?).map (fun fn => fn.name == "runtime.NumGoroutine" || fn.body.isNone) = some false) : zax P k := h
theorem mixed:Tryz.prog.follows .mixedOrders=true:=by kernel_rfl
section
variable {P:Program}
theorem Fd.mk' {t:TypeId} (fields:Array Field) (f:Field) (hu:P.underlying t=some (.struct fields)) (hk:fields[k]?=some f) (ho:f.offset=off) (hs:Sz P f.type n ag):Fd P t k off n ag:=⟨fields,f,hu,hk,ho,hs⟩
structure Zero (P:Program) (t:TypeId) (zs:List C):Prop where
  ex:∃ z l,(P.info? t).bind (·.zero)=some z/\z.cells=⟨l⟩/\∀ H B,zat (CR H B) zs l
theorem Zero.run {t:TypeId} (hz:(P.info? t).bind (·.zero)=some z) (w:World):(zeroValue t).run P w = .ok z w:=by
 cases hi:P.info? t with
 | none=>rw [hi] at hz;cases hz
 | some i =>
  rw [hi] at hz
  have hz':i.zero=some z:=hz
  unfold zeroValue typeInfo
  simp only [Sem.run_bind,run_program,Result.andThen_ok,hi,Sem.run_pure,hz']
theorem Op.allocZ {d:Nat} {pos af gd} (h:Zero P el cs) :
  zar P ⟨some d,.alloc el,ty,pos,af,gd⟩ { ws:=[(d,some (vp n 0))],wl:=[(n,some (.box cs))],nw:=[n] }:=by
 obtain ⟨z,l,h1,h2,h3⟩:=h.ex
 exact Op.alloc z h1 cs l h2 h3
structure Places (P:Program) (t:TypeId) (pl:List (Nat × Nat)):Prop where
  ex:∃ fields:List Field,P.underlying t=some (.struct ⟨fields⟩)/\zat (fun (f:Field) (p:Nat × Nat)=>f.offset=p.1/\(P.info? f.type).map (·.size)=some p.2) fields pl
theorem Op.build {d:Nat} {pos af gd} {zs:List C} {pl:List (Nat × Nat)} (hz:Zero P xt zs) (hp:Places P xt pl) {xs:List (Nat × Operand)} {vs:List (Nat × T)} (h:OPs xs vs rs) (cs:List C) (hc:zfk pl zs vs=some cs) :
  zar P ⟨some d,.build xt ⟨xs⟩,ty,pos,af,gd⟩ { rs:=rs,ws:=[(d,some (.t (.agg cs)))] } :=
 zar.value d _ rfl rfl rfl fun e f H B a w hok hr=>by
  obtain ⟨z,l,z1,z2,z3⟩:=hz.ex
  obtain ⟨fields,p1,p2⟩:=hp.ex
  obtain ⟨out,k1,k2⟩:=fill_ok (H:=H) (B:=B) pl vs _ zs l cs (h.eval hok hr.1) (z3 H B) hc
  refine ⟨.agg ⟨out⟩,?_,_,rfl,k2⟩
  have e1:(fields.mapM fun (f:Field)=>do pure (f.offset,<- sizeOf f.type)).run P w = .ok pl w:=by
   refine run_mapMA _ fields pl (p2.mono fun fd _ q hq=>?_)
   obtain ⟨q1,q2⟩:=hq
   have e2:(sizeOf fd.type).run P w = .ok q.2 w:=by
    cases hi:P.info? fd.type with
    | none=>rw [hi] at q2;cases q2
    | some i =>
     rw [hi] at q2
     injection q2 with q2
     unfold sizeOf typeInfo
     simp only [Sem.run_bind,run_program,Result.andThen_ok,hi,Sem.run_pure,q2]
   simp only [Sem.run_bind,e2,Result.andThen_ok,Sem.run_pure,q1]
  have e3:(Array.map (fun (x:Nat × Operand)=>(x.1,a.eval x.2)) ⟨xs⟩).toList=xs.map fun p=>(p.1,a.eval p.2):=by simp
  simp only [execOp,Instr.build,Sem.run_bind,Zero.run z1,Result.andThen_ok,run_underlying p1,List.mapM_toArray,Sem.run_map,e1,z2]
  have e4:(Array.map (fun (x:Nat × Operand)=>match x with | (i,x)=>(i,a.eval x)) ⟨xs⟩).toList=xs.map fun p=>(p.1,a.eval p.2):=by simp
  rw [e4]
  rw [show (pl.toArray:Array (Nat × Nat))=⟨pl⟩ from rfl,k1]
  rfl
def lenC:C->Option Nat
  | .d (.sl _ rows)=>some rows.length
  | .own _ n=>some n
  | .sub _ _ n=>some n
  | .d (.raw (.slice _ n _))=>some n
  | _=>none
theorem lenC_spec {x:C} (h:lenC x=some n) (hv:CR H B x v):∃ a c,v = .slice a n c:=by
 cases x with
 | d x =>
  cases x with
  | raw u =>
   have hv:=VR.rawI (H:=H) (B:=B) hv
   subst hv
   cases v <;> first | (simp [lenC] at h;done) | skip
   simp [lenC] at h;subst h;exact ⟨_,_,rfl⟩
  | sl es rows =>
   simp [lenC] at h
   subst h
   cases hv with
   | nil ao c=>exact ⟨_,_,rfl⟩
   | sl=>exact ⟨_,_,rfl⟩
 | own m k =>
  simp [lenC] at h
  subst h
  simp only [CR] at hv
  split at hv
  ·obtain ⟨h1,ao,h2⟩:=hv;exact ⟨ao,0,by rw [h2,h1]⟩
  ·exact ⟨_,_,hv⟩
 | sub m o k =>
  simp [lenC] at h
  subst h
  obtain ⟨⟨ao,c,rfl⟩,_⟩:=hv
  exact ⟨_,_,rfl⟩
 | _=>simp [lenC] at h
theorem Op.len {d:Nat} {v:C} {t:TypeId} {pos af gd} (hu:P.underlying t=some (.slice el)) (h:OV x (.t (.c v)) rs) (hn:lenC v=some n) :
  zar P ⟨some d,.call { callee:=.builtin .len,args:=#[x],argTypes:=#[t] }, ty,pos,af,gd⟩ { rs:=rs,ws:=[(d,some (vi .i64 n))] } :=
 zar.value d _ rfl rfl rfl fun e f H B a w hok hr=>by
  obtain ⟨ao,c,hv⟩:=lenC_spec hn (h.eval hok hr.1)
  refine ⟨.int .i64 n,?_,DR.raw _ rfl⟩
  have h5:a.eval x = .slice ao n c:=hv
  generalize a.eval=ρ at h5 ⊢
  have e1:(Array.map ρ #[x])=#[.slice ao n c]:=by simp [h5]
  simp only [execOp,resolve,e1,Sem.run_bind,Sem.run_pure,Result.andThen_ok,invoke,builtin,Builtin.len_]
  simp [run_underlying hu,goInt]
theorem Op.lens {d:Nat} {s:ByteArray} {t:TypeId} {pos af gd} (hu:P.underlying t=some .string) (h:OV x (vs s) rs) :
  zar P ⟨some d,.call { callee:=.builtin .len,args:=#[x],argTypes:=#[t] }, ty,pos,af,gd⟩ { rs:=rs,ws:=[(d,some (vi .i64 s.size))] } :=
 Op.raw1 rfl h rfl fun ρ w h1=>by
  have e1:(Array.map ρ #[x])=#[.string s]:=by simp [h1]
  simp only [execOp,resolve,e1,Sem.run_bind,Sem.run_pure,Result.andThen_ok,invoke,builtin,Builtin.len_]
  simp [run_underlying hu,goInt]
end
theorem cv {x y:α} (g:α->F) (p:x=y) (h:St e (g x) a w):St e (g y) a w:=p ▸ h
theorem gl (l:List α) (j:Nat) (h:j<l.length:=by first | omega | (simp at *;omega)):∃ z,l[j]?=some z:=⟨_,bG h⟩
theorem dT {p:Prop} [Decidable p] (h:decide p=true):p:=of_decide_eq_true h
theorem dF {p:Prop} [Decidable p] (h:decide p=false):¬ p:=of_decide_eq_false h
theorem lM {l:List α} {i:Nat} {x:α} (h:l[i]?=some x):x ∈ l:=bP h
theorem zav {N:Nat} {x:Code} (p:Prop) [Decidable p] (h:St ⟨w0,H0,B0,K,N⟩ (F.of sl lc) a w) (hx:decide p=true->p->x.wp P Q a w) (hy:decide p=false->¬ p->y.wp P Q a w) (ht:(F.of sl lc).s t=some (vb (decide p)):=by kernel_rfl):(Code.cond (.tmp t) x y).wp P Q a w:=condS (decide p) h ht (fun c=>hx c (of_decide_eq_true c)) fun c=>hy c (of_decide_eq_false c)
theorem cS {N:Nat} {x:Code} (b:Bool) (h:St ⟨w0,H0,B0,K,N⟩ (F.of sl lc) a w) (hx:b=true->x.wp P Q a w) (hy:b=false->y.wp P Q a w) (ht:(F.of sl lc).s t=some (vb b):=by kernel_rfl):(Code.cond (.tmp t) x y).wp P Q a w:=condS b h ht hx hy
theorem rT {N:Nat} {ps:List (Nat × L)} (x:T) (h:St ⟨w0,H0,B0,ps.map (·.1),N⟩ (F.of sl lc) a w) (hf:fn.results=⟨[.tmp t]⟩) (hres:resOf [x]=res) (hx:(F.of sl lc).s t=some (.t x):=by kernel_rfl)
    (hq:leN (F.of sl lc) qs=qs.map fun p=>some p.2:=by kernel_rfl) (ht:(res.tags++qs.flatMap fun q=>q.2.tags).all (zcm (qs.map (·.1)))=true:=by kernel_rfl):bodyPost P fn (RetQ ⟨w0,H0,B0,ps.map (·.1),N⟩ ps res qs) .ret a w:=zgx [x] h .ret (.inl rfl) hf ⟨RV.tmp _ _ hx,trivial⟩ hres hq ht
theorem rA {N:Nat} {ps:List (Nat × L)} (n:Nat) (xs:List C) (h:St ⟨w0,H0,B0,ps.map (·.1),N⟩ (F.of sl lc) a w) (hs:Sz P ty m true) (hf:fn.results=⟨[.cell t ty]⟩) (hres:resOf [.agg xs]=res) (h1:(F.of sl lc).s t=some (vp n 0):=by kernel_rfl) (h2:(F.of sl lc).l n=some (.box xs):=by kernel_rfl) (h4:Nat.beq xs.length m=true:=by kernel_rfl)
    (hq:leN (F.of sl lc) qs=qs.map fun p=>some p.2:=by kernel_rfl) (ht:(res.tags++qs.flatMap fun q=>q.2.tags).all (zcm (qs.map (·.1)))=true:=by kernel_rfl):bodyPost P fn (RetQ ⟨w0,H0,B0,ps.map (·.1),N⟩ ps res qs) .ret a w:=zgx [.agg xs] h .ret (.inl rfl) hf ⟨RV.agg _ n 0 _ _ _ _ hs h1 h2 (show xs.take m=xs from dC (Nat.le_of_eq (bA h4))) (bA h4),trivial⟩ hres hq ht
theorem i6 {t:Int} (h1:-9223372036854775808<=t:=by omega) (h2:t<=9223372036854775807:=by omega):IntKind.i64.wrap t=t:=i64_id h1 h2
theorem qW {x:Code} (h:x.wp P (Exit.then (y.wp P Q) Q) a w):(Code.seq x y).wp P Q a w:=wp_seq h
theorem qV (h:Q .ret a w):Code.ret.wp P Q a w:=wp_ret h
theorem qU (h:Q .normal a w):Code.skip.wp P Q a w:=wp_skip h
theorem qZ {id:Nat} {c:Code} (h:c.wp P (Exit.inBlock id Q) a w):(Code.block id c).wp P Q a w:=wp_block h
abbrev vN (n:Nat):V:=vi .i64 (n:Int)
abbrev vI (n:Int):V:=vi .i64 n
abbrev vO (n l:Nat):V:=.t (.c (.own n l))
abbrev vS (n:Nat) (l:List (List D)):V:=.t (.c (.d (.sl n l)))
abbrev vW (x:Value):V:=.t (.c (.d (.raw x)))
abbrev vG (x:List C):V:=.t (.agg x)
abbrev cI (x:Int):C:=.d (.raw (.int .i64 x))
abbrev cB (x:Bool):C:=.d (.raw (.bool x))
structure ZI where
  neg:Bool
  abs:List Nat
def ZI.val (x:ZI):Int:=iv x.neg x.abs
def lbsF:Nat->Nat->List Nat
  | 0,_=>[]
  | f+1,n=>if n=0 then [] else n % 4294967296 :: lbsF f (n / 4294967296)
def lbs (n:Nat):List Nat:=lbsF n n
theorem canon_cons {z:Nat} (hz:z<4294967296) (h:zdw zs) (hn:zs=[]->z≠0):zdw (z :: zs):=by
 refine ⟨fun x hx=>?_,fun _=>?_⟩
 ·rcases b9.1 hx with rfl | hx
  ·exact hz
  ·exact h.1 x hx
 ·cases zs with
  | nil=>simpa [lim] using hn rfl
  | cons y ys=>have:=h.2 (by simp);simpa [lim] using this
theorem lbsF_spec:∀ (f n:Nat),n<=f->zdw (lbsF f n)/\nV (lbsF f n)=n
 | 0,n,h=>by
  obtain rfl:n=0:=by omega
  exact ⟨canon_nil,rfl⟩
 | f+1,n,h=>by
  unfold lbsF
  split
  ·rename_i e;subst e;exact ⟨canon_nil,rfl⟩
  ·obtain ⟨h1,h2⟩:=lbsF_spec f (n / 4294967296) (by omega)
   refine ⟨canon_cons (by omega) h1 fun e=>?_,?_⟩
   ·rw [e] at h2;simp [nV] at h2;omega
   ·simp only [nV,h2];omega
theorem lbs_canon (n:Nat):zdw (lbs n):=(lbsF_spec n n (bM _)).1
theorem lbs_val (n:Nat):nV (lbs n)=n:=(lbsF_spec n n (bM _)).2
theorem lbs_len {L:Nat} (h:n<pw L):(lbs n).length<=L:=zdn (lbs_canon n) (lbs_val n) h
def ZI.of (z:Int):ZI:=⟨decide (z<0),lbs z.natAbs⟩
theorem ZI.val_of (z:Int):(ZI.of z).val=z:=by
 unfold ZI.of ZI.val iv
 simp only [lbs_val]
 by_cases h:z<0 <;> simp [h] <;> omega
theorem ZI.can_of (z:Int):CanZ (ZI.of z).neg (ZI.of z).abs:=by
 refine ⟨lbs_canon _,fun h=>?_⟩
 unfold ZI.of at h ⊢
 have:lbs z.natAbs=[]:=cO.1 h
 have hv:=lbs_val z.natAbs
 rw [this] at hv
 simp [nV] at hv
 simp;omega
theorem ZI.lb_of (z:Int):Lb (ZI.of z).abs:=(ZI.can_of z).1.1
theorem ZI.len_of {z:Int} {L:Nat} (h:z.natAbs<pw L):(ZI.of z).abs.length<=L:=lbs_len h
theorem ZI.abs_lt {x:ZI} (h:Lb x.abs):x.val.natAbs<pw x.abs.length:=by
 unfold ZI.val;rw [iv_abs];exact val_lt h
def nsl (zs:List Nat):D:=.sl 1 (zs.map fun (x:Nat)=>[.raw (.int .u32 (x:Int))])
def zi (x:ZI):List C:=[.d (.raw (.bool x.neg)),.d (nsl x.abs)]
theorem len_id {x:ZI} (hx:Lb x.abs):(ZI.of x.val).abs.length<=x.abs.length:=ZI.len_of (ZI.abs_lt hx)
theorem len_mul {x y:ZI} (hx:Lb x.abs) (hy:Lb y.abs):(ZI.of (x.val*y.val)).abs.length<=x.abs.length+y.abs.length:=by
 refine ZI.len_of ?_
 rw [Int.natAbs_mul]
 exact mul_lt_pw (ZI.abs_lt hx) (ZI.abs_lt hy)
structure Ty where
  n:Nat
  agg:Bool
  fs:List (Nat × Nat × Bool)
  z:List C
  k:Nat
abbrev Tb:=List (Nat × Ty)
def ikOf:Nat->Option IntKind
  | 10=>some .i8
  | 11=>some .i16
  | 12=>some .i32
  | 13=>some .i64
  | 14=>some .u8
  | 15=>some .u16
  | 16=>some .u32
  | 17=>some .u64
  | _=>none
structure TyOk (P:Program) (t:TypeId) (y:Ty):Prop where
  sz:Sz P t y.n y.agg
  fd:∀ k off n ag,y.fs[k]?=some (off,n,ag)->n≠0/\Fd P t k off n ag
  z:y.z≠[]->Zero P t y.z
  pl:y.fs≠[]->Places P t (y.fs.map fun f=>(f.1,f.2.1))
  k1:y.k=1->∃ el,P.underlying t=some (.slice el)
  k2:y.k=2->P.underlying t=some .string
  k3:y.k=3->P.underlying t=some .bool
  ki:∀ k,ikOf y.k=some k->P.underlying t=some (.int k)
def zh4 (P:Program):Tb->Prop
  | []=>True
  | (t,y) :: tb=>TyOk P t y/\zh4 P tb
theorem zh4.get:∀ {tb:Tb}, zh4 P tb->∀ {t:Nat} {y:Ty}, tb.lookup t=some y->TyOk P t y
 | (t', y') :: tb,h,t,y,hl=>by
  simp only [List.lookup] at hl
  cases hc:(t == t') with
  | true=>rw [hc] at hl;simp at hl hc;subst hl hc;exact h.1
  | false=>rw [hc] at hl;exact zh4.get h.2 hl
def FdL (P:Program) (t:TypeId):Nat->List (Nat × Nat × Bool)->Prop
  | _,[]=>True
  | j,(off,n,ag) :: r=>(n≠0/\Fd P t j off n ag)/\FdL P t (j+1) r
theorem FdL.get {t:TypeId}:∀ {fs:List (Nat × Nat × Bool)} {j:Nat}, FdL P t j fs->∀ k off n ag,fs[k]?=some (off,n,ag)->n≠0/\Fd P t (j+k) off n ag
 | (o,m,g) :: r,j,h,0,off,n,ag,hk=>by simp at hk;obtain ⟨rfl,rfl,rfl⟩:=hk;exact h.1
 | (o,m,g) :: r,j,h,k+1,off,n,ag,hk=>by
  have:=FdL.get h.2 k off n ag (by simpa using hk)
  rwa [show j+1+k=j+(k+1) by omega] at this
theorem TyOk.st {t:TypeId} {fs:List (Nat × Nat × Bool)} {z:List C} {fields:Array Field} (hu:P.underlying t=some (.struct fields)) (hs:(P.info? t).map (·.size)=some n) (hf:FdL P t 0 fs) (hz:Zero P t z) (hp:Places P t (fs.map fun f=>(f.1,f.2.1))):TyOk P t ⟨n,true,fs,z,0⟩ :=
 ⟨Sz.mk' hs hu _ rfl,fun k off n ag h=>(by have:=FdL.get hf k off n ag h;rwa [bV] at this),fun _=>hz,fun _=>hp,fun h=>(by cases h),fun h=>(by cases h),fun h=>(by cases h),fun k h=>(by cases h)⟩
theorem TyOk.int {t:TypeId} {k:IntKind} {c:Nat} (hu:P.underlying t=some (.int k)) (hc:ikOf c=some k) (hs:(P.info? t).map (·.size)=some 1) (hz:Zero P t [.d (.raw (.int k 0))]):TyOk P t ⟨1,false,[],[.d (.raw (.int k 0))],c⟩ :=
 ⟨Sz.mk' hs hu _ rfl,fun k off n ag h=>(by simp at h),fun _=>hz,fun h=>absurd rfl h,fun h=>(by simp only at h;subst h;cases hc),fun h=>(by simp only at h;subst h;cases hc),fun h=>(by simp only at h;subst h;cases hc),fun j h=>(by simp only at h;rw [hc] at h;injection h with h;subst h;exact hu)⟩
theorem u64_id {t:Int} (h1:0<=t) (h2:t<=18446744073709551615):IntKind.u64.wrap t=t:=Go.IntWalk.u64_in t ⟨h1,h2⟩
inductive Orc (P:Program) where
  | call {k:FuncId} {ps qs:List (Nat × L)} {args:List V} {res:V} (h:Fn P k ps args res qs) (b:zax P k:=by exact zax.mk' (by kernel_rfl))
  | add (k:IntKind) {m n:Int} (h:k.wrap (m+n)=m+n)
  | sub (k:IntKind) {m n:Int} (h:k.wrap (m - n)=m - n)
  | mul (k:IntKind) {m n:Int} (h:k.wrap (m*n)=m*n)
  | cmp {op:BinOp} {m n:Int} {b:Bool} (k:IntKind) (h:cmpB op m n=b)
  | cmpb (op:BinOp) {m n b:Bool} (h:(op = .eql/\b=(m == n))\/(op = .neq/\b=(m != n)))
  | conv (k k':IntKind) {m:Int} (h:k'.wrap m=m)
  | neg (k:IntKind) {m:Int} (h:k.wrap (-m)=-m)
  | len {c:C} {n:Nat} (h:lenC c=some n)
  | gen (d:Option Nat) (op:Op) (i:I) (h:∀ ty pos af gd,zar P ⟨d,op,ty,pos,af,gd⟩ i)
def eqC:Value->Value->Bool
  | .int k a,.int l b=>(k == l) && (a == b)
  | .bool a,.bool b=>a == b
  | .string a,.string b=>a.data.toList == b.data.toList
  | .slice none a c,.slice none b d=>Nat.beq a b && Nat.beq c d
  | _,_=>false
theorem eqC_spec {u:Value} (h:eqC u v=true):u=v/\flat v=true:=by
 cases u <;> cases v <;> first
  | (simp [eqC] at h;done)
  | (rename_i a b;simp [eqC] at h;subst h;exact ⟨rfl,rfl⟩)
  | (rename_i a b;simp only [eqC,beq_iff_eq] at h;cases a;cases b;simp only at h;rename_i x y;cases x;cases y;simp only at h;subst h;exact ⟨rfl,rfl⟩)
  | (rename_i a b c d;simp [eqC] at h;obtain ⟨h1,h2⟩:=h;subst h1 h2;exact ⟨rfl,rfl⟩)
  | (rename_i a b c d e f;cases a <;> cases d <;> first | (simp [eqC] at h;done) | (simp only [eqC,bF] at h;rw [bA h.1,bA h.2];exact ⟨rfl,rfl⟩))
def eqZ:Value->Value->Bool
  | .map none,.map none=>true
  | .nilFunc,.nilFunc=>true
  | .pointer none,.pointer none=>true
  | u,v=>eqC u v
theorem eqZ_spec {u:Value} (h:eqZ u v=true):u=v/\flat v=true:=by
 unfold eqZ at h
 split at h
 ·exact ⟨rfl,rfl⟩
 ·exact ⟨rfl,rfl⟩
 ·exact ⟨rfl,rfl⟩
 ·exact eqC_spec h
def zcB:C->Value->Bool
  | .d (.raw v),u=>eqZ u v
  | .d (.sl _ []),.slice none n c=>Nat.beq n 0 && Nat.beq c 0
  | .any,u=>flat u
  | _,_=>false
theorem zcB_spec {c:C} {u:Value} (h:zcB c u=true) (H:Im) (B:Bl):CR H B c u:=by
 unfold zcB at h
 split at h
 ·obtain ⟨h1,h2⟩:=eqZ_spec h;subst h1;exact DR.raw _ h2
 ·rw [bF] at h
  rw [bA h.1,bA h.2]
  exact DR.nil _ _ _ (fun _=>rfl) (cH _)
 ·exact h
 ·cases h
def a2B:List C->List Value->Bool
  | [],[]=>true
  | c :: cs,u :: us=>zcB c u && a2B cs us
  | _,_=>false
theorem a2B_spec:∀ {cs:List C} {us:List Value}, a2B cs us=true->∀ H B,zat (CR H B) cs us
 | [],[],_,_,_=>trivial
 | _ :: _,_ :: _,h,H,B=>by unfold a2B at h;rw [bF] at h;exact ⟨zcB_spec h.1 H B,a2B_spec h.2 H B⟩
 | [],_ :: _,h,_,_=>by cases h
 | _ :: _,[],h,_,_=>by cases h
section
variable {P:Program} {t:TypeId}
def zroB (P:Program) (t:TypeId) (zs:List C):Bool:=match (P.info? t).bind (·.zero) with
  | some z=>a2B zs z.cells.toList
  | none=>false
theorem zroB_spec {zs:List C} (h:zroB P t zs=true):Zero P t zs:=by
 unfold zroB at h
 split at h
 ·rename_i z hz;exact ⟨z,z.cells.toList,hz,rfl,a2B_spec h⟩
 ·cases h
def szB (P:Program) (t:TypeId) (n:Nat) (g:Bool):Bool:=(match P.info? t with
  | some i=>Nat.beq i.size n
  | none=>false) && match P.underlying t with
  | some d=>(match d with | .struct _ | .array _ _=>true | _=>false) == g
  | none=>false
theorem szB_spec {g:Bool} (h:szB P t n g=true):Sz P t n g:=by
 unfold szB at h
 rw [bF] at h
 obtain ⟨h1,h2⟩:=h
 cases e:P.underlying t with
 | none=>rw [e] at h2;cases h2
 | some d =>
  rw [e] at h2
  refine Sz.mk' (d:=d) ?_ e g (by rw [<- eq_of_beq h2];cases d <;> rfl)
  cases e1:P.info? t with
  | none=>rw [e1] at h1;cases h1
  | some i=>rw [e1] at h1;exact congrArg some (bA h1)
def fdB (P:Program):List Field->List (Nat × Nat × Bool)->Bool
  | [],[]=>true
  | f :: fl,p :: r=>Nat.beq f.offset p.1 && szB P f.type p.2.1 p.2.2 && !Nat.beq p.2.1 0 && fdB P fl r
  | _,_=>false
theorem fdB_spec:∀ {fl:List Field} {fs:List (Nat × Nat × Bool)}, fdB P fl fs=true->(∀ (k off n:Nat) (ag:Bool),fs[k]?=some (off,n,ag)->n≠0/\∃ f:Field,fl[k]?=some f/\f.offset=off/\Sz P f.type n ag)/\zat (fun (f:Field) (p:Nat × Nat)=>f.offset=p.1/\(P.info? f.type).map (·.size)=some p.2) fl (fs.map fun f=>(f.1,f.2.1))
 | [],[],_=>⟨fun k off n ag h=>by simp at h,trivial⟩
 | f :: fl,p :: r,h=>by
  unfold fdB at h
  simp only [bF,Bool.not_eq_true'] at h
  obtain ⟨⟨⟨h1,h2⟩,h3⟩,h4⟩:=h
  obtain ⟨g1,g2⟩:=fdB_spec h4
  have h1:=bA h1
  have h2:=szB_spec h2
  refine ⟨fun k off n ag hk=>?_,⟨h1,h2.size⟩,g2⟩
  cases k with
  | zero =>
   have hk:p=(off,n,ag):=by simpa using hk
   subst hk
   exact ⟨fun e=>(by rw [e] at h3;cases h3),f,rfl,h1,h2⟩
  | succ k=>exact g1 k off n ag (by simpa using hk)
 | [],_ :: _,h=>by cases h
 | _ :: _,[],h=>by cases h
def knB (P:Program) (t:TypeId) (k:Nat):Bool:=match P.underlying t with
  | some (.slice _)=>!Nat.beq k 2 && !Nat.beq k 3 && (ikOf k).isNone
  | some .string=>!Nat.beq k 1 && !Nat.beq k 3 && (ikOf k).isNone
  | some .bool=>!Nat.beq k 1 && !Nat.beq k 2 && (ikOf k).isNone
  | some (.int q)=>!Nat.beq k 1 && !Nat.beq k 2 && !Nat.beq k 3 && (match ikOf k with | some j=>j == q | none=>true)
  | _=>!Nat.beq k 1 && !Nat.beq k 2 && !Nat.beq k 3 && (ikOf k).isNone
def tyB (P:Program) (t:TypeId) (y:Ty):Bool:=szB P t y.n y.agg && knB P t y.k && (y.z.isEmpty || zroB P t y.z) && (y.fs.isEmpty || match P.underlying t with
  | some (.struct fields)=>fdB P fields.toList y.fs
  | _=>false)
theorem tyB_spec {y:Ty} (h:tyB P t y=true):TyOk P t y:=by
 unfold tyB at h
 simp only [bF] at h
 obtain ⟨⟨⟨h1,h2⟩,h3⟩,h4⟩:=h
 have hst:y.fs≠[]->∃ fields:List Field,P.underlying t=some (.struct ⟨fields⟩)/\fdB P fields y.fs=true:=fun hne=>by
  cases e:y.fs with
  | nil=>exact absurd e hne
  | cons a b =>
   rw [e] at h4
   simp only [List.isEmpty_cons,Bool.false_or] at h4
   split at h4
   ·rename_i fields hf;exact ⟨fields.toList,hf,h4⟩
   ·cases h4
 unfold knB at h2
 refine ⟨szB_spec h1,fun k off n ag hk=>?_,fun hz=>?_,fun hne=>?_,fun hk=>?_,fun hk=>?_,fun hk=>?_,fun k hk=>?_⟩
 ·obtain ⟨fields,hf,hb⟩:=hst (fun e=>by rw [e] at hk;simp at hk)
  obtain ⟨g0,f,g1,g2,g3⟩:=(fdB_spec hb).1 k off n ag hk
  exact ⟨g0,⟨_,f,hf,by simpa using g1,g2,g3⟩⟩
 ·rw [cM] at h3
  rcases h3 with h3 | h3
  ·exact absurd (List.isEmpty_iff.1 h3) hz
  ·exact zroB_spec h3
 ·obtain ⟨fields,hf,hb⟩:=hst hne
  exact ⟨fields,hf,(fdB_spec hb).2⟩
 ·rw [hk] at h2;split at h2
  ·rename_i el he;exact ⟨el,he⟩
  all_goals (simp [ikOf] at h2)
 ·rw [hk] at h2;split at h2
  ·simp [ikOf] at h2
  ·assumption
  all_goals (simp [ikOf] at h2)
 ·rw [hk] at h2;split at h2
  ·simp [ikOf] at h2
  ·simp [ikOf] at h2
  ·assumption
  all_goals (simp [ikOf] at h2)
 ·rw [hk] at h2;split at h2
  ·simp at h2
  ·simp at h2
  ·simp at h2
  ·rename_i q he
   simp only [bF] at h2
   rw [he,eq_of_beq h2.2]
  ·simp at h2
def tbB (P:Program):Tb->Bool
  | []=>true
  | p :: tb=>tyB P p.1 p.2 && tbB P tb
theorem tbB_spec:∀ {tb:Tb}, tbB P tb=true->zh4 P tb
 | [],_=>trivial
 | p :: tb,h=>by unfold tbB at h;rw [bF] at h;exact ⟨tyB_spec h.1,tbB_spec h.2⟩
end
def opdW (x:Operand) (v:V):Option (List (Nat × V)) :=
  match x with
  | .tmp t=>some [(t,v)]
  | .const c=>match v with
    | .t (.c (.d (.raw u)))=>if eqC u c=true then some [] else none
    | _=>none
  | .func g=>match v with
    | .t (.c (.fn (.func g') [] []))=>if Nat.beq g g'=true then some [] else none
    | _=>none
  | _=>none
theorem zbm {v:V} (h:opdW x v=some rs):OV x v rs:=by
 unfold opdW at h
 split at h
 ·injection h with h;subst h;exact .tmp _ _
 ·split at h
  ·split at h
   ·rename_i hc
    injection h with h;subst h
    obtain ⟨rfl,hf⟩:=eqC_spec hc
    exact .const _ hf
   ·cases h
  ·cases h
 ·split at h
  ·split at h
   ·rename_i hc
    injection h with h;subst h
    rw [<- bA hc]
    exact .func _
   ·cases h
  ·cases h
 ·cases h
def opdWs:List Operand->List V->Option (List (Nat × V))
  | [],[]=>some []
  | x :: xs,v :: vs=>match opdW x v with
    | some r=>match opdWs xs vs with
      | some rs=>some (r++rs)
      | none=>none
    | none=>none
  | _,_=>none
theorem opdWs_spec:∀ {xs:List Operand} {vs:List V} {rs:List (Nat × V)}, opdWs xs vs=some rs->OVs xs vs rs
 | [],[],rs,h=>by simp [opdWs] at h;subst h;exact .nil
 | x :: xs,v :: vs,rs,h=>by
  simp only [opdWs] at h
  split at h
  ·rename_i r hr
   split at h
   ·rename_i rs' hrs
    injection h with h;subst h
    exact .cons (zbm hr) (opdWs_spec hrs)
   ·cases h
  ·cases h
 | [],_ :: _,rs,h=>by simp [opdWs] at h
 | _ :: _,[],rs,h=>by simp [opdWs] at h
def opdI (f:F) (x:Operand):Option (V × List (Nat × V)) :=
  match x with
  | .tmp t=>match f.s t with
    | some v=>some (v,[(t,v)])
    | none=>none
  | .const v=>if flat v=true then some (.t (.c (.d (.raw v))),[]) else none
  | .func g=>some (.t (.c (.fn (.func g) [] [])),[])
  | _=>none
theorem zbh {v:V} (h:opdI f x=some (v,rs)):OV x v rs:=by
 unfold opdI at h
 split at h
 ·split at h
  ·injection h with h;injection h with h1 h2;subst h1 h2;exact .tmp _ _
  ·cases h
 ·split at h
  ·rename_i hf;injection h with h;injection h with h1 h2;subst h1 h2;exact .const _ hf
  ·cases h
 ·injection h with h;injection h with h1 h2;subst h1 h2;exact .func _
 ·cases h
def opdP (f:F):List (Nat × Operand)->Option (List (Nat × T) × List (Nat × V))
  | []=>some ([],[])
  | (i,x) :: xs=>match opdI f x with
    | some (.t v,r)=>match opdP f xs with
      | some (vs,rs)=>some ((i,v) :: vs,r++rs)
      | none=>none
    | _=>none
theorem opdP_spec:∀ {xs:List (Nat × Operand)} {vs:List (Nat × T)} {rs:List (Nat × V)}, opdP f xs=some (vs,rs)->OPs xs vs rs
 | [],vs,rs,h=>by simp [opdP] at h;obtain ⟨rfl,rfl⟩:=h;exact .nil
 | (i,x) :: xs,vs,rs,h=>by
  simp only [opdP] at h
  split at h
  ·rename_i v r hr
   split at h
   ·rename_i vs' rs' hrs
    injection h with h;injection h with h1 h2;subst h1 h2
    exact .cons (zbh hr) (opdP_spec hrs)
   ·cases h
  ·cases h
theorem Op.fieldAddrE {d:Nat} {xs:List D} {pos af gd} (hf:Fd P xt k off m ag) (hm:m≠0):zar P ⟨some d,.fieldAddr xt (.tmp t) k,ty,pos,af,gd⟩ { rs:=[(t,.t (.c (.el xs)))],ws:=[(d,some (.t (.c (.el (xs.drop off)))))] } :=
 zar.value d _ rfl rfl rfl fun e f H B a w hok hr=>by
  obtain ⟨b,o,arr,ty', fz,hb,hu,hx⟩:CR H B (.el xs) (a.eval (.tmp t)):=hok.slot t _ (hr.1 (t,.t (.c (.el xs))) (by simp))
  obtain ⟨fields,fd,g1,g2,rfl,g4⟩:=hf.ex
  refine ⟨.pointer (some ⟨b,o+fd.offset,none⟩),?_,b,o+fd.offset,arr,ty', fz,hb,rfl,fun j hj=>?_⟩
  ·generalize a.eval=ρ at hu ⊢
   simp only [execOp,hu,Instr.fieldAt,Sem.run_bind,run_underlying g1,Result.andThen_ok,g2,Instr.sureAddr,Sem.run_pure,fieldPlace,g4.sizeOf,hm,if_false,Addr.add_mid]
  ·have hj':fd.offset+j<xs.length:=by rw [cG] at hj;omega
   obtain ⟨u,h1,h2⟩:=hx (fd.offset+j) hj'
   exact ⟨u,by rw [cD];exact h1,by rw [List.getElem_drop];exact h2⟩
theorem Op.loadE_agg {d:Nat} {xs ys:List D} {pos af gd} (hs:Sz P xt m true) (h:xs.take m=ys) (hm:ys.length=m):zar P ⟨some d,.load xt (.tmp t),ty,pos,af,gd⟩ { rs:=[(t,.t (.c (.el xs)))],ws:=[(d,some (.t (.agg (ys.map C.d))))] } :=
 zar.value d _ rfl rfl rfl fun e f H B a w hok hr=>by
  obtain ⟨b,o,arr,ty', fz,hb,hu,hx⟩:CR H B (.el xs) (a.eval (.tmp t)):=hok.slot t _ (hr.1 (t,.t (.c (.el xs))) (by simp))
  have hw:=hok.sat b _ hb
  have hml:m<=xs.length:=by rw [<- hm,<- h,bH];omega
  have hfill:∀ j,j<m->∃ u,arr.toList[o+j]?=some u/\∃ hj:j<xs.length,DR H xs[j] u:=by
   intro j hj
   obtain ⟨u,h1,h2⟩:=hx j (by omega)
   exact ⟨u,by simpa using h1,by omega,h2⟩
  have hlen:((arr.toList.drop o).take m).length=m:=by
   rw [bH,cG]
   cases m with
   | zero=>omega
   | succ m =>
    obtain ⟨u,g1,_⟩:=hfill m (by omega)
    have:=(bB.1 g1).1
    omega
  refine ⟨.agg ((arr.toList.drop o).take m).toArray,?_,⟨_,rfl,?_⟩⟩
  ·generalize a.eval=ρ at hu ⊢
   have h8:=zd5 (P:=P) hs (w:=w) (b:=b) (o:=o) (cs:=(arr.toList.drop o).take m) hlen (fun j v hv=>by
    refine zc8 (arr:=arr.toList) (by rw [hw]) ?_
    rw [bL] at hv
    split at hv
    ·rw [bZ] at hv;exact hv
    ·cases hv)
   simp only [execOp,hu,Instr.loadAt,Instr.sureAddr,Sem.run_bind,Sem.run_pure,Result.andThen_ok,h8]
  ·subst h
   have key:∀ (n:Nat) (zs:List D) (k:Nat),(∀ j,j<zs.length->∃ u,arr.toList[o+k+j]?=some u/\∃ hj:j<zs.length,DR H zs[j] u)->n=zs.length->zat (CR H B) (zs.map C.d) ((arr.toList.drop (o+k)).take n):=by
    intro n zs
    induction zs generalizing n with
    | nil=>intro k _ hn;subst hn;simp [zat]
    | cons z zs ih =>
     intro k hz hn
     subst hn
     obtain ⟨u,h1,_,h2⟩:=hz 0 (by simp)
     have hlt:o+k<arr.toList.length:=(bB.1 (by simpa using h1)).1
     rw [List.drop_eq_getElem_cons hlt,cC,List.take_succ_cons]
     refine ⟨?_,ih _ (k+1) (fun j hj=>?_) rfl⟩
     ·rw [Nat.add_zero,bG hlt] at h1
      injection h1 with h1
      rw [h1];exact h2
     ·obtain ⟨u,h3,hj', h4⟩:=hz (j+1) (by simp;omega)
      exact ⟨u,by rw [<- h3];congr 1;omega,hj,by simpa using h4⟩
   have hm':m=(xs.take m).length:=hm.symm
   refine key m (xs.take m) 0 (fun j hj=>?_) hm'
   obtain ⟨u,h1,hj', h2⟩:=hfill j (by omega)
   exact ⟨u,h1,hj,by rw [List.getElem_take];exact h2⟩
theorem Op.loadE_c {d:Nat} {xs:List D} {x:D} {pos af gd} (hs:Sz P xt m false) (h:xs[0]?=some x):zar P ⟨some d,.load xt (.tmp t),ty,pos,af,gd⟩ { rs:=[(t,.t (.c (.el xs)))],ws:=[(d,some (.t (.c (.d x))))] } :=
 zar.value d _ rfl rfl rfl fun e f H B a w hok hr=>by
  obtain ⟨b,o,arr,ty', fz,hb,hu,hx⟩:CR H B (.el xs) (a.eval (.tmp t)):=hok.slot t _ (hr.1 (t,.t (.c (.el xs))) (by simp))
  obtain ⟨h0,rfl⟩:=bB.1 h
  obtain ⟨u,h1,h2⟩:=hx 0 h0
  refine ⟨u,?_,h2⟩
  have h8:=ze1 (P:=P) hs (zc8 (arr:=arr.toList) (o:=o) (v:=u) (by rw [hok.sat b _ hb]) (by simpa using h1))
  generalize a.eval=ρ at hu ⊢
  simp only [execOp,hu,Instr.loadAt,Instr.sureAddr,Sem.run_bind,Sem.run_pure,Result.andThen_ok,h8]
def one (d:Nat) (v:V) (rs:List (Nat × V)):I:={ rs:=rs,ws:=[(d,some v)] }
def instS (tb:Tb) (f:F) (nx:Nat) (o:Oper):Option (I × Nat) :=
  match o.op,o.dst with
  | .move x,some d=>match opdI f x with
    | some (v,rs)=>some (one d v rs,nx)
    | none=>none
  | .assign x,some d=>match opdI f x with
    | some (v,rs)=>some (one d v rs,nx)
    | none=>none
  | .box _ x,some d=>match opdI f x with
    | some (.t v,rs)=>some ({ rs:=rs,ws:=[(d,some (vp nx 0))],wl:=[(nx,some (.box (cellsOf v)))],nw:=[nx] }, nx+1)
    | _=>none
  | .alloc t,some d=>match tb.lookup t with
    | some y=>match y.z with
      | []=>none
      | c :: cs=>some ({ ws:=[(d,some (vp nx 0))],wl:=[(nx,some (.box (c :: cs)))],nw:=[nx] }, nx+1)
    | none=>none
  | .fieldAddr t (.tmp x) k,some d=>match f.s x,tb.lookup t with
    | some (.t (.c (.ptr n p))),some y=>match y.fs[k]? with
      | some (off,_,_)=>some ({ rs:=[(x,vp n p)],ws:=[(d,some (vp n (p+off)))] }, nx)
      | none=>none
    | some (.t (.c (.el xs))),some y=>match y.fs[k]? with
      | some (off,_,_)=>some ({ rs:=[(x,.t (.c (.el xs)))],ws:=[(d,some (.t (.c (.el (xs.drop off)))))] }, nx)
      | none=>none
    | _,_=>none
  | .load t (.tmp x),some d=>match f.s x,tb.lookup t with
    | some (.t (.c (.ptr n p))),some y=>match f.l n with
      | some (.box cs)=>if y.agg=true then (if Nat.beq ((cs.drop p).take y.n).length y.n=true then some ({ rs:=[(x,vp n p)],rl:=[(n,.box cs)],ws:=[(d,some (.t (.agg ((cs.drop p).take y.n))))] }, nx) else none)
        else match cs[p]? with
          | some c=>some ({ rs:=[(x,vp n p)],rl:=[(n,.box cs)],ws:=[(d,some (.t (.c c)))] }, nx)
          | none=>none
      | _=>none
    | some (.t (.c (.el xs))),some y=>if y.agg=true then (if Nat.beq (xs.take y.n).length y.n=true then some ({ rs:=[(x,.t (.c (.el xs)))],ws:=[(d,some (.t (.agg ((xs.take y.n).map C.d))))] }, nx) else none)
      else match xs[0]? with
        | some c=>some ({ rs:=[(x,.t (.c (.el xs)))],ws:=[(d,some (.t (.c (.d c))))] }, nx)
        | none=>none
    | _,_=>none
  | .store t (.tmp x) v,none=>match f.s x,tb.lookup t,opdI f v with
    | some (.t (.c (.ptr n p))),some y,some (.t v,rs)=>match f.l n with
      | some (.box cs)=>if Nat.beq (cellsOf v).length y.n=true then (if Nat.ble (p+y.n) cs.length=true then some ({ rs:=(x,vp n p) :: rs,rl:=[(n,.box cs)],wl:=[(n,some (.box (zg5 cs p (cellsOf v))))] }, nx) else none) else none
      | _=>none
    | _,_,_=>none
  | .field t (.tmp x) k,some d=>match f.s x,tb.lookup t with
    | some (.t (.agg cs)),some y=>match y.fs[k]? with
      | some (off,n,true)=>some ({ rs:=[(x,.t (.agg cs))],ws:=[(d,some (.t (.agg ((cs.drop off).take n))))] }, nx)
      | some (off,_,false)=>match cs[off]? with
        | some c=>some ({ rs:=[(x,.t (.agg cs))],ws:=[(d,some (.t (.c c)))] }, nx)
        | none=>none
      | none=>none
    | _,_=>none
  | .extract (.tmp x) k,some d=>match f.s x with
    | some (.tup xs)=>match xs[k]? with
      | some v=>some ({ rs:=[(x,.tup xs)],ws:=[(d,some (.t v))] }, nx)
      | none=>none
    | _=>none
  | .build t ps,some d=>match tb.lookup t,opdP f ps.toList with
    | some y,some (vs,rs)=>match y.z,y.fs with
      | c :: cs,g :: gs=>match zfk ((g :: gs).map fun f=>(f.1,f.2.1)) (c :: cs) vs with
        | some out=>some ({ rs:=rs,ws:=[(d,some (.t (.agg out)))] }, nx)
        | none=>none
      | _,_=>none
    | _,_=>none
  | .pick (.tmp t) x y,some d=>match f.s t with
    | some (.t (.c (.d (.raw (.bool true)))))=>match opdI f x with
      | some (v,rs)=>some (one d v ((t,vb true) :: rs),nx)
      | none=>none
    | some (.t (.c (.d (.raw (.bool false)))))=>match opdI f y with
      | some (v,rs)=>some (one d v ((t,vb false) :: rs),nx)
      | none=>none
    | _=>none
  | .unOp .not _ x,some d=>match opdI f x with
    | some (.t (.c (.d (.raw (.bool b)))),rs)=>some (one d (vb (!b)) rs,nx)
    | _=>none
  | .binOp op t x y _,some d=>if isCmp op=true then (match opdI f x,opdI f y with
    | some (.t (.c (.d (.raw (.int k m)))),rs),some (.t (.c (.d (.raw (.int l n)))),rs')=>if (k == l)=true then some (one d (vb (cmpB op m n)) (rs++rs'),nx) else none
    | some (.t (.c (.d (.raw (.bool m)))),rs),some (.t (.c (.d (.raw (.bool n)))),rs')=>match tb.lookup t with
      | some y=>if Nat.beq y.k 3=true then (match op with
        | .eql=>some (one d (vb (m == n)) (rs++rs'),nx)
        | .neq=>some (one d (vb (m != n)) (rs++rs'),nx)
        | _=>none) else none
      | none=>none
    | _,_=>none) else none
  | .call { callee:=.builtin .len,args:=⟨[.tmp x]⟩,argTypes:=⟨[t]⟩ }, some d=>match f.s x,tb.lookup t with
    | some (.t (.c c)),some y=>if Nat.beq y.k 1=true then (match lenC c with
      | some n=>some ({ rs:=[(x,.t (.c c))],ws:=[(d,some (vi .i64 n))] }, nx)
      | none=>none) else (match c with
      | .d (.raw (.string s))=>if Nat.beq y.k 2=true then some ({ rs:=[(x,vs s)],ws:=[(d,some (vi .i64 s.size))] }, nx) else none
      | _=>none)
    | _,_=>none
  | _,_=>none
def zgf {P:Program} (tb:Tb) (o:Oper):Orc P->Option I
  | .call (k:=k) (ps:=ps) (qs:=qs) (args:=args) (res:=res) _ _=>match o.op,o.dst with
    | .call { callee:=.value (.func k'),args:=⟨xs⟩,.. }, some d=>if Nat.beq k' k=true then (match opdWs xs args with
      | some rs=>some (zcn rs ps qs d res)
      | none=>none) else none
    | _,_=>none
  | .add k (m:=m) (n:=n) _=>match o.op,o.dst with
    | .binOp .add _ x y _,some d=>match opdW x (vi k m),opdW y (vi k n) with
      | some rs,some rs'=>some (one d (vi k (m+n)) (rs++rs'))
      | _,_=>none
    | _,_=>none
  | .sub k (m:=m) (n:=n) _=>match o.op,o.dst with
    | .binOp .sub _ x y _,some d=>match opdW x (vi k m),opdW y (vi k n) with
      | some rs,some rs'=>some (one d (vi k (m - n)) (rs++rs'))
      | _,_=>none
    | _,_=>none
  | .mul k (m:=m) (n:=n) _=>match o.op,o.dst with
    | .binOp .mul _ x y _,some d=>match opdW x (vi k m),opdW y (vi k n) with
      | some rs,some rs'=>some (one d (vi k (m*n)) (rs++rs'))
      | _,_=>none
    | _,_=>none
  | .cmp (op:=op) (m:=m) (n:=n) (b:=b) k _=>match o.op,o.dst with
    | .binOp op' _ x y _,some d=>if (op' == op) && isCmp op=true then (match opdW x (vi k m),opdW y (vi k n) with
      | some rs,some rs'=>some (one d (vb b) (rs++rs'))
      | _,_=>none) else none
    | _,_=>none
  | .cmpb op (m:=m) (n:=n) (b:=b) _=>match o.op,o.dst with
    | .binOp op' t x y _,some d=>match tb.lookup t with
      | some ty=>if Nat.beq ty.k 3=true then (if (op' == op)=true then (match opdW x (vb m),opdW y (vb n) with
        | some rs,some rs'=>some (one d (vb b) (rs++rs'))
        | _,_=>none) else none) else none
      | none=>none
    | _,_=>none
  | .conv k k' (m:=m) _=>match o.op,o.dst with
    | .convert s t x,some d=>match tb.lookup s,tb.lookup t with
      | some ys,some yt=>if (ikOf ys.k == some k)=true then (if (ikOf yt.k == some k')=true then (match opdW x (vi k m) with
        | some rs=>some (one d (vi k' m) rs)
        | none=>none) else none) else none
      | _,_=>none
    | _,_=>none
  | .neg k (m:=m) _=>match o.op,o.dst with
    | .unOp .neg _ x,some d=>match opdW x (vi k m) with
      | some rs=>some (one d (vi k (-m)) rs)
      | none=>none
    | _,_=>none
  | .len (c:=c) (n:=n) _=>match o.op,o.dst with
    | .call { callee:=.builtin .len,args:=⟨[.tmp x]⟩,argTypes:=⟨[t]⟩ }, some d=>match tb.lookup t with
      | some y=>if Nat.beq y.k 1=true then some (one d (vi .i64 n) [(x,.t (.c c))]) else none
      | none=>none
    | _,_=>none
  | .gen _ _ i _=>some i
section
variable {P:Program}
theorem instS_ok {tb:Tb} (htb:zh4 P tb) {nx:Nat} {o:Oper} {nx':Nat} (h:instS tb f nx o=some (i,nx')):zar P o i:=by
 obtain ⟨dst,op,ty,pos,af,gd⟩:=o
 unfold instS at h
 dsimp only at h
 split at h
 ·split at h
  ·rename_i hx;injection h with h;injection h with h1 h2;subst h1;exact Op.move (zbh hx)
  ·cases h
 ·split at h
  ·rename_i hx;injection h with h;injection h with h1 h2;subst h1;exact Op.assign (zbh hx)
  ·cases h
 ·split at h
  ·rename_i hx;injection h with h;injection h with h1 h2;subst h1;exact Op.box (zbh hx) _ rfl
  ·cases h
 ·split at h
  ·rename_i y hy
   split at h
   ·cases h
   ·rename_i c cs hz
    injection h with h;injection h with h1 h2;subst h1
    have:=(htb.get hy).z (by rw [hz];simp)
    rw [hz] at this
    exact Op.allocZ this
  ·cases h
 ·split at h
  ·rename_i n p y hx hy
   split at h
   ·rename_i off m ag hf
    injection h with h;injection h with h1 h2;subst h1
    obtain ⟨h3,h4⟩:=(htb.get hy).fd _ _ _ _ hf
    exact Op.fieldAddr h4 h3 _ rfl
   ·cases h
  ·rename_i xs y hx hy
   split at h
   ·rename_i off m ag hf
    injection h with h;injection h with h1 h2;subst h1
    obtain ⟨h3,h4⟩:=(htb.get hy).fd _ _ _ _ hf
    exact Op.fieldAddrE h4 h3
   ·cases h
  ·cases h
 ·split at h
  ·rename_i n p y hx hy
   split at h
   ·rename_i cs hl
    split at h
    ·rename_i hag
     split at h
     ·rename_i hb
      injection h with h;injection h with h1 h2;subst h1
      have:=(htb.get hy).sz
      rw [hag] at this
      exact Op.load_agg this rfl (bA hb)
     ·cases h
    ·rename_i hag
     split at h
     ·rename_i c hc
      injection h with h;injection h with h1 h2;subst h1
      have:=(htb.get hy).sz
      rw [show y.agg=false by simpa using hag] at this
      exact Op.load_c this hc
     ·cases h
   ·cases h
  ·rename_i xs y hx hy
   split at h
   ·rename_i hag
    split at h
    ·rename_i hb
     injection h with h;injection h with h1 h2;subst h1
     have:=(htb.get hy).sz
     rw [hag] at this
     exact Op.loadE_agg this rfl (bA hb)
    ·cases h
   ·rename_i hag
    split at h
    ·rename_i c hc
     injection h with h;injection h with h1 h2;subst h1
     have:=(htb.get hy).sz
     rw [show y.agg=false by simpa using hag] at this
     exact Op.loadE_c this hc
    ·cases h
  ·cases h
 ·split at h
  ·rename_i n p y v rs hx hy hv
   split at h
   ·rename_i cs hl
    split at h
    ·rename_i hb
     split at h
     ·rename_i hle
      injection h with h;injection h with h1 h2;subst h1
      exact Op.store (htb.get hy).sz (zbh hv) (bA hb) hle rfl
     ·cases h
    ·cases h
   ·cases h
  ·cases h
 ·split at h
  ·rename_i cs y hx hy
   split at h
   ·rename_i off n hf
    injection h with h;injection h with h1 h2;subst h1
    exact Op.field_agg ((htb.get hy).fd _ _ _ _ hf).2 rfl
   ·rename_i off n hf
    split at h
    ·rename_i c hc
     injection h with h;injection h with h1 h2;subst h1
     exact Op.field_c ((htb.get hy).fd _ _ _ _ hf).2 hc
    ·cases h
   ·cases h
  ·cases h
 ·split at h
  ·rename_i xs hx
   split at h
   ·rename_i v hv
    injection h with h;injection h with h1 h2;subst h1
    exact Op.extract hv
   ·cases h
  ·cases h
 ·split at h
  ·rename_i ps d y vs rs hy hp
   split at h
   ·rename_i c cs g gs hz hf
    split at h
    ·rename_i out ho
     injection h with h;injection h with h1 h2;subst h1
     have h3:=(htb.get hy).z (by rw [hz];simp)
     have h4:=(htb.get hy).pl (by rw [hf];simp)
     rw [hz] at h3
     rw [hf] at h4
     exact Op.build h3 h4 (opdP_spec hp) out ho
    ·cases h
   ·cases h
  ·cases h
 ·split at h
  ·split at h
   ·rename_i v rs hx
    injection h with h;injection h with h1 h2;subst h1
    exact Op.pickT (zbh hx)
   ·cases h
  ·split at h
   ·rename_i v rs hx
    injection h with h;injection h with h1 h2;subst h1
    exact Op.pickF (zbh hx)
   ·cases h
  ·cases h
 ·split at h
  ·rename_i b rs hx
   injection h with h;injection h with h1 h2;subst h1
   exact Op.not (zbh hx)
  ·cases h
 ·split at h
  ·rename_i hc
   split at h
   ·rename_i k m rs l n rs' hx hy
    split at h
    ·rename_i hkl
     injection h with h;injection h with h1 h2;subst h1
     obtain rfl:k=l:=by simpa using hkl
     exact Op.cmp (zbh hx) (zbh hy) hc rfl
    ·cases h
   ·rename_i m rs n rs' hx hy
    split at h
    ·rename_i y ht
     split at h
     ·rename_i hk
      have hu:=(htb.get ht).k3 (bA hk)
      split at h
      ·injection h with h;injection h with h1 h2;subst h1
       exact Op.cmpb hu (zbh hx) (zbh hy) (.inl ⟨rfl,rfl⟩)
      ·injection h with h;injection h with h1 h2;subst h1
       exact Op.cmpb hu (zbh hx) (zbh hy) (.inr ⟨rfl,rfl⟩)
      ·cases h
     ·cases h
    ·cases h
   ·cases h
  ·cases h
 ·split at h
  ·rename_i c y hx hy
   split at h
   ·rename_i hk
    split at h
    ·rename_i n hn
     injection h with h;injection h with h1 h2;subst h1
     obtain ⟨el,hu⟩:=(htb.get hy).k1 (bA hk)
     exact Op.len hu (OV.tmp _ _) hn
    ·cases h
   ·split at h
    ·split at h
     ·rename_i hk2
      injection h with h;injection h with h1 h2;subst h1
      exact Op.lens ((htb.get hy).k2 (bA hk2)) (OV.tmp _ _)
     ·cases h
    ·cases h
  ·cases h
 ·cases h
theorem instO_ok {tb:Tb} (htb:zh4 P tb) {o:Oper} {c:Orc P} (h:zgf tb o c=some i) (hg:∀ d op i' hh,c = .gen d op i' hh->o.dst=d/\o.op=op):zar P o i:=by
 obtain ⟨dst,op,ty,pos,af,gd⟩:=o
 cases c with
 | call hf b =>
  simp only [zgf] at h
  split at h
  ·split at h
   ·rename_i hk
    split at h
    ·rename_i rs hr
     injection h with h;subst h
     rw [bA hk]
     exact Op.call hf b (opdWs_spec hr)
    ·cases h
   ·cases h
  ·cases h
 | add k hr =>
  simp only [zgf] at h
  split at h
  ·split at h
   ·rename_i h1 h2
    injection h with h;subst h
    exact Op.arith (zbm h1) (zbm h2) (.inl ⟨rfl,rfl⟩) hr
   ·cases h
  ·cases h
 | sub k hr =>
  simp only [zgf] at h
  split at h
  ·split at h
   ·rename_i h1 h2
    injection h with h;subst h
    exact Op.arith (zbm h1) (zbm h2) (.inr (.inl ⟨rfl,rfl⟩)) hr
   ·cases h
  ·cases h
 | mul k hr =>
  simp only [zgf] at h
  split at h
  ·split at h
   ·rename_i h1 h2
    injection h with h;subst h
    exact Op.arith (zbm h1) (zbm h2) (.inr (.inr ⟨rfl,rfl⟩)) hr
   ·cases h
  ·cases h
 | cmp k hb =>
  simp only [zgf] at h
  split at h
  ·split at h
   ·rename_i hc
    simp only [bF] at hc
    split at h
    ·rename_i h1 h2
     injection h with h;subst h
     obtain rfl:=eq_of_beq hc.1
     exact Op.cmp (zbm h1) (zbm h2) (by simpa using hc.2) hb
    ·cases h
   ·cases h
  ·cases h
 | cmpb op hb =>
  simp only [zgf] at h
  split at h
  ·split at h
   ·rename_i ty hty
    split at h
    ·rename_i hk
     split at h
     ·rename_i hop
      split at h
      ·rename_i h1 h2
       injection h with h;subst h
       have hu:=(htb.get hty).k3 (bA hk)
       have hop:=eq_of_beq hop
       subst hop
       exact Op.cmpb hu (zbm h1) (zbm h2) hb
      ·cases h
     ·cases h
    ·cases h
   ·cases h
  ·cases h
 | conv k k' hr =>
  simp only [zgf] at h
  split at h
  ·split at h
   ·rename_i ys yt hs ht
    split at h
    ·rename_i hk
     split at h
     ·rename_i hk'
      split at h
      ·rename_i h1
       injection h with h;subst h
       exact Op.conv ((htb.get ht).ki k' (by simpa using hk')) ((htb.get hs).ki k (by simpa using hk)) (zbm h1) hr
      ·cases h
     ·cases h
    ·cases h
   ·cases h
  ·cases h
 | neg k hr =>
  simp only [zgf] at h
  split at h
  ·split at h
   ·rename_i h1
    injection h with h;subst h
    exact Op.neg (zbm h1) rfl hr
   ·cases h
  ·cases h
 | len hn =>
  simp only [zgf] at h
  split at h
  ·split at h
   ·rename_i y hy
    split at h
    ·rename_i hk
     injection h with h;subst h
     obtain ⟨el,hu⟩:=(htb.get hy).k1 (bA hk)
     exact Op.len hu (OV.tmp _ _) hn
    ·cases h
   ·cases h
  ·cases h
 | gen d op' i' hh =>
  simp only [zgf] at h
  injection h with h;subst h
  obtain ⟨h1,h2⟩:=hg d op' i' hh rfl
  simp only at h1 h2
  subst h1 h2
  exact hh ty pos af gd
def run1 (tb:Tb) (ops:Array Oper) (f:F) (nx:Nat) (o:Oper) (c:Option (Orc P)):Option (I × Nat) :=
  let go:Option (I × Nat):=match c with
    | some c=>match zgf tb o c with
      | some i=>some (i,nx)
      | none=>none
    | none=>instS tb f nx o
  match o.guard with
  | none=>go
  | some (g,b)=>match (ops[g]?).bind (·.dst) with
    | none=>none
    | some d=>match f.s d with
      | some (.t (.c (.d (.raw (.bool c)))))=>if (c == b)=true then (match go with
          | some (i,n)=>some (i.also d (gv c),n)
          | none=>none)
        else some ({ rs:=[(d,gv c)],ws:=o.dst.toList.map fun t=>(t,some (.tup [])) }, nx)
      | some (.tup [])=>some ({ rs:=[(d,.tup [])],ws:=o.dst.toList.map fun t=>(t,some (.tup [])) }, nx)
      | _=>none
theorem run1_ok {tb:Tb} (htb:zh4 P tb) {ops:Array Oper} {nx:Nat} {o:Oper} {c:Option (Orc P)} {nx':Nat} (h:run1 tb ops f nx o c=some (i,nx')) (hg:∀ d op i' hh,c=some (.gen d op i' hh)->o.dst=d/\o.op=op):Does P ops o i:=by
 have hgo:∀ j m,(match c with
  | some c=>match zgf tb o c with
   | some i=>some (i,nx)
   | none=>none
  | none=>instS tb f nx o)=some (j,m)->zar P o j:=by
  intro j m hj
  cases c with
  | none=>exact instS_ok htb hj
  | some c =>
   simp only at hj
   split at hj
   ·rename_i i' hi
    injection hj with hj;injection hj with h1 h2;subst h1
    exact instO_ok htb hi fun d op i2 hh e=>hg d op i2 hh (by rw [e])
   ·cases hj
 unfold run1 at h
 dsimp only at h
 split at h
 ·rename_i hgd
  exact .run hgd (hgo _ _ h)
 ·rename_i g b hgd
  split at h
  ·cases h
  ·rename_i d hd
   split at h
   ·rename_i c' hc'
    split at h
    ·rename_i hcb
     obtain rfl:c'=b:=by simpa using hcb
     split at h
     ·rename_i i' n' hi
      injection h with h;injection h with h1 h2;subst h1
      exact .runG g c' d hgd hd (by simp [I.also]) (hgo _ _ hi).also
     ·cases h
    ·rename_i hcb
     injection h with h;injection h with h1 h2;subst h1
     have:c'=!b:=by cases c' <;> cases b <;> simp at hcb ⊢
     subst this
     exact .skip g b d hgd hd (by simp) rfl rfl rfl
   ·injection h with h;injection h with h1 h2;subst h1
    exact .skip2 g b d hgd hd (by simp) rfl rfl rfl
   ·cases h
def zd0 (tb:Tb) (ops:Array Oper):F->Nat->Nat->List Oper->List (Nat × Orc P)->Option (List I)
  | _,_,_,[],_=>some []
  | f,nx,j,o :: os,cs=>match run1 tb ops f nx o (cs.lookup j) with
    | some (i,nx')=>match zd0 tb ops (f.app i) nx' (j+1) os cs with
      | some is=>some (i :: is)
      | none=>none
    | none=>none
def gens (os:List Oper):List (Nat × Orc P)->List ((Option Nat × Op) × (Option Nat × Op))
  | []=>[]
  | (j,.gen d op _ _) :: cs=>((((os[j]?).map (·.dst)).getD none,((os[j]?).map (·.op)).getD default),(d,op)) :: gens os cs
  | _ :: cs=>gens os cs
theorem gens_mem {os:List Oper} {d:Option Nat} {op:Op} {h:∀ ty pos af gd,zar P ⟨d,op,ty,pos,af,gd⟩ i}:∀ {cs:List (Nat × Orc P)} {j:Nat}, (j,Orc.gen d op i h) ∈ cs->((((os[j]?).map (·.dst)).getD none,((os[j]?).map (·.op)).getD default),(d,op)) ∈ gens os cs
 | (j', c) :: cs,j,hm=>by
  rcases b9.1 hm with e | hm
  ·injection e with e1 e2
   subst e1 e2
   simp [gens]
  ·have:=gens_mem (os:=os) hm
   cases c <;> simp only [gens] <;> first | exact this | exact cL _ this
theorem zht {tb:Tb} (htb:zh4 P tb) {ops:Array Oper} {cs:List (Nat × Orc P)} (hg:(gens ops.toList cs).map (·.1)=(gens ops.toList cs).map (·.2)) :
  ∀ (os:List Oper) (f:F) (nx j:Nat) (is:List I),ops.toList.drop j=os->zd0 tb ops f nx j os cs=some is->AllDo P ops os is
 | [],f,nx,j,is,_,h=>by simp [zd0] at h;subst h;trivial
 | o :: os,f,nx,j,is,hd,h=>by
  simp only [zd0] at h
  split at h
  ·rename_i i nx' h1
   split at h
   ·rename_i is' h2
    injection h with h;subst h
    have ho:ops.toList[j]?=some o:=by
     have:=congrArg (fun l=>l[0]?) hd
     simpa using this
    refine ⟨run1_ok htb h1 ?_,zht htb hg os _ _ (j+1) is' ?_ h2⟩
    ·intro d op i' hh hc
     have hm:=gens_mem (os:=ops.toList) (zae hc)
     have:=zam hg _ hm
     rw [ho] at this
     simp at this
     exact this
    ·have:List.drop 1 (ops.toList.drop j)=os:=by rw [hd];rfl
     rw [List.drop_drop] at this
     simpa using this
   ·cases h
  ·cases h
structure Seen where
  ok:Bool
  s:List (Option V)
  n:List (Option L)
  s':List (Option V)
  n':List (Option L)
end
section
variable {Q:Exit->Act->World->Prop} {w0:World} {H0:Im} {B0:Bl} {K:List Nat} {N:Nat}
def dK (ds:List Nat):List (Nat × V)->List (Nat × V)
  | []=>[]
  | p :: t=>bif ds.any (Nat.beq p.1) then dK ds t else p :: dK ds t
def iK (k:Nat) (v:V):List (Nat × V)->List (Nat × V)
  | []=>[(k,v)]
  | p :: t=>bif Nat.blt k p.1 then (k,v) :: p :: t else bif Nat.beq k p.1 then (k,v) :: t else p :: iK k v t
def uK (ds:List Nat) (nw sl:List (Nat × V)):List (Nat × V):=nw.foldr (fun p l=>iK p.1 p.2 l) (dK ds sl)
def uL (ds:List Nat) (nw:List (Nat × L)):List (Nat × L)->List (Nat × L)
  | []=>nw
  | p :: t=>bif ds.any (Nat.beq p.1) then uL ds nw t else bif nw.any (fun q=>Nat.beq q.1 p.1) then (nw.filter fun q=>Nat.beq q.1 p.1)++uL ds (nw.filter fun q=>!Nat.beq q.1 p.1) t else p :: uL ds nw t
theorem cvM (ds:List Nat) (nw:List (Nat × V)) (md:List Nat) (mn:List (Nat × L)) (p:(sl,lc)=(uK ds nw sl,uL md mn lc)) (h:St e (F.of sl lc) a w):St e (F.of (uK ds nw sl) (uL md mn lc)) a w :=
  h.conv (congr (congrArg F.of (congrArg Prod.fst p)) (congrArg Prod.snd p))
theorem zdp {N:Nat} {c:Code} (I:ι->Prop) (ds:List Nat) (nws:ι->List (Nat × V)) (md:List Nat) (mns:ι->List (Nat × L)) (μ:ι->Nat) (x:ι) (hI:I x) (h:St ⟨w0,H0,B0,K,N⟩ (F.of sl lc) a w)
    (round:∀ x a w,I x->St ⟨w0,H0,B0,K,N⟩ (F.of (uK ds (nws x) sl) (uL md (mns x) lc)) a w->c.wp P (Exit.then (fun a' w'=>∃ y,(I y/\μ y<μ x)/\St ⟨w0,H0,B0,K,N⟩ (F.of (uK ds (nws y) sl) (uL md (mns y) lc)) a' w') Q) a w)
    (h1:leS (F.of sl lc) (uK ds (nws x) sl)=(uK ds (nws x) sl).map fun p=>some p.2:=by kernel_rfl) (h2:leN (F.of sl lc) (uL md (mns x) lc)=(uL md (mns x) lc).map fun p=>some p.2:=by kernel_rfl):(Code.loop c).wp P Q a w:=loopS I (fun x=>uK ds (nws x) sl) (fun x=>uL md (mns x) lc) μ x hI h h1 h2 round
def hcL (tb:Tb) (draw:Bool) (ops:Array Oper) (nx:Nat) (cs:List (Nat × Orc dI)) (N:Nat) (K:List Nat) (sl:List (Nat × V)) (lc:List (Nat × L)) (sl':List (Nat × V)) (lc':List (Nat × L)):=((gens ops.toList cs).map (·.1),(zd0 tb ops (F.of sl lc) nx 0 ops.toList cs).isSome,(zd0 tb ops (F.of sl lc) nx 0 ops.toList cs).map fun is=>Seen.mk (chk draw ops.toList is N K sl lc) (runS (F.of sl lc) is) (runN (F.of sl lc) is) (leS (zhb (F.of sl lc) is) sl') (leN (zhb (F.of sl lc) is) lc'))
def hcR (tb:Tb) (ops:Array Oper) (nx:Nat) (cs:List (Nat × Orc dI)) (sl:List (Nat × V)) (lc:List (Nat × L)) (sl':List (Nat × V)) (lc':List (Nat × L)):=((gens ops.toList cs).map (·.2),true,(zd0 tb ops (F.of sl lc) nx 0 ops.toList cs).map fun is=>Seen.mk true (wantS is) (wantN is) (sl'.map fun p=>some p.2) (lc'.map fun p=>some p.2))
theorem rS {tb:Tb} (htb:zh4 dI tb) {id:Nat} {ops:Array Oper} (nx:Nat) (cs:List (Nat × Orc dI)) (sl':List (Nat × V)) (lc':List (Nat × L))
  (hc:((gens ops.toList cs).map (·.1),(zd0 tb ops (F.of sl lc) nx 0 ops.toList cs).isSome,(zd0 tb ops (F.of sl lc) nx 0 ops.toList cs).map fun is=>Seen.mk (chk draw ops.toList is N K sl lc) (runS (F.of sl lc) is) (runN (F.of sl lc) is) (leS (zhb (F.of sl lc) is) sl') (leN (zhb (F.of sl lc) is) lc')) =
   ((gens ops.toList cs).map (·.2),true,(zd0 tb ops (F.of sl lc) nx 0 ops.toList cs).map fun is=>Seen.mk true (wantS is) (wantN is) (sl'.map fun p=>some p.2) (lc'.map fun p=>some p.2)))
  (h:St ⟨w0,H0,B0,K,N⟩ (F.of sl lc) a w) (hQ:∀ a w,St ⟨w0,H0,B0,K,N⟩ (F.of sl' lc') a w->Q .normal a w):(Code.region id ops draw).wp dI Q a w:=by
 simp only [Prod.mk.injEq] at hc
 obtain ⟨hg,hs,hm⟩:=hc
 cases hi:zd0 tb ops (F.of sl lc) nx 0 ops.toList cs with
 | none=>rw [hi] at hs;cases hs
 | some is =>
  rw [hi] at hm
  simp only [Option.map_some,Option.some.injEq,Seen.mk.injEq] at hm
  exact region is sl' lc' mixed (zht htb hg _ _ _ _ _ rfl hi) hm.1 hm.2.1 hm.2.2.1 hm.2.2.2.1 hm.2.2.2.2 h hQ
theorem Jn {tb:Tb} {id:Nat} {ops:Array Oper} (nx:Nat) (cs:List (Nat × Orc dI)) (sl':List (Nat × V)) (lc':List (Nat × L)) (h:St ⟨w0,H0,B0,K,N⟩ (F.of sl lc) a w) (hQ:∀ a w,St ⟨w0,H0,B0,K,N⟩ (F.of sl' lc') a w->Q .normal a w) (htb:zh4 dI tb:=by exact zak) (hc:hcL tb draw ops nx cs N K sl lc sl' lc'=hcR tb ops nx cs sl lc sl' lc':=by kernel_rfl):(Code.region id ops draw).wp dI Q a w:=rS htb nx cs sl' lc' hc h hQ
theorem Jh {tb:Tb} {id:Nat} {ops:Array Oper} (nx:Nat) (cs:List (Nat × Orc dI)) (ds:List Nat) (nw:List (Nat × V)) (md:List Nat) (mn:List (Nat × L)) (h:St ⟨w0,H0,B0,K,N⟩ (F.of sl lc) a w) (hQ:∀ a w,St ⟨w0,H0,B0,K,N⟩ (F.of (uK ds nw sl) (uL md mn lc)) a w->Q .normal a w) (htb:zh4 dI tb:=by exact zak) (hc:hcL tb draw ops nx cs N K sl lc (uK ds nw sl) (uL md mn lc)=hcR tb ops nx cs sl lc (uK ds nw sl) (uL md mn lc):=by kernel_rfl):(Code.region id ops draw).wp dI Q a w:=rS htb nx cs (uK ds nw sl) (uL md mn lc) hc h hQ
theorem Jm {tb:Tb} {id:Nat} {ops:Array Oper} (nx:Nat) (cs:List (Nat × Orc dI)) (ds:List Nat) (nw:List (Nat × V)) (lc':List (Nat × L)) (h:St ⟨w0,H0,B0,K,N⟩ (F.of sl lc) a w) (hQ:∀ a w,St ⟨w0,H0,B0,K,N⟩ (F.of (uK ds nw sl) lc') a w->Q .normal a w) (htb:zh4 dI tb:=by exact zak) (hc:hcL tb draw ops nx cs N K sl lc (uK ds nw sl) lc'=hcR tb ops nx cs sl lc (uK ds nw sl) lc':=by kernel_rfl):(Code.region id ops draw).wp dI Q a w:=rS htb nx cs (uK ds nw sl) lc' hc h hQ
theorem Jf {tb:Tb} {id:Nat} {ops:Array Oper} (nx:Nat) (cs:List (Nat × Orc dI)) (ds:List Nat) (nw:List (Nat × V)) (h:St ⟨w0,H0,B0,K,N⟩ (F.of sl lc) a w) (hQ:∀ a w,St ⟨w0,H0,B0,K,N⟩ (F.of (uK ds nw sl) lc) a w->Q .normal a w) (htb:zh4 dI tb:=by exact zak) (hc:hcL tb draw ops nx cs N K sl lc (uK ds nw sl) lc=hcR tb ops nx cs sl lc (uK ds nw sl) lc:=by kernel_rfl):(Code.region id ops draw).wp dI Q a w:=rS htb nx cs (uK ds nw sl) lc hc h hQ
theorem Jl {tb:Tb} {id:Nat} {ops:Array Oper} (nx:Nat) (cs:List (Nat × Orc dI)) (sl':List (Nat × V)) (h:St ⟨w0,H0,B0,K,N⟩ (F.of sl lc) a w) (hQ:∀ a w,St ⟨w0,H0,B0,K,N⟩ (F.of sl' lc) a w->Q .normal a w) (htb:zh4 dI tb:=by exact zak) (hc:hcL tb draw ops nx cs N K sl lc sl' lc=hcR tb ops nx cs sl lc sl' lc:=by kernel_rfl):(Code.region id ops draw).wp dI Q a w:=rS htb nx cs sl' lc hc h hQ
theorem rSeq {tb:Tb} (htb:zh4 dI tb) {id:Nat} {ops:Array Oper} (nx:Nat) (cs:List (Nat × Orc dI)) (sl':List (Nat × V)) (lc':List (Nat × L))
  (hc:((gens ops.toList cs).map (·.1),(zd0 tb ops (F.of sl lc) nx 0 ops.toList cs).isSome,(zd0 tb ops (F.of sl lc) nx 0 ops.toList cs).map fun is=>Seen.mk (chk draw ops.toList is N K sl lc) (runS (F.of sl lc) is) (runN (F.of sl lc) is) (leS (zhb (F.of sl lc) is) sl') (leN (zhb (F.of sl lc) is) lc')) =
   ((gens ops.toList cs).map (·.2),true,(zd0 tb ops (F.of sl lc) nx 0 ops.toList cs).map fun is=>Seen.mk true (wantS is) (wantN is) (sl'.map fun p=>some p.2) (lc'.map fun p=>some p.2)))
  (h:St ⟨w0,H0,B0,K,N⟩ (F.of sl lc) a w) (hQ:∀ a w,St ⟨w0,H0,B0,K,N⟩ (F.of sl' lc') a w->y.wp dI Q a w):(Code.seq (Code.region id ops draw) y).wp dI Q a w :=
 qW (rS htb nx cs sl' lc' hc h hQ)
theorem Jq {tb:Tb} {id:Nat} {ops:Array Oper} (nx:Nat) (cs:List (Nat × Orc dI)) (sl':List (Nat × V)) (lc':List (Nat × L)) (h:St ⟨w0,H0,B0,K,N⟩ (F.of sl lc) a w) (hQ:∀ a w,St ⟨w0,H0,B0,K,N⟩ (F.of sl' lc') a w->y.wp dI Q a w) (htb:zh4 dI tb:=by exact zak) (hc:hcL tb draw ops nx cs N K sl lc sl' lc'=hcR tb ops nx cs sl lc sl' lc':=by kernel_rfl):(Code.seq (Code.region id ops draw) y).wp dI Q a w:=rSeq htb nx cs sl' lc' hc h hQ
theorem Jg {tb:Tb} {id:Nat} {ops:Array Oper} (nx:Nat) (cs:List (Nat × Orc dI)) (ds:List Nat) (nw:List (Nat × V)) (md:List Nat) (mn:List (Nat × L)) (h:St ⟨w0,H0,B0,K,N⟩ (F.of sl lc) a w) (hQ:∀ a w,St ⟨w0,H0,B0,K,N⟩ (F.of (uK ds nw sl) (uL md mn lc)) a w->y.wp dI Q a w) (htb:zh4 dI tb:=by exact zak) (hc:hcL tb draw ops nx cs N K sl lc (uK ds nw sl) (uL md mn lc)=hcR tb ops nx cs sl lc (uK ds nw sl) (uL md mn lc):=by kernel_rfl):(Code.seq (Code.region id ops draw) y).wp dI Q a w:=rSeq htb nx cs (uK ds nw sl) (uL md mn lc) hc h hQ
theorem Jd {tb:Tb} {id:Nat} {ops:Array Oper} (nx:Nat) (cs:List (Nat × Orc dI)) (ds:List Nat) (nw:List (Nat × V)) (lc':List (Nat × L)) (h:St ⟨w0,H0,B0,K,N⟩ (F.of sl lc) a w) (hQ:∀ a w,St ⟨w0,H0,B0,K,N⟩ (F.of (uK ds nw sl) lc') a w->y.wp dI Q a w) (htb:zh4 dI tb:=by exact zak) (hc:hcL tb draw ops nx cs N K sl lc (uK ds nw sl) lc'=hcR tb ops nx cs sl lc (uK ds nw sl) lc':=by kernel_rfl):(Code.seq (Code.region id ops draw) y).wp dI Q a w:=rSeq htb nx cs (uK ds nw sl) lc' hc h hQ
theorem Je {tb:Tb} {id:Nat} {ops:Array Oper} (nx:Nat) (cs:List (Nat × Orc dI)) (ds:List Nat) (nw:List (Nat × V)) (h:St ⟨w0,H0,B0,K,N⟩ (F.of sl lc) a w) (hQ:∀ a w,St ⟨w0,H0,B0,K,N⟩ (F.of (uK ds nw sl) lc) a w->y.wp dI Q a w) (htb:zh4 dI tb:=by exact zak) (hc:hcL tb draw ops nx cs N K sl lc (uK ds nw sl) lc=hcR tb ops nx cs sl lc (uK ds nw sl) lc:=by kernel_rfl):(Code.seq (Code.region id ops draw) y).wp dI Q a w:=rSeq htb nx cs (uK ds nw sl) lc hc h hQ
theorem Jp {tb:Tb} {id:Nat} {ops:Array Oper} (nx:Nat) (cs:List (Nat × Orc dI)) (sl':List (Nat × V)) (h:St ⟨w0,H0,B0,K,N⟩ (F.of sl lc) a w) (hQ:∀ a w,St ⟨w0,H0,B0,K,N⟩ (F.of sl' lc) a w->y.wp dI Q a w) (htb:zh4 dI tb:=by exact zak) (hc:hcL tb draw ops nx cs N K sl lc sl' lc=hcR tb ops nx cs sl lc sl' lc:=by kernel_rfl):(Code.seq (Code.region id ops draw) y).wp dI Q a w:=rSeq htb nx cs sl' lc hc h hQ
end
structure SlT (P:Program) (t el:TypeId) (es:Nat):Prop where
  hu:P.underlying t=some (.slice el)
  hs:(P.info? el).map (·.size)=some es
theorem SlT.mk' {t:TypeId} (hu:P.underlying t=some (.slice el)) (hs:(P.info? el).map (·.size)=some es):SlT P t el es:=⟨hu,hs⟩
theorem zhi {t:TypeId} (h:(P.info? t).map (·.size)=some n) (w:World):(Go.sizeOf t).run P w = .ok n w:=by
 cases hi:P.info? t with
 | none=>rw [hi] at h;cases h
 | some i =>
  rw [hi] at h
  injection h with h
  have e1:(typeInfo t).run P w = .ok i w:=by unfold typeInfo;simp only [Sem.run_bind,run_program,Result.andThen_ok,hi];rfl
  unfold Go.sizeOf
  simp [e1,h,go_sem]
theorem zfh {t:TypeId} (h:SlT P t el es) {c i:Nat} {k:IntKind} (hi:i<n) (w:World) :
  (Instr.indexAt t (.slice (some ⟨b,o,none⟩) n c) (.int k i)).run P w = .ok (.pointer (some ⟨b,o+i*es,none⟩)) w:=by
 have h1:(0:Int)<=i/\(i:Int)<n:=⟨by omega,by omega⟩
 unfold Instr.indexAt
 simp only [asIntOf,Sem.run_bind,Sem.run_pure,Result.andThen_ok,run_underlying h.hu,h1,and_self,if_true,zhi h.hs,Int.toNat_natCast,Addr.add_mid]
variable {rows:List (List D)}
section
variable {P:Program}
theorem Op.idxD {d:Nat} {y:Operand} {i:Nat} {r:List D} {k:IntKind} {pos af gd} (hs:SlT P xt el es) (hr:rows[i]?=some r) (hy:OV y (vi k i) rs) :
  zar P ⟨some d,.indexAddr xt (.tmp t) y,ty,pos,af,gd⟩ { rs:=(t,.t (.c (.d (.sl es rows)))) :: rs,ws:=[(d,some (.t (.c (.el r))))] } :=
 zar.value d _ rfl rfl rfl fun e f H B a w hok hr2=>by
  have h1:=hok.slot t _ (hr2.1 (t,.t (.c (.d (.sl es rows)))) (by simp))
  have h2:a.eval y = .int k i:=(hy.eval hok fun p hp=>hr2.1 p (by simp [hp])).rawI
  obtain ⟨hi,rfl⟩:=bB.1 hr
  have h3:DR H (.sl es rows) (a.eval (.tmp t)):=h1
  generalize hv0:a.eval (.tmp t)=v at h3
  cases h3 with
  | nil ao c=>simp at hi
  | sl _ _ b o c arr ty' fz vs hp hb hl hc hes hv hx =>
   refine ⟨.pointer (some ⟨b,o+i*es,none⟩),?_,b,o+i*es,arr,ty', fz,hb,rfl,fun j hj=>⟨vs i j,hv i hi j (by rw [<- hes i hi];exact hj),hx i hi j hj⟩⟩
   have h5:a.eval (.tmp t) = .slice (some ⟨b,o,none⟩) rows.length c:=hv0
   generalize a.eval=ρ at h5 h2 ⊢
   simp only [execOp,h5,h2,Sem.run_bind,zfh hs hi,Result.andThen_ok,Sem.run_pure]
end
theorem zat.iff {R:α->β->Prop}:∀ {xs:List α} {ys:List β}, zat R xs ys ↔ xs.length=ys.length/\∀ (j:Nat) a b,xs[j]?=some a->ys[j]?=some b->R a b
 | [],[]=>⟨fun _=>⟨rfl,fun j a b h=>by simp at h⟩,fun _=>trivial⟩
 | x :: xs,y :: ys=>by
  constructor
  ·intro h
   obtain ⟨h1,h2⟩:=zat.iff.1 h.2
   refine ⟨by simp [h1],fun j a b ha hb=>?_⟩
   cases j with
   | zero=>simp at ha hb;subst ha hb;exact h.1
   | succ j=>exact h2 j a b (by simpa using ha) (by simpa using hb)
  ·rintro ⟨h1,h2⟩
   exact ⟨h2 0 x y rfl rfl,zat.iff.2 ⟨by simpa using h1,fun j a b ha hb=>h2 (j+1) a b (by simpa using ha) (by simpa using hb)⟩⟩
 | [],_ :: _=>⟨fun h=>h.elim,fun h=>by simp at h⟩
 | _ :: _,[]=>⟨fun h=>h.elim,fun h=>by simp at h⟩
theorem flat_at:∀ {rows:List (List α)} (_:∀ r ∈ rows,r.length=es) (i f:Nat),f<es->rows.flatten[i*es+f]?=(rows[i]?).bind (·[f]?)
 | [],_,i,f,_=>by simp
 | r :: rows,h,0,f,hf=>by
  have:r.length=es:=h r (by simp)
  simp only [cY,Nat.zero_mul,bV,List.getElem?_cons_zero,cW]
  rw [cN (by omega)]
 | r :: rows,h,i+1,f,hf=>by
  have:r.length=es:=h r (by simp)
  simp only [cY,dH]
  rw [cZ (by rw [this,bQ];omega),<- flat_at (fun r hr=>h r (by simp [hr])) i f hf]
  congr 1
  rw [this,bQ];omega
theorem zf4:∀ {rows:List (List α)} (_:∀ r ∈ rows,r.length=es),rows.flatten.length=rows.length*es
 | [],_=>by simp
 | r :: rows,h=>by
  rw [cY,cP,zf4 fun r hr=>h r (by simp [hr]),h r (by simp),cC,bQ];omega
def zh5 {α:Type} (R:α->Value->Prop) (arr:List Value) (es:Nat) (rows:List (List α)):Prop:=∀ (i:Nat) r,rows[i]?=some r->∀ (f:Nat) x,r[f]?=some x->∃ u,arr[i*es+f]?=some u/\R x u
abbrev RowAt (H:Im):=zh5 (DR H)
theorem zbc {R:α->Value->Prop} {c:Nat} {rows:List (List α)} (h1:arr.length=c*es) (h2:rows.length<=c) (h3:∀ r ∈ rows,r.length=es) :
  zat R rows.flatten (arr.take (rows.length*es)) ↔ zh5 R arr es rows:=by
 have hle:rows.length*es<=c*es:=bO _ h2
 rw [zat.iff]
 constructor
 ·rintro ⟨_,hR⟩ i r hr f x hx
  have hf:f<es:=by rw [<- h3 r (bP hr)];exact (bB.1 hx).1
  have hi:i<rows.length:=(bB.1 hr).1
  have hlt:i*es+f<rows.length*es:=by
   have:(i+1)*es<=rows.length*es:=bO _ hi
   rw [bQ] at this;omega
  have e1:rows.flatten[i*es+f]?=some x:=by rw [flat_at h3 i f hf,hr];exact hx
  have e2:arr[i*es+f]?=some (arr[i*es+f]'(by omega)):=bG _
  refine ⟨_,e2,hR _ _ _ e1 ?_⟩
  rw [bL,if_pos hlt,e2]
 ·intro hR
  refine ⟨by rw [zf4 h3,bH];omega,fun j x u hx hu=>?_⟩
  have hj:j<rows.length*es:=by rw [<- zf4 h3];exact (bB.1 hx).1
  have he:0<es:=c7 fun e=>by simp [e] at hj
  have hjj:j=j / es*es+j % es:=by rw [bT];exact (c8 j es).symm
  rw [hjj,flat_at h3 _ _ (Nat.mod_lt _ he)] at hx
  cases hr:rows[j / es]? with
  | none=>rw [hr] at hx;cases hx
  | some r =>
   rw [hr] at hx
   obtain ⟨v,h4,h5⟩:=hR _ r hr _ x hx
   rw [<- hjj] at h4
   rw [bL,if_pos hj,h4] at hu
   injection hu with hu
   rwa [<- hu]
theorem zfq:∀ (r l:List α) (o j:Nat),o+r.length<=l.length->(zg5 l o r)[j]?=if o<=j/\j<o+r.length then r[j - o]? else l[j]?
 | [],l,o,j,_=>by simp [zg5];intros;omega
 | v :: r,l,o,j,h=>by
  simp only [cC] at h
  rw [zg5,zfq r (l.set o v) (o+1) j (by simp;omega)]
  by_cases h1:j=o
  ·subst h1
   have:¬ (j+1<=j/\j<j+1+r.length):=by omega
   rw [if_neg this,if_pos ⟨bM _,by simp⟩,Nat.sub_self,cQ (by omega)]
   rfl
  ·by_cases h2:o+1<=j/\j<o+1+r.length
   ·rw [if_pos h2,if_pos (by simp;omega),show j - o=(j - (o+1))+1 by omega,dH]
   ·rw [if_neg h2,if_neg (by simp;omega),cR (by omega)]
section
variable {P:Program}
theorem Op.idxO {d len i:Nat} {y:Operand} {k:IntKind} {pos af gd} (hs:SlT P xt el es) (hi:i<len) (hy:OV y (vi k i) rs) :
  zar P ⟨some d,.indexAddr xt (.tmp t) y,ty,pos,af,gd⟩ { rs:=(t,.t (.c (.own n len))) :: rs,ws:=[(d,some (vp n (i*es)))] } :=
 zar.value d _ rfl rfl rfl fun e f H B a w hok hr2=>by
  have h1:=hok.slot t _ (hr2.1 (t,.t (.c (.own n len))) (by simp))
  have h2:a.eval y = .int k i:=(hy.eval hok fun p hp=>hr2.1 p (by simp [hp])).rawI
  simp only [VR,TR,CR] at h1
  cases hB:B n with
  | none=>rw [hB] at h1;have:=h1.1;omega
  | some p =>
   obtain ⟨b,c⟩:=p
   rw [hB] at h1
   refine ⟨.pointer (some ⟨b,i*es,none⟩),?_,b,c,hB,rfl⟩
   have h5:a.eval (.tmp t) = .slice (some ⟨b,0,none⟩) len c:=h1
   generalize a.eval=ρ at h5 h2 ⊢
   simp only [execOp,h5,h2,Sem.run_bind,zfh hs hi,Result.andThen_ok,Sem.run_pure,bV]
theorem Ok.row (h:Ok e f H B a w) (hl:f.l n=some (.row ty es rows)) {c:Nat} (hB:B n=some (b,c)) :
  ∃ arr:List Value,w.heap[b]?=some (.cells ⟨arr⟩ ty (0,0))/\arr.length=c*es/\rows.length<=c/\c<=maxLen/\(∀ r ∈ rows,r.length=es)/\RowAt H arr es rows:=by
 have h1:=h.loc n _ hl
 simp only [LR,hB] at h1
 obtain ⟨arr,h1,h2,h3,h4,h5,h6⟩:=h1
 exact ⟨arr,h1,h2,h3,h4,h5,(zbc h2 h3 h5).1 h6⟩
theorem Op.loadR_agg {d i:Nat} {r xs:List D} {pos af gd} (hs:Sz P xt m true) (ho:o=i*es+fo) (hr:rows[i]?=some r) (hx:(r.drop fo).take m=xs) (hm:xs.length=m) :
  zar P ⟨some d,.load xt (.tmp t),ty,pos,af,gd⟩ { rs:=[(t,vp n o)],rl:=[(n,.row rty es rows)],ws:=[(d,some (.t (.agg (xs.map C.d))))] } :=
 zar.value d _ rfl rfl rfl fun e f H B a w hok hr2=>by
  obtain ⟨b,c,hb,hu⟩:=(hok.slot t _ (hr2.1 (t,vp n o) (by simp))).ptrI
  obtain ⟨arr,h1,h2,h3,h4,h5,h6⟩:=hok.row (hr2.2 (n,.row rty es rows) (by simp)) hb
  have hfill:∀ j (hj:j<m),∃ u,arr[o+j]?=some u/\DR H (xs[j]'(by omega)) u:=by
   intro j hj
   have:r[fo+j]?=some (xs[j]'(by omega)):=by
    rw [<- bG,<- hx,bL,if_pos hj,bZ]
   obtain ⟨u,g1,g2⟩:=h6 i r hr (fo+j) _ this
   exact ⟨u,by rw [ho,cD];exact g1,g2⟩
  have hlen:((arr.drop o).take m).length=m:=by
   rw [bH,cG]
   cases m with
   | zero=>omega
   | succ m =>
    obtain ⟨u,g1,_⟩:=hfill m (by omega)
    have:=(bB.1 g1).1
    omega
  refine ⟨.agg ((arr.drop o).take m).toArray,?_,⟨_,rfl,?_⟩⟩
  ·have h7:a.eval (.tmp t) = .pointer (some ⟨b,o,none⟩):=hu
   generalize a.eval=ρ at h7 ⊢
   have h8:=zd5 (P:=P) hs (w:=w) (b:=b) (o:=o) (cs:=(arr.drop o).take m) hlen (fun j v hv=>by
    refine zc8 h1 ?_
    rw [bL] at hv
    split at hv
    ·rw [bZ] at hv;exact hv
    ·cases hv)
   simp only [execOp,h7,Instr.loadAt,Instr.sureAddr,Sem.run_bind,Sem.run_pure,Result.andThen_ok,h8]
  ·refine zat.iff.2 ⟨by simp [hlen,hm],fun j x u hx2 hu2=>?_⟩
   rw [bY] at hx2
   cases hj:xs[j]? with
   | none=>rw [hj] at hx2;cases hx2
   | some y =>
    rw [hj] at hx2
    injection hx2 with hx2
    subst hx2
    obtain ⟨hjl,hjy⟩:=bB.1 hj
    obtain ⟨u', g1,g2⟩:=hfill j (by omega)
    rw [bL,if_pos (by omega),bZ,g1] at hu2
    injection hu2 with hu2
    subst hu2
    rw [<- hjy]
    exact g2
theorem Op.loadR_c {d i:Nat} {r:List D} {x:D} {pos af gd} (hs:Sz P xt m false) (ho:o=i*es+fo) (hr:rows[i]?=some r) (hx:r[fo]?=some x) :
  zar P ⟨some d,.load xt (.tmp t),ty,pos,af,gd⟩ { rs:=[(t,vp n o)],rl:=[(n,.row rty es rows)],ws:=[(d,some (.t (.c (.d x))))] } :=
 zar.value d _ rfl rfl rfl fun e f H B a w hok hr2=>by
  obtain ⟨b,c,hb,hu⟩:=(hok.slot t _ (hr2.1 (t,vp n o) (by simp))).ptrI
  obtain ⟨arr,h1,h2,h3,h4,h5,h6⟩:=hok.row (hr2.2 (n,.row rty es rows) (by simp)) hb
  obtain ⟨u,g1,g2⟩:=h6 i r hr fo x hx
  rw [<- ho] at g1
  refine ⟨u,?_,g2⟩
  have h7:a.eval (.tmp t) = .pointer (some ⟨b,o,none⟩):=hu
  generalize a.eval=ρ at h7 ⊢
  have h8:=ze1 (P:=P) hs (zc8 h1 g1)
  simp only [execOp,h7,Instr.loadAt,Instr.sureAddr,Sem.run_bind,Sem.run_pure,Result.andThen_ok,h8]
theorem Op.storeR {i:Nat} {rows':List (List D)} {r ds:List D} {v:T} {pos af gd} (hs:Sz P xt m ag) (h:OV x (.t v) rs) (hv:cellsOf v=ds.map C.d) (hm:ds.length=m)
  (ho:o=i*es+fo) (hr:rows[i]?=some r) (hf:fo+m<=r.length) (hn:rows.set i (zg5 r fo ds)=rows') :
  zar P ⟨none,.store xt (.tmp t) x,ty,pos,af,gd⟩ { rs:=(t,vp n o) :: rs,rl:=[(n,.row rty es rows)],wl:=[(n,some (.row rty es rows'))] }:=by
 rintro e f a w Q ⟨H,B,hok⟩ hr2 hnw hb0
 obtain ⟨b,c,hb,hu⟩:=(hok.slot t _ (hr2.1 (t,vp n o) (by simp))).ptrI
 have hfl:=hr2.2 (n,.row rty es rows) (by simp)
 obtain ⟨arr,hcl,h2,h3,h4,h5,h6⟩:=hok.row hfl hb
 have hev:=h.eval hok (fun p hp=>hr2.1 p (by simp [hp]))
 obtain ⟨l,g3,g4⟩:=TR.cells hev
 rw [hv] at g4
 have hll:l.length=m:=by rw [<- g4.length,bJ,hm]
 have hre:r.length=es:=h5 r (bP hr)
 have hi:i<rows.length:=(bB.1 hr).1
 have hie:(i+1)*es<=c*es:=bO _ (by omega)
 rw [bQ] at hie
 have ho':o+m<=arr.length:=by rw [h2,ho];omega
 have hrun:(storeVar xt ⟨b,o,none⟩ (a.eval x)).run P w = .ok () (w.setCells b o l):=by
  have hst:=run_storeCells_cells (P:=P) b o l 0 w (fun j hj=>by
    rw [zc8 hcl (o:=o+0+j) (v:=arr[o+0+j]'(by omega)) (bG _)];rfl) (fun j hj=>by simp [World.frozen?, hcl]) (fun v hv=>by
    obtain ⟨i,hi,rfl⟩:=List.getElem_of_mem hv
    obtain ⟨y,hy,hR⟩:=g4.get i (by rw [g4.length];exact hi)
    rw [bG hi] at hy
    injection hy with hy
    rw [hy]
    exact zf3 (CR.flat hR))
  unfold storeVar
  simp only [Sem.run_bind,hs.sizeOf,Result.andThen_ok,g3,hll,List.size_toArray,ne_eq,not_true_eq_false,if_false]
  simpa using hst
 obtain ⟨k1,k2,k3,k4,k5,k6⟩:=zcr l o w arr hcl
 have hg:a.eval (.tmp t) = .pointer (some ⟨b,o,none⟩):=hu
 unfold Oper.wp
 have hexec:(execOp a.eval ⟨none,.store xt (.tmp t) x,ty,pos,af,gd⟩).run P w = .ok .skip (w.setCells b o l):=by
  generalize hq:a.eval x=q at hrun
  generalize a.eval=ρ at hg hq ⊢
  simp only [execOp,hg,hq,Instr.storeAt,Instr.sureAddr,Sem.run_bind,Sem.run_pure,Result.andThen_ok,hrun]
 rw [hexec,Oper.upon_skip]
 subst hn
 have hrows:∀ r' ∈ rows.set i (zg5 r fo ds),r'.length=es:=by
  intro r' hr'
  rcases dD hr' with h' | rfl
  ·exact h5 r' h'
  ·rw [zbz];exact hre
 have hlr:LR H B (w.setCells b o l) n (.row rty es (rows.set i (zg5 r fo ds))):=by
  simp only [LR,hb]
  refine ⟨zg5 arr o l,k1,by rw [zbz];exact h2,by simpa using h3,h4,hrows,?_⟩
  refine (zbc (by rw [zbz];exact h2) (by simpa using h3) hrows).2 ?_
  intro i' r' hr' f' x' hx'
  rw [zfq l arr o _ (by omega)]
  have hf':f'<es:=by rw [<- hrows r' (bP hr')];exact (bB.1 hx').1
  by_cases hii:i'=i
  ·subst hii
   rw [cQ hi] at hr'
   injection hr' with hr'
   subst hr'
   rw [zfq ds r fo _ (by omega)] at hx'
   by_cases hin:fo<=f'/\f'<fo+ds.length
   ·rw [if_pos hin] at hx'
    rw [if_pos (by rw [hll,ho];omega)]
    have e1:i'*es+f' - o=f' - fo:=by rw [ho];omega
    rw [e1]
    have hlt:f' - fo<l.length:=by omega
    refine ⟨_,bG hlt,?_⟩
    have:=(zat.iff.1 g4).2 (f' - fo) (.d x') (l[f' - fo]'hlt) (by rw [bY,hx'];rfl) (bG hlt)
    exact this
   ·rw [if_neg hin] at hx'
    rw [if_neg (by rw [hll,ho];omega)]
    exact h6 i' r hr f' x' hx'
  ·rw [cR (Ne.symm hii)] at hr'
   have hout:¬ (o<=i'*es+f'/\i'*es+f'<o+l.length):=by
    rw [hll,ho]
    rcases Nat.lt_or_gt_of_ne hii with hlt | hgt
    ·have:(i'+1)*es<=i*es:=bO _ hlt
     rw [bQ] at this
     omega
    ·have:(i+1)*es<=i'*es:=bO _ hgt
     rw [bQ] at this
     omega
   rw [if_neg hout]
   exact h6 i' r' hr' f' x' hx'
 exact St.put0 ⟨H,B,hok.write (g:=⟨f.s,fun m=>if m=n then some (.row rty es (rows.set i (zg5 r fo ds))) else f.l m⟩) (l' := .row rty es (rows.set i (zg5 r fo ds))) hfl hb (fun _=>rfl) (fun _=>rfl) k2 k3 k4 k5 k6 hlr⟩ rfl (app0_s _ _ rfl) (fun m=>zh3 f n _ _ rfl m)
end
def C.pub (n es:Nat) (rows:List (List D)):C->C
  | .own m k=>if Nat.beq m n then .d (.sl es rows) else .own m k
  | .ptr m o=>if Nat.beq m n then .any else .ptr m o
  | .sub m o k=>if Nat.beq m n then .any else .sub m o k
  | .mp m=>if Nat.beq m n then .any else .mp m
  | c=>c
def T.pub (n es:Nat) (rows:List (List D)):T->T
  | .c x => .c (x.pub n es rows)
  | .agg cs => .agg (cs.map (C.pub n es rows))
def V.pub (n es:Nat) (rows:List (List D)):V->V
  | .t x => .t (x.pub n es rows)
  | .tup xs => .tup (xs.map (T.pub n es rows))
def L.pub (n es:Nat) (rows:List (List D)):L->L
  | .box cs => .box (cs.map (C.pub n es rows))
  | .row ty k r => .row ty k r
  | .rowc ty k r => .rowc ty k (r.map (List.map (C.pub n es rows)))
  | .bld ty c rest => .bld ty (c.pub n es rows) (rest.map (C.pub n es rows))
  | .mp x => .mp x
  | .mpx x c => .mpx x c
  | .it m a b c => .it m a b c
def C.owns (n:Nat):C->List Nat
  | .own m k=>if Nat.beq m n then [k] else []
  | _=>[]
def T.owns (n:Nat):T->List Nat
  | .c x=>x.owns n
  | .agg cs=>cs.flatMap (C.owns n)
def V.owns (n:Nat):V->List Nat
  | .t x=>x.owns n
  | .tup xs=>xs.flatMap (T.owns n)
def L.owns (n:Nat):L->List Nat
  | .box cs=>cs.flatMap (C.owns n)
  | .row _ _ _=>[]
  | .rowc _ _ r=>r.flatten.flatMap (C.owns n)
  | .bld _ c rest=>c.owns n++rest.flatMap (C.owns n)
  | .mp _=>[]
  | .mpx _ _=>[]
  | .it _ _ _ _=>[]
def zcg (m:Nat):List Nat->Prop
  | []=>True
  | k :: ks=>k=m/\zcg m ks
theorem zcg.mem:∀ {ks:List Nat}, zcg m ks->∀ k ∈ ks,k=m
 | k :: ks,h,x,hx=>by
  rcases b9.1 hx with rfl | hx
  ·exact h.1
  ·exact zcg.mem h.2 x hx
theorem zhk {c:Nat} (hb:H b=some (.cells ⟨arr⟩ ty (0,0))) (h3:rows.length<=c) (h4:c<=maxLen) (h5:∀ r ∈ rows,r.length=es) (h6:RowAt H arr es rows) :
  DR H (.sl es rows) (.slice (some ⟨b,0,none⟩) rows.length c):=by
 cases hr:rows with
 | nil=>exact .nil es _ c (fun h=>by cases h) h4
 | cons r0 rs0 =>
  rw [<- hr]
  refine .sl es rows b 0 c ⟨arr⟩ ty (0,0) (fun i j=>(arr[i*es+j]?).getD undef) (by rw [hr];simp) hb h3 h4 (fun i hi=>h5 _ (dA hi)) ?_ ?_
  ·intro i hi j hj
   have hj':j<(rows[i]'hi).length:=by rw [h5 _ (dA hi)];exact hj
   obtain ⟨u,g1,_⟩:=h6 i _ (bG hi) j _ (bG hj')
   simp [g1]
  ·intro i hi j hj
   obtain ⟨u,g1,g2⟩:=h6 i _ (bG hi) j _ (bG hj)
   simp only [g1,Option.getD_some]
   exact g2
def F.pub (f:F) (n es:Nat) (rows:List (List D)):F :=
  ⟨fun t=>(f.s t).map (V.pub n es rows),fun m=>if Nat.beq m n then none else (f.l m).map (L.pub n es rows)⟩
theorem St.pubK {N:Nat} (h:St ⟨w0,H0,B0,K,N⟩ f a w) (n es:Nat) (ty:TypeId) (rows:List (List D)) (hl:f.l n=some (.row ty es rows)) (hK:∀ k ∈ K,k≠n/\∃ l,f.l k=some l)
  (h1:∀ t v,f.s t=some v->∀ k ∈ v.owns n,k=rows.length) (h2:∀ m l,f.l m=some l->∀ k ∈ l.owns n,k=rows.length):St ⟨w0,H0,B0,K,N⟩ (f.pub n es rows) a w:=by
 obtain ⟨H,B,hok⟩:=h
 have hLR:=hok.loc n _ hl
 -- what stays from here on
 obtain ⟨H', hle,hH', hcell⟩:∃ H':Im,Le H H'/\(∀ b o,H' b=some o->H b=some o\/(w.heap[b]?=some o/\∃ c,B n=some (b,c))) /\
   (∀ (x:C) (v:Value),(∀ k ∈ x.owns n,k=rows.length)->CR H B x v->CR H' B (x.pub n es rows) v):=by
  have keepC:∀ {H':Im} (hle:Le H H'),(∀ v,CR H B (.own n rows.length) v->DR H' (.sl es rows) v)->∀ (x:C) (v:Value),(∀ k ∈ x.owns n,k=rows.length)->CR H B x v->CR H' B (x.pub n es rows) v:=by
   intro H' hle hown x v hk hx
   cases x with
   | own m k =>
    simp only [C.pub]
    split
    ·rename_i e1
     have e1:=bA e1
     subst e1
     have:=hk k (by simp [C.owns])
     subst this
     exact hown v hx
    ·exact CR.mono hle (fun _ _=>rfl) hx
   | ptr m o =>
    simp only [C.pub]
    split
    ·exact CR.flat hx
    ·exact CR.mono hle (fun _ _=>rfl) hx
   | sub m o k =>
    simp only [C.pub]
    split
    ·exact CR.flat hx
    ·exact CR.mono hle (fun _ _=>rfl) hx
   | d x=>exact CR.mono hle (fun _ _=>rfl) hx
   | el x=>exact CR.mono hle (fun _ _=>rfl) hx
   | fn f' x y=>exact CR.mono hle (fun _ _=>rfl) hx
   | any=>exact hx
   | mp m =>
    simp only [C.pub]
    split
    ·exact CR.flat hx
    ·exact CR.mono hle (fun _ _=>rfl) hx
  cases hB:B n with
  | none =>
   simp only [LR,hB] at hLR
   subst hLR
   refine ⟨H,Le.refl _,fun b o h => .inl h,keepC (Le.refl _) fun v hv=>?_⟩
   simp only [CR,hB] at hv
   obtain ⟨_,ao,hv⟩:=hv
   rw [hv]
   exact .nil es ao 0 (fun _=>rfl) (cH _)
  | some p =>
   obtain ⟨b,c⟩:=p
   obtain ⟨arr,g1,g2,g3,g4,g5,g6⟩:=hok.row hl hB
   have hnone:=(hok.priv n _ b c hl hB).2.1
   have hle:Le H (fun x=>if x=b then some (.cells ⟨arr⟩ ty (0,0)) else H x):=by
    intro x o hx
    have:x≠b:=fun e=>by rw [e,hnone] at hx;cases hx
    simp [this,hx]
   refine ⟨fun x=>if x=b then some (.cells ⟨arr⟩ ty (0,0)) else H x,hle,?_,keepC hle fun v hv=>?_⟩
   ·intro x o hx
    by_cases e:x=b
    ·subst e
     simp only [if_true] at hx
     exact .inr ⟨by rw [g1];exact hx,c,rfl⟩
    ·simp [e] at hx;exact .inl hx
   ·simp only [CR,hB] at hv
    rw [hv]
    exact zhk (arr:=arr) (ty:=ty) (if_pos rfl) g3 g4 g5 fun i r hr f' x hx=>by
     obtain ⟨u,k1,k2⟩:=g6 i r hr f' x hx
     exact ⟨u,k1,k2.mono hle⟩
 have hT:∀ (x:T) (v:Value),(∀ k ∈ x.owns n,k=rows.length)->TR H B x v->TR H' B (x.pub n es rows) v:=by
  intro x v hk hx
  cases x with
  | c x=>exact hcell x v hk hx
  | agg cs =>
   obtain ⟨vs,hv,hx⟩:=hx
   refine ⟨vs,hv,zat.iff.2 ⟨by rw [bJ];exact hx.length,fun j a' b' ha hb=>?_⟩⟩
   rw [bY] at ha
   cases hj:cs[j]? with
   | none=>rw [hj] at ha;cases ha
   | some y =>
    rw [hj] at ha
    injection ha with ha
    subst ha
    exact hcell y b' (fun k hk2=>hk k (by simp only [T.owns,bC];exact ⟨y,bP hj,hk2⟩)) ((zat.iff.1 hx).2 j y b' hj hb)
 refine ⟨H', B,hok.df,hok.n,hok.ext,?_,?_,?_,?_,?_,?_,hok.le.trans hle,hok.keep,hok.tab⟩
 ·intro b o hb
  rcases hH' b o hb with h' | ⟨h', _⟩
  ·exact hok.sat b o h'
  ·exact h'
 ·intro t v hv
  simp only [F.pub,cA] at hv
  obtain ⟨x,hx,rfl⟩:=hv
  have hR:=hok.slot t x hx
  have hk:=h1 t x hx
  cases x with
  | t x=>exact hT x _ hk hR
  | tup xs =>
   obtain ⟨vs,hv,hx2⟩:=hR
   refine ⟨vs,hv,zat.iff.2 ⟨by rw [bJ];exact hx2.length,fun j a' b' ha hb=>?_⟩⟩
   rw [bY] at ha
   cases hj:xs[j]? with
   | none=>rw [hj] at ha;cases ha
   | some y =>
    rw [hj] at ha
    injection ha with ha
    subst ha
    exact hT y b' (fun k hk2=>hk k (by simp only [V.owns,bC];exact ⟨y,bP hj,hk2⟩)) ((zat.iff.1 hx2).2 j y b' hj hb)
 ·intro m l hm
  simp only [F.pub] at hm
  split at hm
  ·cases hm
  ·simp only [cA] at hm
   obtain ⟨x,hx,rfl⟩:=hm
   have hR:=hok.loc m x hx
   have hk:=h2 m x hx
   cases x with
   | box cs =>
    obtain ⟨b,c,arr,ty', hb,hc,hx2⟩:=hR
    refine ⟨b,c,arr,ty', hb,hc,zat.iff.2 ⟨by rw [bJ];exact hx2.length,fun j a' b' ha hb=>?_⟩⟩
    rw [bY] at ha
    cases hj:cs[j]? with
    | none=>rw [hj] at ha;cases ha
    | some y =>
     rw [hj] at ha
     injection ha with ha
     subst ha
     exact hcell y b' (fun k hk2=>hk k (by simp only [L.owns,bC];exact ⟨y,bP hj,hk2⟩)) ((zat.iff.1 hx2).2 j y b' hj hb)
   | row ty' es' rows'=>exact LR.mono hle rfl (fun _ _=>rfl) (fun _ _ _=>rfl) hR
   | rowc ty' es' rows' =>
    simp only [LR,L.pub] at hR ⊢
    cases hb:B m with
    | none=>rw [hb] at hR;rw [hR];rfl
    | some p =>
     obtain ⟨b,c⟩:=p
     rw [hb] at hR
     obtain ⟨arr,g1,g2,g3,g4,g5,g6⟩:=hR
     refine ⟨arr,g1,g2,by rw [bJ];exact g3,g4,fun r hr=>?_,?_⟩
     ·obtain ⟨r0,hr0,rfl⟩:=bE.1 hr;rw [bJ];exact g5 r0 hr0
     ·rw [bJ,<- List.map_flatten]
      exact g6.mapL _ fun x hx v hv=>hcell x v (fun k hk2=>hk k (by simp only [L.owns,bC];exact ⟨x,hx,hk2⟩)) hv
   | mp x=>exact LR.mono (x:=.mp x) hle rfl (fun _ _=>rfl) (fun _ _ _=>rfl) hR
   | mpx x c=>exact hR
   | it m a b c=>exact hR
   | bld ty' c' rest =>
    obtain ⟨b,k,v1,v2,vr,hb,hc,g1,g0,g2,g3⟩:=hR
    refine ⟨b,k,v1,v2,vr,hb,hc,g1,g0,hcell c' v2 (fun k hk2=>hk k (by simp only [L.owns];exact b7 _ hk2)) g2,zat.iff.2 ⟨by rw [bJ];exact g3.length,fun j a' b' ha hb=>?_⟩⟩
    rw [bY] at ha
    cases hj:rest[j]? with
    | none=>rw [hj] at ha;cases ha
    | some y =>
     rw [hj] at ha
     injection ha with ha
     subst ha
     exact hcell y b' (fun k hk2=>hk k (by simp only [L.owns];exact bX _ (bC.2 ⟨y,bP hj,hk2⟩))) ((zat.iff.1 g3).2 j y b' hj hb)
 ·intro m l b c hm hb
  simp only [F.pub] at hm
  split at hm
  ·cases hm
  ·rename_i hne
   simp only [cA] at hm
   obtain ⟨x,hx,rfl⟩:=hm
   obtain ⟨p1,p2,p3⟩:=hok.priv m x b c hx hb
   refine ⟨p1,?_,p3⟩
   cases hq:H' b with
   | none=>rfl
   | some o =>
    rcases hH' b o hq with h' | ⟨_,c', h'⟩
    ·rw [p2] at h';cases h'
    ·have:=hok.inj m n x _ b c c' hx hl hb h'
     subst this
     simp at hne
 ·intro m k l l' b c c' hm hk hb hb'
  simp only [F.pub] at hm hk
  split at hm
  ·cases hm
  ·split at hk
   ·cases hk
   ·simp only [cA] at hm hk
    obtain ⟨x,hx,_⟩:=hm
    obtain ⟨y,hy,_⟩:=hk
    exact hok.inj m k x y b c c' hx hy hb hb'
 ·intro b hb
  cases hq:H' b with
  | none =>
   rw [<- hok.low b hb]
   cases hr:H b with
   | none=>rfl
   | some o=>rw [hle b o hr] at hq;cases hq
  | some o =>
   rcases hH' b o hq with h' | ⟨_,c', h'⟩
   ·rw [<- hok.low b hb,h']
   ·rcases (hok.priv n _ b c' hl h').2.2 with ⟨m,hm,c9,hc9⟩ | h3
    ·obtain ⟨k1,l9,k2⟩:=hK m hm
     exact absurd (hok.inj m n l9 _ b c9 c' k2 hl (by rw [hok.keep m hm];exact hc9) h') k1
    ·exact absurd hb (by simpa using h3)
theorem St.pub {N:Nat} (h:St ⟨w0,H0,B0,[],N⟩ f a w) (n es:Nat) (ty:TypeId) (rows:List (List D)) (hl:f.l n=some (.row ty es rows))
  (h1:∀ t v,f.s t=some v->∀ k ∈ v.owns n,k=rows.length) (h2:∀ m l,f.l m=some l->∀ k ∈ l.owns n,k=rows.length):St ⟨w0,H0,B0,[],N⟩ (f.pub n es rows) a w :=
 h.pubK n es ty rows hl (fun k hk=>by cases hk) h1 h2
abbrev Orc.g {P:Program} {d:Option Nat} {op:Op} {i:I} (h:∀ {ty pos af gd}, zar P ⟨d,op,ty,pos,af,gd⟩ i):Orc P:=.gen d op i fun _ _ _ _=>h
abbrev Orc.j1 {P:Program} (j:Nat) (h:IntKind.i64.wrap ((j:Int)+1)=(j:Int)+1:=by exact i64_id (by omega) (by omega)):Orc P:=.add .i64 h
section
variable {P:Program}
theorem xD (d t:Nat) {y:Operand} {i:Nat} {r:List D} {pos af gd} (hs:SlT P xt el es) (hr:rows[i]?=some r) (hy:OV y (vi .i64 i) rs) :
    zar P ⟨some d,.indexAddr xt (.tmp t) y,ty,pos,af,gd⟩ { rs:=(t,.t (.c (.d (.sl es rows)))) :: rs,ws:=[(d,some (.t (.c (.el r))))] }:=Op.idxD hs hr hy
theorem xO (d t n len i:Nat) {y:Operand} {pos af gd} (hs:SlT P xt el es) (hy:OV y (vi .i64 i) rs) (hi:i<len:=by first | omega | (simp at *;omega)) :
    zar P ⟨some d,.indexAddr xt (.tmp t) y,ty,pos,af,gd⟩ { rs:=(t,.t (.c (.own n len))) :: rs,ws:=[(d,some (vp n (i*es)))] }:=Op.idxO hs hi hy
end
def A.ren (n m:Nat):A->A
  | .d x => .d x
  | .ptr k o => .ptr (if Nat.beq k n then m else k) o
def C.ren (n m:Nat):C->C
  | .own k l => .own (if Nat.beq k n then m else k) l
  | .ptr k o => .ptr (if Nat.beq k n then m else k) o
  | .sub k o l => .sub (if Nat.beq k n then m else k) o l
  | .mp k => .mp (if Nat.beq k n then m else k)
  | .fn f fs cs => .fn f (fs.map (A.ren n m)) (cs.map (A.ren n m))
  | c=>c
def T.ren (n m:Nat):T->T
  | .c x => .c (x.ren n m)
  | .agg cs => .agg (cs.map (C.ren n m))
def V.ren (n m:Nat):V->V
  | .t x => .t (x.ren n m)
  | .tup xs => .tup (xs.map (T.ren n m))
def L.ren (n m:Nat):L->L
  | .box cs => .box (cs.map (C.ren n m))
  | .row ty k r => .row ty k r
  | .rowc ty k r => .rowc ty k (r.map (List.map (C.ren n m)))
  | .bld ty c rest => .bld ty (c.ren n m) (rest.map (C.ren n m))
  | .mp x => .mp x
  | .mpx x c => .mpx x c
  | .it k a b c => .it (if Nat.beq k n then m else k) a b c
def F.ren (f:F) (n m:Nat):F :=
  ⟨fun t=>(f.s t).map (V.ren n m),fun x=>if Nat.beq x m then (f.l n).map (L.ren n m) else if Nat.beq x n then none else (f.l x).map (L.ren n m)⟩
section
variable {H:Im} {B:Bl} {n m:Nat}
def swB (B:Bl) (n m:Nat):Bl:=fun x=>if x=m then B n else B x
theorem zcq (k:Nat) (hk:k≠m):swB B n m (if Nat.beq k n then m else k)=B k:=by
 by_cases e:k=n
 ·subst e;simp [swB]
 ·have:Nat.beq k n=false:=by
   cases h:Nat.beq k n with
   | false=>rfl
   | true=>exact absurd (bA h) e
  simp [this,swB,hk]
theorem AR.ren {x:A} (hm:m ∉ x.tags) (h:AR H B x v):AR H (swB B n m) (x.ren n m) v:=by
 cases x with
 | d x=>exact h
 | ptr k o=>obtain ⟨b,c,hb,hv⟩:=h;exact ⟨b,c,(zcq k (fun e=>hm (by simp [A.tags,e]))).trans hb,hv⟩
theorem CR.ren {x:C} (hm:m ∉ x.tags) (h:CR H B x v):CR H (swB B n m) (x.ren n m) v:=by
 cases x with
 | ptr k o=>obtain ⟨b,c,hb,hv⟩:=h;exact ⟨b,c,(zcq k (fun e=>hm (by simp [C.tags,e]))).trans hb,hv⟩
 | sub k o l=>exact ⟨h.1,fun hl=>let ⟨b,c,j,h1,h2⟩:=h.2 hl;⟨b,c,j,(zcq k (fun e=>hm (by simp [C.tags,e]))).trans h1,h2⟩⟩
 | own k l=>simp only [CR,C.ren] at h ⊢;rw [zcq k (fun e=>hm (by simp [C.tags,e]))];exact h
 | fn f fs cs =>
  obtain ⟨vs,ws,hv,h1,h2⟩:=h
  simp only [C.tags,bW,bC,not_or,not_exists,not_and] at hm
  exact ⟨vs,ws,hv,h1.mapL _ fun a ha b=>AR.ren (hm.1 a ha),h2.mapL _ fun a ha b=>AR.ren (hm.2 a ha)⟩
 | d x=>exact h
 | el x=>exact h
 | any=>exact h
 | mp k=>obtain ⟨b,c,hb,hv⟩:=h;exact ⟨b,c,(zcq k (fun e=>hm (by simp [C.tags,e]))).trans hb,hv⟩
theorem TR.ren {x:T} (hm:m ∉ x.tags) (h:TR H B x v):TR H (swB B n m) (x.ren n m) v:=by
 cases x with
 | c x=>exact CR.ren hm h
 | agg cs =>
  obtain ⟨vs,hv,h1⟩:=h
  simp only [T.tags,bC,not_exists,not_and] at hm
  exact ⟨vs,hv,h1.mapL _ fun a ha b=>CR.ren (hm a ha)⟩
theorem VR.ren {x:V} (hm:m ∉ x.tags) (h:VR H B x v):VR H (swB B n m) (x.ren n m) v:=by
 cases x with
 | t x=>exact TR.ren hm h
 | tup xs =>
  obtain ⟨vs,hv,h1⟩:=h
  simp only [V.tags,bC,not_exists,not_and] at hm
  exact ⟨vs,hv,h1.mapL _ fun a ha b=>TR.ren (hm a ha)⟩
theorem LR.ren {x:L} (hk:k≠m) (hm:m ∉ x.tags) (h:LR H B w k x):LR H (swB B n m) w (if Nat.beq k n then m else k) (x.ren n m):=by
 cases x with
 | box cs =>
  obtain ⟨b,c,arr,ty,hb,hc,h1⟩:=h
  simp only [L.tags,bC,not_exists,not_and] at hm
  exact ⟨b,c,arr,ty,(zcq k hk).trans hb,hc,h1.mapL _ fun a ha b=>CR.ren (hm a ha)⟩
 | row ty es rows=>simp only [LR,L.ren] at h ⊢;rw [zcq k hk];exact h
 | rowc ty es rows =>
  simp only [LR,L.ren] at h ⊢;rw [zcq k hk]
  simp only [L.tags,bC,not_exists,not_and] at hm
  cases hb:B k with
  | none=>rw [hb] at h;rw [h];rfl
  | some p =>
   obtain ⟨b,c⟩:=p
   rw [hb] at h
   obtain ⟨arr,h1,h2,h3,h4,h5,h6⟩:=h
   refine ⟨arr,h1,h2,by rw [bJ];exact h3,h4,fun r hr=>?_,?_⟩
   ·obtain ⟨r0,hr0,rfl⟩:=bE.1 hr;rw [bJ];exact h5 r0 hr0
   ·rw [bJ,<- List.map_flatten];exact h6.mapL _ fun a ha b=>CR.ren (hm a ha)
 | bld ty c rest =>
  obtain ⟨b,j,v1,v2,vr,hb,hc,h1,h0,h2,h3⟩:=h
  simp only [L.tags,bW,not_or,bC,not_exists,not_and] at hm
  exact ⟨b,j,v1,v2,vr,(zcq k hk).trans hb,hc,h1,h0,CR.ren hm.1 h2,h3.mapL _ fun a ha b=>CR.ren (hm.2 a ha)⟩
 | mp x=>obtain ⟨b,c,arr,cl,hb,hc,h1⟩:=h;exact ⟨b,c,arr,cl,(zcq k hk).trans hb,hc,h1⟩
 | mpx x cl=>obtain ⟨b,c,hb,hc⟩:=h;exact ⟨b,c,(zcq k hk).trans hb,hc⟩
 | it j a0 b0 c0=>obtain ⟨b,c,b2,c2,hb,h2,hc⟩:=h;exact ⟨b,c,b2,c2,(zcq k hk).trans hb,(zcq j (fun e=>hm (by simp [L.tags,e]))).trans h2,hc⟩
end
theorem St.ren (h:St e f a w) (n m:Nat) (hm:New e.K f m):St e (f.ren n m) a w:=by
 obtain ⟨H,B,hok⟩:=h
 have hmn:f.l m=none:=hm.2.1
 have cls:∀ x l,(f.ren n m).l x=some l->∃ y l0,f.l y=some l0/\l=l0.ren n m/\y≠m/\x=(if Nat.beq y n then m else y):=by
  intro x l hx
  simp only [F.ren] at hx
  split at hx
  ·rename_i e1
   have e1:=bA e1
   simp only [cA] at hx
   obtain ⟨l0,h1,rfl⟩:=hx
   exact ⟨n,l0,h1,rfl,(fun e=>by rw [e,hmn] at h1;cases h1),by simp [e1]⟩
  ·rename_i e1
   split at hx
   ·cases hx
   ·rename_i e2
    simp only [cA] at hx
    obtain ⟨l0,h1,rfl⟩:=hx
    exact ⟨x,l0,h1,rfl,(fun e=>by rw [e,hmn] at h1;cases h1),by simp [e2]⟩
 refine ⟨H,swB B n m,hok.df,hok.n,hok.ext,hok.sat,?_,?_,?_,?_,hok.low,hok.le,?_,hok.tab⟩
 ·intro t v hv
  simp only [F.ren,cA] at hv
  obtain ⟨x,hx,rfl⟩:=hv
  exact VR.ren (hm.2.2.1 t x hx) (hok.slot t x hx)
 ·intro x l hx
  obtain ⟨y,l0,h1,rfl,h2,rfl⟩:=cls x l hx
  exact LR.ren h2 (hm.2.2.2 y l0 h1) (hok.loc y l0 h1)
 ·intro x l b c hx hb
  obtain ⟨y,l0,h1,rfl,h2,rfl⟩:=cls x l hx
  rw [zcq y h2] at hb
  exact hok.priv y l0 b c h1 hb
 ·intro x z l l' b c c' hx hz hb hb'
  obtain ⟨y,l0,h1,rfl,h2,rfl⟩:=cls x l hx
  obtain ⟨y', l0', h1', rfl,h2', rfl⟩:=cls z l' hz
  rw [zcq y h2] at hb
  rw [zcq y' h2'] at hb'
  rw [hok.inj y y' l0 l0' b c c' h1 h1' hb hb']
 ·intro x hx
  have:x≠m:=fun e=>hm.1 (e ▸ hx)
  simp only [swB,this,if_false]
  exact hok.keep x hx
def F.setS (f:F) (t:Nat) (v:V):F:=⟨fun x=>if Nat.beq x t then some v else f.s x,f.l⟩
def F.setL (f:F) (n:Nat) (l:L):F:=⟨f.s,fun x=>if Nat.beq x n then some l else f.l x⟩
theorem Ok.setS (h:Ok e f H B a w) (t:Nat) (v v':V) (hv:f.s t=some v) (hx:∀ u,VR H B v u->VR H B v' u):Ok e (f.setS t v') H B a w:=by
 refine ⟨h.df,h.n,h.ext,h.sat,?_,h.loc,h.priv,h.inj,h.low,h.le,h.keep,h.tab⟩
 intro x y hy
 simp only [F.setS] at hy
 split at hy
 ·rename_i e1
  have e1:=bA e1
  subst e1
  injection hy with hy
  subst hy
  exact hx _ (h.slot x v hv)
 ·exact h.slot x y hy
theorem Ok.setL (h:Ok e f H B a w) (n:Nat) (l l':L) (hl:f.l n=some l) (hx:LR H B w n l->LR H B w n l'):Ok e (f.setL n l') H B a w:=by
 have cls:∀ m x,(f.setL n l').l m=some x->∃ y,f.l m=some y:=by
  intro m x hm
  simp only [F.setL] at hm
  split at hm
  ·rename_i e1
   have e1:=bA e1
   subst e1
   exact ⟨l,hl⟩
  ·exact ⟨x,hm⟩
 refine ⟨h.df,h.n,h.ext,h.sat,h.slot,?_,?_,?_,h.low,h.le,h.keep,h.tab⟩
 ·intro m x hm
  simp only [F.setL] at hm
  split at hm
  ·rename_i e1
   have e1:=bA e1
   subst e1
   injection hm with hm
   subst hm
   exact hx (h.loc m l hl)
  ·exact h.loc m x hm
 ·intro m x b c hm hb
  obtain ⟨y,hy⟩:=cls m x hm
  exact h.priv m y b c hy hb
 ·intro m k x y b c c' hm hk hb hb'
  obtain ⟨x', hx'⟩:=cls m x hm
  obtain ⟨y', hy'⟩:=cls k y hk
  exact h.inj m k x' y' b c c' hx' hy' hb hb'
theorem Ok.nilName (h:Ok e f H B a w) (n es:Nat) (ty:TypeId) (hn:New e.K f n) :
  Ok e (f.setL n (.row ty es [])) H (fun x=>if x=n then none else B x) a w:=by
 have hB:∀ m,m≠n->(fun x=>if x=n then none else B x) m=B m:=fun m hm=>by simp [hm]
 refine ⟨h.df,h.n,h.ext,h.sat,?_,?_,?_,?_,h.low,h.le,?_,h.tab⟩
 ·intro t v hv
  exact VR.mono (Le.refl _) (fun m hm=>hB m fun e=>hn.2.2.1 t v hv (e ▸ hm)) (h.slot t v hv)
 ·intro m x hm
  simp only [F.setL] at hm
  split at hm
  ·rename_i e1
   have e1:=bA e1
   subst e1
   injection hm with hm
   subst hm
   simp [LR]
  ·rename_i e1
   have hne:m≠n:=fun e=>by simp [e] at e1
   exact LR.mono (Le.refl _) (hB m hne) (fun k hk=>hB k fun e=>hn.2.2.2 m x hm (e ▸ hk)) (fun _ _ _=>rfl) (h.loc m x hm)
 ·intro m x b c hm hb
  by_cases e1:m=n
  ·simp [e1] at hb
  ·simp only [if_neg e1] at hb
   simp only [F.setL] at hm
   rw [if_neg (fun e=>e1 (bA e))] at hm
   exact h.priv m x b c hm hb
 ·intro m k x y b c c' hm hk hb hb'
  by_cases e1:m=n
  ·simp [e1] at hb
  ·by_cases e2:k=n
   ·simp [e2] at hb'
   ·simp only [if_neg e1] at hb
    simp only [if_neg e2] at hb'
    simp only [F.setL] at hm hk
    rw [if_neg (fun e=>e1 (bA e))] at hm
    rw [if_neg (fun e=>e2 (bA e))] at hk
    exact h.inj m k x y b c c' hm hk hb hb'
 ·intro m hm
  exact (hB m fun e=>hn.1 (e ▸ hm)).trans (h.keep m hm)
def za6:Value:=.slice none 0 0
def V.getC:V->Nat->Option C
  | .t (.c x),0=>some x
  | .t (.agg cs),j=>cs[j]?
  | _,_=>none
def V.setC:V->Nat->C->V
  | .t (.c _),_,c => .t (.c c)
  | .t (.agg cs),j,c => .t (.agg (cs.set j c))
  | v,_,_=>v
theorem VR.setC {v:V} {j:Nat} {c c':C} (hg:v.getC j=some c) (hc:∀ u,CR H B c u->CR H B c' u) {u:Value} (h:VR H B v u):VR H B (v.setC j c') u:=by
 cases v with
 | tup xs=>cases hg
 | t x =>
  cases x with
  | c x =>
   cases j with
   | zero=>injection hg with hg;subst hg;exact hc u h
   | succ j=>cases hg
  | agg cs =>
   obtain ⟨vs,hv,h1⟩:=h
   refine ⟨vs,hv,zat.iff.2 ⟨by simpa using h1.length,fun i x y hx hy=>?_⟩⟩
   have hg:cs[j]?=some c:=by cases j <;> exact hg
   by_cases e:i=j
   ·subst e
    rw [cQ (bB.1 hg).1] at hx
    injection hx with hx
    subst hx
    exact hc _ ((zat.iff.1 h1).2 i c y hg hy)
   ·rw [cR (Ne.symm e)] at hx
    exact (zat.iff.1 h1).2 i x y hx hy
theorem LR.setC {j:Nat} {c c':C} (hg:cs[j]?=some c) (hc:∀ u,CR H B c u->CR H B c' u) (h:LR H B w n (.box cs)):LR H B w n (.box (cs.set j c')):=by
 obtain ⟨b,k,arr,ty,hb,hw,h1⟩:=h
 refine ⟨b,k,arr,ty,hb,hw,zat.iff.2 ⟨by simpa using h1.length,fun i x y hx hy=>?_⟩⟩
 by_cases e:i=j
 ·subst e
  rw [cQ (bB.1 hg).1] at hx
  injection hx with hx
  subst hx
  exact hc _ ((zat.iff.1 h1).2 i c y hg hy)
 ·rw [cR (Ne.symm e)] at hx
  exact (zat.iff.1 h1).2 i x y hx hy
theorem nil_data (es:Nat) {c:Nat} (h1:ao=none->c=0) (h2:c<=maxLen) (u:Value) (h:CR H B (.d (.raw (.slice ao 0 c))) u):CR H B (.d (.sl es [])) u:=by
 have:=VR.rawI (H:=H) (B:=B) h
 subst this
 exact DR.nil es ao c h1 h2
section
variable {e:E} {f:F} {a:Act} {w:World}
theorem St.nilOS (h:St e f a w) (t j n es:Nat) (ty:TypeId) {v:V} (hv:f.s t=some v) (hg:v.getC j=some (.d (.raw za6))) (hn:New e.K f n):St e ((f.setL n (.row ty es [])).setS t (v.setC j (.own n 0))) a w:=by
 obtain ⟨H,B,hok⟩:=h
 refine ⟨H,_,(hok.nilName n es ty hn).setS t v _ hv fun u hu=>VR.setC hg (fun u hu=>?_) hu⟩
 have:=VR.rawI (H:=H) (B:=fun x=>if x=n then none else B x) hu
 subst this
 simp [CR,za6]
theorem St.nilOL (h:St e f a w) (m j n es:Nat) (ty:TypeId) (hv:f.l m=some (.box cs)) (hg:cs[j]?=some (.d (.raw za6))) (hn:New e.K f n):St e ((f.setL n (.row ty es [])).setL m (.box (cs.set j (.own n 0)))) a w:=by
 obtain ⟨H,B,hok⟩:=h
 have hmn:m≠n:=fun e=>by have:=hn.2.1;rw [<- e,hv] at this;cases this
 refine ⟨H,_,(hok.nilName n es ty hn).setL m (.box cs) _ (by simp [F.setL,hmn,hv]) fun hu=>LR.setC hg (fun u hu=>?_) hu⟩
 have:=VR.rawI (H:=H) (B:=fun x=>if x=n then none else B x) hu
 subst this
 simp [CR,za6]
theorem St.nilDS (h:St e f a w) (t j es:Nat) {v:V} {c:Nat} (hv:f.s t=some v) (hg:v.getC j=some (.d (.raw (.slice ao 0 c)))) (h1:ao=none->c=0) (h2:c<=maxLen):St e (f.setS t (v.setC j (.d (.sl es [])))) a w:=by
 obtain ⟨H,B,hok⟩:=h
 exact ⟨H,B,hok.setS t v _ hv fun u hu=>VR.setC hg (nil_data es h1 h2) hu⟩
theorem St.nilDL (h:St e f a w) (m j es:Nat) {c:Nat} (hv:f.l m=some (.box cs)) (hg:cs[j]?=some (.d (.raw (.slice ao 0 c)))) (h1:ao=none->c=0) (h2:c<=maxLen):St e (f.setL m (.box (cs.set j (.d (.sl es []))))) a w:=by
 obtain ⟨H,B,hok⟩:=h
 exact ⟨H,B,hok.setL m (.box cs) _ hv fun hu=>LR.setC hg (nil_data es h1 h2) hu⟩
theorem St.rawE (h:St e f a w) (t es:Nat) (hv:f.s t=some (.t (.c (.d (.sl es []))))):∃ ao c,(ao=none->c=0)/\c<=maxLen/\St e (f.setS t (.t (.c (.d (.raw (.slice ao 0 c)))))) a w:=by
 obtain ⟨H,B,hok⟩:=h
 have h1:DR H (.sl es []) (a.tmps.getD t undef):=hok.slot t _ hv
 generalize hu:a.tmps.getD t undef=u at h1
 cases h1 with
 | nil _ ao c g1 g2 =>
  refine ⟨ao,c,g1,g2,H,B,?_⟩
  refine ⟨hok.df,hok.n,hok.ext,hok.sat,?_,hok.loc,hok.priv,hok.inj,hok.low,hok.le,hok.keep,hok.tab⟩
  intro x y hy
  simp only [F.setS] at hy
  split at hy
  ·rename_i e1
   have e1:=bA e1
   subst e1
   injection hy with hy
   subst hy
   rw [hu]
   exact DR.raw _ rfl
  ·exact hok.slot x y hy
 | sl _ _ b o c arr ty fz vs hp=>simp at hp
theorem St.cutR (h:St e f a w) (n k es:Nat) (ty:TypeId) (hl:f.l n=some (.row ty es rows)):St e (f.setL n (.row ty es (rows.take k))) a w:=by
 obtain ⟨H,B,hok⟩:=h
 refine ⟨H,B,hok.setL n _ _ hl fun hu=>?_⟩
 simp only [LR] at hu ⊢
 split at hu
 ·rw [hu];simp
 ·obtain ⟨arr,h1,h2,h3,h4,h5,h6⟩:=hu
  have h5':∀ r ∈ rows.take k,r.length=es:=fun r hr=>h5 r (dB hr)
  have h3':(rows.take k).length<=_:=bN (by rw [bH];omega) h3
  refine ⟨arr,h1,h2,h3', h4,h5', (zbc h2 h3' h5').2 fun i r hr f x hx=>?_⟩
  rw [bL] at hr
  split at hr
  ·exact (zbc h2 h3 h5).1 h6 i r hr f x hx
  ·cases hr
end
theorem Ok.renew {g:F} (h:Ok e f H B a w) {l:L} (hn:f.l n=some l) (hnew:New e.K f n') (p:Option (Nat × Nat))
  (ho:w'.os=w.os) (ht:w'.tape=w.tape) (hu:w'.output=w.output) (hz:w.heap.size<=w'.heap.size) (hk:∀ k,k<w.heap.size->(∀ c,B n≠some (k,c))->w'.heap[k]?=w.heap[k]?)
  (hp:∀ b c,p=some (b,c)->b<w'.heap.size/\((∃ c', B n=some (b,c'))\/w.heap.size<=b)) (lr:LR H (fun x=>if x=n' then p else B x) w' n' l')
  (hs:∀ t,g.s t=f.s t) (hl:∀ m,g.l m=if m=n' then some l' else if m=n then none else f.l m):Ok e g H (fun x=>if x=n' then p else B x) a w':=by
 have hB:∀ m,m≠n'->(fun x=>if x=n' then p else B x) m=B m:=fun m hm=>by simp [hm]
 have cls:∀ m x,g.l m=some x->(m=n'/\x=l')\/(m≠n'/\m≠n/\f.l m=some x):=by
  intro m x hm
  rw [hl] at hm
  split at hm
  ·rename_i e1;injection hm with hm;exact .inl ⟨e1,hm.symm⟩
  ·rename_i e1
   split at hm
   ·cases hm
   ·rename_i e2;exact .inr ⟨e1,e2,hm⟩
 refine ⟨h.df,h.n,⟨ho.trans h.ext.os,ht.trans h.ext.tape,hu.trans h.ext.output,bN h.ext.size hz,?_⟩,?_,?_,?_,?_,?_,h.low,h.le,?_,h.tab⟩
 ·intro b hb hm
  have:=h.ext.size
  rw [hk b (by omega) fun c hc=>?_]
  ·exact h.ext.block b hb hm
  ·rcases (h.priv n l b c hn hc).2.2 with h1 | h1
   ·exact hm h1
   ·omega
 ·intro b o hb
  have h1:=h.sat b o hb
  have:b<w.heap.size:=(bR.1 h1).1
  rw [hk b this fun c hc=>?_]
  ·exact h1
  ·rw [(h.priv n l b c hn hc).2.1] at hb;cases hb
 ·intro t v hv
  rw [hs] at hv
  exact VR.mono (Le.refl _) (fun m hm=>hB m fun e=>hnew.2.2.1 t v hv (e ▸ hm)) (h.slot t v hv)
 ·intro m x hm
  rcases cls m x hm with ⟨rfl,rfl⟩ | ⟨h1,h2,h3⟩
  ·exact lr
  ·refine LR.mono (Le.refl _) (hB m h1) (fun k hk2=>hB k fun e=>hnew.2.2.2 m x h3 (e ▸ hk2)) (fun b c hb=>?_) (h.loc m x h3)
   refine hk b (h.priv m x b c h3 hb).1 fun c' hc'=>h2 (h.inj m n x l b c c' h3 hn hb hc')
 ·intro m x b c hm hb
  rcases cls m x hm with ⟨rfl,rfl⟩ | ⟨h1,h2,h3⟩
  ·simp only [if_true] at hb
   obtain ⟨h4,h5⟩:=hp b c hb
   refine ⟨h4,?_⟩
   rcases h5 with ⟨c', hc'⟩ | h5
   ·exact (h.priv n l b c' hn hc').2
   ·refine ⟨?_,.inr (bN h.ext.size h5)⟩
    cases hq:H b with
    | none=>rfl
    | some o=>have:=(bR.1 (h.sat b o hq)).1;omega
  ·simp only [if_neg h1] at hb
   obtain ⟨h4,h5⟩:=h.priv m x b c h3 hb
   exact ⟨cV h4 hz,h5⟩
 ·have cross:∀ m x b c c', m≠n->f.l m=some x->B m=some (b,c)->p=some (b,c')->False:=by
   intro m x b c c' h2 h3 hb hb'
   rcases (hp b c' hb').2 with ⟨c2,hc2⟩ | h5
   ·exact h2 (h.inj m n x l b c c2 h3 hn hb hc2)
   ·have:=(h.priv m x b c h3 hb).1;omega
  intro m k x y b c c' hm hk2 hb hb'
  rcases cls m x hm with ⟨rfl,rfl⟩ | ⟨h1,h2,h3⟩ <;> rcases cls k y hk2 with ⟨rfl,rfl⟩ | ⟨j1,j2,j3⟩
  ·rfl
  ·simp only [if_true] at hb
   simp only [if_neg j1] at hb'
   exact (cross k y b c' c j2 j3 hb' hb).elim
  ·simp only [if_true] at hb'
   simp only [if_neg h1] at hb
   exact (cross m x b c c' h2 h3 hb hb').elim
  ·simp only [if_neg h1] at hb
   simp only [if_neg j1] at hb'
   exact h.inj m k x y b c c' h3 j3 hb hb'
 ·intro m hm
  exact (hB m fun e=>hnew.1 (e ▸ hm)).trans (h.keep m hm)
structure ElT (P:Program) (t el:TypeId) (es bs:Nat):Prop where
  hu:P.underlying t=some (.slice el)
  ex:∃ i z,P.info? el=some i/\i.zero=some z/\i.size=es/\i.bytes=bs/\z.cells.size=es
  pos:0<es
  bpos:0<bs
theorem ElT.mk' {t:TypeId} (hu:P.underlying t=some (.slice el)) (i:TypeInfo) (z:Value) (h1:P.info? el=some i) (h2:i.zero=some z) (h3:i.size=es := by kernel_rfl) (h4:i.bytes=bs := by kernel_rfl) (h5:z.cells.size=es := by kernel_rfl) (h6:0<es := by decide) (h7:0<bs := by decide):ElT P t el es bs:=⟨hu,⟨i,z,h1,h2,h3,h4,h5⟩,h6,h7⟩
section
variable {P:Program}
theorem append_fresh {i:TypeInfo} (hu:P.underlying xt=some (.slice el)) (hi:P.info? el=some i) (hz:i.zero=some z) (hsz:i.size=es)
  {xs:List Value} (hown:w.ownsRow 0 el es v n xs) {a:Addr} {c:Nat} (hm:0<m) {news:List Value} (hl:news.length=m*es) (hnews:∀ j u,news[j]?=some u->w.cell? (a.add j)=some u) (h1:∀ u ∈ news,u.oneCell'=true)
  (h63:n+m<=maxLen) (hb:(n+m)*i.bytes<=140737488355328) {v':Value} (hr:(Builtin.append_ #[xt,xt] ty #[v,.slice (some a) m c]).run P w = .ok v' w'):∀ g,v'.ownBlock=some g->v.ownBlock=some g\/g=w.heap.size:=by
 subst hsz
 have hsmall:n+m<=9223372036854775807:=by simp only [maxLen] at h63;omega
 intro g hg
 rcases hown.2 with ⟨rfl,rfl⟩ | ⟨g2,cap,cur,rfl,_,hg2,hnc,hcm,hcs,htake⟩
 ·have h2:=run_append_nil (P:=P) w xt ty el i z hu hi hz a m c news hl hnews hm (by omega) (by have:=hb;simp only [bV] at this;omega)
  rw [h2] at hr
  injection hr with hr _
  subst hr
  simp [Value.ownBlock] at hg
  exact .inr hg.symm
 ·by_cases hroom:n+m<=cap
  ·have hfit:n*i.size+news.length<=cur.size:=by rw [hl,hcs,<- bQ];exact bO _ hroom
   have h2:=run_append_room (P:=P) w xt ty el i hu hi g2 n cap cur hg2 a m c news hl hnews h1 hroom hfit
   rw [h2] at hr
   injection hr with hr _
   subst hr
   exact .inl hg
  ·have holds:∀ j u,xs[j]?=some u->w.cell? ((⟨g2,0,none⟩:Addr).add j)=some u:=hown.cells (g:=g2) rfl
   have h2:=run_append_grow (P:=P) w xt ty el i z hu hi hz ⟨g2,0,none⟩ n cap xs hown.1 holds a m c news hl hnews (by omega) (by omega) (growslice_fits (by omega) hb)
   rw [h2] at hr
   injection hr with hr _
   subst hr
   simp [Value.ownBlock] at hg
   exact .inr hg.symm
theorem append_base0 {i:TypeInfo} (hu:P.underlying xt=some (.slice el)) (hi:P.info? el=some i) (hz:i.zero=some z) (hsz:i.size=es)
  (a0:Addr) {a:Addr} {c:Nat} {news:List Value} (hl:news.length=m*es) (hnews:∀ j u,news[j]?=some u->w.cell? (a.add j)=some u) (hm:0<m) (h63:m<=maxLen) (hb:m*i.bytes<=140737488355328) :
  (Builtin.append_ #[xt,xt] ty #[.slice (some a0) 0 0,.slice (some a) m c]).run P w=(Builtin.append_ #[xt,xt] ty #[.slice none 0 0,.slice (some a) m c]).run P w:=by
 subst hsz
 have hsmall:m<=9223372036854775807:=by simp only [maxLen] at h63;omega
 rw [run_append_nil (P:=P) w xt ty el i z hu hi hz a m c news hl hnews hm (by omega) (by omega),run_append_grow (P:=P) w xt ty el i z hu hi hz a0 0 0 [] (by simp) (by simp) a m c news hl hnews (by omega) (by omega) (growslice_fits (by omega) (by simpa using hb))]
 simp
theorem zdx {o:Oper} {g:F} {d:Nat} (hd:o.dst=some d) (hrun:(execOp a.eval o).run P w = .ok (.value v) w') (h:St e g (a.put (some d) v) w') :
  Oper.wp P o a w (fun a' w'=>St e g a' w') Q:=by
 unfold Oper.wp
 rw [hrun,Oper.upon_value,hd]
 exact h
theorem DR.cellsAt (hsat:∀ b o,H b=some o->w.heap[b]?=some o) {arr:Array Value} {vs:Nat->Nat->Value} (hb:H b=some (.cells arr ty fz)) (hes:∀ i (hi:i<rows.length),(rows[i]'hi).length=es)
  (hv:∀ i (_:i<rows.length) j,j<es->arr[o+i*es+j]?=some (vs i j)) (hr:∀ i (hi:i<rows.length) j (hj:j<rows[i].length),DR H rows[i][j] (vs i j)) :
  ∃ news:List Value,news.length=rows.length*es/\(∀ j u,news[j]?=some u->w.cell? ((⟨b,o,none⟩:Addr).add j)=some u)/\RowAt H news es rows/\(∀ u ∈ news,u.oneCell'=true):=by
 have hw:=hsat b _ hb
 have hget:∀ j,j<rows.length*es->0<es/\j / es<rows.length/\j % es<es/\j=j / es*es+j % es:=by
  intro j hj
  have he:0<es:=c7 fun e=>by simp [e] at hj
  exact ⟨he,Nat.div_lt_of_lt_mul (by rw [bT];exact hj),Nat.mod_lt _ he,by rw [bT];exact (c8 j es).symm⟩
 refine ⟨(List.range (rows.length*es)).map fun j=>vs (j / es) (j % es),by simp,?_,?_,?_⟩
 ·intro j u hu
  rw [bY] at hu
  by_cases hj:j<rows.length*es
  ·rw [List.getElem?_range hj] at hu
   injection hu with hu
   obtain ⟨h1,h2,h3,h4⟩:=hget j hj
   rw [Addr.add_mid]
   have:=hv (j / es) h2 (j % es) h3
   rw [cD,<- h4] at this
   subst hu
   simp [World.cell?, hw,this]
  ·rw [cT (by simpa using hj)] at hu;cases hu
 ·intro i r hri f x hx
  obtain ⟨hi,rfl⟩:=bB.1 hri
  obtain ⟨hf,rfl⟩:=bB.1 hx
  have hf':f<es:=by rw [<- hes i hi];exact hf
  have hlt:i*es+f<rows.length*es:=by
   have:(i+1)*es<=rows.length*es:=bO _ hi
   rw [bQ] at this;omega
  have e1:(i*es+f) / es=i:=by rw [bT,Nat.mul_add_div (by omega)];simp [Nat.div_eq_of_lt hf']
  have e2:(i*es+f) % es=f:=by rw [bT,Nat.mul_add_mod];exact Nat.mod_eq_of_lt hf'
  refine ⟨vs i f,?_,hr i hi f hf⟩
  rw [bY,List.getElem?_range hlt]
  simp [e1,e2]
 ·intro u hu
  simp only [bE,bS] at hu
  obtain ⟨j,hj,rfl⟩:=hu
  obtain ⟨h1,h2,h3,h4⟩:=hget j hj
  exact zf3 (DR.flat (hr (j / es) h2 (j % es) (by rw [hes _ h2];exact h3)))
def OwnR {α:Type} (R:α->Value->Prop) (w:World) (el:TypeId) (es:Nat) (rows:List (List α)) (v:Value):Option (Nat × Nat)->Prop
  | none=>rows=[]/\∃ ao,v = .slice ao 0 0
  | some (b,c)=>v = .slice (some ⟨b,0,none⟩) rows.length c/\∃ arr:List Value,w.heap[b]?=some (.cells ⟨arr⟩ el (0,0))/\arr.length=c*es/\rows.length<=c/\c<=maxLen/\(∀ r ∈ rows,r.length=es)/\zh5 R arr es rows
def SrcR {α:Type} (R:α->Value->Prop) (w:World) (es:Nat) (rows:List (List α)) (v:Value):Prop :=
  (rows=[]/\∃ ao c,v = .slice ao 0 c)\/(0<rows.length/\∃ b o c news,v = .slice (some ⟨b,o,none⟩) rows.length c/\news.length=rows.length*es/\(∀ j u,news[j]?=some u->w.cell? ((⟨b,o,none⟩:Addr).add j)=some u)/\zh5 R news es rows/\(∀ u ∈ news,u.oneCell'=true))
theorem Ok.ownD (h:Ok e f H B a w) (hl:f.l n=some (.row el es rows)) (h1:CR H B (.own n rows.length) v):OwnR (DR H) w el es rows v (B n):=by
 simp only [CR] at h1
 cases hB:B n with
 | none=>rw [hB] at h1;obtain ⟨h3,h4⟩:=h1;exact ⟨cO.1 h3,h4⟩
 | some q=>rw [hB] at h1;exact ⟨h1,h.row hl hB⟩
section
variable {α:Type} {R:α->Value->Prop} {w:World} {el:TypeId} {es:Nat} {rows:List (List α)} {v:Value} {p:Option (Nat × Nat)}
theorem OwnR.hes (h:OwnR R w el es rows v p):∀ r ∈ rows,r.length=es:=by
 cases p with
 | none=>obtain ⟨rfl,_⟩:=h;intro r hr;cases hr
 | some q=>obtain ⟨_,_,_,_,_,_,h,_⟩:=h;exact h
theorem OwnR.cr (h:OwnR R w el es rows v p) (hB:B n=p) (hk:rows.length=k):CR H B (.own n k) v:=by
 subst hk hB
 simp only [CR]
 cases hB:B n with
 | none=>rw [hB] at h;obtain ⟨rfl,h⟩:=h;exact ⟨rfl,h⟩
 | some q=>rw [hB] at h;exact h.1
theorem OwnR.take (h:OwnR R w el es rows v p):(rows=[]/\∃ ao,v = .slice ao 0 0)\/∃ b c arr,p=some (b,c)/\v = .slice (some ⟨b,0,none⟩) rows.length c/\w.heap[b]?=some (.cells ⟨arr⟩ el (0,0))/\arr.length=c*es/\rows.length<=c/\c<=maxLen/\(∀ r ∈ rows,r.length=es)/\zh5 R (arr.take (rows.length*es)) es rows:=by
 cases p with
 | none=>exact .inl h
 | some q =>
  obtain ⟨b,c⟩:=q
  obtain ⟨h2,arr,g1,g2,g3,g4,g5,g6⟩:=h
  refine .inr ⟨b,c,arr,rfl,h2,g1,g2,g3,g4,g5,fun i r hri f x hx2=>?_⟩
  obtain ⟨u,k1,k2⟩:=g6 i r hri f x hx2
  refine ⟨u,?_,k2⟩
  have hi2:=(bB.1 hri).1
  have hf2:=(bB.1 hx2).1
  rw [g5 r (bP hri)] at hf2
  have:(i+1)*es<=rows.length*es:=bO _ hi2
  rw [bQ] at this
  rw [bL,if_pos (by omega)];exact k1
theorem OwnR.src (hR:∀ x u,R x u->flat u=true) (h:OwnR R w el es rows v p):SrcR R w es rows v:=by
 rcases h.take with ⟨h3,ao,h4⟩ | ⟨b,c,arr,_,h2,g1,g2,g3,g4,g5,g6⟩
 ·exact .inl ⟨h3,ao,0,h4⟩
 ·by_cases hz0:rows.length=0
  ·exact .inl ⟨cO.1 hz0,_,c,by rw [h2,hz0]⟩
  ·have hle:rows.length*es<=c*es:=bO _ g3
   refine .inr ⟨by omega,b,0,c,_,h2,by rw [bH];omega,fun j u hu=>?_,g6,fun u hu=>?_⟩
   ·rw [bL] at hu
    split at hu
    ·rw [Addr.add_mid,bV];simp [World.cell?, g1,hu]
    ·cases hu
   ·obtain ⟨j,hj⟩:=List.mem_iff_getElem?.1 hu
    have hj1:=(bB.1 hj).1
    rw [bH] at hj1
    have hes0:0<es:=c7 fun e=>by simp [e] at hj1
    have h5:j / es<rows.length:=Nat.div_lt_of_lt_mul (by rw [bT];omega)
    have h6:j % es<es:=Nat.mod_lt _ hes0
    have h7:(rows[j / es]'h5).length=es:=g5 _ (dA h5)
    obtain ⟨u2,k1,k2⟩:=g6 (j / es) _ (bG h5) (j % es) _ (bG (by rw [h7];exact h6))
    have h8:j / es*es+j % es=j:=by rw [bT];exact c8 j es
    rw [h8,hj] at k1
    injection k1 with k1
    subst k1
    exact zf3 (hR _ _ k2)
theorem zgl {rows2:List (List α)} {vu:Value} (hT:ElT P xt el es bs) (h1:OwnR R w el es rows v p) (hes2:∀ r ∈ rows2,r.length=es) (hsrc:SrcR R w es rows2 vu) (hb:(rows.length+rows2.length)*bs<=140737488355328) :
  ∃ v' w' p', (Builtin.append_ #[xt,xt] ty #[v,vu]).run P w = .ok v' w'/\OwnR R w' el es (rows++rows2) v' p'/\w'.os=w.os/\w'.tape=w.tape/\w'.output=w.output/\w.heap.size<=w'.heap.size/\(∀ k,k<w.heap.size->(∀ c,p≠some (k,c))->w'.heap[k]?=w.heap[k]?) /\
   (∀ b c,p'=some (b,c)->b<w'.heap.size/\((∃ c', p=some (b,c'))\/w.heap.size<=b)):=by
 obtain ⟨i,z,hi,hz,hsz,hby,hzs⟩:=hT.ex
 have hml:rows.length+rows2.length<=maxLen:=by
  have:(rows.length+rows2.length)*1<=(rows.length+rows2.length)*bs:=cU _ hT.bpos
  simp only [maxLen];omega
 have hall:∀ r ∈ rows++rows2,r.length=es:=fun r hr=>(bW.1 hr).elim (h1.hes r) (hes2 r)
 rcases hsrc with ⟨rfl,ao,c,rfl⟩ | ⟨hp,b,o,c,news,rfl,n1,n2,n3,n4⟩
 ·have hrun:∀ base m cap,m<=cap->(Builtin.append_ #[xt,xt] ty #[.slice base m cap,.slice ao 0 c]).run P w = .ok (.slice base m cap) w:=by
   intro base m cap hmc
   cases ao <;> cases base <;> simp [Builtin.append_,run_underlying hT.hu,sizeOf,typeInfo,hi,Builtin.lenOf,hmc,Builtin.firstCells,loadCells,loadCellsFrom,storeCells]
  refine ⟨v,w,p,?_,by rw [List.append_nil];exact h1,rfl,rfl,rfl,bM _,fun _ _ _=>rfl,fun b c hb=>⟨?_,.inl ⟨c,hb⟩⟩⟩
  ·rcases h1.take with ⟨_,ao0,rfl⟩ | ⟨b,c,arr,_,rfl,_,_,g3,_⟩
   ·exact hrun ao0 0 0 (bM _)
   ·exact hrun _ _ _ g3
  ·subst hb;obtain ⟨_,arr,g1,_⟩:=h1;exact (bR.1 g1).1
 ·obtain ⟨vt0,hvt0,hblk,xs,hown,hxs⟩:∃ vt0,(Builtin.append_ #[xt,xt] ty #[v,.slice (some ⟨b,o,none⟩) rows2.length c]).run P w=(Builtin.append_ #[xt,xt] ty #[vt0,.slice (some ⟨b,o,none⟩) rows2.length c]).run P w/\(∀ g,vt0.ownBlock=some g->∃ c,p=some (g,c))/\∃ xs,w.ownsRow 0 el es vt0 rows.length xs/\zh5 R xs es rows:=by
   rcases h1.take with ⟨rfl,ao0,rfl⟩ | ⟨b2,cc,arr2,hq,h2,g1,g2,g3,g4,g5,g6⟩
   ·refine ⟨.slice none 0 0,?_,(fun g hg=>by cases hg),[],⟨by simp,.inl ⟨rfl,rfl⟩⟩,fun i r hr=>by simp at hr⟩
    cases ao0 with
    | none=>rfl
    | some a0=>exact append_base0 hT.hu hi hz hsz a0 n1 n2 hp (by simpa using hml) (by rw [hby];simpa using hb)
   ·have hle:rows.length*es<=cc*es:=bO _ g3
    exact ⟨v,rfl,fun g hg=>⟨cc,by rw [h2] at hg;simp only [Value.ownBlock] at hg;injection hg with hg;rw [<- hg];exact hq⟩,arr2.take (rows.length*es),⟨by rw [bH];omega,.inr ⟨b2,cc,⟨arr2⟩,h2,cH _,g1,g3,g4,by simpa using g2,rfl⟩⟩,g6⟩
  obtain ⟨v', w', r1,r2,r3,r4⟩:=run_append_own (P:=P) w 0 xt ty el i z es bs hT.hu hi hz hsz hby hzs hT.pos vt0 rows.length xs hown ⟨b,o,none⟩ rows2.length c news n1 n2 n4 hml hb (cH _)
  have hboth:zh5 R (xs++news) es (rows++rows2):=by
   intro i2 r hri f x hx2
   by_cases hlt:i2<rows.length
   ·rw [cN hlt] at hri
    obtain ⟨u,k1,k2⟩:=hxs i2 r hri f x hx2
    exact ⟨u,by rw [cN (bB.1 k1).1];exact k1,k2⟩
   ·rw [cZ (by omega)] at hri
    obtain ⟨u,k1,k2⟩:=n3 _ r hri f x hx2
    refine ⟨u,?_,k2⟩
    have hq:rows.length*es<=i2*es:=bO _ (by omega)
    rw [cZ (by rw [hown.1];omega),hown.1,<- k1]
    congr 1
    rw [Nat.sub_mul];omega
  obtain ⟨q1,q2⟩:=r2
  rcases q2 with ⟨_,hn0⟩ | ⟨g,cap,cur,rfl,_,k2,k3,k4,k5,k6⟩
  ·omega
  ·refine ⟨_,w', some (g,cap),hvt0.trans r1,?_,r3.os,r3.tape,r3.output,r3.size,fun k hk hnk=>r3.block k hk fun e=>?_,?_⟩
   ·refine ⟨by rw [cP],cur.toList,k2,by simpa using k5,by simpa using k3,k4,hall,fun i2 r hri f x hx2=>?_⟩
    obtain ⟨u,j1,j2⟩:=hboth i2 r hri f x hx2
    refine ⟨u,?_,j2⟩
    rw [<- k6,bL] at j1
    split at j1
    ·exact j1
    ·cases j1
   ·obtain ⟨c', e⟩:=hblk k e.symm;exact hnk c' e
   ·rintro b3 c3 e3
    injection e3 with e3
    injection e3 with e3 e4
    subst e3 e4
    refine ⟨(bR.1 k2).1,?_⟩
    rcases append_fresh hT.hu hi hz hsz hown hp n1 n2 n4 hml (by rw [hby];exact hb) r1 g rfl with hh | hh
    ·exact .inl (hblk g hh)
    ·exact .inr (by omega)
end
theorem Op.appG {d u:Nat} {pos af gd} {rl:List (Nat × L)} {l:L} (hl:(n,l) ∈ rl)
  (h:∀ (e:E) (f:F) (H:Im) (B:Bl) (a:Act) (w:World),Ok e f H B a w->(∀ p ∈ rs,f.s p.1=some p.2)->(∀ p ∈ rl,f.l p.1=some p.2)->New e.K f n'->∃ v w' p,(Builtin.append_ #[xt,xt] ty #[a.eval (.tmp t),a.eval (.tmp u)]).run P w = .ok v w'/\CR H (fun x=>if x=n' then p else B x) (.own n' k) v/\LR H (fun x=>if x=n' then p else B x) w' n' l' /\
   w'.os=w.os/\w'.tape=w.tape/\w'.output=w.output/\w.heap.size<=w'.heap.size/\(∀ k,k<w.heap.size->(∀ c,B n≠some (k,c))->w'.heap[k]?=w.heap[k]?)/\(∀ b c,p=some (b,c)->b<w'.heap.size/\((∃ c', B n=some (b,c'))\/w.heap.size<=b))) :
  zar P ⟨some d,.call { callee:=.builtin .append,args:=#[.tmp t,.tmp u],argTypes:=#[xt,xt] }, ty,pos,af,gd⟩ { rs:=rs,rl:=rl,ws:=[(d,some (.t (.c (.own n' k))))],wl:=[(n', some l'),(n,none)],nw:=[n'] }:=by
 rintro e f a w Q ⟨H,B,hok⟩ hr hnw hb0
 have hnew:=hnw n' (by simp)
 obtain ⟨v,w', p,r1,r2,r3,r4,r5,r6,r7,r8,r9⟩:=h e f H B a w hok hr.1 hr.2 hnew
 have hok':Ok e ⟨f.s,fun m=>if m=n' then some l' else if m=n then none else f.l m⟩ H (fun x=>if x=n' then p else B x) a w' :=
  hok.renew (hr.2 _ hl) hnew p r4 r5 r6 r7 r8 r9 r3 (fun _=>rfl) (fun _=>rfl)
 refine zdx (d:=d) rfl ?_ ⟨H,_,hok'.put (x:=some (.t (.c (.own n' k)))) (hb0.1 (d,some (.t (.c (.own n' k)))) (by simp)) (zek f d _ _ rfl) (fun m=>?_) (fun y hy=>by injection hy with hy;subst hy;exact r2)⟩
 ·generalize a.eval=ρ at r1 ⊢
  have e1:(Array.map ρ #[.tmp t,.tmp u])=#[ρ (.tmp t),ρ (.tmp u)]:=by simp
  simp only [execOp,resolve,e1,Sem.run_bind,Sem.run_pure,Result.andThen_ok,invoke,builtin,r1]
 ·simp only [F.app,List.lookup]
  by_cases e1:m=n'
  ·simp [e1]
  ·have g1:(m == n')=false:=by simpa using e1
   by_cases e2:m=n
   ·subst e2;simp [g1,e1]
   ·have g2:(m == n)=false:=by simpa using e2
    simp [g1,g2,e1,e2]
theorem OwnR.lrD {p:Option (Nat × Nat)} (h:OwnR (DR H) w el es rows v p) (hB:B n=p):LR H B w n (.row el es rows):=by
 subst hB
 simp only [LR]
 cases hB:B n with
 | none=>rw [hB] at h;exact h.1
 | some q=>rw [hB] at h;obtain ⟨_,arr,g1,g2,g3,g4,g5,g6⟩:=h;exact ⟨arr,g1,g2,g3,g4,g5,(zbc g2 g3 g5).2 g6⟩
theorem DR.src (h:DR H (.sl es rows) v) (hsat:∀ b o,H b=some o->w.heap[b]?=some o):SrcR (DR H) w es rows v:=by
 cases h with
 | nil _ ao c _ _=>exact .inl ⟨rfl,ao,c,rfl⟩
 | sl _ _ b o c arr ty' fz vs hp hbH hl2 hc hes hv hx =>
  obtain ⟨news,n1,n2,n3,n4⟩:=DR.cellsAt hsat hbH hes hv hx
  exact .inr ⟨hp,b,o,c,news,rfl,n1,n2,n3,n4⟩
theorem Op.appOD {d u len len':Nat} {rows2 rows':List (List D)} {pos af gd} (hT:ElT P xt el es bs) (hlen:len=rows.length) (hlen':len'=len+rows2.length) (hrow:rows++rows2=rows')
  (hes2:∀ r ∈ rows2,r.length=es) (hb:(len+rows2.length)*bs<=140737488355328) :
  zar P ⟨some d,.call { callee:=.builtin .append,args:=#[.tmp t,.tmp u],argTypes:=#[xt,xt] }, ty,pos,af,gd⟩
   { rs:=[(t,.t (.c (.own n len))),(u,.t (.c (.d (.sl es rows2))))],rl:=[(n,.row el es rows)],ws:=[(d,some (.t (.c (.own n' len'))))],wl:=[(n', some (.row el es rows')),(n,none)],nw:=[n'] }:=by
 subst hlen hlen' hrow
 refine Op.appG (List.mem_singleton.2 rfl) fun e f H B a w hok hs hl hnew=>?_
 have h2:DR H (.sl es rows2) (a.eval (.tmp u)):=hok.slot u _ (hs (u,.t (.c (.d (.sl es rows2)))) (by simp))
 obtain ⟨v,w', p,r1,r2,r⟩:=zgl (ty:=ty) hT (hok.ownD (hl (n,.row el es rows) (by simp)) (hok.slot t _ (hs (t,.t (.c (.own n rows.length))) (by simp)))) hes2 (h2.src hok.sat) hb
 exact ⟨v,w', p,r1,r2.cr (if_pos rfl) cP,r2.lrD (if_pos rfl),r⟩
end
abbrev zF0:List C:=[.d (.raw (.int .i64 0)),.d (.raw za6),.d (.raw (.bool false)),.d (nsl []),.d (.raw (.bool false)),.d (.raw za6)]
abbrev zR0:List C:=[.d (.raw za6),.d (.raw (.bool false)),.d (nsl []),.d (.raw (.bool false))]
abbrev zT0:List C:=[.d (.raw za6),.d (.raw (.bool false)),.d (nsl [])]
theorem aD (d t u n n':Nat) (X Y:List α) (F:α->List D) {pos af gd} (hT:ElT P xt el es bs) (hes2:∀ r ∈ Y.map F,r.length=es) (hb:(X.length+(Y.map F).length)*bs<=140737488355328:=by first | omega | (simp at *;done) | (simp at *;omega)) :
    zar P ⟨some d,.call { callee:=.builtin .append,args:=#[.tmp t,.tmp u],argTypes:=#[xt,xt] }, ty,pos,af,gd⟩
      { rs:=[(t,.t (.c (.own n X.length))),(u,.t (.c (.d (.sl es (Y.map F)))))],rl:=[(n,.row el es (X.map F))],ws:=[(d,some (.t (.c (.own n' (X++Y).length))))],wl:=[(n', some (.row el es ((X++Y).map F))),(n,none)],nw:=[n'] } :=
  Op.appOD hT (bJ _).symm (by rw [cP,bJ]) (List.map_append ..).symm hes2 hb
abbrev nCl:C:=.d (.raw za6)
end S
end Go.Proofs.YtjnkkdfojfjncaaGreat
