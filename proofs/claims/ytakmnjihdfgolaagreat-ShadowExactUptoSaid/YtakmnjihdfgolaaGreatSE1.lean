/-
  Part 1 of the proof of the statement ShadowExact. It holds for every input.
-/
import Derived.WalkKit
import Derived.Test.YtakmnjihdfgolaaGreatProg
import Derived.WalkSpells
import Derived.WalkLawsBesides
import Derived.Laws.AppendOwnNone
import Derived.Laws.CopyOwn
import Derived.Lib.Hide
import Derived.Deep.QuietTactic
import Derived.BigQuiet
import Derived.Deep.LoopGhost
import Derived.Deep.RegionHeld3
import Derived.Deep.DeepCutAuto
import Derived.StillTail
import Derived.Below
import Derived.Deep.MidRow
import Derived.Laws.StructEq
import Derived.IntWalk
set_option maxRecDepth 100000
set_option maxHeartbeats 20000000
open Go.RowKit
open Nat renaming le_refl->bC,mul_add->bE,mul_assoc->bJ,mul_comm->bP,le_trans->bS,min_eq_left->bU,lt_or_ge->bW,zero_add->bX,zero_le->cF,add_assoc->cL,mul_le_mul_left->cN,lt_of_lt_of_le->cO,sub_le->cP,lt_of_le_of_lt->cT,eq_zero_or_pos->cX,mul_one->cY,add_mul->cZ,eq_of_beq_eq_true->dQ
open List renaming length_take->bF,mem_map->bG,getD_eq_getElem?_getD->bI,all_eq_true->bK,mem_flatMap->bL,length_eq_zero_iff->bV,getElem?_eq_some_iff->cC,mem_range->cD,length_drop->cE,mem_append_right->cG,length_cons->cK,take_of_length_le->cM,mem_append_left->cU,mem_filter->cV,mem_append->cW,mem_cons->dB,getElem?_eq_none->dC,length_append->dD,length_nil->dE,map_cons->dG,getElem?_drop->dH,cons_append->dI,take_add_one->dJ,drop_length->dL,getElem?_map->dM,length_set->dN,drop_eq_nil_of_le->dO,length_map->dP,mem_cons_of_mem->dR,range_eq_range'->dU,getElem?_eq_getElem->dV,eq_of_mem_replicate->dW,pairwise_lt_range->dZ,mem_of_getElem?->eA,getElem_cons_zero->eB
open Array renaming getD_eq_getD_getElem?->bN,getElem?_eq_getElem->cJ,getElem?_eq_some_iff->cQ,getElem?_setIfInBounds_ne->dY
open Bool renaming and_eq_true->cH,false_eq_true->dA,or_eq_true->dS
open Int renaming eq_ofNat_of_zero_le->dX
open Go.Proofs.Tryz renaming prog->eC
namespace Go.Proofs.YtakmnjihdfgolaaGreat
variable {m n i k b y carry t:Nat} {zs xs ys:List Nat} {w' w0 wi:World} {p:Addr} {v:Value} {ao:Option Addr} {P:Program} {ops:Array Oper} {rest:List Oper} {o:Oper} {a:Act} {Q:Exit->Act->World->Prop} {s:Bool}
def lim (zs:List Nat) (i:Nat):Nat:=zs.getD i 0
def Lb (zs:List Nat):Prop:=∀ z ∈ zs,z<4294967296
def pw (n:Nat):Nat:=4294967296 ^ n
def nV:List Nat->Nat
  | []=>0
  | x :: xs=>x+4294967296*nV xs
def vk (zs:List Nat) (k:Nat):Nat:=nV (zs.take k)
def zbt (zs:List Nat):Prop:=Lb zs/\(0<zs.length->lim zs (zs.length - 1)≠0)
theorem pw_zero:pw 0=1:=rfl
theorem zai (n:Nat):pw (n+1)=4294967296*pw n:=by unfold pw;rw [Nat.pow_succ,bP]
theorem ze9 (n:Nat):0<pw n:=Nat.pow_pos (by omega)
theorem ze6 (m n:Nat):pw (m+n)=pw m*pw n:=Nat.pow_add _ _ _
theorem zd2 (h:m<=n):pw m<=pw n:=Nat.pow_le_pow_right (by omega) h
theorem zbe (h:zs.length<=i):lim zs i=0:=by
 unfold lim;rw [bI,dC h];rfl
theorem zat (h:Lb zs) (i:Nat):lim zs i<4294967296:=by
 by_cases hi:i<zs.length
 ·have:lim zs i=zs[i]:=by unfold lim;simp [bI,hi]
  rw [this];exact h _ (List.getElem_mem hi)
 ·rw [zbe (by omega)];omega
theorem zhf (h:i<k):lim (zs.take k) i=lim zs i:=by
 unfold lim;simp [bI,h]
theorem zhg (zs:List Nat) (k i:Nat):lim (zs.drop k) i=lim zs (k+i):=by
 unfold lim;simp [bI,dH]
theorem zbj (h:i<zs.length):zs[i]?=some (lim zs i):=by
 unfold lim;simp [bI,h]
theorem list_ext_lim (hl:xs.length=ys.length) (h:∀ i,i<xs.length->lim xs i=lim ys i):xs=ys:=by
 apply List.ext_getElem? 
 intro i
 by_cases hi:i<xs.length
 ·rw [zbj hi,zbj (by omega),h i hi]
 ·rw [dC (by omega),dC (by omega)]
theorem val_nil:nV []=0:=rfl
theorem zfe (x:Nat) (xs:List Nat):nV (x :: xs)=x+4294967296*nV xs:=rfl
theorem zej (xs ys:List Nat):nV (xs++ys)=nV xs+pw xs.length*nV ys:=by
 induction xs with
 | nil=>simp [nV,pw]
 | cons x xs ih =>
  simp only [dI,nV,cK,zai,ih,bE,bJ,cL]
theorem zcr (xs:List Nat) (x:Nat):nV (xs++[x])=nV xs+pw xs.length*x:=by
 rw [zej];simp [nV]
theorem zau (h:Lb xs):nV xs<pw xs.length:=by
 induction xs with
 | nil=>simp [nV,pw]
 | cons x xs ih =>
  have h1:=h x (by simp)
  have h2:=ih (fun z hz=>h z (by simp [hz]))
  simp only [nV,cK,zai]
  omega
theorem zey:Lb []:=fun _ h=>by simp at h
theorem Lb_take (h:Lb zs) (k:Nat):Lb (zs.take k):=fun z hz=>h z (List.mem_of_mem_take hz)
theorem Lb_drop (h:Lb zs) (k:Nat):Lb (zs.drop k):=fun z hz=>h z (List.mem_of_mem_drop hz)
theorem Lb_append (h:Lb xs) (k:Lb ys):Lb (xs++ys):=fun z hz=>by
 rcases cW.1 hz with a | a
 ·exact h z a
 ·exact k z a
theorem Lb_snoc {x:Nat} (h:Lb xs) (k:x<4294967296):Lb (xs++[x]):=Lb_append h (fun z hz=>by simp at hz;omega)
theorem zbm (zs:List Nat):vk zs 0=0:=by simp [vk,nV]
theorem zay (h:zs.length<=k):vk zs k=nV zs:=by rw [vk,cM h]
theorem zam (zs:List Nat) (k:Nat):vk zs (k+1)=vk zs k+pw k*lim zs k:=by
 by_cases h:k<zs.length
 ·have:zs.take (k+1)=zs.take k++[lim zs k]:=by
   rw [dJ,zbj h]
   rfl
  rw [vk,this,zcr,bF,bU (by omega)]
  rfl
 ·rw [zay (by omega),zay (by omega),zbe (by omega)];simp
theorem vk_lt (h:Lb zs) (k:Nat):vk zs k<pw k:=by
 induction k with
 | zero=>simp [zbm,pw]
 | succ k ih =>
  have h1:=zat h k
  rw [zam,zai]
  have:pw k*lim zs k<=pw k*4294967295:=cN _ (by omega)
  omega
theorem zdr (zs:List Nat) (k:Nat) (h:k<=zs.length):nV zs=vk zs k+pw k*nV (zs.drop k):=by
 have:=zej (zs.take k) (zs.drop k)
 rw [List.take_append_drop,bF,bU h] at this
 exact this
def zdg (zs:List Nat):Nat->Nat
  | 0=>0
  | n+1=>if lim zs n=0 then zdg zs n else n+1
theorem zh7 (zs:List Nat):∀ n,zdg zs n<=n
 | 0=>bC _
 | n+1=>by
  unfold zdg
  split
  ·have:=zh7 zs n;omega
  ·omega
theorem trimN_z (h:(((lim zs n:Nat):Int) == 0)=true):zdg zs (n+1)=zdg zs n:=by
 have:lim zs n=0:=by simpa using h
 simp [zdg,this]
theorem trimN_nz (h:(((lim zs n:Nat):Int) == 0)=false):zdg zs (n+1)=n+1:=by
 have:lim zs n≠0:=by simpa using h
 simp [zdg,this]
theorem trimN_last (zs:List Nat):∀ n,0<zdg zs n->lim zs (zdg zs n - 1)≠0
 | 0=>by simp [zdg]
 | n+1=>by
  unfold zdg
  split
  ·exact trimN_last zs n
  ·intro _;simpa using ‹_›
theorem vk_trimN (zs:List Nat):∀ n,vk zs (zdg zs n)=vk zs n
 | 0=>rfl
 | n+1=>by
  unfold zdg
  split
  ·rw [vk_trimN zs n,zam,‹lim zs n=0›];simp
  ·rfl
def trm (zs:List Nat):List Nat:=zs.take (zdg zs zs.length)
theorem zg8 (zs:List Nat):(trm zs).length=zdg zs zs.length:=by
 unfold trm;rw [bF];exact bU (zh7 _ _)
theorem ze5 (zs:List Nat):(trm zs).length<=zs.length:=by rw [zg8];exact zh7 _ _
theorem zbn (zs:List Nat):nV (trm zs)=nV zs:=by
 show vk zs (zdg zs zs.length)=_
 rw [vk_trimN,zay (bC _)]
theorem zcb (h:Lb zs):zbt (trm zs):=by
 refine ⟨Lb_take h _,?_⟩
 intro hp
 rw [zg8] at hp ⊢
 unfold trm
 rw [zhf (by omega)]
 exact trimN_last _ _ hp
theorem zbw:zbt []:=⟨zey,fun h=>by simp at h⟩
theorem zfy (h:zbt zs) (hp:0<zs.length):pw (zs.length - 1)<=nV zs:=by
 have h1:=zam zs (zs.length - 1)
 rw [Nat.sub_add_cancel hp,zay (bC _)] at h1
 have h2:=h.2 hp
 have:pw (zs.length - 1)*1<=pw (zs.length - 1)*lim zs (zs.length - 1):=cN _ (by omega)
 omega
theorem canon_zero (h:zbt zs) (hv:nV zs=0):zs=[]:=by
 rcases cX zs.length with h0 | hp
 ·exact bV.1 h0
 ·have:=zfy h hp
  have:=ze9 (zs.length - 1)
  omega
theorem zc1 (hx:Lb xs) (hy:zbt ys) (h:xs.length<ys.length):nV xs<nV ys:=by
 have h1:=zau hx
 have h2:=zfy hy (by omega)
 have h3:pw xs.length<=pw (ys.length - 1):=zd2 (by omega)
 omega
theorem val_inj (hx:Lb xs) (hy:Lb ys) (hl:xs.length=ys.length) (h:nV xs=nV ys):xs=ys:=by
 induction xs generalizing ys with
 | nil=>cases ys with
  | nil=>rfl
  | cons y ys=>simp at hl
 | cons x xs ih=>cases ys with
  | nil=>simp at hl
  | cons y ys =>
   have a:=hx x (by simp)
   have b:=hy y (by simp)
   simp only [nV] at h
   have e1:x=y:=by omega
   have e2:nV xs=nV ys:=by omega
   rw [e1,ih (fun z hz=>hx z (by simp [hz])) (fun z hz=>hy z (by simp [hz])) (by simpa using hl) e2]
theorem canon_inj (hx:zbt xs) (hy:zbt ys) (h:nV xs=nV ys):xs=ys:=by
 rcases Nat.lt_trichotomy xs.length ys.length with hl | hl | hl
 ·have:=zc1 hx.1 hy hl;omega
 ·exact val_inj hx.1 hy.1 hl h
 ·have:=zc1 hy.1 hx hl;omega
theorem zcl (h:zbt zs) (hv:nV zs=m) (hm:m<pw n):zs.length<=n:=by
 rcases bW n zs.length with h1 | h1
 ·have h2:=zfy h (by omega)
  have h3:pw n<=pw (zs.length - 1):=zd2 (by omega)
  omega
 ·exact h1
theorem zaq (h:zbt zs) (hm:nV zs<pw n):zs.length<=n:=zcl h rfl hm
theorem zas (h:Lb xs) (hn:xs.length<=n):nV xs<pw n:=cO (zau h) (zd2 hn)
theorem zef (hx:Lb xs) (hy:Lb ys) (h1:xs.length<=n) (h2:ys.length<=n):nV xs+nV ys<pw (n+1):=by
 have a:=zas hx h1
 have b:=zas hy h2
 rw [zai];omega
theorem zck (p s:Nat):p*(s % 4294967296)+4294967296*p*(s / 4294967296)=p*s:=by
 have h:p*s=p*(4294967296*(s / 4294967296)+s % 4294967296):=by rw [Nat.div_add_mod]
 rw [h,bE,bP 4294967296 p,bJ,Nat.add_comm]
def zhk (a b:Nat):Int:=if a<b then -1 else if b<a then 1 else 0
theorem zgn {a:Nat} (h:a<b):zhk a b=-1:=by simp [zhk,h]
theorem cmpI_gt {a:Nat} (h:b<a):zhk a b=1:=by simp [zhk,h];omega
theorem cmpI_eq {a:Nat} (h:a=b):zhk a b=0:=by simp [zhk,h]
def upEq (xs ys:List Nat) (k:Nat):Prop:=∀ i,k<=i->lim xs i=lim ys i
theorem upEq_val (h:upEq xs ys k):∃ r,nV xs=vk xs k+r/\nV ys=vk ys k+r:=by
 have key:∀ n,∃ r,vk xs (k+n)=vk xs k+r/\vk ys (k+n)=vk ys k+r:=by
  intro n
  induction n with
  | zero=>exact ⟨0,rfl,rfl⟩
  | succ n ih =>
   obtain ⟨r,h1,h2⟩:=ih
   refine ⟨r+pw (k+n)*lim xs (k+n),?_,?_⟩
   ·rw [<- cL,zam,h1];omega
   ·rw [<- cL,zam,h2,h (k+n) (by omega)];omega
 obtain ⟨r,h1,h2⟩:=key (xs.length+ys.length)
 rw [zay (by omega)] at h1 h2
 exact ⟨r,h1,h2⟩
theorem upEq_lt (hx:Lb xs) (h:upEq xs ys (k+1)) (hl:lim xs k<lim ys k):nV xs<nV ys:=by
 obtain ⟨r,h1,h2⟩:=upEq_val h
 have a:=vk_lt hx k
 rw [zam] at h1 h2
 have:pw k*(lim xs k+1)<=pw k*lim ys k:=cN _ hl
 rw [bE] at this
 omega
theorem upEq_all (h:upEq xs ys 0):nV xs=nV ys:=by
 obtain ⟨r,h1,h2⟩:=upEq_val h
 rw [zbm] at h1 h2
 omega
theorem upEq_start (h1:xs.length<=n) (h2:ys.length<=n):upEq xs ys n:=fun i hi=>by
 rw [zbe (by omega),zbe (by omega)]
theorem upEq_down (h:upEq xs ys (k+1)) (he:lim xs k=lim ys k):upEq xs ys k:=fun i hi=>by
 rcases bW k i with a | a
 ·exact h i a
 ·have:i=k:=by omega
  rw [this,he]
theorem upEq_symm (h:upEq xs ys k):upEq ys xs k:=fun i hi=>(h i hi).symm
theorem zez (h:i<zs.length):nV (zs.set i y)+pw i*lim zs i=nV zs+pw i*y:=by
 induction zs generalizing i with
 | nil=>simp at h
 | cons x zs ih =>
  cases i with
  | zero=>simp [nV,pw,lim];omega
  | succ i =>
   have:=ih (i:=i) (by simpa using h)
   have e:lim (x :: zs) (i+1)=lim zs i:=by simp [lim]
   rw [List.set_cons_succ,zfe,zfe,zai,e,bJ,bJ]
   omega
theorem zb3 (n:Nat):nV (List.replicate n 0)=0:=by
 induction n with
 | zero=>rfl
 | succ n ih=>rw [List.replicate_succ,zfe,ih]
theorem zdc (n i:Nat):lim (List.replicate n 0) i=0:=by
 unfold lim
 rw [bI,List.getElem?_replicate]
 split <;> rfl
theorem zbq {x:Nat} (hx:x<pw m) (hy:y<pw n):x*y<pw (m+n):=by
 rw [ze6]
 rcases cX y with h | h
 ·subst h;have:=Nat.mul_pos (ze9 m) (ze9 n);omega
 ·exact cO (Nat.mul_lt_mul_of_pos_right hx h) (cN _ (Nat.le_of_lt hy))
theorem zfh (zs:List Nat) (k:Nat):nV zs=nV (zs.take (min k zs.length))+pw k*nV (zs.drop (min k zs.length)):=by
 rcases Nat.le_total k zs.length with h | h
 ·rw [bU h];exact zdr zs k h
 ·rw [Nat.min_eq_right h,dL,List.take_length];simp [nV]
def bk (ao:Option Addr):Nat:=match ao with | some a=>a.block | none=>0
def of (ao:Option Addr):Nat:=match ao with | some a=>a.off | none=>0
def Ext (w w':World):Prop:=Below w.heap.size w w'
theorem Ext.refl (w:World):Ext w w:=Below.refl _ _
theorem Ext.size {w:World} (h:Ext w w'):w.heap.size<=w'.heap.size:=Below.size h
theorem Ext.trans {a b c:World} (h:Ext a b) (k:Ext b c):Ext a c:=Below.trans h (Below.mono k h.size)
theorem Ext.alloc {a w:World} (h:Ext a w) (o:Obj):Ext a (w.alloc o):=Below.alloc h h.size o
theorem Ext.drew {a w:World} (h:Ext a w):Ext a w.drew:=Below.drew h
theorem Ext.drewN {a w:World} (h:Ext a w) (n:Nat):Ext a (w.drewN n):=by
 have:∀ m,(w.drewN m).heap=w.heap/\(w.drewN m).os=w.os/\(w.drewN m).tape=w.tape/\(w.drewN m).output=w.output:=by
  intro m;exact ⟨rfl,rfl,rfl,rfl⟩
 obtain ⟨h1,h2,h3,h4⟩:=this n
 exact ⟨h2.trans h.os,h3.trans h.tape,h4.trans h.output,by rw [h1];exact Below.size h,fun k hk=>by rw [h1];exact h.block k hk⟩
theorem Ext.store {a w:World} (h:Ext a w) (hp:a.heap.size<=p.block) (u:Value):Ext a (w.setCell p u):=Below.setCell h hp u
theorem Ext.grown {a w:World} {row:Option Nat} (h:Ext a w) (hg:w.grownBy w' row) (hr:∀ k,row=some k->a.heap.size<=k):Ext a w':=Below.grown h hg h.size hr
theorem Ext.cell {w:World} (h:Ext w w') (hc:w.cell? p=some v):w'.cell? p=some v :=
 (Below.cell h (World.block_lt_of_cell? w p hc)).trans hc
theorem Ext.below {w:World} (h:Ext w w'):Below w.heap.size w w':=h
structure Rd (w:World) (ao:Option Addr) (c:Nat) (zs:List Nat):Prop where
  cap:zs.length<=c
  mx:c<=9223372036854775807
  nl:ao=none->c=0
  lb:Lb zs
  ad:0<zs.length->ao=some ⟨bk ao,of ao,none⟩
  cell:∀ i,i<zs.length->w.cell? ⟨bk ao,of ao+i,none⟩=some (.int .u32 (lim zs i))
theorem Rd.nil (w:World):Rd w none 0 []:=⟨bC _,by omega,fun _=>rfl,zey,fun h=>by simp at h,fun i h=>by simp at h⟩
theorem Rd.ext {w:World} {c:Nat} (h:Rd w ao c zs) (k:Ext w w'):Rd w' ao c zs :=
 ⟨h.cap,h.mx,h.nl,h.lb,h.ad,fun i hi=>k.cell (h.cell i hi)⟩
theorem Rd.take {w:World} {c:Nat} (h:Rd w ao c zs) (k:Nat) (_hk:k<=zs.length) (c':Nat) (hc':(zs.take k).length<=c') (hc2:c'<=c):Rd w ao c' (zs.take k):=by
 refine ⟨hc', bS hc2 h.mx,fun e=>by have:=h.nl e;omega,Lb_take h.lb _,?_,?_⟩
 ·intro hp;rw [bF] at hp;exact h.ad (by omega)
 ·intro i hi;rw [bF] at hi;rw [zhf (by omega)];exact h.cell i (by omega)
theorem Rd.drop {w:World} {o c:Nat} (h:Rd w (some ⟨b,o,none⟩) c zs) (k:Nat) (hk:k<=zs.length):Rd w (some ⟨b,o+k,none⟩) (c - k) (zs.drop k):=by
 have h1:=h.cap
 refine ⟨by rw [cE];omega,bS (cP _ _) h.mx,fun e=>by simp at e,Lb_drop h.lb _,fun _=>rfl,?_⟩
 intro i hi
 rw [cE] at hi
 have:=h.cell (k+i) (by omega)
 simp only [bk,of] at this ⊢
 rw [zhg,cL];exact this
theorem Rd.isAt {w:World} {c:Nat} (h:Rd w ao c zs) (hp:0<zs.length):∃ b o,ao=some ⟨b,o,none⟩:=⟨_,_,h.ad hp⟩
theorem Rd.trm {w:World} {c:Nat} (h:Rd w ao c zs):Rd w ao c (trm zs) :=
 h.take _ (zh7 _ _) c (bS (ze5 zs) h.cap) (bC _)
theorem Rd.blt {w:World} {c:Nat} (h:Rd w ao c zs) (hp:0<zs.length):bk ao<w.heap.size :=
 World.block_lt_of_cell? w _ (h.cell 0 hp)
theorem run_ix {t e:TypeId} (ht:P.underlying t=some (.slice e)) (hs:∀ w,(sizeOf e).run P w = .ok 1 w) {c:Nat} (h:Rd w0 ao c zs)
   (k:IntKind) (i:Int) (w:World) (h0:0<=i) (h1:i<zs.length) :
   (Instr.indexAt t (.slice ao zs.length c) (.int k i)).run P w = .ok (.pointer (some ⟨bk ao,of ao+i.toNat,none⟩)) w:=by
  have h2:=h.ad (by omega)
  rw [h2]
  simp [Instr.indexAt,asIntOf,run_underlying ht,h0,h1,go_sem,hs,bk,of]
structure Own (w:World) (B:Nat) (ao:Option Addr) (c:Nat) (zs:List Nat):Prop where
  lb:Lb zs
  row:w.ownsRow B 79 1 (.slice ao zs.length c) zs.length (zs.map fun (x:Nat)=>Value.int .u32 (x:Int))
theorem Own.nil (w:World) (B:Nat):Own w B none 0 []:=⟨zey,World.ownsRow_nil _ _ _ _⟩
theorem Own.rd {w:World} {B:Nat} {c:Nat} (h:Own w B ao c zs):Rd w ao c zs:=by
 have hr:=h.row
 rcases hr.2 with ⟨hv,hn⟩ | ⟨g,cap,cur,hv,hb,hg,hnc,hcm,hcs,htake⟩
 ·have:zs=[]:=bV.1 hn
  subst this
  simp at hv
  obtain ⟨rfl,rfl⟩:=hv
  exact Rd.nil w
 ·simp only [Value.slice.injEq,true_and] at hv
  obtain ⟨rfl,rfl⟩:=hv
  refine ⟨hnc,by simpa [maxLen] using hcm,fun e=>by simp at e,h.lb,fun _=>rfl,?_⟩
  intro i hi
  have:=hr.cellAt i (by omega)
  simp only [bk,of,bX]
  rw [this,dM,zbj hi]
  rfl
theorem Own.lt {w:World} {B:Nat} {c:Nat} (h:Own w B ao c zs):∀ k,(Value.slice ao zs.length c).ownBlock=some k->B<=k/\k<w.heap.size:=h.row.lt
theorem Own.blk {w:World} {B:Nat} {c:Nat} (h:Own w B ao c zs) (hp:0<zs.length):B<=bk ao/\bk ao<w.heap.size/\of ao=0/\ao=some ⟨bk ao,0,none⟩:=by
 rcases h.row.2 with ⟨hv,hn⟩ | ⟨g,cap,cur,hv,hb,hg,hnc,hcm,hcs,htake⟩
 ·omega
 ·simp only [Value.slice.injEq,true_and] at hv
  obtain ⟨rfl,rfl⟩:=hv
  exact ⟨hb,(cQ.1 hg).1,rfl,rfl⟩
theorem Own.frozen {w:World} {B:Nat} {c:Nat} (h:Own w B ao c zs) (hp:0<zs.length) (i:Nat):w.frozen? ⟨bk ao,of ao+i,none⟩=false:=by
 rcases h.row.2 with ⟨hv,hn⟩ | ⟨g,cap,cur,hv,hb,hg,hnc,hcm,hcs,htake⟩
 ·omega
 ·have hr:=h.row
  simp only [Value.slice.injEq,true_and] at hv
  obtain ⟨rfl,rfl⟩:=hv
  simp only [bk,of,bX]
  exact hr.frozenAt i
theorem Own.alloc {w:World} {B:Nat} {c:Nat} (h:Own w B ao c zs) (o:Obj):Own (w.alloc o) B ao c zs:=⟨h.lb,h.row.alloc o⟩
theorem Own.ext {w:World} {B:Nat} {c:Nat} (h:Own w B ao c zs) (k:Ext w w'):Own w' B ao c zs :=
 ⟨h.lb,h.row.kept (row:=none) ⟨k.os,k.tape,k.output,k.size,fun i hi _=>k.block i hi⟩ (by cases hv:Value.ownBlock _ <;> simp)⟩
theorem Own.mono {w:World} {B B':Nat} {c:Nat} (h:Own w B ao c zs) (hB:B'<=B):Own w B' ao c zs:=by
 refine ⟨h.lb,h.row.1,?_⟩
 rcases h.row.2 with hn | ⟨g,cap,cur,hv,hb,rest⟩
 ·exact .inl hn
 ·exact .inr ⟨g,cap,cur,hv,bS hB hb,rest⟩
theorem Own.snocEq {w:World} {B:Nat} {c:Nat} {y':Nat} (h:Own w B ao c (zs++[y])) (e:y=y'):Own w B ao c (zs++[y']):=e ▸ h
theorem Own.take {w:World} {B:Nat} {c:Nat} (h:Own w B ao c zs) (k:Nat) (hk:k<=zs.length):Own w B ao c (zs.take k):=by
 refine ⟨Lb_take h.lb _,by simp,?_⟩
 rw [bF,bU hk]
 rcases h.row.2 with ⟨hv,hn⟩ | ⟨g,cap,cur,hv,hb,hg,hnc,hcm,hcs,htake⟩
 ·simp at hv
  obtain ⟨rfl,_,rfl⟩:=hv
  refine .inl ⟨?_,by omega⟩
  simp;omega
 ·simp only [Value.slice.injEq,true_and] at hv
  obtain ⟨rfl,rfl⟩:=hv
  refine .inr ⟨g,c,cur,rfl,hb,hg,by omega,hcm,hcs,?_⟩
  rw [List.map_take,<- htake,List.take_take]
  congr 1
  omega
theorem Own.pop {w:World} {B:Nat} {c:Nat} (h:Own w B ao c (zs.take (k+1))) (hk:k<zs.length):Own w B ao c (zs.take k):=by
 have:=h.take k (by rw [bF];omega)
 rwa [List.take_take,bU (by omega)] at this
theorem zeb (w:World):Own (w.alloc (.cells #[] 79)) w.heap.size (some ⟨w.heap.size,0,none⟩) 0 [] :=
 ⟨zey,World.ownsRow_made w #[] 0 (bC _) (cF _) (by rfl)⟩
theorem size32 (w:World):(sizeOf 79).run eC w = .ok 1 w:=by kernel_rfl
theorem zgw:(Tryz.prog.info? 79).map (fun i=>(i.zero,i.size,i.bytes))=some (some (.int .u32 0),1,4):=by kernel_rfl
theorem und:Tryz.prog.underlying 31=some (.slice 79):=Tryz.underlying31
theorem ixn {c:Nat} (h:Rd w0 ao c zs) (k:IntKind) (i:Int) (w:World) (h0:0<=i) (h1:i<zs.length) :
   (Instr.indexAt 31 (.slice ao zs.length c) (.int k i)).run eC w = .ok (.pointer (some ⟨bk ao,of ao+i.toNat,none⟩)) w:=run_ix und size32 h k i w h0 h1
theorem ixk {c:Nat} (h:Rd w0 ao c zs) (n:Nat) (hn:n=zs.length) (i:Nat) (h1:i<n) (w:World) :
   (Instr.indexAt 31 (.slice ao n c) (.int .i64 (i:Int))).run eC w = .ok (.pointer (some ⟨bk ao,of ao+i,none⟩)) w:=by
  subst hn;exact ixn h .i64 i w (by omega) (by omega)
theorem ixe {c:Nat} (h:Rd w0 ao c zs) (n:Nat) (hn:n=zs.length) (E:Int) (i:Nat) (hE:E=(i:Int)) (h1:i<n) (w:World) :
   (Instr.indexAt 31 (.slice ao n c) (.int .i64 E)).run eC w = .ok (.pointer (some ⟨bk ao,of ao+i,none⟩)) w:=by
  subst hE;exact ixk h n hn i h1 w
theorem mk0 {w:World} (hgd:o.guard=none) (l r:Operand)
  (hop:o.op=Op.makeSlice 31 l r) (kl kc:IntKind) (C:Int) (hl:a.eval l = .int kl 0) (hc:a.eval r = .int kc C) (hC:0<=C) (hn:C<=4294967297)
  (hext:Ext wi w)
  (h:∀ w', Own w' wi.heap.size (some ⟨w.heap.size,0,none⟩) C.toNat []->Ext wi w'->wpList eC ops Q rest (a.put o.dst (.slice (some ⟨w.heap.size,0,none⟩) 0 C.toNat)) w') :
  wpList eC ops Q (o :: rest) a w:=by
 obtain ⟨i0,hi,hz0,hz1,hz2⟩:=info_parts zgw
 refine wpList_make_own w hgd l r 31 hop wi.heap.size 79 i0 (.int .u32 0) 1 und hi hz0 hz1 kl kc C C.toNat hl hc (by omega) (by rw [hz2];omega) (by unfold maxLen;omega) hext.size ?_
 intro w' hown hg
 exact h w' ⟨zey,hown⟩ (hext.grown hg (fun k hk=>by cases hk))
theorem mkn {w:World} (hgd:o.guard=none) (l r:Operand)
  (hop:o.op=Op.makeSlice 31 l r) (kl kc:IntKind) (L C:Int) (hl:a.eval l = .int kl L) (hc:a.eval r = .int kc C) (hL:0<=L) (hC:L<=C) (hn:C<=4294967297)
  (hext:Ext wi w)
  (h:∀ w', Own w' w.heap.size (some ⟨w.heap.size,0,none⟩) C.toNat (List.replicate L.toNat 0)->Ext w w'->Ext wi w'->wpList eC ops Q rest (a.put o.dst (.slice (some ⟨w.heap.size,0,none⟩) L.toNat C.toNat)) w') :
  wpList eC ops Q (o :: rest) a w:=by
 obtain ⟨i0,hi,hz0,hz1,hz2⟩:=info_parts zgw
 refine wpList_plain hgd fun K hK=>?_
 have hrun:=run_make (P:=eC) w 31 79 i0 (.int .u32 0) und hi hz0 kl kc L C hL hC (by rw [hz2];omega) (by omega)
 unfold Oper.wp
 simp only [execOp,hop,hl,hc,Sem.run_bind,hrun,Result.andThen,Sem.run_pure]
 refine hK _ _ (h _ ⟨?_,?_⟩ ((Ext.refl w).alloc _) (hext.alloc _))
 ·intro z hz
  have:=dW hz
  omega
 ·refine ⟨by simp,.inr ⟨w.heap.size,C.toNat,madeCells (Value.int .u32 0).cells (C.toNat*i0.size),by simp,bC _,heap_alloc_new w _,by simp;omega,by unfold maxLen;omega,by rw [size_madeCells,hz1],?_⟩⟩
  rw [hz1,cY,cY]
  unfold madeCells
  apply List.ext_getElem
  ·simp;omega
  ·intro i h1 h2
   simp [Value.cells,Nat.mod_one]
theorem mkf {w:World} (hgd:o.guard=none) (l r:Operand)
  (hop:o.op=Op.makeSlice 31 l r) (kl kc:IntKind) (C:Int) (hl:a.eval l = .int kl C) (hc:a.eval r = .int kc C) (hC:0<=C) (hn:C<=4294967297)
  (hext:Ext wi w)
  (h:∀ w', Own w' w.heap.size (some ⟨w.heap.size,0,none⟩) C.toNat (List.replicate C.toNat 0)->Ext w w'->Ext wi w'->wpList eC ops Q rest (a.put o.dst (.slice (some ⟨w.heap.size,0,none⟩) C.toNat C.toNat)) w') :
  wpList eC ops Q (o :: rest) a w:=by
 obtain ⟨i0,hi,hz0,hz1,hz2⟩:=info_parts zgw
 refine wpList_make_full w hgd l r 31 hop w.heap.size 79 i0 (.int .u32 0) 1 und hi hz0 hz1 kl kc C C C.toNat hl hc (by omega) (by omega) (by rw [hz2];omega) (by unfold maxLen;omega) (bC _) ?_
 intro w' hown hg
 refine h w' ⟨?_,?_⟩ ((Ext.refl w).grown hg (fun k hk=>by cases hk)) (hext.grown hg (fun k hk=>by cases hk))
 ·intro z hz
  have:=dW hz
  omega
 ·have e:(madeCells (Value.int .u32 0).cells (C.toNat*1)).toList=(List.replicate C.toNat 0).map fun (x:Nat)=>Value.int .u32 (x:Int):=by
   rw [cY,List.map_replicate]
   unfold madeCells
   apply List.ext_getElem
   ·simp
   ·intro i h1 h2
    simp [Value.cells,Nat.mod_one]
  rw [e] at hown
  simpa using hown
theorem push {w:World} (hgd:o.guard=none) (s x:Operand)
  (ho:o.op = .call { callee:=.builtin .append,args:=#[s,x],argTypes:=#[31,31] })
  {B:Nat} (ao:Option Addr) (c:Nat) (zs:List Nat) (n:Nat) (hn:n=zs.length) (hs:a.eval s = .slice ao n c) (hown:Own w B ao c zs)
  (E:Int) (hE:0<=E) (hy:E<4294967296) (hx:a.eval x = .slice (some ⟨w.heap.size,0,none⟩) 1 1)
  (hlen:zs.length<=4294967296) (hB:B=wi.heap.size) (hext:Ext wi w)
  (h:∀ ao' c' w', Own w' B ao' c' (zs++[E.toNat])->Ext wi w'->wpList eC ops Q rest (a.put o.dst (.slice ao' (zs.length+1) c')) w') :
  wpList eC ops Q (o :: rest) a (w.alloc (.cells #[.int .u32 E] 79)):=by
 subst hn
 obtain ⟨i0,hi,hz0,hz1,hz2⟩:=info_parts zgw
 have hsz:=hext.size
 refine wpList_append_own _ hgd s x 31 ho B 79 i0 (.int .u32 0) 1 4 und hi hz0 hz1 hz2 rfl (by decide) _ _ _ hs (hown.row.alloc _) ⟨w.heap.size,0,none⟩ 1 1 [.int .u32 E] hx rfl ?_ ?_ ?_ ?_ ?_ ?_
 ·intro j u hj
  match j,hj with
  | 0,hj=>simp at hj;subst hj;simp [Addr.add]
 ·intro u hu;simp at hu;subst hu;rfl
 ·unfold maxLen;omega
 ·omega
 ·simp;omega
 ·intro v' w' hown' hgrow _
  obtain ⟨y,rfl⟩:=dX hE
  have hlb:Lb (zs++[y]):=Lb_snoc hown.lb (by omega)
  have he:Ext wi w':=(hext.alloc _).grown hgrow (fun k hk=>by have:=(hown.lt k hk).1;omega)
  rcases hown'.2 with ⟨hv,hn⟩ | ⟨g,cap,cur,hv,hb,hg,hnc,hcm,hcs,htake⟩
  ·omega
  ·subst hv
   refine h _ _ w' ⟨hlb,?_⟩ he
   simpa using hown'
theorem zcj {a b c:World} {r:Option Nat} (h:a.grownBy b r) (k:b.grownBy c r):a.grownBy c r :=
 ⟨k.os.trans h.os,k.tape.trans h.tape,k.output.trans h.output,bS h.size k.size,fun i hi hne=>(k.block i (cO hi h.size) hne).trans (h.block i hi hne)⟩
theorem Rd.kept {w:World} {c:Nat} {g:Nat} (h:Rd w ao c zs) (k:w.grownBy w' (some g)) (hne:0<zs.length->bk ao≠g):Rd w' ao c zs :=
 ⟨h.cap,h.mx,h.nl,h.lb,h.ad,fun i hi=>k.cell (h.cell i hi) (by simp;exact hne (by omega))⟩
theorem Own.kept {w:World} {B:Nat} {c:Nat} {g:Nat} (h:Own w B ao c zs) (k:w.grownBy w' (some g)) (hne:(Value.slice ao zs.length c).ownBlock≠some g):Own w' B ao c zs :=
 ⟨h.lb,h.row.kept k (.inr hne)⟩
theorem Own.store {w:World} {B:Nat} {c:Nat} (h:Own w B ao c zs) (i:Nat) (hi:i<zs.length) (E:Int) (y:Nat) (hE:E=(y:Int)) (hy:y<4294967296) :
  Own (w.setCell ⟨bk ao,of ao+i,none⟩ (.int .u32 E)) B ao c (zs.set i y)/\w.grownBy (w.setCell ⟨bk ao,of ao+i,none⟩ (.int .u32 E)) (some (bk ao)):=by
 subst hE
 obtain ⟨h1,h2,h3,h4⟩:=h.blk (by omega)
 have hr:=h.row
 rw [h4] at hr
 have:=hr.stored i (.int .u32 (y:Int))
 rw [h3,bX]
 refine ⟨⟨?_,?_⟩,this.2⟩
 ·intro z hz
  rcases List.mem_or_eq_of_mem_set hz with hm | hm
  ·exact h.lb z hm
  ·omega
 ·rw [h4,dN,List.map_set]
  exact this.1
theorem lim_set_eq (h:i<zs.length):lim (zs.set i y) i=y:=by
 unfold lim;simp [bI,h]
theorem zbi {j:Nat} (h:i≠j):lim (zs.set i y) j=lim zs j:=by
 unfold lim;simp [bI,h]
theorem zgf (R x:Nat) (hR:R<4294967296) (hx:x<4294967296):bits BinOp.or .u64 ((R:Int)*4294967296) (x:Int)=((R*4294967296+x:Nat):Int):=by
 have e:((R:Int)*4294967296)=((R*4294967296:Nat):Int):=by rw [Int.natCast_mul];rfl
 rw [e,bits_or_u64_nat _ _ (by omega) (by omega)]
 have h:=Nat.two_pow_add_eq_or_of_lt (i:=32) (b:=x) (by omega) R
 rw [bP R,show (4294967296:Nat)=2 ^ 32 from rfl,h]
theorem tdiv_nat (a b:Nat):(a:Int).tdiv (b:Int)=((a / b:Nat):Int):=(Int.ofNat_tdiv a b).symm
theorem tmod_nat (a b:Nat):(a:Int).tmod (b:Int)=((a % b:Nat):Int):=(Int.ofNat_tmod a b).symm
set_option maxHeartbeats 400000 in
theorem zah (ao:Option Addr) (n c:Nat) (zs:List Nat) (w:World) (hn:n=zs.length) (h:Rd w ao c zs) :
  Calls eC 94 #[.slice ao n c] w fun e w'=>e = .returned (.slice ao (trm zs).length c)/\w=w':=by
 subst hn
 have hix:=ixn h
 obtain ⟨hcap,hmx,_,hlb,had,hcell⟩:=h
 rw [zg8]
 go_enter Tryz.func94,Tryz.ntmps94
 go_wp2
 go_loop [3] (fun k=>∃ m:Nat,m<=zs.length/\k = .int .i64 m/\zdg zs zs.length=zdg zs m) (fun k=>(intOf k).toNat)
 case atStart=>exact ⟨zs.length,bC _,rfl,rfl⟩
 case round =>
  obtain ⟨m,hm,rfl,ht⟩:=hrel
  have Ht:=Lib.hid ht
  clear ht
  rcases m with _ | m
  ·go_wp2
   go_ret
   exact ⟨by rw [Ht.out];rfl,rfl⟩
  ·have hx:=hcell m (by omega)
   have hm':m<zs.length:=by omega
   go_wp2
   ·go_round
    case rel=>exact ⟨m,by omega,rfl,by rw [Ht.out,trimN_z (by assumption)]⟩
    case measure=>simp [intOf]
   ·go_ret
    exact ⟨by rw [Ht.out,trimN_nz (by assumption)];rfl,rfl⟩
set_option maxHeartbeats 400000 in
theorem clone_any (ao:Option Addr) (n c:Nat) (zs:List Nat) (w:World) (hn:n=zs.length) (h:Rd w ao c zs) (hl:zs.length<=1000000000) :
  Calls eC 126 #[.slice ao n c] w fun e w'=>∃ ao' c', e = .returned (.slice ao' zs.length c')/\Own w' w.heap.size ao' c' zs/\Ext w w':=by
 subst hn
 obtain ⟨hcap,hmx,hnl,hlb,had,hcell⟩:=h
 rcases ao with _ | a
 ·obtain rfl:c=0:=hnl rfl
  have:zs=[]:=by
   rcases cX zs.length with h0 | hp
   ·exact bV.1 h0
   ·have:=had hp;simp at this
  subst this
  have hnil:=fun (w:World)=>Lib.run_eql_slice_nil (P:=eC) w 31 79 none 0 0 0 0 und
  go_enter Tryz.func126,Tryz.ntmps126
  go_wp2
  go_ret
  exact ⟨none,0,rfl,Own.nil _ _,Ext.refl _⟩
 ·obtain ⟨i0,hi,hz0,hz1,hz2⟩:=info_parts zgw
  have hnil:=fun (w:World)=>Lib.run_eql_slice_nil (P:=eC) w 31 79 (some a) zs.length c 0 0 und
  go_enter Tryz.func126,Tryz.ntmps126
  go_wp2_with (at_builtin;refine wpList_append_own _ rfl _ _ 31 rfl w.heap.size 79 i0 (.int .u32 0) 1 4 und hi hz0 hz1 hz2 rfl (by decide) _ _ _ rfl (World.ownsRow_made w #[] 0 (bC _) (cF _) (by rfl)) a zs.length c (zs.map fun (x:Nat)=>Value.int .u32 (x:Int)) rfl (by simp) ?c1 ?c2 ?c3 ?c4 ?c5 ?_)
  case c1 =>
   intro j u hj
   have hlt:j<zs.length:=by have:=(cC.1 hj).1;simpa using this
   rw [dM,zbj hlt] at hj
   simp at hj
   subst hj
   have h0:=hcell j hlt
   have h1:=had (by omega)
   simp only [bk,of,Option.some.injEq] at h0 h1
   have h2:a.add j=⟨a.block,a.off+j,none⟩:=by
    unfold Addr.add
    split
    ·rename_i e0;rw [e0];exact h1
    ·rfl
   rw [h2]
   exact (World.cell?_alloc_lt w _ _ (World.block_lt_of_cell? w _ h0)).trans h0
  case c2=>intro u hu;simp at hu;obtain ⟨x,_,rfl⟩:=hu;rfl
  case c3=>unfold maxLen;omega
  case c4=>omega
  case c5=>simp
  intro v' w' hown' hgrow _
  have he:Ext w w':=((Ext.refl w).alloc _).grown hgrow (fun k hk=>by simp [Value.ownBlock] at hk;omega)
  rcases hown'.2 with ⟨hv,hn⟩ | ⟨g,cap,cur,hv,hb,hg,hnc,hcm,hcs,htake⟩
  ·have:zs=[]:=bV.1 (by omega)
   subst this
   subst hv
   go_wp2
   go_ret
   exact ⟨none,0,rfl,Own.nil _ _,he⟩
  ·have hown2:Own w' w.heap.size (some ⟨g,0,none⟩) cap zs:=⟨hlb,by subst hv;simpa using hown'⟩
   subst hv
   go_wp2
   go_ret
   exact ⟨_,_,by simp,hown2,he⟩
set_option maxHeartbeats 400000 in
theorem Trim_any (ao:Option Addr) (n c:Nat) (zs:List Nat) (w:World) (hn:n=zs.length) (h:Rd w ao c zs) (hl:zs.length<=1000000000) :
  Calls eC 114 #[.slice ao n c] w fun e w'=>∃ ao' c', e = .returned (.slice ao' (trm zs).length c')/\Own w' w.heap.size ao' c' (trm zs)/\Ext w w':=by
 subst hn
 go_enter Tryz.func114,Tryz.ntmps114
 go_wp2_with fail
 refine (zah ao _ c zs w rfl h).mono ?_
 rintro e w' ⟨rfl,rfl⟩
 go_wp2_with fail
 refine (clone_any ao _ c (trm zs) w rfl h.trm (bS (ze5 _) hl)).mono ?_
 rintro e w' ⟨ao', c', rfl,hown,hext⟩
 go_wp2_with fail
 go_ret
 exact ⟨ao', c', rfl,hown,hext⟩
def GotN (w:World) (m:Nat) (e:Ending) (w':World):Prop:=∃ ao c zs,e = .returned (.slice ao zs.length c)/\Own w' w.heap.size ao c zs/\zbt zs/\nV zs=m/\Ext w w'
theorem zcm (ao:Option Addr) (n c:Nat) (zs:List Nat) (w:World) (hn:n=zs.length) (h:Rd w ao c zs) (hl:zs.length<=1000000000) :
  Calls eC 114 #[.slice ao n c] w (GotN w (nV zs)) :=
 (Trim_any ao n c zs w hn h hl).mono fun _ _ ⟨ao', c', he,ho,hx⟩=>⟨ao', c', trm zs,he,ho,zcb h.lb,zbn zs,hx⟩
theorem GotN.from {w:World} {e:Ending} (h:GotN w m e w') (k:Ext w0 w):GotN w0 m e w' :=
 let ⟨ao,c,zs,he,ho,hc,hv,hx⟩:=h
 ⟨ao,c,zs,he,ho.mono k.size,hc,hv,k.trans hx⟩
theorem row2 (w:World) (E F:Int) (x y:Nat) (hE:E=(x:Int)) (hF:F=(y:Int)) (hx:x<4294967296) (hy:y<4294967296):Own (w.alloc (.cells #[.int .u32 E,.int .u32 F] 79)) w.heap.size (some ⟨w.heap.size,0,none⟩) 2 [x,y]:=by
 subst hE hF
 exact ⟨by intro z hz;simp at hz;omega,by simp,.inr ⟨w.heap.size,2,_,rfl,bC _,heap_alloc_new w _,bC _,by unfold maxLen;omega,rfl,rfl⟩⟩
theorem row1 (w:World) (E:Int) (x:Nat) (hE:E=(x:Int)) (hx:x<4294967296):Own (w.alloc (.cells #[.int .u32 E] 79)) w.heap.size (some ⟨w.heap.size,0,none⟩) 1 [x]:=by
 subst hE
 exact ⟨by intro z hz;simp at hz;omega,by simp,.inr ⟨w.heap.size,1,_,rfl,bC _,heap_alloc_new w _,bC _,by unfold maxLen;omega,rfl,rfl⟩⟩
set_option maxHeartbeats 400000 in
theorem Of_any (E:Int) (h0:0<=E) (h1:E<18446744073709551616) (w:World) :
  Calls eC 101 #[.int .u64 E] w (GotN w E.toNat):=by
 obtain ⟨n,rfl⟩:=dX h0
 rw [Int.toNat_natCast]
 have hn:n<18446744073709551616:=by omega
 have hv:nV [n % 4294967296,n / 4294967296]=n:=by simp only [nV];omega
 have hv:=Lib.hid hv
 go_enter Tryz.func101,Tryz.ntmps101
 go_wp2_with fail
 refine (zcm _ _ 2 [n % 4294967296,n / 4294967296] _ rfl (row2 w _ _ _ _ (by omega) (by omega) (by omega) (by omega)).rd (by simp)).mono ?_
 intro e w' hg
 rw [hv.out] at hg
 have hg':=hg.from ((Ext.refl w).alloc _)
 obtain ⟨ao,c,zs,rfl,h⟩:=hg'
 go_wp2_with fail
 go_ret
 exact ⟨ao,c,zs,rfl,h⟩
def Qt (w w':World):Prop:=∃ n,w'=w.drewN n
theorem Qt.refl (w:World):Qt w w:=⟨0,rfl⟩
theorem Qt.drewN {w:World} (h:Qt w w') (n:Nat):Qt w (w'.drewN n):=by
 obtain ⟨m,rfl⟩:=h
 exact ⟨m+n,by simp [World.drewN,cL]⟩
theorem Qt.ext {w:World} (h:Qt w w'):Ext w w':=by
 obtain ⟨m,rfl⟩:=h
 exact (Ext.refl w).drewN m
set_option maxHeartbeats 400000 in
theorem zgp (ao:Option Addr) (n c:Nat) (xs:List Nat) (bo:Option Addr) (m d:Nat) (ys:List Nat) (w:World) (hn:n=xs.length) (hm:m=ys.length) (ha:Rd w ao c xs) (hb:Rd w bo d ys) :
  Calls eC 53 #[.slice ao n c,.slice bo m d] w fun e w'=>e = .returned (.int .i64 (zhk (nV xs) (nV ys)))/\Qt w w':=by
 subst hn hm
 have hA:=ha.trm
 have hB:=hb.trm
 have cA:=zcb ha.lb
 have cB:=zcb hb.lb
 have bA:=hA.cap
 have bB:=hB.cap
 have mA:=hA.mx
 have mB:=hB.mx
 rw [<- zbn xs,<- zbn ys]
 by_cases h1:(trm xs).length<(trm ys).length
 ·have hres:=zgn (zc1 cA.1 cB h1)
  rw [hres]
  clear hres
  go_enter Tryz.func53,Tryz.ntmps53
  go_wp2_with fail
  refine (zah ao _ c xs w rfl ha).mono ?_
  rintro e w' ⟨rfl,rfl⟩
  go_wp2_with fail
  refine (zah bo _ d ys w rfl hb).mono ?_
  rintro e w' ⟨rfl,rfl⟩
  go_wp2_with fail
  go_ret
  exact ⟨rfl,Qt.refl _⟩
 by_cases h2:(trm ys).length<(trm xs).length
 ·have hres:=cmpI_gt (zc1 cB.1 cA h2)
  rw [hres]
  clear hres
  go_enter Tryz.func53,Tryz.ntmps53
  go_wp2_with fail
  refine (zah ao _ c xs w rfl ha).mono ?_
  rintro e w' ⟨rfl,rfl⟩
  go_wp2_with fail
  refine (zah bo _ d ys w rfl hb).mono ?_
  rintro e w' ⟨rfl,rfl⟩
  go_wp2_with fail
  go_ret
  exact ⟨rfl,Qt.refl _⟩
 have hiA:=ixn hA
 have hiB:=ixn hB
 go_enter Tryz.func53,Tryz.ntmps53
 go_wp2_with fail
 refine (zah ao _ c xs w rfl ha).mono ?_
 rintro e w' ⟨rfl,rfl⟩
 go_wp2_with fail
 refine (zah bo _ d ys w rfl hb).mono ?_
 rintro e w' ⟨rfl,rfl⟩
 go_wp2_with fail
 go_loopw [5] (fun i wr=>∃ k:Nat,k<=(trm xs).length/\i = .int .i64 ((k:Int) - 1)/\upEq (trm xs) (trm ys) k/\Qt w wr) (fun i _=>(intOf i+1).toNat)
 case atStart=>exact ⟨(trm xs).length,bC _,rfl,upEq_start (bC _) (by omega),Qt.refl _⟩
 case round =>
  obtain ⟨k,hk,rfl,hu,hq⟩:=hrel
  rcases k with _ | k
  ·have hval:=upEq_all hu
   go_wp2_with fail
   go_ret
   exact ⟨by rw [cmpI_eq hval];rfl,hq⟩
  ·have hx:=(hA.ext hq.ext).cell k (by omega)
   have hy:=(hB.ext hq.ext).cell k (by omega)
   have hkA:k<(trm xs).length:=by omega
   have hkB:k<(trm ys).length:=by omega
   by_cases h3:lim (trm xs) k<lim (trm ys) k
   ·have hres:=Lib.hid (zgn (upEq_lt cA.1 hu h3))
    go_wp2_with fail
    go_quiet (fail)
    go_wp2_with fail
    go_ret
    exact ⟨by rw [hres.out];rfl,hq.drewN _⟩
   by_cases h4:lim (trm ys) k<lim (trm xs) k
   ·have hres:=Lib.hid (cmpI_gt (upEq_lt cB.1 (upEq_symm hu) h4))
    go_wp2_with fail
    go_quiet (fail)
    go_wp2_with fail
    go_quiet (fail)
    go_wp2_with fail
    go_ret
    exact ⟨by rw [hres.out];rfl,(hq.drewN _).drewN _⟩
   ·have hu':=upEq_down hu (by omega)
    go_wp2_with fail
    go_quiet (fail)
    go_wp2_with fail
    go_quiet (fail)
    go_wp2_with fail
    go_roundw
    case rel=>exact ⟨k,by omega,by go_num,hu', hq.drewN _⟩
    case measure=>simp [intOf];try omega
def AddR (w:World) (xs ys:List Nat) (out cr i:Value) (wr:World):Prop :=
  ∃ (carry:Nat) (po:Option Addr) (pc:Nat) (zs:List Nat),i = .int .i64 zs.length/\out = .slice po zs.length pc/\cr = .int .u64 carry/\carry<=1/\zs.length<=100000000/\Own wr w.heap.size po pc zs/\Ext w wr /\
    Hid (nV zs+pw zs.length*carry=vk xs zs.length+vk ys zs.length)
theorem add_step {s:Nat} (h:nV zs+pw zs.length*carry=vk xs zs.length+vk ys zs.length) (hs:s=lim xs zs.length+lim ys zs.length+carry) :
  nV (zs++[s % 4294967296])+pw (zs++[s % 4294967296]).length*(s / 4294967296)=vk xs (zs++[s % 4294967296]).length+vk ys (zs++[s % 4294967296]).length:=by
 simp only [dD,cK,dE,bX]
 rw [zcr,zam,zam,zai]
 have h1:=zck (pw zs.length) s
 rw [hs] at h1 ⊢
 rw [bE,bE] at h1
 omega
set_option maxHeartbeats 1000000 in
theorem ze3 (ao:Option Addr) (n c:Nat) (xs:List Nat) (bo:Option Addr) (m d:Nat) (ys:List Nat) (w:World) (hn:n=xs.length) (hm:m=ys.length) (ha:Rd w ao c xs) (hb:Rd w bo d ys)
    (hl1:xs.length<=100000000) (hl2:ys.length<=100000000) :
    Calls eC 106 #[.slice ao n c,.slice bo m d] w (GotN w (nV xs+nV ys)):=by
  subst hn hm
  have hA:=ha.trm
  have hB:=hb.trm
  have bA:=hA.cap
  have bB:=hB.cap
  have mA:=hA.mx
  have mB:=hB.mx
  have lA:=ze5 xs
  have lB:=ze5 ys
  have hiA:=ixn hA
  have hiB:=ixn hB
  rw [<- zbn xs,<- zbn ys]
  go_enter Tryz.func106,Tryz.ntmps106
  go_wp2_with fail
  refine (zah ao _ c xs w rfl ha).mono ?_
  rintro e w' ⟨rfl,rfl⟩
  go_wp2_with fail
  refine (zah bo _ d ys w rfl hb).mono ?_
  rintro e w' ⟨rfl,rfl⟩
  go_wp2_with (at_make;refine mk0 rfl _ _ rfl _ _ _ rfl rfl ?_ ?_ (Ext.refl w) ?_;omega;omega;intro w1 hown hext)
  all_goals
    go_loopw [5,6,27] (AddR w (trm xs) (trm ys)) (fun _ _ i _=>((trm xs).length+(trm ys).length+1 - intOf i).toNat)
    case atStart=>exact ⟨0,_,_,[],rfl,rfl,rfl,by omega,by simp,hown,hext,by simp [Hid,zbm,nV]⟩
    case round =>
      obtain ⟨carry,po,pc,zs,rfl,rfl,rfl,hc1,hk,hown,hext,heq⟩:=hrel
      by_cases hkA:zs.length<(trm xs).length <;> by_cases hkB:zs.length<(trm ys).length
      all_goals first | omega | skip
      all_goals
        have hx:=(hA.ext hext).cell zs.length
        have hy:=(hB.ext hext).cell zs.length
        have bx:=zat hA.lb zs.length
        have by_:=zat hB.lb zs.length
        go_wp2_with (at_builtin;refine push (wi:=w) rfl _ _ rfl _ _ zs _ rfl rfl hown _ ?_ ?_ rfl ?_ rfl hext ?_;omega;omega;omega;intro ao' c' w2 hown2 hext2)
      all_goals
        first
        | (go_wp2_with fail
           have hlx:=zbe (zs:=trm xs) (i:=zs.length)
           have hly:=zbe (zs:=trm ys) (i:=zs.length)
           go_roundw
           case rel=>exact ⟨(lim (trm xs) zs.length+lim (trm ys) zs.length+carry) / 4294967296,ao', c', zs++[(lim (trm xs) zs.length+lim (trm ys) zs.length+carry) % 4294967296],by simp,by simp,by go_num,by omega,by simp;omega,hown2.snocEq (by omega),hext2,add_step heq.out rfl⟩
           case measure=>simp [intOf];omega)
        | skip
      all_goals
        go_wp2_with fail
        have hv:nV (zs++[(carry:Int).toNat])=nV (trm xs)+nV (trm ys):=by
          have h1:=heq.out
          rw [zay (by omega),zay (by omega)] at h1
          rw [zcr,<- h1];simp
        have hv:=Lib.hid hv
        refine (zcm _ _ _ _ _ (by simp) hown2.rd (by simp;omega)).mono ?_
        intro e w' hg
        rw [hv.out] at hg
        obtain ⟨ao3,c3,zs3,rfl,h3⟩:=hg.from hext2
        go_wp2_with fail
        go_ret
        exact ⟨ao3,c3,zs3,rfl,h3⟩
def SubR (w:World) (xs ys:List Nat) (out br i:Value) (wr:World):Prop :=
  ∃ (bor:Nat) (po:Option Addr) (pc:Nat) (zs:List Nat),i = .int .i64 zs.length/\out = .slice po zs.length pc/\br = .int .u64 bor/\bor<=1/\zs.length<=100000000/\Own wr w.heap.size po pc zs/\Ext w wr /\
    Hid (vk xs zs.length+pw zs.length*bor=nV zs+vk ys zs.length)
theorem sub_step {b':Nat} (h:vk xs zs.length+pw zs.length*b=nV zs+vk ys zs.length) (hs:lim xs zs.length+4294967296*b'=y+lim ys zs.length+b) :
  Hid (vk xs (zs++[y]).length+pw (zs++[y]).length*b'=nV (zs++[y])+vk ys (zs++[y]).length):=by
 unfold Hid
 simp only [dD,cK,dE,bX]
 rw [zcr,zam,zam,zai]
 have h1:pw zs.length*(lim xs zs.length+4294967296*b')=pw zs.length*(y+lim ys zs.length+b):=by rw [hs]
 rw [bE,bE,bE,<- bJ,bP (pw zs.length) 4294967296] at h1
 omega
theorem sub_end (hz:Lb zs) (h:vk xs zs.length+pw zs.length*b=nV zs+vk ys zs.length) (hx:xs.length<=zs.length) (hy:ys.length<=zs.length) (hle:nV ys<=nV xs):nV zs=nV xs - nV ys:=by
 rw [zay hx,zay hy] at h
 have h1:=zau hz
 rcases b with _ | b
 ·simp at h;omega
 ·have:pw zs.length*1<=pw zs.length*(b+1):=cN _ (by omega)
  omega
def GotSub (w:World) (m n:Nat) (e:Ending) (w':World):Prop :=
  ∃ ao c zs,e = .returned (.tuple #[.slice ao zs.length c,.bool (decide (n<=m))])/\Own w' w.heap.size ao c zs/\zbt zs/\nV zs=m - n/\Ext w w'
set_option maxHeartbeats 1000000 in
theorem Sub_any (ao:Option Addr) (n c:Nat) (xs:List Nat) (bo:Option Addr) (m d:Nat) (ys:List Nat) (w:World) (hn:n=xs.length) (hm:m=ys.length) (ha:Rd w ao c xs) (hb:Rd w bo d ys)
  (hl1:xs.length<=100000000) (_hl2:ys.length<=100000000) :
  Calls eC 107 #[.slice ao n c,.slice bo m d] w (GotSub w (nV xs) (nV ys)):=by
 subst hn hm
 have hA:=ha.trm
 have hB:=hb.trm
 have bA:=hA.cap
 have bB:=hB.cap
 have mA:=hA.mx
 have mB:=hB.mx
 have lA:=ze5 xs
 have lB:=ze5 ys
 have cA:=zcb ha.lb
 have cB:=zcb hb.lb
 have hiA:=ixn hA
 have hiB:=ixn hB
 rw [<- zbn xs,<- zbn ys]
 by_cases hle:nV (trm ys)<=nV (trm xs)
 ·have hlen:(trm ys).length<=(trm xs).length:=by
   rcases bW (trm xs).length (trm ys).length with h | h
   ·have:=zc1 cA.1 cB h;omega
   ·exact h
  have hcmp:0<=zhk (nV (trm xs)) (nV (trm ys)):=by unfold zhk;split;omega;split <;> omega
  go_enter Tryz.func107,Tryz.ntmps107
  go_wp2_with fail
  refine (zah ao _ c xs w rfl ha).mono ?_
  rintro e w' ⟨rfl,rfl⟩
  go_wp2_with fail
  refine (zah bo _ d ys w rfl hb).mono ?_
  rintro e w' ⟨rfl,rfl⟩
  go_wp2_with fail
  refine (zgp _ _ _ _ _ _ _ _ _ rfl rfl hA hB).mono ?_
  rintro e w1 ⟨rfl,hq⟩
  go_wp2_with (at_make;refine mk0 rfl _ _ rfl _ _ _ rfl rfl ?_ ?_ hq.ext ?_;omega;omega;intro w1 hown hext)
  go_loopw [6,7,25] (SubR w (trm xs) (trm ys)) (fun _ _ i _=>((trm xs).length - intOf i).toNat)
  case atStart=>exact ⟨0,_,_,[],rfl,rfl,rfl,by omega,by simp,hown,hext,by simp [Hid,zbm,nV]⟩
  case round =>
   obtain ⟨bor,po,pc,zs,rfl,rfl,rfl,hc1,hk,hown,hext,heq⟩:=hrel
   by_cases hkA:zs.length<(trm xs).length
   ·by_cases hkB:zs.length<(trm ys).length
    all_goals
     have hx:=(hA.ext hext).cell zs.length hkA
     have hy:=(hB.ext hext).cell zs.length
     have bx:=zat hA.lb zs.length
     have by_:=zat hB.lb zs.length
     have hly:=zbe (zs:=trm ys) (i:=zs.length)
     go_wp2_with (at_builtin;refine push (wi:=w) rfl _ _ rfl _ _ zs _ rfl rfl hown _ ?_ ?_ rfl ?_ rfl hext ?_;omega;omega;omega;intro ao' c' w2 hown2 hext2)
    all_goals
     go_wp2_with fail
     go_roundw
     case rel =>
      first
      | exact ⟨0,ao', c', _,by simp,by simp,rfl,by omega,by simp;omega,hown2,hext2,sub_step heq.out (by omega)⟩
      | exact ⟨1,ao', c', _,by simp,by simp,rfl,by omega,by simp;omega,hown2,hext2,sub_step heq.out (by omega)⟩
     case measure=>simp [intOf];omega
   ·go_wp2_with fail
    have hv:=Lib.hid (sub_end hown.lb heq.out (by omega) (by omega) hle)
    refine (zcm _ _ _ _ _ rfl hown.rd (by omega)).mono ?_
    intro e w' hg
    rw [hv.out] at hg
    obtain ⟨ao3,c3,zs3,rfl,h1,h2,h3,h4⟩:=hg.from hext
    go_wp2_with fail
    go_ret2
    exact ⟨ao3,c3,zs3,by simp [hle],h1,h2,h3,h4⟩
 ·have hcmp:zhk (nV (trm xs)) (nV (trm ys))<0:=by rw [zgn (by omega)];omega
  go_enter Tryz.func107,Tryz.ntmps107
  go_wp2_with fail
  refine (zah ao _ c xs w rfl ha).mono ?_
  rintro e w' ⟨rfl,rfl⟩
  go_wp2_with fail
  refine (zah bo _ d ys w rfl hb).mono ?_
  rintro e w' ⟨rfl,rfl⟩
  go_wp2_with fail
  refine (zgp _ _ _ _ _ _ _ _ _ rfl rfl hA hB).mono ?_
  rintro e w1 ⟨rfl,hq⟩
  go_wp2_with fail
  go_ret2
  exact ⟨none,0,[],by simp [hle],Own.nil _ _,zbw,by simp only [val_nil];omega,hq.ext⟩
set_option maxHeartbeats 400000 in
theorem zgg (ao:Option Addr) (n c:Nat) (bo:Option Addr) (m d:Nat) (w:World) :
  Calls eC 77 #[.slice ao n c,.slice bo m d] w fun e w'=>e = .returned (.int .i64 ((max n m:Nat):Int))/\w=w':=by
 by_cases h:m<n
 ·have e:max n m=n:=by omega
  rw [e]
  clear e
  go_enter Tryz.func77,Tryz.ntmps77
  go_wp2_with fail
  go_ret
  exact ⟨rfl,rfl⟩
 ·have e:max n m=m:=by omega
  rw [e]
  clear e
  go_enter Tryz.func77,Tryz.ntmps77
  go_wp2_with fail
  go_ret
  exact ⟨rfl,rfl⟩
set_option maxHeartbeats 400000 in
theorem zg4 (ao:Option Addr) (n c:Nat) (zs:List Nat) (w:World) (E:Int) (i:Nat) (hE:E=(i:Int)) (hn:n=zs.length) (h:Rd w ao c zs) :
  Calls eC 78 #[.slice ao n c,.int .i64 E] w fun e w'=>e = .returned (.int .u64 (lim zs i))/\w=w':=by
 subst hE hn
 by_cases hi:i<zs.length
 ·have hix:=ixn h
  have hx:=h.cell i hi
  have hb:=zat h.lb i
  go_enter Tryz.func78,Tryz.ntmps78
  go_wp2_with fail
  go_ret
  exact ⟨rfl,rfl⟩
 ·rw [zbe (by omega)]
  go_enter Tryz.func78,Tryz.ntmps78
  go_wp2_with fail
  go_ret
  exact ⟨rfl,rfl⟩
def CopyR (w:World) (zs:List Nat) (out i:Value) (wr:World):Prop :=
  ∃ (k:Nat) (po:Option Addr) (pc:Nat),k<=zs.length/\i = .int .i64 k/\out = .slice po k pc/\Own wr w.heap.size po pc (zs.take k)/\Ext w wr
theorem take_snoc (h:k<zs.length):zs.take k++[lim zs k]=zs.take (k+1):=by
 rw [dJ,zbj h];rfl
set_option maxHeartbeats 400000 in
theorem zeh (ao:Option Addr) (n c:Nat) (zs:List Nat) (w:World) (hn:n=zs.length) (h:Rd w ao c zs) (hl:zs.length<=1000000000) :
  Calls eC 76 #[.slice ao n c] w (GotN w (nV zs)):=by
 subst hn
 have hix:=ixn h
 have mx:=h.mx
 have hcap:=h.cap
 go_enter Tryz.func76,Tryz.ntmps76
 go_wp2_with fail
 go_loopw [3,4] (CopyR w zs) (fun _ i _=>(zs.length - intOf i).toNat)
 case atStart=>exact ⟨0,_,_,cF _,rfl,rfl,zeb w,(Ext.refl w).alloc _⟩
 case round =>
  obtain ⟨k,po,pc,hk,rfl,rfl,hown,hext⟩:=hrel
  by_cases hkA:k<zs.length
  ·have hx:=(h.ext hext).cell k hkA
   have bx:=zat h.lb k
   go_wp2_with (at_builtin;refine push (wi:=w) rfl _ _ rfl _ _ (zs.take k) _ (by simp;omega) rfl hown _ ?_ ?_ rfl ?_ rfl hext ?_;omega;omega;(simp;omega);intro ao' c' w2 hown2 hext2)
   go_roundw
   case rel=>exact ⟨k+1,ao', c', by omega,by go_num,rfl,by rw [<- take_snoc hkA];exact hown2.snocEq (by omega),hext2⟩
   case measure=>simp [intOf];omega
  ·have hke:zs.take k=zs:=cM (by omega)
   have hkl:zs.length=k:=by omega
   rw [hke] at hown
   clear hke hkA hk
   subst hkl
   go_wp2_with fail
   go_loopw [3] (fun out wr=>∃ m:Nat,m<=zs.length/\out = .slice po m pc/\Own wr w.heap.size po pc (zs.take m)/\Ext w wr/\Hid (zdg zs zs.length=zdg zs m)) (fun out _=>match out with | .slice _ l _=>l | _=>0)
   case atStart=>exact ⟨zs.length,bC _,rfl,by rw [List.take_length];exact hown,hext,rfl⟩
   case round =>
    obtain ⟨m,hm,rfl,hown,hext,ht⟩:=hrel
    rcases m with _ | m
    ·go_wp2_with fail
     go_ret
     have e:trm zs=zs.take 0:=by rw [trm,ht.out];rfl
     refine ⟨po,pc,trm zs,by rw [e];simp,by rw [e];exact hown,zcb h.lb,zbn zs,hext⟩
    ·have hx:=hown.rd.cell m (by rw [bF];omega)
     rw [zhf (by omega)] at hx
     have hmx:=hown.rd.mx
     have hcc:=hown.rd.cap
     have hix2:=ixk hown.rd (m+1) (by simp;omega) m (by omega) wr
     rw [bF,bU hm] at hcc
     go_wp2_with fail
     ·go_roundw
      case rel=>exact ⟨m,by omega,rfl,hown.pop (by omega),hext,by unfold Hid;rw [ht.out,trimN_z (by assumption)]⟩
      case measure=>simp
     ·go_ret
      have e:trm zs=zs.take (m+1):=by rw [trm,ht.out,trimN_nz (by assumption)]
      refine ⟨po,pc,trm zs,by rw [e,bF,bU hm];rfl,by rw [e];exact hown,zcb h.lb,zbn zs,hext⟩
set_option maxHeartbeats 400000 in
theorem RCmp_any (ao:Option Addr) (n c:Nat) (xs:List Nat) (bo:Option Addr) (m d:Nat) (ys:List Nat) (w:World) (hn:n=xs.length) (hm:m=ys.length) (ha:Rd w ao c xs) (hb:Rd w bo d ys) :
  Calls eC 133 #[.slice ao n c,.slice bo m d] w fun e w'=>e = .returned (.int .i64 (zhk (nV xs) (nV ys)))/\w=w':=by
 subst hn hm
 have mA:=ha.mx
 have mB:=hb.mx
 have cA:=ha.cap
 have cB:=hb.cap
 go_enter Tryz.func133,Tryz.ntmps133
 go_wp2_with fail
 refine (zgg ao _ c bo _ d w).mono ?_
 rintro e w' ⟨rfl,rfl⟩
 go_wp2_with fail
 go_loop [5] (fun i=>∃ k:Nat,k<=max xs.length ys.length/\i = .int .i64 ((k:Int) - 1)/\upEq xs ys k) (fun i=>(intOf i+1).toNat)
 case atStart=>exact ⟨max xs.length ys.length,bC _,rfl,upEq_start (by omega) (by omega)⟩
 case round =>
  obtain ⟨k,hk,rfl,hu⟩:=hrel
  rcases k with _ | k
  ·have hres:=Lib.hid (cmpI_eq (upEq_all hu))
   go_wp2_with fail
   go_ret
   exact ⟨by rw [hres.out];rfl,rfl⟩
  ·go_wp2_with fail
   refine (zg4 ao _ c xs w _ k (by omega) rfl ha).mono ?_
   rintro e w' ⟨rfl,rfl⟩
   go_wp2_with fail
   refine (zg4 bo _ d ys w _ k (by omega) rfl hb).mono ?_
   rintro e w' ⟨rfl,rfl⟩
   by_cases h3:lim xs k<lim ys k
   ·have hres:=Lib.hid (zgn (upEq_lt ha.lb hu h3))
    go_wp2_with fail
    go_ret
    exact ⟨by rw [hres.out];rfl,rfl⟩
   ·go_wp2_with fail
    refine (zg4 ao _ c xs w _ k (by omega) rfl ha).mono ?_
    rintro e w' ⟨rfl,rfl⟩
    go_wp2_with fail
    refine (zg4 bo _ d ys w _ k (by omega) rfl hb).mono ?_
    rintro e w' ⟨rfl,rfl⟩
    by_cases h4:lim ys k<lim xs k
    ·have hres:=Lib.hid (cmpI_gt (upEq_lt hb.lb (upEq_symm hu) h4))
     go_wp2_with fail
     go_ret
     exact ⟨by rw [hres.out];rfl,rfl⟩
    ·have hu':=upEq_down hu (by omega)
     go_wp2_with fail
     go_round
     case rel=>exact ⟨k,by omega,by go_num,hu'⟩
     case measure=>simp [intOf];try omega
set_option maxHeartbeats 1000000 in
theorem RAdd_any (ao:Option Addr) (n c:Nat) (xs:List Nat) (bo:Option Addr) (m d:Nat) (ys:List Nat) (w:World) (hn:n=xs.length) (hm:m=ys.length) (ha:Rd w ao c xs) (hb:Rd w bo d ys)
  (hl1:xs.length<=10000000) (hl2:ys.length<=10000000) :
  Calls eC 40 #[.slice ao n c,.slice bo m d] w (GotN w (nV xs+nV ys)):=by
 subst hn hm
 have mA:=ha.mx
 have mB:=hb.mx
 have cA:=ha.cap
 have cB:=hb.cap
 go_enter Tryz.func40,Tryz.ntmps40
 go_wp2_with fail
 go_loopw [5,6,7] (AddR w xs ys) (fun _ _ i _=>(((max xs.length ys.length:Nat):Int)+1 - intOf i).toNat)
 case atStart=>exact ⟨0,_,_,[],rfl,rfl,rfl,by omega,by simp,zeb w,(Ext.refl w).alloc _,by simp [Hid,zbm,nV]⟩
 case round =>
  obtain ⟨carry,po,pc,zs,rfl,rfl,rfl,hc1,hk,hown,hext,heq⟩:=hrel
  have bx:=zat ha.lb zs.length
  have by_:=zat hb.lb zs.length
  go_wp2_with fail
  refine (zgg ao _ c bo _ d wr).mono ?_
  rintro e w' ⟨rfl,rfl⟩
  by_cases hkA:zs.length<=max xs.length ys.length
  ·go_wp2_with fail
   refine (zg4 ao _ c xs wr _ zs.length (by omega) rfl (ha.ext hext)).mono ?_
   rintro e w' ⟨rfl,rfl⟩
   go_wp2_with fail
   refine (zg4 bo _ d ys wr _ zs.length (by omega) rfl (hb.ext hext)).mono ?_
   rintro e w' ⟨rfl,rfl⟩
   go_wp2_with (at_builtin;refine push (wi:=w) rfl _ _ rfl _ _ zs _ rfl rfl hown _ ?_ ?_ rfl ?_ rfl hext ?_;omega;omega;omega;intro ao' c' w2 hown2 hext2)
   go_roundw
   case rel=>exact ⟨(lim xs zs.length+lim ys zs.length+carry) / 4294967296,ao', c', zs++[(lim xs zs.length+lim ys zs.length+carry) % 4294967296],by simp,by simp,by go_num,by omega,by simp;omega,hown2.snocEq (by omega),hext2,add_step heq.out rfl⟩
   case measure=>simp [intOf];omega
  ·have hv:nV zs=nV xs+nV ys:=by
    have h1:=heq.out
    have h2:=zau ha.lb
    have h3:=zau hb.lb
    rw [zay (by omega),zay (by omega)] at h1
    have h4:nV xs<pw (zs.length - 1):=cO h2 (zd2 (by omega))
    have h5:nV ys<pw (zs.length - 1):=cO h3 (zd2 (by omega))
    have h6:pw zs.length=4294967296*pw (zs.length - 1):=by rw [<- zai];congr 1;omega
    rcases carry with _ | carry
    ·simpa using h1
    ·have:pw zs.length*1<=pw zs.length*(carry+1):=cN _ (by omega)
     omega
   have hv:=Lib.hid hv
   go_wp2_with fail
   refine (zeh _ _ _ _ _ rfl hown.rd (by omega)).mono ?_
   intro e w' hg
   rw [hv.out] at hg
   obtain ⟨ao3,c3,zs3,rfl,h3⟩:=hg.from hext
   go_wp2_with fail
   go_ret
   exact ⟨ao3,c3,zs3,rfl,h3⟩
set_option maxHeartbeats 1000000 in
theorem RSub_any (ao:Option Addr) (n c:Nat) (xs:List Nat) (bo:Option Addr) (m d:Nat) (ys:List Nat) (w:World) (hn:n=xs.length) (hm:m=ys.length) (ha:Rd w ao c xs) (hb:Rd w bo d ys)
  (hl1:xs.length<=10000000) (hl2:ys.length<=10000000) :
  Calls eC 118 #[.slice ao n c,.slice bo m d] w (GotSub w (nV xs) (nV ys)):=by
 subst hn hm
 have mA:=ha.mx
 have mB:=hb.mx
 have cA:=ha.cap
 have cB:=hb.cap
 by_cases hle:nV ys<=nV xs
 ·have hcmp:0<=zhk (nV xs) (nV ys):=by unfold zhk;split;omega;split <;> omega
  go_enter Tryz.func118,Tryz.ntmps118
  go_wp2_with fail
  refine (RCmp_any _ _ _ _ _ _ _ _ _ rfl rfl ha hb).mono ?_
  rintro e w1 ⟨rfl,rfl⟩
  go_wp2_with fail
  go_loopw [6,7,8] (fun out br i wr=>SubR w xs ys out br i wr) (fun _ _ i _=>(((max xs.length ys.length:Nat):Int) - intOf i).toNat)
  case atStart=>exact ⟨0,_,_,[],rfl,rfl,rfl,by omega,by simp,zeb w,(Ext.refl w).alloc _,by simp [Hid,zbm,nV]⟩
  case round =>
   obtain ⟨bor,po,pc,zs,rfl,rfl,rfl,hc1,hk,hown,hext,heq⟩:=hrel
   have bx:=zat ha.lb zs.length
   have by_:=zat hb.lb zs.length
   go_wp2_with fail
   refine (zgg ao _ c bo _ d wr).mono ?_
   rintro e w' ⟨rfl,rfl⟩
   by_cases hkA:zs.length<max xs.length ys.length
   ·go_wp2_with fail
    refine (zg4 ao _ c xs wr _ zs.length (by omega) rfl (ha.ext hext)).mono ?_
    rintro e w' ⟨rfl,rfl⟩
    go_wp2_with fail
    refine (zg4 bo _ d ys wr _ zs.length (by omega) rfl (hb.ext hext)).mono ?_
    rintro e w' ⟨rfl,rfl⟩
    go_wp2_with (at_builtin;refine push (wi:=w) rfl _ _ rfl _ _ zs _ rfl rfl hown _ ?_ ?_ rfl ?_ rfl hext ?_;omega;omega;omega;intro ao' c' w2 hown2 hext2)
    go_roundw
    case rel=>exact ⟨1 - (lim xs zs.length+4294967296 - lim ys zs.length - bor) / 4294967296,ao', c', _,by simp,by simp,by go_num,by omega,by simp;omega,hown2,hext2,sub_step heq.out (by omega)⟩
    case measure=>simp [intOf];omega
   ·have hv:=Lib.hid (sub_end hown.lb heq.out (by omega) (by omega) hle)
    go_wp2_with fail
    refine (zeh _ _ _ _ _ rfl hown.rd (by omega)).mono ?_
    intro e w' hg
    rw [hv.out] at hg
    obtain ⟨ao3,c3,zs3,rfl,h1,h2,h3,h4⟩:=hg.from hext
    go_wp2_with fail
    go_ret2
    exact ⟨ao3,c3,zs3,by simp [hle],h1,h2,h3,h4⟩
 ·have hcmp:zhk (nV xs) (nV ys)<0:=by rw [zgn (by omega)];omega
  go_enter Tryz.func118,Tryz.ntmps118
  go_wp2_with fail
  refine (RCmp_any _ _ _ _ _ _ _ _ _ rfl rfl ha hb).mono ?_
  rintro e w1 ⟨rfl,rfl⟩
  go_wp2_with fail
  go_ret2
  exact ⟨none,0,[],by simp [hle],Own.nil _ _,zbw,by simp only [val_nil];omega,Ext.refl _⟩
set_option maxHeartbeats 400000 in
theorem Same_any (ao:Option Addr) (n c:Nat) (xs:List Nat) (bo:Option Addr) (m d:Nat) (ys:List Nat) (w:World) (hn:n=xs.length) (hm:m=ys.length) (ha:Rd w ao c xs) (hb:Rd w bo d ys) :
  Calls eC 41 #[.slice ao n c,.slice bo m d] w fun e w'=>e = .returned (.bool (decide (xs=ys)))/\Qt w w':=by
 subst hn hm
 have mA:=ha.mx
 have mB:=hb.mx
 have cA:=ha.cap
 have cB:=hb.cap
 by_cases hl:xs.length=ys.length
 ·have hlb:((xs.length:Int) != (ys.length:Int))=false:=by simp [hl]
  have Hl:=Lib.hid hl
  clear hl
  have hiA:=ixn ha
  have hiB:=ixn hb
  go_enter Tryz.func41,Tryz.ntmps41
  go_wp2_with fail
  go_loopw [5] (fun i wr=>∃ k:Nat,k<=xs.length/\i = .int .i64 k/\Hid (∀ j,j<k->lim xs j=lim ys j)/\Qt w wr) (fun i _=>(xs.length - intOf i).toNat)
  case atStart=>exact ⟨0,cF _,rfl,(fun j hj=>by omega),Qt.refl _⟩
  case round =>
   obtain ⟨k,hk,rfl,he,hq⟩:=hrel
   by_cases hkA:k<xs.length
   ·have hkB:k<ys.length:=by have:=Hl.out;omega
    have hx:=(ha.ext hq.ext).cell k hkA
    have hy:=(hb.ext hq.ext).cell k hkB
    by_cases h3:lim xs k=lim ys k
    ·have H3:=Lib.hid h3
     have h3':((lim xs k:Int) != (lim ys k:Int))=false:=by simp [h3]
     clear h3
     go_wp2_with fail
     go_quiet (fail)
     go_wp2_with fail
     go_roundw
     case rel=>exact ⟨k+1,by omega,by go_num,(fun j hj=>by rcases Nat.lt_succ_iff_lt_or_eq.1 hj with h | rfl;exact he.out j h;exact H3.out),hq.drewN _⟩
     case measure=>simp [intOf];omega
    ·have hres:decide (xs=ys)=false:=by simp;intro h;exact h3 (by rw [h])
     have Hres:=Lib.hid hres
     have h3':((lim xs k:Int) != (lim ys k:Int))=true:=by simp;omega
     clear hres h3
     go_wp2_with fail
     go_quiet (fail)
     go_wp2_with fail
     go_ret
     exact ⟨by rw [Hres.out];rfl,hq.drewN _⟩
   ·have hres:decide (xs=ys)=true:=by
     simp;exact list_ext_lim Hl.out (fun i hi=>he.out i (by omega))
    have Hres:=Lib.hid hres
    clear hres
    go_wp2_with fail
    go_ret
    exact ⟨by rw [Hres.out];rfl,hq⟩
 ·have hres:decide (xs=ys)=false:=by simp;intro h;exact hl (by rw [h])
  have hlb:((xs.length:Int) != (ys.length:Int))=true:=by simp;omega
  rw [hres]
  clear hres hl
  go_enter Tryz.func41,Tryz.ntmps41
  go_wp2_with fail
  go_ret
  exact ⟨rfl,Qt.refl _⟩
def SchO (w:World) (xs ys:List Nat) (po:Option Addr) (pc:Nat) (i:Value) (wr:World):Prop :=
  ∃ (k:Nat) (zs:List Nat),k<=xs.length/\i = .int .i64 k/\Hid (zs.length=xs.length+ys.length)/\Own wr w.heap.size po pc zs/\Ext w wr/\Hid (nV zs=vk xs k*nV ys)/\Hid (∀ t,k+ys.length<=t->lim zs t=0)
def SchI (w:World) (n:Nat) (ys:List Nat) (po:Option Addr) (pc:Nat) (i x v0:Nat) (cr j:Value) (wr:World):Prop :=
  ∃ (k carry:Nat) (zs:List Nat),k<=ys.length/\j = .int .i64 k/\cr = .int .u64 carry/\carry<4294967296/\Hid (zs.length=n)/\Own wr w.heap.size po pc zs/\Ext w wr/\Hid (nV zs+pw (i+k)*carry=v0+pw i*(x*vk ys k))/\Hid (∀ t,i+ys.length<=t->lim zs t=0)
theorem sch_step {x v0 s:Nat} (h:nV zs+pw (i+k)*carry=v0+pw i*(x*vk ys k)) (hz:i+k<zs.length) (hs:s=x*lim ys k+lim zs (i+k)+carry) :
  Hid (nV (zs.set (i+k) (s % 4294967296))+pw (i+(k+1))*(s / 4294967296)=v0+pw i*(x*vk ys (k+1))):=by
 unfold Hid
 have h1:=zez (y:=s % 4294967296) hz
 have h2:=zck (pw (i+k)) s
 have h3:pw i*(x*vk ys (k+1))=pw i*(x*vk ys k)+pw (i+k)*(x*lim ys k):=by
  rw [zam,bE,bE,ze6]
  congr 1
  rw [<- bJ x,bP x,bJ (pw k),bJ (pw i)]
 rw [<- cL i k 1,zai,h3]
 have h4:pw (i+k)*s=pw (i+k)*(x*lim ys k)+pw (i+k)*lim zs (i+k)+pw (i+k)*carry:=by rw [hs,bE,bE]
 omega
theorem sch_round {v:Nat} (hv:v=vk xs i*nV ys) (h:nV zs+pw (i+ys.length)*carry=v+pw i*(lim xs i*vk ys ys.length)) (hz:i+ys.length<zs.length) (h0:lim zs (i+ys.length)=0) :
  Hid (nV (zs.set (i+ys.length) carry)=vk xs (i+1)*nV ys):=by
 unfold Hid
 have h1:=zez (y:=carry) hz
 rw [h0] at h1
 rw [zay (bC _),hv] at h
 rw [zam,cZ,bJ (pw i)]
 omega
theorem prod_lt {x:Nat} (hx:x<4294967296) (hy:y<4294967296):x*y<=18446744065119617025:=by
 have h:x*y<=4294967295*4294967295:=Nat.mul_le_mul (by omega) (by omega)
 omega
set_option maxHeartbeats 2000000 in
theorem school_any (ao:Option Addr) (n c:Nat) (xs:List Nat) (bo:Option Addr) (m d:Nat) (ys:List Nat) (w:World) (hn:n=xs.length) (hm:m=ys.length) (ha:Rd w ao c xs) (hb:Rd w bo d ys)
  (hl1:xs.length<=10000000) (hl2:ys.length<=10000000) :
  Calls eC 121 #[.slice ao n c,.slice bo m d] w (GotN w (nV xs*nV ys)):=by
 subst hn hm
 have mA:=ha.mx
 have mB:=hb.mx
 have cA:=ha.cap
 have cB:=hb.cap
 go_enter Tryz.func121,Tryz.ntmps121
 go_wp2_with (at_make;refine mkf rfl _ _ rfl _ _ _ rfl rfl ?_ ?_ (Ext.refl w) ?_;omega;omega;intro w1 hown hx0 hext)
 have ec:((xs.length:Int)+(ys.length:Int)).toNat=xs.length+ys.length:=by omega
 rw [ec] at hown
 clear ec
 go_loopw [20] (SchO w xs ys (some ⟨w.heap.size,0,none⟩) (xs.length+ys.length)) (fun i _=>(xs.length - intOf i).toNat)
 case atStart=>exact ⟨0,_,by omega,rfl,by simp [Hid],hown,hext,by unfold Hid;rw [zb3,zbm];simp,fun t _=>zdc _ t⟩
 case round =>
  obtain ⟨i,zs,hi,rfl,hzl,hzo,hzx,hzv,hz0⟩:=hrel
  by_cases hiA:i<xs.length
  ·have hx:=(ha.ext hzx).cell i hiA
   have hix:=ixk ha xs.length rfl i hiA wr
   have bx:=zat ha.lb i
   go_wp2_with fail
   go_loopw [8,27] (SchI w (xs.length+ys.length) ys (some ⟨w.heap.size,0,none⟩) (xs.length+ys.length) i (lim xs i) (nV zs)) (fun _ j _=>(ys.length - intOf j).toNat)
   case atStart=>exact ⟨0,0,zs,by omega,rfl,rfl,by omega,hzl,hzo,hzx,by simp [Hid,zbm],hz0⟩
   case round =>
    obtain ⟨k,carry,qs,hk,rfl,rfl,hc,hql,hqo,hqx,hqv,hq0⟩:=hrel
    by_cases hkB:k<ys.length
    ·have hy:=(hb.ext hqx).cell k hkB
     have hiy:=ixk hb ys.length rfl k hkB wr
     have bY:=zat hb.lb k
     have hkq:i+k<qs.length:=by have:=hql.out;omega
     have hqc:=hqo.rd.cell (i+k) hkq
     have hiq:=ixe hqo.rd (xs.length+ys.length) hql.out.symm ((i:Int)+(k:Int)) (i+k) (by omega) (by omega) wr
     have hf:=hqo.frozen (by omega) (i+k)
     have bQ:=zat hqo.lb (i+k)
     have bp:=prod_lt bx bY
     have hst:=sch_step hqv.out hkq rfl
     obtain ⟨p,hp⟩:∃ p,p=lim xs i*lim ys k:=⟨_,rfl⟩
     rw [<- hp] at bp hst
     have hp':((lim xs i:Nat):Int)*((lim ys k:Nat):Int)=(p:Int):=by rw [hp,Int.natCast_mul]
     clear hp hqv
     go_wp2_with fail
     have hs1:=hqo.store (i+k) hkq (((p:Int)+(lim qs (i+k):Int)+(carry:Int)) % 4294967296) ((p+lim qs (i+k)+carry) % 4294967296) (by omega) (by omega)
     go_roundw
     case rel=>exact ⟨k+1,(p+lim qs (i+k)+carry) / 4294967296,_,by omega,by go_num,by go_num,by omega,by unfold Hid;rw [dN];exact hql.out,hs1.1,hqx.store (show w.heap.size<=w.heap.size by omega) _,hst,fun t ht=>by rw [zbi (by omega)];exact hq0.out t ht⟩
     case measure=>simp [intOf];try omega
    ·obtain rfl:k=ys.length:=by omega
     have hkq:i+ys.length<qs.length:=by have:=hql.out;omega
     have hqc:=hqo.rd.cell (i+ys.length) hkq
     have hiq:=ixe hqo.rd (xs.length+ys.length) hql.out.symm ((i:Int)+(ys.length:Int)) (i+ys.length) (by omega) (by omega) wr
     have hf:=hqo.frozen (by omega) (i+ys.length)
     have hst:=sch_round hzv.out hqv.out hkq (hq0.out _ (bC _))
     clear hqv
     go_wp2_with fail
     have hs1:=hqo.store (i+ys.length) hkq (carry:Int) carry rfl hc
     go_roundw
     case rel=>exact ⟨i+1,_,by omega,by go_num,by unfold Hid;rw [dN];exact hql.out,hs1.1,hqx.store (show w.heap.size<=w.heap.size by omega) _,hst,fun t ht=>by rw [zbi (by omega)];exact hq0.out t (by omega)⟩
     case measure=>simp [intOf];try omega
  ·have hv:nV zs=nV xs*nV ys:=by have:=hzv.out;rwa [zay (by omega)] at this
   have Hv:=Lib.hid hv
   clear hv hzv
   go_wp2_with fail
   refine (zcm _ _ _ zs _ hzl.out.symm hzo.rd (by have:=hzl.out;omega)).mono ?_
   intro e w2 hg
   rw [Hv.out] at hg
   obtain ⟨ao3,c3,zs3,rfl,h3⟩:=hg.from hzx
   go_wp2_with fail
   go_ret
   exact ⟨ao3,c3,zs3,rfl,h3⟩
theorem Rd.hi {w:World} {c:Nat} (h:Rd w ao c zs) (k:Nat) (hk:k<=zs.length):Rd w (if c=k then ao else ao.map (·.add k)) (c - k) (zs.drop k):=by
 have h1:=h.cap
 rcases bW k zs.length with h2 | h2
 ·obtain ⟨b,o,rfl⟩:=h.isAt (by omega)
  rw [if_neg (by omega)]
  have h3:=h.drop k hk
  have e:(some (⟨b,o,none⟩:Addr)).map (·.add k)=some ⟨b,o+k,none⟩:=by
   simp only [Option.map_some,Addr.add]
   split
   ·subst_vars;rfl
   ·rfl
  rw [e]
  exact h3
 ·have e:zs.drop k=[]:=dO h2
  rw [e]
  refine ⟨cF _,bS (cP _ _) h.mx,?_,zey,fun hp=>by simp at hp,fun i hi=>by simp at hi⟩
  intro hn
  by_cases hc:c=k
  ·omega
  ·rw [if_neg hc] at hn
   have:=h.nl (by simpa using hn)
   omega
theorem Rd.nilAt (w:World) (ao:Option Addr):Rd w ao 0 []:=⟨bC _,by omega,fun _=>rfl,zey,fun h=>by simp at h,fun i h=>by simp at h⟩
theorem Rd.hiNe {w:World} {c:Nat} (h:Rd w ao c zs) (k:Nat) (hk:k<=zs.length) (hne:¬ c=k):Rd w (ao.map (·.add k)) (c - k) (zs.drop k):=by
 have:=h.hi k hk
 rwa [if_neg hne] at this
theorem Rd.lo {w:World} {c:Nat} (h:Rd w ao c zs) (k:Nat) (hk:k<=zs.length):Rd w (if k=0 then ao else ao.map (·.add 0)) k (zs.take k):=by
 have h1:=h.take k hk k (by rw [bF];omega) (bS hk h.cap)
 have e:(if k=0 then ao else ao.map (·.add 0))=ao:=by
  split
  ·rfl
  ·cases ao with
   | none=>rfl
   | some a=>rfl
 rw [e];exact h1
def GotPieces (w:World) (xs:List Nat) (k:Nat) (e:Ending) (w':World):Prop :=
  ∃ lo lc ho hc,e = .returned (.tuple #[.slice lo (xs.take k).length lc,.slice ho (xs.drop k).length hc])/\Rd w' lo lc (xs.take k)/\Rd w' ho hc (xs.drop k)/\Qt w w'
set_option maxHeartbeats 1000000 in
theorem zel (ao:Option Addr) (n c:Nat) (xs:List Nat) (E:Int) (k:Nat) (w:World) (hn:n=xs.length) (hE:E=(k:Int)) (ha:Rd w ao c xs) (_hl1:xs.length<=10000000) (hk:k<=10000000) :
  Calls eC 135 #[.slice ao n c,.int .i64 E] w (GotPieces w xs (min k xs.length)):=by
 subst hn hE
 have mA:=ha.mx
 have cA:=ha.cap
 have lo:=fun j (h:j<=xs.length)=>ha.take j h j (by rw [bF];omega) (by omega)
 have hi:=fun j (h:j<=xs.length) (hne:¬ c=j)=>ha.hiNe j h hne
 have Lo:=Lib.hid lo
 have Hi:=Lib.hid hi
 clear lo hi
 rcases Nat.lt_trichotomy k xs.length with hkl | hkl | hkl
 ·have e:min k xs.length=k:=by omega
  rw [e]
  clear e
  have hkc:¬ c=k:=by omega
  go_enter Tryz.func135,Tryz.ntmps135
  go_wp2_with fail
  go_quiet (fail)
  go_wp2_with fail
  go_ret2
  exact ⟨ao,k,_,c - k,by rw [bF,cE,bU (by omega)];rfl,(Lo.out k (by omega)).ext ((Qt.refl w).drewN _).ext,(Hi.out k (by omega) hkc).ext ((Qt.refl w).drewN _).ext,(Qt.refl w).drewN _⟩
 ·subst hkl
  have e:min xs.length xs.length=xs.length:=by omega
  rw [e]
  clear e
  by_cases hkc:c=xs.length
  ·subst hkc
   go_enter Tryz.func135,Tryz.ntmps135
   go_wp2_with fail
   go_quiet (fail)
   go_wp2_with fail
   go_ret2
   exact ⟨ao,xs.length,ao,0,by simp,(Lo.out xs.length (by omega)).ext ((Qt.refl w).drewN _).ext,by rw [dL];exact Rd.nilAt _ _,(Qt.refl w).drewN _⟩
  ·go_enter Tryz.func135,Tryz.ntmps135
   go_wp2_with fail
   go_quiet (fail)
   go_wp2_with fail
   go_ret2
   exact ⟨ao,xs.length,_,c - xs.length,by simp,(Lo.out xs.length (by omega)).ext ((Qt.refl w).drewN _).ext,(Hi.out xs.length (by omega) hkc).ext ((Qt.refl w).drewN _).ext,(Qt.refl w).drewN _⟩
 ·have e:min k xs.length=xs.length:=by omega
  rw [e]
  clear e
  by_cases hkc:c=xs.length
  ·subst hkc
   go_enter Tryz.func135,Tryz.ntmps135
   go_wp2_with fail
   go_quiet (fail)
   go_wp2_with fail
   go_ret2
   exact ⟨ao,xs.length,ao,0,by simp,(Lo.out xs.length (by omega)).ext ((Qt.refl w).drewN _).ext,by rw [dL];exact Rd.nilAt _ _,(Qt.refl w).drewN _⟩
  ·go_enter Tryz.func135,Tryz.ntmps135
   go_wp2_with fail
   go_quiet (fail)
   go_wp2_with fail
   go_ret2
   exact ⟨ao,xs.length,_,c - xs.length,by simp,(Lo.out xs.length (by omega)).ext ((Qt.refl w).drewN _).ext,(Hi.out xs.length (by omega) hkc).ext ((Qt.refl w).drewN _).ext,(Qt.refl w).drewN _⟩
theorem copyTail {w:World} (hgd:o.guard=none) (d s:Operand)
  (ho:o.op = .call { callee:=.builtin .copy,args:=#[d,s],argTypes:=#[31,31] })
  {B g:Nat} (hown:Own w B (some ⟨g,0,none⟩) n zs) (hn:zs.length=n) (k:Nat) (bo:Option Addr) (sc:Nat) (ys:List Nat) (hrd:Rd w bo sc ys) (hk:k+ys.length=n)
  (dp:Option Addr) (l dc:Nat) (hl:l=ys.length) (hd:a.eval d = .slice dp l dc) (hdp:0<ys.length->dp=some ⟨g,k,none⟩) (m:Nat) (hm:m=ys.length) (hs:a.eval s = .slice bo m sc)
  (hB:B=wi.heap.size) (hext:Ext wi w)
  (h:∀ w', Own w' B (some ⟨g,0,none⟩) n (zs.take k++ys)->Ext wi w'->wpList eC ops Q rest (a.put o.dst (goInt ys.length)) w') :
  wpList eC ops Q (o :: rest) a w:=by
 subst hl hm
 obtain ⟨cur,hg,hcur⟩:∃ cur:Array Value,w.heap[g]?=some (.cells cur 79 (0,0))/\cur=(zs.map fun (x:Nat)=>Value.int .u32 (x:Int)).toArray:=by
  rcases hown.row.2 with ⟨hv,h0⟩ | ⟨g', cap,cur,hv,hb,hg,hnc,hcm,hcs,htake⟩
  ·simp at hv
  ·simp only [Value.slice.injEq,Option.some.injEq,Addr.mk.injEq,true_and,and_true] at hv
   obtain ⟨rfl,rfl⟩:=hv
   refine ⟨cur,hg,?_⟩
   rw [<- htake,cM (by simp;omega)]
 subst hcur
 have hgB:B<=g:=by
  have:=hown.lt g (by simp [Value.ownBlock])
  exact this.1
 refine wpList_copy_splice hgd d s 31 31 ho 79 und (by kernel_rfl) dp bo ys.length dc ys.length sc hd hs g k _ 79 hg (ys.map fun (x:Nat)=>Value.int .u32 (x:Int)) (by simp) ?_ (by simp;omega) (fun v hv=>by simp at hv;obtain ⟨x,_,rfl⟩:=hv;rfl) B wi (by rw [hB];exact hext) hgB ?_
 ·intro hp
  rw [dP] at hp
  refine ⟨hdp hp,_,hrd.ad hp,?_⟩
  intro j u hj
  have hlt:j<ys.length:=by have:=(cC.1 hj).1;simpa using this
  rw [dM,zbj hlt] at hj
  simp at hj
  subst hj
  have h0:=hrd.cell j hlt
  have h2:(⟨bk bo,of bo,none⟩:Addr).add j=⟨bk bo,of bo+j,none⟩:=by
   unfold Addr.add
   split
   ·subst_vars;rfl
   ·rfl
  rw [h2];exact h0
 ·intro w' hw' hb'
  have hlen:(zs.take k++ys).length=n:=by rw [dD,bF];omega
  have e:splice (zs.map fun (x:Nat)=>Value.int .u32 (x:Int)) k (ys.map fun (x:Nat)=>Value.int .u32 (x:Int))=(zs.take k++ys).map fun (x:Nat)=>Value.int .u32 (x:Int):=by
   unfold splice
   rw [dP,dO (by simp;omega),List.append_nil,List.map_append,List.map_take]
  have hw2:=hw'.out
  rw [e] at hw2
  have:=h w' ⟨Lb_append (Lb_take hown.lb _) hrd.lb,by simp,.inr ⟨g,n,_,rfl,hgB,hw2,by omega,?_,by simp;omega,by rw [hlen,cY,cM];rw [dP,hlen];omega⟩⟩ (by rw [hB] at hb';exact hb')
  ·simpa using this
  ·have:=hown.rd.mx
   unfold maxLen;omega
def GotUp (w:World) (v n:Nat) (L:Nat) (e:Ending) (w':World):Prop:=∃ ao c zs,e = .returned (.slice ao zs.length c)/\Rd w' ao c zs/\nV zs=v*pw n/\zs.length<=L+n/\Ext w w'
set_option maxHeartbeats 1000000 in
theorem up_any (ao:Option Addr) (n c:Nat) (xs:List Nat) (E:Int) (k:Nat) (w:World) (hn:n=xs.length) (hE:E=(k:Int)) (ha:Rd w ao c xs) (hl1:xs.length<=10000000) (hk:k<=20000000) :
  Calls eC 136 #[.slice ao n c,.int .i64 E] w (GotUp w (nV xs) k xs.length):=by
 subst hn hE
 have hA:=ha.trm
 have lA:=ze5 xs
 have mA:=hA.mx
 have cA:=hA.cap
 rcases cX (trm xs).length with h0 | hp
 ·have e0:trm xs=[]:=bV.1 h0
  have hv:nV xs=0:=by rw [<- zbn,e0];rfl
  have hz:(((trm xs).length:Int) == 0)=true:=beq_iff_eq.2 (by omega)
  have Hv:=Lib.hid hv
  clear h0 e0 hv
  go_enter Tryz.func136,Tryz.ntmps136
  go_wp2_with fail
  refine (zah ao _ c xs w rfl ha).mono ?_
  rintro e w' ⟨rfl,rfl⟩
  go_wp2_with fail
  go_ret
  exact ⟨none,0,[],rfl,Rd.nil _,by rw [Hv.out];simp [nV],by simp,Ext.refl _⟩
 ·have hz:(((trm xs).length:Int) == 0)=false:=beq_eq_false_iff_ne.2 (by omega)
  have hne:¬ trm xs=[]:=by intro e;rw [e] at hp;simp at hp
  go_enter Tryz.func136,Tryz.ntmps136
  go_wp2_with fail
  refine (zah ao _ c xs w rfl ha).mono ?_
  rintro e w' ⟨rfl,rfl⟩
  go_wp2_with (first
   | (at_make;refine mkf rfl _ _ rfl _ _ _ rfl rfl ?_ ?_ (Ext.refl w) ?_;omega;omega;intro w1 hown hx0 hext;have ec:((k:Int)+((trm xs).length:Int)).toNat=k+(trm xs).length:=(by omega);rw [ec] at hown;clear ec)
   | (refine copyTail (wi:=w) ?_ (.tmp 18) (.tmp 19) ?_ hown ?_ k ao c (trm xs) ?_ rfl (some ⟨w.heap.size,k,none⟩) (trm xs).length (trm xs).length rfl ?_ ?_ (trm xs).length rfl ?_ rfl hext ?_;rfl;rfl;simp;exact hA.ext hext;rfl;(intro _;rfl);rfl;intro w2 hown2 hext2))
  go_ret
  refine ⟨_,_,_,?_,hown2.rd,?_,?_,hext2⟩
  ·simp
  ·rw [List.take_replicate,zej,zb3,List.length_replicate,bU (by omega),zbn];rw [bX,bP]
  ·simp;omega
theorem three_law (a1 a0 b1 b0 P:Nat) :
  a0*b0+((a0+a1)*(b0+b1) - a0*b0 - a1*b1)*P+a1*b1*(P*P)=(a0+P*a1)*(b0+P*b1):=by
 have e:(a0+a1)*(b0+b1) - a0*b0 - a1*b1=a0*b1+a1*b0:=by
  rw [cZ,bE,bE];omega
 rw [e,cZ (a0*b1) (a1*b0) P,cZ a0 (P*a1) (b0+P*b1),bE a0,bE (P*a1)]
 have h1:a0*(P*b1)=a0*b1*P:=by rw [bP P,bJ]
 have h2:P*a1*b0=a1*b0*P:=by rw [bP P,bJ,bP P,bJ]
 have h3:P*a1*(P*b1)=a1*b1*(P*P):=by
  rw [Nat.mul_mul_mul_comm,bP (P*P)]
 omega
def MulIh (N : Nat) : Prop := ∀ (xs ys : List Nat), xs.length + ys.length < N -> ∀ (ao : Option Addr) (n c : Nat) (bo : Option Addr) (m d : Nat) (w : World), n = xs.length -> m = ys.length -> Rd w ao c xs -> Rd w bo d ys -> xs.length <= 1000000 -> ys.length <= 1000000 ->
      Calls eC 102 #[.slice ao n c,.slice bo m d] w (GotN w (nV xs*nV ys))
theorem three_any (N:Nat) (ih:MulIh N)
  (ao:Option Addr) (n c:Nat) (xs:List Nat) (bo:Option Addr) (m d:Nat) (ys:List Nat) (w:World) (hn:n=xs.length) (hm:m=ys.length) (ha:Rd w ao c xs) (hb:Rd w bo d ys)
  (hl1:xs.length<=1000000) (hl2:ys.length<=1000000) (hN:xs.length+ys.length<=N) (h24:24<=xs.length) (h25:24<=ys.length) :
  Calls eC 122 #[.slice ao n c,.slice bo m d] w (GotN w (nV xs*nV ys)):=by
 subst hn hm
 have mA:=ha.mx
 have mB:=hb.mx
 have cA:=ha.cap
 have cB:=hb.cap
 rcases bW xs.length ys.length with hle | hle
 ·obtain ⟨K,hK⟩:∃ K,K=(ys.length+1) / 2:=⟨_,rfl⟩
  have hK1:((ys.length:Int)+1) / 2=(K:Int):=by omega
  have hKb:K<=600000:=by omega
  have HK:=Lib.hid hK
  have hKx:xs.length<=K+K:=by omega
  have hKy:ys.length<=K+K:=by omega
  have hKN:K+K+2<N:=by omega
  clear hK
  have sx:=Lib.hid (zfh xs K)
  have sy:=Lib.hid (zfh ys K)
  obtain ⟨A,hA⟩:∃ A,A=xs.take (min K xs.length):=⟨_,rfl⟩
  obtain ⟨C,hC⟩:∃ C,C=xs.drop (min K xs.length):=⟨_,rfl⟩
  obtain ⟨D,hD⟩:∃ D,D=ys.take (min K ys.length):=⟨_,rfl⟩
  obtain ⟨F,hF⟩:∃ F,F=ys.drop (min K ys.length):=⟨_,rfl⟩
  have lA:A.length<=K:=by rw [hA,bF];omega
  have lC:C.length<=K:=by rw [hC,cE];omega
  have lD:D.length<=K:=by rw [hD,bF];omega
  have lF:F.length<=K:=by rw [hF,cE];omega
  have pA:=zel ao _ c xs (K:Int) K w rfl rfl ha (by omega) (by omega)
  have pB:=fun w1 (h:Ext w w1)=>zel bo _ d ys (K:Int) K w1 rfl rfl (hb.ext h) (by omega) (by omega)
  unfold GotPieces at pA pB
  rw [<- hA,<- hC] at pA sx
  rw [<- hD,<- hF] at sy
  simp only [<- hD,<- hF] at pB
  clear hA hC hD hF
  have Ih:=Lib.hid ih
  have hPA:=Lib.hid pA
  have hPB:=Lib.hid pB
  clear ih pA pB
  go_enter Tryz.func122,Tryz.ntmps122
  go_wp2_with fail
  refine (hPA.out).mono ?_
  rintro e w1 ⟨Aa,Ac,Ca,Cc,rfl,Ar,Cr,x⟩
  replace x:=x.ext
  have st:=x
  have hE:=st
  clear st x
  go_wp2_with fail
  refine (hPB.out _ hE).mono ?_
  rintro e w2 ⟨Da,Dc,Fa,Fc,rfl,Dr,Fr,x⟩
  replace x:=x.ext
  have st:=x
  replace Ar:=Ar.ext st
  replace Cr:=Cr.ext st
  replace hE:=hE.trans st
  clear st x
  have vA:=zas Ar.lb lA
  have vC:=zas Cr.lb lC
  have vD:=zas Dr.lb lD
  have vF:=zas Fr.lb lF
  have HA:=Lib.hid vA
  have HC:=Lib.hid vC
  have HD:=Lib.hid vD
  have HF:=Lib.hid vF
  clear vA vC vD vF
  go_wp2_with fail
  refine (Ih.out A D (by omega) _ _ _ _ _ _ _ rfl rfl Ar Dr (by omega) (by omega)).mono ?_
  rintro e w3 ⟨La,Lc,Lz,rfl,Lo,Lk,Lv,x⟩
  replace Lv:=Lib.hid Lv
  have Lr:=Lo.rd
  have st:=x
  replace Ar:=Ar.ext st
  replace Cr:=Cr.ext st
  replace Dr:=Dr.ext st
  replace Fr:=Fr.ext st
  replace hE:=hE.trans st
  clear st x
  have lL:Lz.length<=K+K:=zaq Lk (by rw [Lv.out];exact zbq HA.out HD.out)
  go_wp2_with fail
  refine (Ih.out C F (by omega) _ _ _ _ _ _ _ rfl rfl Cr Fr (by omega) (by omega)).mono ?_
  rintro e w4 ⟨Ha,Hc,Hz,rfl,Ho,Hk,Hv,x⟩
  replace Hv:=Lib.hid Hv
  have Hr:=Ho.rd
  have st:=x
  replace Ar:=Ar.ext st
  replace Cr:=Cr.ext st
  replace Dr:=Dr.ext st
  replace Fr:=Fr.ext st
  replace Lr:=Lr.ext st
  replace hE:=hE.trans st
  clear st x
  have lH:Hz.length<=K+K:=zaq Hk (by rw [Hv.out];exact zbq HC.out HF.out)
  go_wp2_with fail
  refine (ze3 _ _ _ A _ _ _ C _ rfl rfl Ar Cr (by omega) (by omega)).mono ?_
  rintro e w5 ⟨Sa,Sc,Sz,rfl,So,Sk,Sv,x⟩
  replace Sv:=Lib.hid Sv
  have Sr:=So.rd
  have st:=x
  replace Ar:=Ar.ext st
  replace Cr:=Cr.ext st
  replace Dr:=Dr.ext st
  replace Fr:=Fr.ext st
  replace Lr:=Lr.ext st
  replace Hr:=Hr.ext st
  replace hE:=hE.trans st
  clear st x
  have lS:Sz.length<=K+1:=zaq Sk (by rw [Sv.out,zai];have:=HA.out;have:=HC.out;omega)
  go_wp2_with fail
  refine (ze3 _ _ _ D _ _ _ F _ rfl rfl Dr Fr (by omega) (by omega)).mono ?_
  rintro e w6 ⟨Ta,Tc,Tz,rfl,To,Tk,Tv,x⟩
  replace Tv:=Lib.hid Tv
  have Tr:=To.rd
  have st:=x
  replace Dr:=Dr.ext st
  replace Fr:=Fr.ext st
  replace Lr:=Lr.ext st
  replace Hr:=Hr.ext st
  replace Sr:=Sr.ext st
  replace hE:=hE.trans st
  clear st x
  have lT:Tz.length<=K+1:=zaq Tk (by rw [Tv.out,zai];have:=HD.out;have:=HF.out;omega)
  go_wp2_with fail
  refine (Ih.out Sz Tz (by omega) _ _ _ _ _ _ _ rfl rfl Sr Tr (by omega) (by omega)).mono ?_
  rintro e w7 ⟨Ba,Bc,Bz,rfl,Bo,Bk,Bv,x⟩
  replace Bv:=Lib.hid Bv
  have Br:=Bo.rd
  have st:=x
  replace Lr:=Lr.ext st
  replace Hr:=Hr.ext st
  replace Sr:=Sr.ext st
  replace Tr:=Tr.ext st
  replace hE:=hE.trans st
  clear st x
  have lB:Bz.length<=K+1+(K+1):=zaq Bk (by rw [Bv.out];exact zbq (by rw [Sv.out,zai];have:=HA.out;have:=HC.out;omega) (by rw [Tv.out,zai];have:=HD.out;have:=HF.out;omega))
  go_wp2_with fail
  refine (Sub_any _ _ _ Bz _ _ _ Lz _ rfl rfl Br Lr (by omega) (by omega)).mono ?_
  rintro e w8 ⟨Pa,Pc,Pz,rfl,Po,Pk,Pv,x⟩
  replace Pv:=Lib.hid Pv
  have Pr:=Po.rd
  have st:=x
  replace Lr:=Lr.ext st
  replace Hr:=Hr.ext st
  replace Br:=Br.ext st
  replace hE:=hE.trans st
  clear st x
  have lP:Pz.length<=K+1+(K+1):=zaq Pk (by rw [Pv.out];exact cT (cP _ _) (zas Br.lb lB))
  go_wp2_with fail
  refine (Sub_any _ _ _ Pz _ _ _ Hz _ rfl rfl Pr Hr (by omega) (by omega)).mono ?_
  rintro e w9 ⟨Qa,Qc,Qz,rfl,Qo,Qk,Qv,x⟩
  replace Qv:=Lib.hid Qv
  have Qr:=Qo.rd
  have st:=x
  replace Lr:=Lr.ext st
  replace Hr:=Hr.ext st
  replace Pr:=Pr.ext st
  replace hE:=hE.trans st
  clear st x
  have lQ:Qz.length<=K+1+(K+1):=zaq Qk (by rw [Qv.out];exact cT (cP _ _) (zas Pr.lb lP))
  go_wp2_with fail
  refine (up_any _ _ _ Qz _ K _ rfl (by omega) Qr (by omega) (by omega)).mono ?_
  rintro e w10 ⟨Ua,Uc,Uz,rfl,Ur,Uv,lU,x⟩
  replace Uv:=Lib.hid Uv
  have st:=x
  replace Lr:=Lr.ext st
  replace Hr:=Hr.ext st
  replace Qr:=Qr.ext st
  replace hE:=hE.trans st
  clear st x
  go_wp2_with fail
  refine (ze3 _ _ _ Lz _ _ _ Uz _ rfl rfl Lr Ur (by omega) (by omega)).mono ?_
  rintro e w11 ⟨Wa,Wc,Wz,rfl,Wo,Wk,Wv,x⟩
  replace Wv:=Lib.hid Wv
  have Wr:=Wo.rd
  have st:=x
  replace Lr:=Lr.ext st
  replace Hr:=Hr.ext st
  replace Ur:=Ur.ext st
  replace hE:=hE.trans st
  clear st x
  have lW:Wz.length<=K+K+K+2+1:=zaq Wk (by rw [Wv.out];exact zef Lr.lb Ur.lb (by omega) (by omega))
  go_wp2_with fail
  refine (up_any _ _ _ Hz _ (2*K) _ rfl (by omega) Hr (by omega) (by omega)).mono ?_
  rintro e w12 ⟨Xa,Xc,Xz,rfl,Xr,Xv,lX,x⟩
  replace Xv:=Lib.hid Xv
  have st:=x
  replace Hr:=Hr.ext st
  replace Wr:=Wr.ext st
  replace hE:=hE.trans st
  clear st x
  have hS:=hE.size
  go_wp2_with fail
  refine (ze3 _ _ _ Wz _ _ _ Xz _ rfl rfl Wr Xr (by omega) (by omega)).mono ?_
  rintro e w13 ⟨Ya,Yc,Yz,rfl,Yo,Yk,Yv,x⟩
  replace Yv:=Lib.hid Yv
  have Yr:=Yo.rd
  have st:=x
  replace Wr:=Wr.ext st
  replace Xr:=Xr.ext st
  replace hE:=hE.trans st
  clear st x
  go_wp2_with fail
  go_ret
  refine ⟨Ya,Yc,Yz,rfl,Yo.mono hS,Yk,?_,hE⟩
  have hl:=three_law (nV C) (nV A) (nV F) (nV D) (pw K)
  have h2K:pw (2*K)=pw K*pw K:=by rw [Nat.two_mul,ze6]
  rw [Yv.out,Wv.out,Xv.out,Uv.out,Qv.out,Pv.out,Bv.out,Sv.out,Tv.out,Hv.out,Lv.out,h2K,sx.out,sy.out]
  exact hl
 ·obtain ⟨K,hK⟩:∃ K,K=(xs.length+1) / 2:=⟨_,rfl⟩
  have hK1:((xs.length:Int)+1) / 2=(K:Int):=by omega
  have hKb:K<=600000:=by omega
  have HK:=Lib.hid hK
  have hKx:xs.length<=K+K:=by omega
  have hKy:ys.length<=K+K:=by omega
  have hKN:K+K+2<N:=by omega
  clear hK
  have sx:=Lib.hid (zfh xs K)
  have sy:=Lib.hid (zfh ys K)
  obtain ⟨A,hA⟩:∃ A,A=xs.take (min K xs.length):=⟨_,rfl⟩
  obtain ⟨C,hC⟩:∃ C,C=xs.drop (min K xs.length):=⟨_,rfl⟩
  obtain ⟨D,hD⟩:∃ D,D=ys.take (min K ys.length):=⟨_,rfl⟩
  obtain ⟨F,hF⟩:∃ F,F=ys.drop (min K ys.length):=⟨_,rfl⟩
  have lA:A.length<=K:=by rw [hA,bF];omega
  have lC:C.length<=K:=by rw [hC,cE];omega
  have lD:D.length<=K:=by rw [hD,bF];omega
  have lF:F.length<=K:=by rw [hF,cE];omega
  have pA:=zel ao _ c xs (K:Int) K w rfl rfl ha (by omega) (by omega)
  have pB:=fun w1 (h:Ext w w1)=>zel bo _ d ys (K:Int) K w1 rfl rfl (hb.ext h) (by omega) (by omega)
  unfold GotPieces at pA pB
  rw [<- hA,<- hC] at pA sx
  rw [<- hD,<- hF] at sy
  simp only [<- hD,<- hF] at pB
  clear hA hC hD hF
  have Ih:=Lib.hid ih
  have hPA:=Lib.hid pA
  have hPB:=Lib.hid pB
  clear ih pA pB
  go_enter Tryz.func122,Tryz.ntmps122
  go_wp2_with fail
  refine (hPA.out).mono ?_
  rintro e w1 ⟨Aa,Ac,Ca,Cc,rfl,Ar,Cr,x⟩
  replace x:=x.ext
  have st:=x
  have hE:=st
  clear st x
  go_wp2_with fail
  refine (hPB.out _ hE).mono ?_
  rintro e w2 ⟨Da,Dc,Fa,Fc,rfl,Dr,Fr,x⟩
  replace x:=x.ext
  have st:=x
  replace Ar:=Ar.ext st
  replace Cr:=Cr.ext st
  replace hE:=hE.trans st
  clear st x
  have vA:=zas Ar.lb lA
  have vC:=zas Cr.lb lC
  have vD:=zas Dr.lb lD
  have vF:=zas Fr.lb lF
  have HA:=Lib.hid vA
  have HC:=Lib.hid vC
  have HD:=Lib.hid vD
  have HF:=Lib.hid vF
  clear vA vC vD vF
  go_wp2_with fail
  refine (Ih.out A D (by omega) _ _ _ _ _ _ _ rfl rfl Ar Dr (by omega) (by omega)).mono ?_
  rintro e w3 ⟨La,Lc,Lz,rfl,Lo,Lk,Lv,x⟩
  replace Lv:=Lib.hid Lv
  have Lr:=Lo.rd
  have st:=x
  replace Ar:=Ar.ext st
  replace Cr:=Cr.ext st
  replace Dr:=Dr.ext st
  replace Fr:=Fr.ext st
  replace hE:=hE.trans st
  clear st x
  have lL:Lz.length<=K+K:=zaq Lk (by rw [Lv.out];exact zbq HA.out HD.out)
  go_wp2_with fail
  refine (Ih.out C F (by omega) _ _ _ _ _ _ _ rfl rfl Cr Fr (by omega) (by omega)).mono ?_
  rintro e w4 ⟨Ha,Hc,Hz,rfl,Ho,Hk,Hv,x⟩
  replace Hv:=Lib.hid Hv
  have Hr:=Ho.rd
  have st:=x
  replace Ar:=Ar.ext st
  replace Cr:=Cr.ext st
  replace Dr:=Dr.ext st
  replace Fr:=Fr.ext st
  replace Lr:=Lr.ext st
  replace hE:=hE.trans st
  clear st x
  have lH:Hz.length<=K+K:=zaq Hk (by rw [Hv.out];exact zbq HC.out HF.out)
  go_wp2_with fail
  refine (ze3 _ _ _ A _ _ _ C _ rfl rfl Ar Cr (by omega) (by omega)).mono ?_
  rintro e w5 ⟨Sa,Sc,Sz,rfl,So,Sk,Sv,x⟩
  replace Sv:=Lib.hid Sv
  have Sr:=So.rd
  have st:=x
  replace Ar:=Ar.ext st
  replace Cr:=Cr.ext st
  replace Dr:=Dr.ext st
  replace Fr:=Fr.ext st
  replace Lr:=Lr.ext st
  replace Hr:=Hr.ext st
  replace hE:=hE.trans st
  clear st x
  have lS:Sz.length<=K+1:=zaq Sk (by rw [Sv.out,zai];have:=HA.out;have:=HC.out;omega)
  go_wp2_with fail
  refine (ze3 _ _ _ D _ _ _ F _ rfl rfl Dr Fr (by omega) (by omega)).mono ?_
  rintro e w6 ⟨Ta,Tc,Tz,rfl,To,Tk,Tv,x⟩
  replace Tv:=Lib.hid Tv
  have Tr:=To.rd
  have st:=x
  replace Dr:=Dr.ext st
  replace Fr:=Fr.ext st
  replace Lr:=Lr.ext st
  replace Hr:=Hr.ext st
  replace Sr:=Sr.ext st
  replace hE:=hE.trans st
  clear st x
  have lT:Tz.length<=K+1:=zaq Tk (by rw [Tv.out,zai];have:=HD.out;have:=HF.out;omega)
  go_wp2_with fail
  refine (Ih.out Sz Tz (by omega) _ _ _ _ _ _ _ rfl rfl Sr Tr (by omega) (by omega)).mono ?_
  rintro e w7 ⟨Ba,Bc,Bz,rfl,Bo,Bk,Bv,x⟩
  replace Bv:=Lib.hid Bv
  have Br:=Bo.rd
  have st:=x
  replace Lr:=Lr.ext st
  replace Hr:=Hr.ext st
  replace Sr:=Sr.ext st
  replace Tr:=Tr.ext st
  replace hE:=hE.trans st
  clear st x
  have lB:Bz.length<=K+1+(K+1):=zaq Bk (by rw [Bv.out];exact zbq (by rw [Sv.out,zai];have:=HA.out;have:=HC.out;omega) (by rw [Tv.out,zai];have:=HD.out;have:=HF.out;omega))
  go_wp2_with fail
  refine (Sub_any _ _ _ Bz _ _ _ Lz _ rfl rfl Br Lr (by omega) (by omega)).mono ?_
  rintro e w8 ⟨Pa,Pc,Pz,rfl,Po,Pk,Pv,x⟩
  replace Pv:=Lib.hid Pv
  have Pr:=Po.rd
  have st:=x
  replace Lr:=Lr.ext st
  replace Hr:=Hr.ext st
  replace Br:=Br.ext st
  replace hE:=hE.trans st
  clear st x
  have lP:Pz.length<=K+1+(K+1):=zaq Pk (by rw [Pv.out];exact cT (cP _ _) (zas Br.lb lB))
  go_wp2_with fail
  refine (Sub_any _ _ _ Pz _ _ _ Hz _ rfl rfl Pr Hr (by omega) (by omega)).mono ?_
  rintro e w9 ⟨Qa,Qc,Qz,rfl,Qo,Qk,Qv,x⟩
  replace Qv:=Lib.hid Qv
  have Qr:=Qo.rd
  have st:=x
  replace Lr:=Lr.ext st
  replace Hr:=Hr.ext st
  replace Pr:=Pr.ext st
  replace hE:=hE.trans st
  clear st x
  have lQ:Qz.length<=K+1+(K+1):=zaq Qk (by rw [Qv.out];exact cT (cP _ _) (zas Pr.lb lP))
  go_wp2_with fail
  refine (up_any _ _ _ Qz _ K _ rfl (by omega) Qr (by omega) (by omega)).mono ?_
  rintro e w10 ⟨Ua,Uc,Uz,rfl,Ur,Uv,lU,x⟩
  replace Uv:=Lib.hid Uv
  have st:=x
  replace Lr:=Lr.ext st
  replace Hr:=Hr.ext st
  replace Qr:=Qr.ext st
  replace hE:=hE.trans st
  clear st x
  go_wp2_with fail
  refine (ze3 _ _ _ Lz _ _ _ Uz _ rfl rfl Lr Ur (by omega) (by omega)).mono ?_
  rintro e w11 ⟨Wa,Wc,Wz,rfl,Wo,Wk,Wv,x⟩
  replace Wv:=Lib.hid Wv
  have Wr:=Wo.rd
  have st:=x
  replace Lr:=Lr.ext st
  replace Hr:=Hr.ext st
  replace Ur:=Ur.ext st
  replace hE:=hE.trans st
  clear st x
  have lW:Wz.length<=K+K+K+2+1:=zaq Wk (by rw [Wv.out];exact zef Lr.lb Ur.lb (by omega) (by omega))
  go_wp2_with fail
  refine (up_any _ _ _ Hz _ (2*K) _ rfl (by omega) Hr (by omega) (by omega)).mono ?_
  rintro e w12 ⟨Xa,Xc,Xz,rfl,Xr,Xv,lX,x⟩
  replace Xv:=Lib.hid Xv
  have st:=x
  replace Hr:=Hr.ext st
  replace Wr:=Wr.ext st
  replace hE:=hE.trans st
  clear st x
  have hS:=hE.size
  go_wp2_with fail
  refine (ze3 _ _ _ Wz _ _ _ Xz _ rfl rfl Wr Xr (by omega) (by omega)).mono ?_
  rintro e w13 ⟨Ya,Yc,Yz,rfl,Yo,Yk,Yv,x⟩
  replace Yv:=Lib.hid Yv
  have Yr:=Yo.rd
  have st:=x
  replace Wr:=Wr.ext st
  replace Xr:=Xr.ext st
  replace hE:=hE.trans st
  clear st x
  go_wp2_with fail
  go_ret
  refine ⟨Ya,Yc,Yz,rfl,Yo.mono hS,Yk,?_,hE⟩
  have hl:=three_law (nV C) (nV A) (nV F) (nV D) (pw K)
  have h2K:pw (2*K)=pw K*pw K:=by rw [Nat.two_mul,ze6]
  rw [Yv.out,Wv.out,Xv.out,Uv.out,Qv.out,Pv.out,Bv.out,Sv.out,Tv.out,Hv.out,Lv.out,h2K,sx.out,sy.out]
  exact hl
theorem mul_ih:∀ N,MulIh N:=by
 intro N
 induction N with
 | zero=>intro xs ys h;omega
 | succ N ih =>
  intro xs ys hN ao n c bo m d w hn hm ha hb hl1 hl2
  subst hn hm
  have hA:=ha.trm
  have hB:=hb.trm
  have lA:=ze5 xs
  have lB:=ze5 ys
  rw [<- zbn xs,<- zbn ys]
  by_cases h1:(trm xs).length<24
  ·go_enter Tryz.func102,Tryz.ntmps102
   go_wp2_with fail
   refine (zah ao _ c xs w rfl ha).mono ?_
   rintro e w' ⟨rfl,rfl⟩
   go_wp2_with fail
   refine (zah bo _ d ys w rfl hb).mono ?_
   rintro e w' ⟨rfl,rfl⟩
   go_wp2_with fail
   refine (school_any _ _ _ (trm xs) _ _ _ (trm ys) _ rfl rfl hA hB (by omega) (by omega)).mono ?_
   rintro e w2 ⟨ao3,c3,zs3,rfl,h3⟩
   go_wp2_with fail
   go_ret
   exact ⟨ao3,c3,zs3,rfl,h3⟩
  by_cases h2:(trm ys).length<24
  ·go_enter Tryz.func102,Tryz.ntmps102
   go_wp2_with fail
   refine (zah ao _ c xs w rfl ha).mono ?_
   rintro e w' ⟨rfl,rfl⟩
   go_wp2_with fail
   refine (zah bo _ d ys w rfl hb).mono ?_
   rintro e w' ⟨rfl,rfl⟩
   go_wp2_with fail
   refine (school_any _ _ _ (trm xs) _ _ _ (trm ys) _ rfl rfl hA hB (by omega) (by omega)).mono ?_
   rintro e w2 ⟨ao3,c3,zs3,rfl,h3⟩
   go_wp2_with fail
   go_ret
   exact ⟨ao3,c3,zs3,rfl,h3⟩
  ·have Ih:=Lib.hid ih
   clear ih
   go_enter Tryz.func102,Tryz.ntmps102
   go_wp2_with fail
   refine (zah ao _ c xs w rfl ha).mono ?_
   rintro e w' ⟨rfl,rfl⟩
   go_wp2_with fail
   refine (zah bo _ d ys w rfl hb).mono ?_
   rintro e w' ⟨rfl,rfl⟩
   go_wp2_with fail
   refine (three_any N Ih.out _ _ _ (trm xs) _ _ _ (trm ys) _ rfl rfl hA hB (by omega) (by omega) (by omega) (by omega) (by omega)).mono ?_
   rintro e w2 ⟨ao3,c3,zs3,rfl,h3⟩
   go_wp2_with fail
   go_ret
   exact ⟨ao3,c3,zs3,rfl,h3⟩
theorem Mul_any (ao:Option Addr) (n c:Nat) (xs:List Nat) (bo:Option Addr) (m d:Nat) (ys:List Nat) (w:World) (hn:n=xs.length) (hm:m=ys.length) (ha:Rd w ao c xs) (hb:Rd w bo d ys)
  (hl1:xs.length<=1000000) (hl2:ys.length<=1000000) :
  Calls eC 102 #[.slice ao n c,.slice bo m d] w (GotN w (nV xs*nV ys)) :=
 mul_ih (xs.length+ys.length+1) xs ys (by omega) ao n c bo m d w hn hm ha hb hl1 hl2
def vd (zs:List Nat) (k:Nat):Nat:=nV (zs.drop k)
theorem vd_zero (zs:List Nat):vd zs 0=nV zs:=by simp [vd]
theorem vd_end (h:zs.length<=k):vd zs k=0:=by unfold vd;rw [dO h];rfl
theorem vd_step (h:k<zs.length):vd zs k=lim zs k+4294967296*vd zs (k+1):=by
 unfold vd
 rw [List.drop_eq_getElem_cons h]
 have:zs[k]=lim zs k:=by unfold lim;simp [bI,h]
 rw [zfe,this]
theorem vd_set (h:i<k):vd (zs.set i y) k=vd zs k:=by
 unfold vd;rw [List.drop_set];simp [h]
def GrowR (w:World) (xs:List Nat) (t m:Nat) (out cr i:Value) (wr:World):Prop :=
  ∃ (carry:Nat) (po:Option Addr) (pc:Nat) (zs:List Nat),i = .int .i64 zs.length/\out = .slice po zs.length pc/\cr = .int .u64 carry/\carry<4294967296/\zs.length<=xs.length/\Own wr w.heap.size po pc zs/\Ext w wr /\
    Hid (nV zs+pw zs.length*carry=vk xs zs.length*t+m)
theorem grow_step {s:Nat} (h:nV zs+pw zs.length*carry=vk xs zs.length*t+m) (hs:s=lim xs zs.length*t+carry) :
  Hid (nV (zs++[s % 4294967296])+pw (zs++[s % 4294967296]).length*(s / 4294967296)=vk xs (zs++[s % 4294967296]).length*t+m):=by
 unfold Hid
 simp only [dD,cK,dE,bX]
 rw [zcr,zam,zai]
 have h1:=zck (pw zs.length) s
 rw [hs] at h1 ⊢
 rw [bE,<- bJ] at h1
 rw [cZ]
 omega
set_option maxHeartbeats 1000000 in
theorem small_any (ao:Option Addr) (n c:Nat) (xs:List Nat) (E:Int) (t:Nat) (w:World) (hn:n=xs.length) (hE:E=(t:Int)) (ha:Rd w ao c xs) (hl:xs.length<=1000000) (ht:t<4294967296) :
  Calls eC 134 #[.slice ao n c,.int .u64 E] w (GotN w (nV xs*t)):=by
 subst hn hE
 have bA:=ha.cap
 have mA:=ha.mx
 go_enter Tryz.func134,Tryz.ntmps134
 go_wp2_with fail
 go_loopw [5,6,7] (GrowR w xs t 0) (fun _ _ i _=>(xs.length - intOf i).toNat)
 case atStart=>exact ⟨0,_,_,[],rfl,rfl,rfl,by omega,by simp,zeb w,(Ext.refl w).alloc _,by simp [Hid,zbm,nV]⟩
 case round =>
  obtain ⟨carry,po,pc,zs,rfl,rfl,rfl,hc1,hk,hown,hext,heq⟩:=hrel
  by_cases hkA:zs.length<xs.length
  ·have bx:=zat ha.lb zs.length
   have hmul:lim xs zs.length*t<=4294967295*4294967295:=Nat.mul_le_mul (by omega) (by omega)
   obtain ⟨q,hq⟩:∃ q,q=lim xs zs.length*t:=⟨_,rfl⟩
   rw [<- hq] at hmul
   have hq':((lim xs zs.length:Nat):Int)*(t:Int)=(q:Int):=by rw [hq];push_cast;rfl
   have Hq:=Lib.hid hq
   clear hq
   go_wp2_with fail
   refine (zg4 ao _ c xs wr _ zs.length (by omega) rfl (ha.ext hext)).mono ?_
   rintro e w' ⟨rfl,rfl⟩
   go_wp2_with (at_builtin;refine push (wi:=w) rfl _ _ rfl _ _ zs _ rfl rfl hown _ ?_ ?_ rfl ?_ rfl hext ?_;omega;omega;omega;intro ao' c' w2 hown2 hext2)
   go_roundw
   case rel=>exact ⟨(q+carry) / 4294967296,ao', c', zs++[(q+carry) % 4294967296],by simp,by simp,by go_num,by omega,by simp;omega,hown2.snocEq (by omega),hext2,by have h1:=grow_step heq.out (s:=q+carry) (by rw [Hq.out]);exact h1⟩
   case measure=>simp [intOf];omega
  ·have hv:nV zs+pw zs.length*carry=nV xs*t:=by
    have h1:=heq.out
    rwa [zay (by omega)] at h1
   have hzl:zs.length<=1000000:=by omega
   have Hv:=Lib.hid hv
   clear hv heq
   go_wp2_with (at_builtin;refine push (wi:=w) rfl _ _ rfl _ _ zs _ rfl rfl hown _ ?_ ?_ rfl ?_ rfl hext ?_;omega;omega;omega;intro ao' c' w2 hown2 hext2)
   refine (zeh _ _ _ _ _ (by simp) hown2.rd (by simp;omega)).mono ?_
   intro e w' hg
   have hv2:nV (zs++[(carry:Int).toNat])=nV xs*t:=by rw [zcr];simpa using Hv.out
   rw [hv2] at hg
   clear hv2
   obtain ⟨ao3,c3,zs3,rfl,h3⟩:=hg.from hext2
   go_wp2_with fail
   go_ret
   exact ⟨ao3,c3,zs3,rfl,h3⟩
def RMulO (w:World) (xs ys:List Nat) (out i:Value) (wr:World):Prop :=
  ∃ (j:Nat) (oo:Option Addr) (oc:Nat) (os:List Nat),j<=ys.length/\i = .int .i64 ((j:Int) - 1)/\out = .slice oo os.length oc/\Own wr w.heap.size oo oc os/\zbt os/\os.length<=xs.length+ys.length/\Ext w wr/\Hid (nV os=nV xs*vd ys j)
def RMulI (w:World) (os:List Nat) (up k:Value) (wr:World):Prop :=
  ∃ (j:Nat) (uo:Option Addr) (uc:Nat) (us:List Nat),j<=os.length/\k = .int .i64 j/\up = .slice uo us.length uc/\Own wr w.heap.size uo uc us/\us.length=j+1/\Hid (us=0 :: os.take j)/\Ext w wr
theorem take_lim {os:List Nat} {j:Nat} (h:j<os.length):os.take j++[lim os j]=os.take (j+1):=by
 rw [dJ,zbj h];rfl
theorem mul_lt_pw_pw {x:Nat} (hx:x<pw m) (hy:y<pw n):x*y<pw m*pw n:=by rw [<- ze6];exact zbq hx hy
set_option maxHeartbeats 2000000 in
theorem RMul_any (ao:Option Addr) (n c:Nat) (xs:List Nat) (bo:Option Addr) (m d:Nat) (ys:List Nat) (w:World) (hn:n=xs.length) (hm:m=ys.length) (ha:Rd w ao c xs) (hb:Rd w bo d ys)
  (hl1:xs.length<=400000) (hl2:ys.length<=400000) :
  Calls eC 119 #[.slice ao n c,.slice bo m d] w (GotN w (nV xs*nV ys)):=by
 subst hn hm
 have mA:=ha.mx
 have mB:=hb.mx
 have cA:=ha.cap
 have cB:=hb.cap
 go_enter Tryz.func119,Tryz.ntmps119
 go_wp2_with fail
 go_loopw [5,6] (RMulO w xs ys) (fun _ i _=>(intOf i+1).toNat)
 case atStart=>exact ⟨ys.length,_,_,[],bC _,rfl,rfl,zeb w,zbw,by simp,(Ext.refl w).alloc _,by unfold Hid;rw [vd_end (bC _)];simp [nV]⟩
 case round =>
  obtain ⟨j,oo,oc,os,hj,rfl,rfl,ow,co,lo,hext,hv⟩:=hrel
  rcases j with _ | j
  ·have hv0:nV os=nV xs*nV ys:=by have:=hv.out;rwa [vd_zero] at this
   have Hv:=Lib.hid hv0
   clear hv0 hv
   go_wp2_with fail
   refine (zeh _ _ _ os _ rfl ow.rd (by omega)).mono ?_
   intro e w2 hg
   rw [Hv.out] at hg
   obtain ⟨ao3,c3,zs3,rfl,h3⟩:=hg.from hext
   go_wp2_with fail
   go_ret
   exact ⟨ao3,c3,zs3,rfl,h3⟩
  ·have hx:=(hb.ext hext).cell j (by omega)
   have hix:=ixk hb ys.length rfl j (by omega)
   have bY:=zat hb.lb j
   have ej:((j+1:Nat):Int) - 1=(j:Int):=by omega
   rw [ej]
   clear ej
   go_wp2_with fail
   go_loopw [7,8] (RMulI wr os) (fun _ i _=>(os.length - intOf i).toNat)
   case atStart=>exact ⟨0,_,_,[0],cF _,rfl,rfl,row1 wr 0 0 rfl (by omega),rfl,rfl,(Ext.refl wr).alloc _⟩
   case round =>
    obtain ⟨k,uo,uc,us,hk,rfl,rfl,ou,lu,hu,hext2⟩:=hrel
    by_cases hkA:k<os.length
    ·have hxo:=(ow.rd.ext hext2).cell k hkA
     have hio:=ixk ow.rd os.length rfl k hkA wr
     have bO:=zat ow.lb k
     go_wp2_with (at_builtin;refine push rfl _ _ rfl _ _ us _ rfl rfl ou _ ?_ ?_ rfl ?_ rfl hext2 ?_;omega;omega;omega;intro ao' c' w2 hown2 hext3)
     go_roundw
     case rel=>exact ⟨k+1,ao', c', us++[lim os k],by omega,by go_num,by simp;omega,hown2.snocEq (by omega),by simp;omega,by unfold Hid;rw [hu.out,dI,take_lim hkA],hext3⟩
     case measure=>simp [intOf];try omega
    ·obtain rfl:k=os.length:=by omega
     have bY':=bY
     have xe:=ha.ext (hext.trans hext2)
     have hul:us.length<=900000:=by omega
     have huv:nV us=4294967296*nV os:=by rw [hu.out,cM (bC _),zfe];omega
     have Huv:=Lib.hid huv
     have hx':=(hb.ext (hext.trans hext2)).cell j (by omega)
     clear huv
     go_wp2_with fail
     refine (small_any _ _ _ xs _ (lim ys j) _ rfl rfl xe (by omega) bY).mono ?_
     rintro e w3 ⟨so,sc,sz,rfl,p1,p2,p3,p4⟩
     have hm:nV xs*lim ys j<pw (xs.length+1):=by
      rw [zai,bP]
      exact Nat.mul_lt_mul'' bY (zau ha.lb)
     have ls:sz.length<=xs.length+1:=zaq (n:=xs.length+1) p2 (p3 ▸ hm)
     clear hm
     have P3:=Lib.hid p3
     clear p3
     go_wp2_with fail
     refine (RAdd_any _ _ _ us _ _ _ sz _ lu.symm rfl (ou.rd.ext p4) p1.rd (by omega) (by omega)).mono ?_
     rintro e w4 ⟨ro,rc,rz,rfl,q1,q2,q3,q4⟩
     have hrv:nV rz=nV xs*vd ys j:=by
      rw [q3,Huv.out,P3.out,hv.out,vd_step (show j<ys.length by omega),bE,Nat.mul_left_comm];omega
     have Hrv:=Lib.hid hrv
     have hlr:rz.length<=xs.length+ys.length:=zaq q2 (by
      rw [hrv,ze6]
      have h1:=zau ha.lb
      have h2:vd ys j<pw ys.length:=by
       have:=zas (Lb_drop hb.lb j) (show (ys.drop j).length<=ys.length by simp)
       exact this
      exact mul_lt_pw_pw h1 h2)
     have e3:=hext.trans (hext2.trans (p4.trans q4))
     have sz3:=(hext.trans (hext2.trans p4)).size
     clear hrv q3 hv
     go_wp2_with fail
     go_roundw
     case rel=>exact ⟨j,ro,rc,rz,by omega,by go_num,rfl,q1.mono sz3,q2,hlr,e3,Hrv⟩
     case measure=>simp [intOf];try omega
def GotM (w:World) (m L:Nat) (e:Ending) (w':World):Prop :=
  ∃ ao c zs B,e = .returned (.slice ao zs.length c)/\w.heap.size<=B/\Own w' B ao c zs/\Hid (zbt zs)/\Hid (nV zs=m)/\zs.length<=L/\Ext w w'
theorem GotN.len {w:World} {L:Nat} {e:Ending} (h:GotN w m e w') (hm:m<pw L):GotM w m L e w':=by
 obtain ⟨ao,c,zs,he,ho,hc,hv,hx⟩:=h
 exact ⟨ao,c,zs,w.heap.size,he,bC _,ho,hc,hv,zcl hc hv hm,hx⟩
def GotSM (w:World) (m n L:Nat) (b:Bool) (e:Ending) (w':World):Prop :=
  ∃ ao c zs B,e = .returned (.tuple #[.slice ao zs.length c,.bool b])/\w.heap.size<=B/\Own w' B ao c zs/\Hid (zbt zs)/\Hid (nV zs=m - n)/\zs.length<=L/\Ext w w'
theorem GotSub.len {w:World} {L:Nat} {b:Bool} {e:Ending} (h:GotSub w m n e w') (hm:m<pw L) (hb:decide (n<=m)=b):GotSM w m n L b e w':=by
 obtain ⟨ao,c,zs,he,ho,hc,hv,hx⟩:=h
 subst hb
 exact ⟨ao,c,zs,w.heap.size,he,bC _,ho,hc,hv,zcl hc hv (by omega),hx⟩
section
variable (ao:Option Addr) (n c:Nat) (xs:List Nat) (bo:Option Addr) (m d:Nat) (ys:List Nat) (w:World)
theorem TrimM (hn:n=xs.length) (ha:Rd w ao c xs) (hl:xs.length<=100000000) :
  Calls eC 114 #[.slice ao n c] w (GotM w (nV xs) xs.length) :=
 (zcm ao n c xs w hn ha (by omega)).mono fun _ _ h=>h.len (zau ha.lb)
theorem RTrimM (hn:n=xs.length) (ha:Rd w ao c xs) (hl:xs.length<=400000) :
  Calls eC 76 #[.slice ao n c] w (GotM w (nV xs) xs.length) :=
 (zeh ao n c xs w hn ha (by omega)).mono fun _ _ h=>h.len (zau ha.lb)
theorem OfM (E:Int) (h0:0<=E) (h1:E<18446744073709551616) :
  Calls eC 101 #[.int .u64 E] w (GotM w E.toNat 2) :=
 (Of_any E h0 h1 w).mono fun _ _ h=>h.len (show E.toNat<18446744073709551616 by omega)
theorem AddM (hn:n=xs.length) (hm:m=ys.length) (ha:Rd w ao c xs) (hb:Rd w bo d ys) (hl1:xs.length<=100000000) (hl2:ys.length<=100000000) :
  Calls eC 106 #[.slice ao n c,.slice bo m d] w (GotM w (nV xs+nV ys) (xs.length+ys.length+1)) :=
 (ze3 ao n c xs bo m d ys w hn hm ha hb (by omega) (by omega)).mono fun _ _ h=>h.len (zef ha.lb hb.lb (by omega) (by omega))
theorem RAddM (hn:n=xs.length) (hm:m=ys.length) (ha:Rd w ao c xs) (hb:Rd w bo d ys) (hl1:xs.length<=400000) (hl2:ys.length<=400000) :
  Calls eC 40 #[.slice ao n c,.slice bo m d] w (GotM w (nV xs+nV ys) (xs.length+ys.length+1)) :=
 (RAdd_any ao n c xs bo m d ys w hn hm ha hb (by omega) (by omega)).mono fun _ _ h=>h.len (zef ha.lb hb.lb (by omega) (by omega))
theorem SubM (b:Bool) (hn:n=xs.length) (hm:m=ys.length) (ha:Rd w ao c xs) (hb:Rd w bo d ys) (hl1:xs.length<=100000000) (hl2:ys.length<=100000000) (h:decide (nV ys<=nV xs)=b) :
  Calls eC 107 #[.slice ao n c,.slice bo m d] w (GotSM w (nV xs) (nV ys) xs.length b) :=
 (Sub_any ao n c xs bo m d ys w hn hm ha hb (by omega) (by omega)).mono fun _ _ k=>k.len (zau ha.lb) h
theorem RSubM (b:Bool) (hn:n=xs.length) (hm:m=ys.length) (ha:Rd w ao c xs) (hb:Rd w bo d ys) (hl1:xs.length<=400000) (hl2:ys.length<=400000) (h:decide (nV ys<=nV xs)=b) :
  Calls eC 118 #[.slice ao n c,.slice bo m d] w (GotSM w (nV xs) (nV ys) xs.length b) :=
 (RSub_any ao n c xs bo m d ys w hn hm ha hb (by omega) (by omega)).mono fun _ _ k=>k.len (zau ha.lb) h
theorem MulM (hn:n=xs.length) (hm:m=ys.length) (ha:Rd w ao c xs) (hb:Rd w bo d ys) (hl1:xs.length<=400000) (hl2:ys.length<=400000) :
  Calls eC 102 #[.slice ao n c,.slice bo m d] w (GotM w (nV xs*nV ys) (xs.length+ys.length)) :=
 (Mul_any ao n c xs bo m d ys w hn hm ha hb (by omega) (by omega)).mono fun _ _ h=>h.len (zbq (zau ha.lb) (zau hb.lb))
theorem RMulM (hn:n=xs.length) (hm:m=ys.length) (ha:Rd w ao c xs) (hb:Rd w bo d ys) (hl1:xs.length<=400000) (hl2:ys.length<=400000) :
  Calls eC 119 #[.slice ao n c,.slice bo m d] w (GotM w (nV xs*nV ys) (xs.length+ys.length)) :=
 (RMul_any ao n c xs bo m d ys w hn hm ha hb (by omega) (by omega)).mono fun _ _ h=>h.len (zbq (zau ha.lb) (zau hb.lb))
end
def iv (s:Bool) (zs:List Nat):Int:=if s then -(nV zs:Int) else (nV zs:Int)
theorem zbr (zs:List Nat):iv false zs=nV zs:=rfl
theorem zc8 (zs:List Nat):iv true zs=-(nV zs:Int):=rfl
theorem iv_nil (s:Bool):iv s []=0:=by cases s <;> rfl
theorem iv_abs (s:Bool) (zs:List Nat):(iv s zs).natAbs=nV zs:=by cases s <;> simp [iv]
def CanZ (s:Bool) (zs:List Nat):Prop:=zbt zs/\(zs.length=0->s=false)
theorem CanZ.neg_iff (h:CanZ s zs):s=decide (iv s zs<0):=by
 cases s
 ·simp [iv]
 ·have hl:zs.length≠0:=fun e=>by have:=h.2 e;simp at this
  have:=zfy h.1 (by omega)
  have:=ze9 (zs.length - 1)
  simp [iv];omega
theorem CanZ.inj {t:Bool} (hx:CanZ s xs) (hy:CanZ t ys) (h:iv s xs=iv t ys):s=t/\xs=ys:=by
 have h1:s=t:=by rw [hx.neg_iff,hy.neg_iff,h]
 refine ⟨h1,canon_inj hx.1 hy.1 ?_⟩
 rw [<- iv_abs s xs,<- iv_abs t ys,h]
theorem CanZ.nil:CanZ false []:=⟨zbw,fun _=>rfl⟩
theorem CanZ.pos (h:zbt zs):CanZ false zs:=⟨h,fun _=>rfl⟩
theorem CanZ.neg (h:zbt zs) (hp:0<zs.length) (s:Bool):CanZ s zs:=⟨h,fun e=>by omega⟩
def GotZ (w:World) (z:Int) (L:Nat) (e:Ending) (w':World):Prop :=
  ∃ (s:Bool) (ao:Option Addr) (c:Nat) (zs:List Nat) (B:Nat),e = .returned (.agg #[.bool s,.slice ao zs.length c])/\w.heap.size<=B/\Own w' B ao c zs/\Hid (CanZ s zs)/\Hid (iv s zs=z)/\zs.length<=L/\Ext w w'
def GotP (v:Value) (w:World) (e:Ending) (w':World):Prop:=e = .returned v/\Ext w w'
theorem Ext.free {w:World} (h:Ext w w') (hc:w.cell? p=some v) (hf:w.frozen? p=false):w'.frozen? p=false:=(Below.frozen h (World.block_lt_of_cell? w _ hc)).trans hf
theorem Ext.st {a w:World} (h:Ext a w) (hb:a.heap.size<=b) (o:Nat) (u:Value):Ext a (w.setCell ⟨b,o,none⟩ u):=Ext.store h hb u
theorem grown_set (w:World) (p:Addr) (u:Value):w.grownBy (w.setCell p u) (some p.block) :=
 ⟨rfl,rfl,rfl,by simp [World.setCell],fun k _ hne=>Below.heap_setCell _ _ _ _ (fun e=>hne (by rw [e]))⟩
theorem Own.st {w:World} {B:Nat} {c:Nat} (h:Own w B ao c zs) (hb:b<B) (o:Nat) (u:Value):Own (w.setCell ⟨b,o,none⟩ u) B ao c zs :=
 ⟨h.lb,h.row.kept (grown_set w _ u) (by
  cases hv:(Value.slice ao zs.length c).ownBlock with
  | none=>exact .inl rfl
  | some k=>right;intro e;have:=(h.lt k hv).1;simp at e;omega)⟩
theorem Own.drew {w:World} {B:Nat} {c:Nat} (h:Own w B ao c zs):Own w.drew B ao c zs:=h.ext ((Ext.refl w).drew)
namespace S
variable {α β ι:Type} {l K:List Nat} {draw ag:Bool} {x:Operand} {op:BinOp} {xt yt ty el:TypeId} {off N:Nat} {fz:Nat × Nat} {fn:Func} {en:Ending}
inductive D where
  | raw (v:Value)
  | sl (es:Nat) (rows:List (List D))
  deriving Inhabited
abbrev Im:=Nat->Option Obj
def flat:Value->Bool
  | .agg _ | .tuple _=>false
  | _=>true
inductive DR (H:Im):D->Value->Prop
  | raw (v:Value) (h:flat v=true):DR H (.raw v) v
  | nil (es:Nat) (ao:Option Addr) (c:Nat) (h:ao=none->c=0) (hc:c<=maxLen):DR H (.sl es []) (.slice ao 0 c)
  | sl (es:Nat) (rows:List (List D)) (b o c:Nat) (arr:Array Value) (ty:TypeId) (fz:Nat × Nat) (vs:Nat->Nat->Value) (hp:0<rows.length) (hb:H b=some (.cells arr ty fz))
      (hl:rows.length<=c) (hc:c<=maxLen) (hes:∀ i (hi:i<rows.length),(rows[i]'hi).length=es)
      (hv:∀ i (_hi:i<rows.length) j,j<es->arr[o+i*es+j]?=some (vs i j)) (hr:∀ i (hi:i<rows.length) j (hj:j<rows[i].length),DR H rows[i][j] (vs i j)) :
      DR H (.sl es rows) (.slice (some ⟨b,o,none⟩) rows.length c)
def Le (H H':Im):Prop:=∀ b o,H b=some o->H' b=some o
theorem Le.refl (H:Im):Le H H:=fun _ _ h=>h
theorem Le.trans {A B C:Im} (h:Le A B) (k:Le B C):Le A C:=fun b o x=>k b o (h b o x)
variable {H H':Im}
theorem DR.mono (hl:Le H H') {x:D} (h:DR H x v):DR H' x v:=by
 induction h with
 | raw v h=>exact .raw v h
 | nil es ao c h hc=>exact .nil es ao c h hc
 | sl es rows b o c arr ty fz vs hp hb hl2 hc hes hv _ ih=>exact .sl es rows b o c arr ty fz vs hp (hl _ _ hb) hl2 hc hes hv ih
theorem DR.flat {x:D} (h:DR H x v):flat v=true:=by cases h <;> first | assumption | rfl
inductive A where
  | d (x:D)
  | ptr (n o:Nat)
inductive C where
  | d (x:D)
  | ptr (n o:Nat)
  | own (n len:Nat)
  | sub (n o len:Nat)
  | el (xs:List D)
  | fn (f:Fn) (first cap:List A)
  | any
  | mp (n:Nat)
inductive T where
  | c (x:C)
  | agg (cs:List C)
inductive V where
  | t (x:T)
  | tup (xs:List T)
inductive L where
  | box (cs:List C)
  | row (ty:TypeId) (es:Nat) (rows:List (List D))
  | rowc (ty:TypeId) (es:Nat) (rows:List (List C))
  | bld (ty:TypeId) (c:C) (rest:List C)
  | mp (es:List (Value × D))
abbrev Bl:=Nat->Option (Nat × Nat)
def zar {α β:Type} (R:α->β->Prop):List α->List β->Prop
  | [],[]=>True
  | a :: xs,b :: ys=>R a b/\zar R xs ys
  | _,_=>False
theorem zar.length {R:α->β->Prop}:∀ {xs:List α} {ys:List β}, zar R xs ys->xs.length=ys.length
 | [],[],_=>rfl
 | _ :: _,_ :: _,h=>by simp [zar.length h.2]
 | [],_ :: _,h=>h.elim
 | _ :: _,[],h=>h.elim
theorem zar.mono {R R':α->β->Prop}:∀ {xs:List α} {ys:List β}, zar R xs ys->(∀ a ∈ xs,∀ b,R a b->R' a b)->zar R' xs ys
 | [],[],_,_=>trivial
 | _ :: _,_ :: _,h,k=>⟨k _ (by simp) _ h.1,h.2.mono fun a ha b=>k a (by simp [ha]) b⟩
 | [],_ :: _,h,_=>h.elim
 | _ :: _,[],h,_=>h.elim
theorem zar.get {R:α->β->Prop}:∀ {xs:List α} {ys:List β}, zar R xs ys->∀ i (hi:i<xs.length),∃ b,ys[i]?=some b/\R xs[i] b
 | a :: xs,b :: ys,h,0,_=>⟨b,rfl,h.1⟩
 | a :: xs,b :: ys,h,i+1,hi=>by
  obtain ⟨x,hx,hr⟩:=h.2.get i (by simp at hi;omega)
  exact ⟨x,by simpa using hx,by simpa using hr⟩
 | [],[],_,_,hi=>by simp at hi
 | [],_ :: _,h,_,_=>h.elim
 | _ :: _,[],h,_,_=>h.elim
theorem zar.append {R:α->β->Prop}:∀ {xs:List α} {ys:List β} {zs:List α} {us:List β}, zar R xs ys->zar R zs us->zar R (xs++zs) (ys++us)
 | [],[],_,_,_,k=>k
 | _ :: _,_ :: _,_,_,h,k=>⟨h.1,h.2.append k⟩
 | [],_ :: _,_,_,h,_=>h.elim
 | _ :: _,[],_,_,h,_=>h.elim
theorem zar.set {R:α->β->Prop}:∀ {xs:List α} {ys:List β} (i:Nat) {a:α} {b:β}, zar R xs ys->R a b->zar R (xs.set i a) (ys.set i b)
 | [],[],_,_,_,_,_=>trivial
 | _ :: _,_ :: _,0,_,_,h,k=>⟨k,h.2⟩
 | _ :: _,_ :: _,i+1,_,_,h,k=>⟨h.1,h.2.set i k⟩
 | [],_ :: _,_,_,_,h,_=>h.elim
 | _ :: _,[],_,_,_,h,_=>h.elim
theorem zar.mapL {γ:Type} {R:α->β->Prop} {R':γ->β->Prop} (g:α->γ):∀ {xs:List α} {ys:List β}, zar R xs ys->(∀ a ∈ xs,∀ b,R a b->R' (g a) b)->zar R' (xs.map g) ys
 | [],[],_,_=>trivial
 | _ :: _,_ :: _,h,k=>⟨k _ (by simp) _ h.1,h.2.mapL g fun a ha b=>k a (by simp [ha]) b⟩
 | [],_ :: _,h,_=>h.elim
 | _ :: _,[],h,_=>h.elim
theorem zar.take {R:α->β->Prop}:∀ {xs:List α} {ys:List β} (n:Nat),zar R xs ys->zar R (xs.take n) (ys.take n)
 | [],[],n,_=>by simp [zar]
 | _ :: _,_ :: _,0,_=>trivial
 | _ :: _,_ :: _,n+1,h=>⟨h.1,h.2.take n⟩
 | [],_ :: _,_,h=>h.elim
 | _ :: _,[],_,h=>h.elim
theorem zar.drop {R:α->β->Prop}:∀ {xs:List α} {ys:List β} (n:Nat),zar R xs ys->zar R (xs.drop n) (ys.drop n)
 | [],[],n,_=>by simp [zar]
 | _ :: _,_ :: _,0,h=>h
 | _ :: _,_ :: _,n+1,h=>h.2.drop n
 | [],_ :: _,_,h=>h.elim
 | _ :: _,[],_,h=>h.elim
section reps
variable (H:Im) (B:Bl)
def AR:A->Value->Prop
  | .d x,v=>DR H x v
  | .ptr n o,v=>∃ b c,B n=some (b,c)/\v = .pointer (some ⟨b,o,none⟩)
def CR:C->Value->Prop
  | .d x,v=>DR H x v
  | .ptr n o,v=>∃ b c,B n=some (b,c)/\v = .pointer (some ⟨b,o,none⟩)
  | .own n k,v=>match B n with | none=>k=0/\∃ ao,v = .slice ao 0 0 | some (b,c)=>v = .slice (some ⟨b,0,none⟩) k c
  | .el xs,v=>∃ b o arr ty fz,H b=some (.cells arr ty fz)/\v = .pointer (some ⟨b,o,none⟩)/\∀ j (hj:j<xs.length),∃ u,arr[o+j]?=some u/\DR H xs[j] u
  | .fn f fs cs,v=>∃ vs ws:List Value,v = .func f ⟨vs⟩ ⟨ws⟩/\zar (AR H B) fs vs/\zar (AR H B) cs ws
  | .sub n o len,v=>(∃ ao c,v = .slice ao len c)/\(0<len->∃ b c k,B n=some (b,c)/\v = .slice (some ⟨b,o,none⟩) len k)
  | .any,v=>flat v=true
  | .mp n,v=>∃ b c,B n=some (b,c)/\v = .map (some b)
def TR:T->Value->Prop
  | .c x,v=>CR H B x v
  | .agg cs,v=>∃ vs:List Value,v = .agg ⟨vs⟩/\zar (CR H B) cs vs
def VR:V->Value->Prop
  | .t x,v=>TR H B x v
  | .tup xs,v=>∃ vs:List Value,v = .tuple ⟨vs⟩/\zar (TR H B) xs vs
def LR (w:World) (n:Nat):L->Prop
  | .box cs=>∃ b c arr ty,B n=some (b,c)/\w.heap[b]?=some (.cells ⟨arr⟩ ty (0,0))/\zar (CR H B) cs arr
  | .row ty es rows=>match B n with
    | none=>rows=[]
    | some (b,c)=>∃ arr:List Value,w.heap[b]?=some (.cells ⟨arr⟩ ty (0,0))/\arr.length=c*es/\rows.length<=c/\c<=maxLen/\(∀ r ∈ rows,r.length=es)/\zar (DR H) rows.flatten (arr.take (rows.length*es))
  | .rowc ty es rows=>match B n with
    | none=>rows=[]
    | some (b,c)=>∃ arr:List Value,w.heap[b]?=some (.cells ⟨arr⟩ ty (0,0))/\arr.length=c*es/\rows.length<=c/\c<=maxLen/\(∀ r ∈ rows,r.length=es)/\zar (CR H B) rows.flatten (arr.take (rows.length*es))
  | .bld ty x rest=>∃ b c v1 v2 vr,B n=some (b,c)/\w.heap[b]?=some (.cells ⟨v1 :: v2 :: vr⟩ ty (0,0))/\(v1 = .pointer none\/v1 = .pointer (some ⟨b,0,none⟩))/\(v2 = .slice none 0 0\/∃ g n c,v2 = .slice (some ⟨g,0,none⟩) n c/\0<c)/\CR H B x v2/\zar (CR H B) rest vr
  | .mp es=>∃ b c arr cl,B n=some (b,c)/\w.heap[b]?=some (.map ⟨arr⟩ cl)/\zar (fun (p:Value × D) (e:MapEntry)=>e.key=p.1/\DR H p.2 e.val) es arr
end reps
def A.tags:A->List Nat
  | .d _=>[]
  | .ptr n _=>[n]
def C.tags:C->List Nat
  | .d _ | .any | .el _=>[]
  | .ptr n _ | .own n _ | .sub n _ _ | .mp n=>[n]
  | .fn _ fs cs=>fs.flatMap A.tags++cs.flatMap A.tags
def T.tags:T->List Nat
  | .c x=>x.tags
  | .agg cs=>cs.flatMap C.tags
def V.tags:V->List Nat
  | .t x=>x.tags
  | .tup xs=>xs.flatMap T.tags
def L.tags:L->List Nat
  | .box cs=>cs.flatMap C.tags
  | .row _ _ _=>[]
  | .rowc _ _ rows=>rows.flatten.flatMap C.tags
  | .bld _ c rest=>c.tags++rest.flatMap C.tags
  | .mp _=>[]
section mono
variable {H H':Im} {B B':Bl}
theorem AR.mono (hl:Le H H') {x:A} (hB:∀ n ∈ x.tags,B' n=B n) (h:AR H B x v):AR H' B' x v:=by
 cases x with
 | d x=>exact DR.mono hl h
 | ptr n o=>obtain ⟨b,c,hb,hv⟩:=h;exact ⟨b,c,(hB n (by simp [A.tags])).trans hb,hv⟩
theorem CR.mono (hl:Le H H') {x:C} (hB:∀ n ∈ x.tags,B' n=B n) (h:CR H B x v):CR H' B' x v:=by
 cases x with
 | d x=>exact DR.mono hl h
 | ptr n o=>obtain ⟨b,c,hb,hv⟩:=h;exact ⟨b,c,(hB n (by simp [C.tags])).trans hb,hv⟩
 | own n k=>simp only [CR] at h ⊢;rw [hB n (by simp [C.tags])];exact h
 | el xs =>
  obtain ⟨b,o,arr,ty,fz,hb,hv,hx⟩:=h
  exact ⟨b,o,arr,ty,fz,hl _ _ hb,hv,fun j hj=>let ⟨u,h1,h2⟩:=hx j hj;⟨u,h1,h2.mono hl⟩⟩
 | fn f fs cs =>
  obtain ⟨vs,ws,hv,h1,h2⟩:=h
  refine ⟨vs,ws,hv,h1.mono fun a ha b=>AR.mono hl fun n hn=>hB n ?_,h2.mono fun a ha b=>AR.mono hl fun n hn=>hB n ?_⟩
  ·simp only [C.tags,cW,bL];exact .inl ⟨a,ha,hn⟩
  ·simp only [C.tags,cW,bL];exact .inr ⟨a,ha,hn⟩
 | sub n o len=>exact ⟨h.1,fun hl=>let ⟨b,c,k,h1,h2⟩:=h.2 hl;⟨b,c,k,(hB n (by simp [C.tags])).trans h1,h2⟩⟩
 | any=>exact h
 | mp n=>obtain ⟨b,c,hb,hv⟩:=h;exact ⟨b,c,(hB n (by simp [C.tags])).trans hb,hv⟩
theorem TR.mono (hl:Le H H') {x:T} (hB:∀ n ∈ x.tags,B' n=B n) (h:TR H B x v):TR H' B' x v:=by
 cases x with
 | c x=>exact CR.mono hl hB h
 | agg cs =>
  obtain ⟨vs,hv,h1⟩:=h
  exact ⟨vs,hv,h1.mono fun a ha b=>CR.mono hl fun n hn=>hB n (by simp only [T.tags,bL];exact ⟨a,ha,hn⟩)⟩
theorem VR.mono (hl:Le H H') {x:V} (hB:∀ n ∈ x.tags,B' n=B n) (h:VR H B x v):VR H' B' x v:=by
 cases x with
 | t x=>exact TR.mono hl hB h
 | tup xs =>
  obtain ⟨vs,hv,h1⟩:=h
  exact ⟨vs,hv,h1.mono fun a ha b=>TR.mono hl fun n hn=>hB n (by simp only [V.tags,bL];exact ⟨a,ha,hn⟩)⟩
theorem LR.mono (hl:Le H H') {x:L} (hn:B' n=B n) (hB:∀ n ∈ x.tags,B' n=B n) {w:World} (hw:∀ b c,B n=some (b,c)->w'.heap[b]?=w.heap[b]?) (h:LR H B w n x):LR H' B' w' n x:=by
 cases x with
 | box cs =>
  obtain ⟨b,c,arr,ty,hb,hc,h1⟩:=h
  exact ⟨b,c,arr,ty,hn.trans hb,(hw b c hb).trans hc,h1.mono fun a ha v=>CR.mono hl fun m hm=>hB m (by simp only [L.tags,bL];exact ⟨a,ha,hm⟩)⟩
 | row ty es rows =>
  simp only [LR] at h ⊢
  rw [hn]
  cases hb:B n with
  | none=>rw [hb] at h;exact h
  | some p =>
   obtain ⟨b,c⟩:=p
   rw [hb] at h
   obtain ⟨arr,h1,h2,h3,h4,h5,h6⟩:=h
   exact ⟨arr,(hw b c hb).trans h1,h2,h3,h4,h5,h6.mono fun a _ v=>DR.mono hl⟩
 | rowc ty es rows =>
  simp only [LR] at h ⊢
  rw [hn]
  cases hb:B n with
  | none=>rw [hb] at h;exact h
  | some p =>
   obtain ⟨b,c⟩:=p
   rw [hb] at h
   obtain ⟨arr,h1,h2,h3,h4,h5,h6⟩:=h
   exact ⟨arr,(hw b c hb).trans h1,h2,h3,h4,h5,h6.mono fun a ha v=>CR.mono hl fun m hm=>hB m (by simp only [L.tags,bL];exact ⟨a,ha,hm⟩)⟩
 | bld ty x rest =>
  obtain ⟨b,c,v1,v2,vr,hb,hc,h1,h0,h2,h3⟩:=h
  exact ⟨b,c,v1,v2,vr,hn.trans hb,(hw b c hb).trans hc,h1,h0,CR.mono hl (fun m hm=>hB m (by simp only [L.tags];exact cU _ hm)) h2,h3.mono fun a ha v=>CR.mono hl fun m hm=>hB m (by simp only [L.tags];exact cG _ (bL.2 ⟨a,ha,hm⟩))⟩
 | mp es =>
  obtain ⟨b,c,arr,cl,hb,hc,h1⟩:=h
  exact ⟨b,c,arr,cl,hn.trans hb,(hw b c hb).trans hc,h1.mono fun a _ e h2=>⟨h2.1,h2.2.mono hl⟩⟩
end mono
structure F where
  s:Nat->Option V
  l:Nat->Option L
structure E where
  w:World
  H:Im
  B:Bl
  K:List Nat
  n:Nat
def E.may (e:E) (b:Nat):Prop:=∃ n ∈ e.K,∃ c,e.B n=some (b,c)
structure Ext (may:Nat->Prop) (w w':World):Prop where
  os:w'.os=w.os
  tape:w'.tape=w.tape
  output:w'.output=w.output
  size:w.heap.size<=w'.heap.size
  block:∀ b,b<w.heap.size->¬ may b->w'.heap[b]?=w.heap[b]?
theorem Ext.refl (may:Nat->Prop) (w:World):Ext may w w:=⟨rfl,rfl,rfl,bC _,fun _ _ _=>rfl⟩
def TabH (_:Im):Prop:=True
theorem TabH.mono (_:TabH H) (_:Le H H'):TabH H':=trivial
structure Ok (e:E) (f:F) (H:Im) (B:Bl) (a:Act) (w:World):Prop where
  df:a.defers=[]
  n:a.tmps.size=e.n
  ext:Ext e.may e.w w
  sat:∀ b o,H b=some o->w.heap[b]?=some o
  slot:∀ t v,f.s t=some v->VR H B v (a.tmps.getD t undef)
  loc:∀ n l,f.l n=some l->LR H B w n l
  priv:∀ n l b c,f.l n=some l->B n=some (b,c)->b<w.heap.size/\H b=none/\(e.may b\/e.w.heap.size<=b)
  inj:∀ n m l l' b c c', f.l n=some l->f.l m=some l'->B n=some (b,c)->B m=some (b,c')->n=m
  low:∀ b,b<e.w.heap.size->H b=e.H b
  le:Le e.H H
  keep:∀ n ∈ e.K,B n=e.B n
  tab:TabH e.H
def St (e:E) (f:F) (a:Act) (w:World):Prop:=∃ H B,Ok e f H B a w
structure I where
  rs:List (Nat × V):=[]
  rl:List (Nat × L):=[]
  ws:List (Nat × Option V):=[]
  wl:List (Nat × Option L):=[]
  nw:List Nat:=[]
  k0:Bool:=false
def F.app (f:F) (i:I):F :=
  ⟨fun t=>match i.ws.lookup t with | some v=>v | none=>f.s t,fun n=>match i.wl.lookup n with | some l=>l | none=>f.l n⟩
def F.le (f g:F):Prop:=(∀ t v,g.s t=some v->f.s t=some v)/\(∀ n l,g.l n=some l->f.l n=some l)
def Reads (f:F) (i:I):Prop:=(∀ p ∈ i.rs,f.s p.1=some p.2)/\(∀ p ∈ i.rl,f.l p.1=some p.2)
def New (K:List Nat) (f:F) (n:Nat):Prop:=n ∉ K/\f.l n=none/\(∀ t v,f.s t=some v->n ∉ v.tags)/\(∀ m l,f.l m=some l->n ∉ l.tags)
variable {e:E} {f:F}
theorem St.weaken {g:F} {w:World} (h:St e f a w) (hl:f.le g):St e g a w:=by
 obtain ⟨H,B,h⟩:=h
 exact ⟨H,B,h.df,h.n,h.ext,h.sat,fun t v hv=>h.slot t v (hl.1 t v hv),fun n l hn=>h.loc n l (hl.2 n l hn),fun n l b c hn=>h.priv n l b c (hl.2 n l hn),fun n m l l' b c c' h1 h2=>h.inj n m l l' b c c' (hl.2 n l h1) (hl.2 m l' h2),h.low,h.le,h.keep,h.tab⟩
theorem St.drew {w:World} (h:St e f a w):St e f a { w with drawn:=w.drawn+1 }:=by
 obtain ⟨H,B,h⟩:=h
 exact ⟨H,B,h.df,h.n,⟨h.ext.os,h.ext.tape,h.ext.output,h.ext.size,h.ext.block⟩,h.sat,h.slot,fun n l hn=>LR.mono (Le.refl _) rfl (fun _ _=>rfl) (fun _ _ _=>rfl) (h.loc n l hn),h.priv,h.inj,h.low,h.le,h.keep,h.tab⟩
def FitsE (e:E) (i:I):Prop:=(∀ p ∈ i.ws,p.1<e.n)/\(i.k0=true->e.K=[])
def zav (P:Program) (o:Oper) (i:I):Prop :=
  ∀ (e:E) (f:F) (a:Act) (w:World) (Q:Exit->Act->World->Prop),St e f a w->Reads f i->(∀ n ∈ i.nw,New e.K f n)->FitsE e i->Oper.wp P o a w (fun a' w'=>St e (f.app i) a' w') Q
def gv (b:Bool):V:=.t (.c (.d (.raw (.bool b))))
inductive Does (P:Program) (ops:Array Oper) (o:Oper) (i:I):Prop
  | run (hg:o.guard=none) (h:zav P o i)
  | runG (j:Nat) (b:Bool) (d:Nat) (hg:o.guard=some (j,b)) (hd:(ops[j]?).bind (·.dst)=some d) (hr:(d,gv b) ∈ i.rs) (h:zav P o i)
  | skip (j:Nat) (b:Bool) (d:Nat) (hg:o.guard=some (j,b)) (hd:(ops[j]?).bind (·.dst)=some d) (hr:(d,gv (!b)) ∈ i.rs) (hw:i.ws=(o.dst.toList.map fun t=>(t,some (.tup [])))) (hl:i.wl=[]) (hn:i.nw=[])
  | skip2 (j:Nat) (b:Bool) (d:Nat) (hg:o.guard=some (j,b)) (hd:(ops[j]?).bind (·.dst)=some d) (hr:(d,V.tup []) ∈ i.rs) (hw:i.ws=(o.dst.toList.map fun t=>(t,some (.tup [])))) (hl:i.wl=[]) (hn:i.nw=[])
variable {B:Bl}
theorem yielded_of {w:World} (h:Ok e f H B a w) {j d:Nat} {b:Bool} (hd:(ops[j]?).bind (·.dst)=some d) (hf:f.s d=some (gv b)):yielded ops a.tmps j=some b:=by
 have h1:=h.slot d _ hf
 simp only [gv,VR,TR,CR] at h1
 generalize hx:a.tmps.getD d undef=x at h1
 cases h1
 unfold yielded
 rw [hd]
 simp only [Option.bind_some]
 rw [bN] at hx
 cases hy:a.tmps[d]? with
 | none=>rw [hy] at hx;simp [undef] at hx
 | some y=>rw [hy] at hx;simp at hx;subst hx;rfl
theorem undef_tup:VR H B (.tup []) undef:=⟨[],rfl,trivial⟩
theorem St.forget {w:World} (h:St e f a w) (dst:Option Nat) (i:I) (hw:i.ws=(dst.toList.map fun t=>(t,some (.tup [])))) (hl:i.wl=[]):St e (f.app i) (a.put dst undef) w:=by
 obtain ⟨H,B,h⟩:=h
 have hs:∀ t v,(f.app i).s t=some v->(f.s t=some v/\dst≠some t)\/(dst=some t/\v = .tup []):=by
  intro t v hv
  cases dst with
  | none=>simp [F.app,hw] at hv;exact .inl ⟨hv,by simp⟩
  | some d =>
   simp only [F.app,hw,Option.toList_some,dG,List.map_nil,List.lookup] at hv
   cases hc:(t == d) with
   | true=>rw [hc] at hv;simp at hv hc;exact .inr ⟨by rw [hc],hv.symm⟩
   | false=>rw [hc] at hv;exact .inl ⟨hv,by intro e;simp at e;simp [e] at hc⟩
 have hll:∀ n,(f.app i).l n=f.l n:=by intro n;simp [F.app,hl]
 refine ⟨H,B,?_,?_,h.ext,h.sat,?_,?_,?_,?_,h.low,h.le,h.keep,h.tab⟩
 ·cases dst <;> exact h.df
 ·cases dst <;> simp [Act.put,h.n]
 ·intro t v hv
  rcases hs t v hv with ⟨h1,h2⟩ | ⟨h1,h2⟩
  ·have:=h.slot t v h1
   cases dst with
   | none=>exact this
   | some d =>
    have hne:d≠t:=fun e=>h2 (by rw [e])
    simpa [Act.put,bN, dY hne] using this
  ·subst h1 h2
   have:(a.put (some t) undef).tmps.getD t undef=undef:=by
    simp only [Act.put,bN]
    rw [Array.getElem?_setIfInBounds]
    split
    ·split <;> rfl
    ·rename_i hx;exact absurd rfl hx
   rw [this];exact undef_tup
 ·intro n l hn;rw [hll] at hn;exact h.loc n l hn
 ·intro n l b c hn;rw [hll] at hn;exact h.priv n l b c hn
 ·intro n m l l' b c c' h1 h2;rw [hll] at h1 h2;exact h.inj n m l l' b c c' h1 h2
theorem yielded_none {w:World} (h:Ok e f H B a w) {j d:Nat} (hd:(ops[j]?).bind (·.dst)=some d) (hf:f.s d=some (.tup [])):yielded ops a.tmps j=none:=by
 obtain ⟨vs,h1,h2⟩:=h.slot d _ hf
 have h3:vs=[]:=by cases vs with
  | nil=>rfl
  | cons _ _=>exact h2.elim
 subst h3
 unfold yielded
 rw [hd]
 simp only [Option.bind_some]
 rw [bN] at h1
 cases hx:a.tmps[d]? with
 | none=>rfl
 | some y=>rw [hx] at h1;simp at h1;subst h1;rfl
theorem Does.wpOp {i:I} (hk:ops[k]?=some o) (hd:Does P ops o i) {w:World}
  (h:St e f a w) (hr:Reads f i) (hn:∀ n ∈ i.nw,New e.K f n) (hb:FitsE e i):Go.wpOp P ops Q k (fun a' w'=>St e (f.app i) a' w') a w:=by
 unfold Go.wpOp
 simp only [hk]
 cases hd with
 | run hg h1=>simp only [Region.wanted,hg,if_true];exact .inl (h1 e f a w Q h hr hn hb)
 | runG j b d hg hd2 hr2 h1 =>
  obtain ⟨H,B,h'⟩:=id h
  have hy:=yielded_of h' hd2 (hr.1 _ hr2)
  simp only [Region.wanted,hg,hy,beq_self_eq_true,if_true]
  exact .inl (h1 e f a w Q h hr hn hb)
 | skip j b d hg hd2 hr2 hw hl hn2 =>
  obtain ⟨H,B,h'⟩:=id h
  have hy:=yielded_of h' hd2 (hr.1 _ hr2)
  have:(some (!b) == some b)=false:=by cases b <;> rfl
  simp only [Region.wanted,hg,hy,this,dA,if_false]
  exact h.forget _ i hw hl
 | skip2 j b d hg hd2 hr2 hw hl hn2 =>
  obtain ⟨H,B,h'⟩:=id h
  have hy:=yielded_none h' hd2 (hr.1 _ hr2)
  have:((none:Option Bool) == some b)=false:=rfl
  simp only [Region.wanted,hg,hy,this,dA,if_false]
  exact h.forget _ i hw hl
def I.wtags (i:I):List Nat :=
  (i.ws.flatMap fun p=>match p.2 with | some v=>v.tags | none=>[])++(i.wl.flatMap fun p=>p.1 :: match p.2 with | some l=>l.tags | none=>[])
def hasN (l:List Nat) (n:Nat):Bool:=l.any (Nat.beq n ·)
theorem zdz:hasN l n=true ↔ n ∈ l:=by
 unfold hasN
 rw [List.any_eq_true]
 constructor
 ·rintro ⟨x,hx,he⟩;rw [dQ he];exact hx
 ·intro h;exact ⟨n,h,Nat.beq_refl n⟩
def zg1 (xs ys:List Nat):Bool:=xs.all fun x=>!hasN ys x
theorem zby (h:zg1 xs ys=true) {x:Nat} (hx:x ∈ xs):x ∉ ys:=by
 unfold zg1 at h
 have:=bK.1 h x hx
 intro hy
 rw [zdz.2 hy] at this
 cases this
def ment (j i:I):Bool:=zg1 i.nw j.wtags
def disj (i j:I):Bool :=
  zg1 (i.ws.map (·.1)) (j.rs.map (·.1)) && zg1 (i.ws.map (·.1)) (j.ws.map (·.1)) && zg1 (j.ws.map (·.1)) (i.rs.map (·.1)) &&
  (zg1 (i.wl.map (·.1)) (j.rl.map (·.1)) && zg1 (i.wl.map (·.1)) (j.wl.map (·.1)) && zg1 (j.wl.map (·.1)) (i.rl.map (·.1)))
theorem zdx {l:List (Nat × β)} (h:n ∉ l.map (·.1)):l.lookup n=none:=by
 induction l with
 | nil=>rfl
 | cons p l ih =>
  simp at h
  obtain ⟨a,b⟩:=p
  have:(n == a)=false:=by simp;exact h.1
  simp only [List.lookup,this]
  exact ih (by simpa using h.2)
theorem zaw {l:List (Nat × β)} {b:β} (h:l.lookup n=some b):(n,b) ∈ l:=by
 induction l with
 | nil=>cases h
 | cons p l ih =>
  obtain ⟨x,y⟩:=p
  simp only [List.lookup] at h
  cases hc:(n == x) with
  | true=>rw [hc] at h;simp at h hc;subst h hc;simp
  | false=>rw [hc] at h;exact dR _ (ih h)
theorem app_s_out {i:I} (h:t ∉ i.ws.map (·.1)):(f.app i).s t=f.s t:=by simp only [F.app,zdx h]
theorem app_l_out {i:I} (h:t ∉ i.wl.map (·.1)):(f.app i).l t=f.l t:=by simp only [F.app,zdx h]
structure Disj (i j:I):Prop where
  a1:∀ t ∈ i.ws.map (·.1),t ∉ j.rs.map (·.1)
  a2:∀ t ∈ i.ws.map (·.1),t ∉ j.ws.map (·.1)
  a3:∀ t ∈ j.ws.map (·.1),t ∉ i.rs.map (·.1)
  b1:∀ t ∈ i.wl.map (·.1),t ∉ j.rl.map (·.1)
  b2:∀ t ∈ i.wl.map (·.1),t ∉ j.wl.map (·.1)
  b3:∀ t ∈ j.wl.map (·.1),t ∉ i.rl.map (·.1)
variable {j:I}
theorem disj_spec {i:I} (h:disj i j=true):Disj i j:=by
 simp only [disj,cH] at h
 exact ⟨fun t ht=>zby h.1.1.1 ht,fun t ht=>zby h.1.1.2 ht,fun t ht=>zby h.1.2 ht,fun t ht=>zby h.2.1.1 ht,fun t ht=>zby h.2.1.2 ht,fun t ht=>zby h.2.2 ht⟩
theorem Disj.comm {i:I} (h:Disj i j) (f:F):(f.app i).app j=(f.app j).app i:=by
 unfold F.app
 simp only [F.mk.injEq]
 constructor
 ·funext t
  cases h1:j.ws.lookup t with
  | none=>rfl
  | some v =>
   have hj:t ∈ j.ws.map (·.1):=by have:=zaw h1;exact bG.2 ⟨_,this,rfl⟩
   have hi:t ∉ i.ws.map (·.1):=fun hi=>h.a2 t hi hj
   simp only [zdx hi]
 ·funext t
  cases h1:j.wl.lookup t with
  | none=>rfl
  | some v =>
   have hj:t ∈ j.wl.map (·.1):=by have:=zaw h1;exact bG.2 ⟨_,this,rfl⟩
   have hi:t ∉ i.wl.map (·.1):=fun hi=>h.b2 t hi hj
   simp only [zdx hi]
theorem Disj.reads {i:I} (h:Disj i j):Reads (f.app i) j ↔ Reads f j:=by
 unfold Reads
 constructor
 ·rintro ⟨h1,h2⟩
  exact ⟨fun p hp=>by rw [<- h1 p hp,app_s_out (fun hm=>h.a1 _ hm (bG.2 ⟨p,hp,rfl⟩))],fun p hp=>by rw [<- h2 p hp,app_l_out (fun hm=>h.b1 _ hm (bG.2 ⟨p,hp,rfl⟩))]⟩
 ·rintro ⟨h1,h2⟩
  exact ⟨fun p hp=>by rw [app_s_out (fun hm=>h.a1 _ hm (bG.2 ⟨p,hp,rfl⟩))];exact h1 p hp,fun p hp=>by rw [app_l_out (fun hm=>h.b1 _ hm (bG.2 ⟨p,hp,rfl⟩))];exact h2 p hp⟩
theorem Disj.symm {i:I} (h:Disj i j):Disj j i :=
 ⟨fun t h1 h2=>h.a3 t h1 h2,fun t h1 h2=>h.a2 t h2 h1,fun t h1 h2=>h.a1 t h1 h2,fun t h1 h2=>h.b3 t h1 h2,fun t h1 h2=>h.b2 t h2 h1,fun t h1 h2=>h.b1 t h1 h2⟩
theorem New.app {i:I} (h:New K f n) (hm:ment j i=true) (hn:n ∈ i.nw):New K (f.app j) n:=by
 have hw:n ∉ j.wtags:=zby hm hn
 obtain ⟨h1,h2,h3,h4⟩:=h
 have hk:n ∉ j.wl.map (·.1):=by
  intro hx
  obtain ⟨p,hp,rfl⟩:=bG.1 hx
  exact hw (cG _ (bL.2 ⟨p,hp,by simp⟩))
 refine ⟨h1,by rw [app_l_out hk];exact h2,?_,?_⟩
 ·intro t v hv
  simp only [F.app] at hv
  cases hl:j.ws.lookup t with
  | none=>rw [hl] at hv;exact h3 t v hv
  | some x =>
   rw [hl] at hv
   simp at hv
   subst hv
   intro hx
   exact hw (cU _ (bL.2 ⟨_,zaw hl,hx⟩))
 ·intro t v hv
  simp only [F.app] at hv
  cases hl:j.wl.lookup t with
  | none=>rw [hl] at hv;exact h4 t v hv
  | some x =>
   rw [hl] at hv
   simp at hv
   subst hv
   intro hx
   exact hw (cG _ (bL.2 ⟨_,zaw hl,dR _ hx⟩))
def at_ (is:List I) (k:Nat):I:=is.getD k {}
def RunL (is:List I):F->List Nat->F->Prop
  | f,[],g=>f.le g
  | f,k :: l,g=>Reads f (at_ is k)/\RunL is (f.app (at_ is k)) l g
theorem RunL.first {is:List I} {g:F} {l2:List Nat}:∀ (l1:List Nat) (f:F),RunL is f (l1++k :: l2) g->(∀ j ∈ l1,Disj (at_ is j) (at_ is k)) ->
  Reads f (at_ is k)/\RunL is (f.app (at_ is k)) (l1++l2) g
 | [],f,h,_=>h
 | j :: l1,f,h,hd=>by
  obtain ⟨h1,h2⟩:=h
  obtain ⟨h3,h4⟩:=RunL.first l1 _ h2 (fun x hx=>hd x (by simp [hx]))
  have hj:=hd j (by simp)
  refine ⟨hj.reads.1 h3,hj.symm.reads.2 h1,?_⟩
  rw [<- hj.comm]
  exact h4
def pre (o:Oper):List Nat:=(o.after.toList.filter (Region.binds .any)).map (·.on)
def zdo:List Nat->List Oper->List Nat
  | acc,[]=>acc
  | acc,o :: os=>zdo (acc++[(pre o).foldl (fun s j=>s ||| (2 ^ j ||| acc.getD j 0)) 0]) os
def masks (ops:List Oper):List Nat:=zdo [] ops
theorem zgr (acc:List Nat) (j:Nat):∀ (l:List Nat) (s:Nat),(l.foldl (fun s j=>s ||| (2 ^ j ||| acc.getD j 0)) s).testBit j=true->s.testBit j=true\/∃ p ∈ l,j=p\/(acc.getD p 0).testBit j=true
 | [],s,h => .inl h
 | p :: l,s,h=>by
  simp only [List.foldl_cons] at h
  rcases zgr acc j l _ h with h1 | ⟨q,hq,h1⟩
  ·rw [Nat.testBit_or,Nat.testBit_or,dS,dS] at h1
   rcases h1 with h1 | h1 | h1
   ·exact .inl h1
   ·rw [Nat.testBit_two_pow] at h1;simp at h1;exact .inr ⟨p,by simp,.inl h1.symm⟩
   ·exact .inr ⟨p,by simp,.inr h1⟩
  ·exact .inr ⟨q,by simp [hq],h1⟩
theorem getD_app {m:List Nat} (h:k<l.length):(l++m).getD k 0=l.getD k 0:=by
 rw [bI,bI,List.getElem?_append_left h]
theorem getD_out (h:l.length<=k):l.getD k 0=0:=by
 rw [bI,dC h];rfl
def MaskOk (ops:List Oper) (acc:List Nat):Prop:=∀ k,k<acc.length->∀ j,(acc.getD k 0).testBit j=true->∃ o,ops[k]?=some o/\∃ p ∈ pre o,j=p\/(p<k/\(acc.getD p 0).testBit j=true)
theorem zgu (all:List Oper):∀ (os:List Oper) (acc:List Nat),MaskOk all acc->all.drop acc.length=os->MaskOk all (zdo acc os)
 | [],acc,h,_=>h
 | o :: os,acc,h,hd=>by
  have h0:all[acc.length]?=some o:=by
   have:=congrArg (fun l=>l[0]?) hd
   simpa using this
  refine zgu all os _ ?_ ?_
  ·intro k hk j hj
   simp at hk
   rcases bW k acc.length with hlt | hge
   ·rw [getD_app hlt] at hj
    obtain ⟨o', ho', p,hp,h1⟩:=h k hlt j hj
    refine ⟨o', ho', p,hp,h1.imp id fun ⟨h2,h3⟩=>⟨h2,?_⟩⟩
    rw [getD_app (by omega)];exact h3
   ·obtain rfl:k=acc.length:=by omega
    refine ⟨o,h0,?_⟩
    have e:(acc++[List.foldl (fun s j=>s ||| (2 ^ j ||| acc.getD j 0)) 0 (pre o)]).getD acc.length 0=List.foldl (fun s j=>s ||| (2 ^ j ||| acc.getD j 0)) 0 (pre o):=by simp
    rw [e] at hj
    rcases zgr acc j _ _ hj with h1 | ⟨p,hp,h1⟩
    ·simp at h1
    ·refine ⟨p,hp,h1.imp id fun h2=>?_⟩
     rcases bW p acc.length with hlt | hge
     ·exact ⟨hlt,by rw [getD_app hlt];exact h2⟩
     ·rw [getD_out hge] at h2;simp at h2
  ·have:List.drop 1 (all.drop acc.length)=os:=by rw [hd];rfl
   rw [List.drop_drop] at this
   simpa using this
theorem masks_ok (ops:List Oper):MaskOk ops (masks ops):=zgu ops ops [] (fun k hk=>by simp at hk) rfl
theorem ze7:∀ (os:List Oper) (acc:List Nat),(zdo acc os).length=acc.length+os.length
 | [],acc=>by simp [zdo]
 | o :: os,acc=>by rw [zdo,ze7 os];simp;omega
def pairsOk (draw:Bool) (ops:List Oper) (is:List I):Bool :=
  let ms:=masks ops
  (List.range ops.length).all fun k =>
    ((pre (ops.getD k default)).all fun p=>Nat.blt p k) &&
    (List.range k).all fun j=>ment (at_ is j) (at_ is k) && (!draw || (ms.getD k 0).testBit j || (disj (at_ is j) (at_ is k) && ment (at_ is k) (at_ is j)))
theorem zem {ops:List Oper} {is:List I} (h:pairsOk draw ops is=true) (hk:k<ops.length) :
  (∀ p ∈ pre (ops.getD k default),p<k)/\∀ j,j<k->ment (at_ is j) (at_ is k)=true/\(draw=true->((masks ops).getD k 0).testBit j=true\/(Disj (at_ is j) (at_ is k)/\ment (at_ is k) (at_ is j)=true)):=by
 have h1:=bK.1 h k (cD.2 hk)
 rw [cH] at h1
 refine ⟨fun p hp=>by have:=bK.1 h1.1 p hp;simpa [Nat.blt_eq] using this,fun j hj=>?_⟩
 have h2:=bK.1 h1.2 j (cD.2 hj)
 rw [cH] at h2
 refine ⟨h2.1,fun hd=>?_⟩
 rw [hd] at h2
 have h3:=h2.2
 simp only [Bool.not_true,Bool.false_or,dS,cH] at h3
 exact h3.imp id fun h4=>⟨disj_spec h4.1,h4.2⟩
section
variable {P:Program} {ops:Array Oper} {is:List I} {e:E} {g:F} {Q:Exit->Act->World->Prop}
theorem wpOps_run (hdo:∀ k o,ops[k]?=some o->Does P ops o (at_ is k)) (hb:∀ k,FitsE e (at_ is k)) (hQ:∀ a w,St e g a w->Q .normal a w) :
  ∀ (l:List Nat) (f:F) (a:Act) (w:World),(∀ k ∈ l,k<ops.size)->l.Pairwise (fun j k=>ment (at_ is j) (at_ is k)=true)->(∀ k ∈ l,∀ n ∈ (at_ is k).nw,New e.K f n)->RunL is f l g->St e f a w->wpOps P ops Q l a w
 | [],f,a,w,_,_,_,hr,h=>hQ a w (h.weaken hr)
 | k :: l,f,a,w,hs,hp,hn,hr,h=>by
  rw [wpOps_cons]
  have hk:=hs k (by simp)
  obtain ⟨hr1,hr2⟩:=hr
  obtain ⟨hp1,hp2⟩:=List.pairwise_cons.1 hp
  refine wpOp_mono (fun a' w' h'=>?_) (Does.wpOp (cJ hk) (hdo k _ (cJ hk)) h hr1 (hn k (by simp)) (hb k))
  exact wpOps_run hdo hb hQ l _ a' w' (fun x hx=>hs x (by simp [hx])) hp2 (fun x hx n hn2=>(hn x (by simp [hx]) n hn2).app (hp1 x hx) hn2) hr2 h'
def left (listed:Array Bool) (n:Nat):List Nat:=(List.range n).filter fun k=>!listed.getD k true
theorem zhe {listed:Array Bool}:k ∈ left listed n ↔ k<n/\listed.getD k true=false:=by unfold left;rw [cV,cD];simp
theorem left_split {listed:Array Bool} (hk:k<n) (hl:listed.getD k true=false) :
  ∃ l1 l2,left listed n=l1++k :: l2/\left (listed.setIfInBounds k true) n=l1++l2/\(∀ j ∈ l1,j<k/\listed.getD j true=false)/\(∀ j ∈ l2,k<j/\listed.getD j true=false):=by
 have hr:List.range n=List.range k++k :: List.range' (k+1) (n - k - 1):=by
  rw [dU, dU]
  have:List.range' 0 n=List.range' 0 (k+(1+(n - k - 1))):=by congr 1;omega
  rw [this,<- List.range'_append_1,bX,Nat.add_comm 1,List.range'_succ]
 refine ⟨(List.range k).filter (fun j=>!listed.getD j true),(List.range' (k+1) (n - k - 1)).filter (fun j=>!listed.getD j true),?_,?_,?_,?_⟩
 ·unfold left;rw [hr,List.filter_append,List.filter_cons];simp [hl]
 ·unfold left
  rw [hr,List.filter_append,List.filter_cons]
  have hks:k<listed.size:=by
   rcases bW k listed.size with h' | h'
   ·exact h'
   ·simp [Array.getElem?_eq_none h'] at hl
  have h0:(listed.setIfInBounds k true).getD k true=true:=by simp [hks]
  simp only [h0,Bool.not_true,dA,if_false]
  congr 1
  ·refine List.filter_congr fun j hj=>?_
   have:=cD.1 hj
   rw [getD_set_ne true (by omega)]
  ·refine List.filter_congr fun j hj=>?_
   have:=List.mem_range'_1.1 hj
   rw [getD_set_ne true (by omega)]
 ·intro j hj
  rw [cV,cD] at hj
  exact ⟨hj.1,by simpa using hj.2⟩
 ·intro j hj
  rw [cV,List.mem_range'_1] at hj
  exact ⟨by omega,by simpa using hj.2⟩
theorem wpAny_run (hdo:∀ k o,ops[k]?=some o->Does P ops o (at_ is k)) (hb:∀ k,FitsE e (at_ is k)) (hQ:∀ a w,St e g a w->Q .normal a w) (hpo:pairsOk true ops.toList is=true) :
    ∀ (fuel:Nat) (listed:Array Bool) (f:F) (a:Act) (w:World),listed.size=ops.size->(∀ k o,ops[k]?=some o->listed.getD k true=true->∀ p ∈ pre o,listed.getD p false=true)->(left listed ops.size).length<=fuel ->
      (∀ k ∈ left listed ops.size,∀ n ∈ (at_ is k).nw,New e.K f n)->RunL is f (left listed ops.size) g->St e f a w->wpAny P .any ops Q fuel listed a w:=by
  have hops:∀ k o,ops[k]?=some o->ops.toList.getD k default=o:=fun k o h=>by simp [h]
  -- the least that is left is ready
  have hready:∀ (listed:Array Bool),listed.size=ops.size->∀ k,left listed ops.size=k :: (left listed ops.size).tail->k ∈ Region.ready .any ops listed:=by
    intro listed hsz k hk
    have hkm:k ∈ left listed ops.size:=by rw [hk];simp
    obtain ⟨h1,h2⟩:=zhe.1 hkm
    rw [mem_ready]
    refine ⟨h2,ops[k],cJ h1,fun ed he hbd=>?_⟩
    have hlt:ed.on<k:=by
      have:=(zem hpo (k:=k) (by simpa using h1)).1 ed.on (by
        rw [hops k _ (cJ h1)]
        exact bG.2 ⟨ed,cV.2 ⟨by simpa using he,hbd⟩,rfl⟩)
      exact this
    rcases hx:listed.getD ed.on false with _ | _
    · exfalso
      have hlt2:ed.on<listed.size:=by omega
      have hx2:listed.getD ed.on true=false:=by
        rw [bN, cJ hlt2] at hx ⊢
        exact hx
      have hm:ed.on ∈ left listed ops.size:=zhe.2 ⟨by omega,hx2⟩
      have hs:(left listed ops.size).Pairwise (·<·):=List.Pairwise.filter _ (dZ)
      rw [hk] at hm hs
      rcases dB.1 hm with h3 | h3
      · omega
      · have:=(List.pairwise_cons.1 hs).1 _ h3;omega
    · rfl
  intro fuel
  induction fuel with
  | zero =>
    intro listed f a w hsz hcl hle hn hr h
    have h0:left listed ops.size=[]:=bV.1 (by omega)
    rw [h0] at hr
    refine ⟨?_,hQ a w (h.weaken hr)⟩
    refine List.eq_nil_iff_forall_not_mem.2 fun k hk=>?_
    obtain ⟨h1,o,ho,_⟩:=mem_ready.1 hk
    have:k ∈ left listed ops.size:=zhe.2 ⟨(cQ.1 ho).1,h1⟩
    rw [h0] at this
    cases this
  | succ fuel ih =>
    intro listed f a w hsz hcl hle hn hr h
    refine ⟨fun h0=>?_,fun k hk=>?_⟩
    · cases hl:left listed ops.size with
      | nil=>rw [hl] at hr;exact hQ a w (h.weaken hr)
      | cons k l =>
        have:=hready listed hsz k (by rw [hl];rfl)
        rw [h0] at this
        cases this
    · obtain ⟨h1,o,ho,hall⟩:=mem_ready.1 hk
      have hks:=(cQ.1 ho).1
      obtain ⟨l1,l2,e1,e2,e3,e4⟩:=left_split hks h1
      -- whoever k waits for, and they in turn, is listed
      have hanc:∀ m,∀ x,x<ops.size->x<m->(∀ o,ops[x]?=some o->∀ p ∈ pre o,listed.getD p false=true)->∀ j,((masks ops.toList).getD x 0).testBit j=true->listed.getD j false=true:=by
        intro m
        induction m with
        | zero=>intro x _ hx;omega
        | succ m ihm =>
          intro x hxs hx hpre j hj
          have hxl:x<(masks ops.toList).length:=by unfold masks;rw [ze7];simpa using hxs
          obtain ⟨o', ho', p,hp,h2⟩:=masks_ok ops.toList x hxl j hj
          have ho2:ops[x]?=some o':=by simpa using ho'
          have hpl:=hpre o' ho2 p hp
          rcases h2 with rfl | ⟨h3,h4⟩
          · exact hpl
          · refine ihm p (by omega) (by omega) (fun o3 ho3 q hq=>hcl p o3 ho3 ?_ q hq) j h4
            have:p<listed.size:=by omega
            rw [bN, cJ this] at hpl ⊢
            exact hpl
      have hpk:∀ o', ops[k]?=some o'->∀ p ∈ pre o', listed.getD p false=true:=by
        intro o' ho' p hp
        rw [ho] at ho'
        injection ho' with ho'
        subst ho'
        obtain ⟨ed,he,rfl⟩:=bG.1 hp
        rw [cV] at he
        exact hall ed (by simpa using he.1) he.2
      have hnot:∀ j,j<ops.size->listed.getD j true=false->((masks ops.toList).getD k 0).testBit j≠true:=by
        intro j hj hl ht
        have:=hanc (k+1) k hks (by omega) hpk j ht
        have hjs:j<listed.size:=by omega
        rw [bN, cJ hjs] at this hl
        simp at this hl
        rw [hl] at this
        cases this
      have hd1:∀ j ∈ l1,Disj (at_ is j) (at_ is k)/\ment (at_ is k) (at_ is j)=true:=by
        intro j hj
        obtain ⟨hjk,hjl⟩:=e3 j hj
        exact (((zem hpo (k:=k) (by simpa using hks)).2 j hjk).2 rfl).resolve_left (hnot j (by omega) hjl)
      rw [e1] at hr
      obtain ⟨hr1,hr2⟩:=RunL.first l1 f hr (fun j hj=>(hd1 j hj).1)
      have hkn:∀ n ∈ (at_ is k).nw,New e.K f n:=hn k (by rw [e1];simp)
      refine wpOp_mono (fun a' w' h'=>?_) (Does.wpOp ho (hdo k o ho) h hr1 hkn (hb k))
      refine ih (listed.setIfInBounds k true) (f.app (at_ is k)) a' w' (by simpa using hsz) ?_ ?_ ?_ ?_ h'
      · intro x ox hox hxl p hp
        by_cases hxk:k=x
        · subst hxk
          exact getD_set_true (hpk ox hox p hp)
        · rw [getD_set_ne true hxk] at hxl
          exact getD_set_true (hcl x ox hox hxl p hp)
      · rw [e2];rw [e1] at hle;simp at hle ⊢;omega
      · intro x hx n hnx
        rw [e2] at hx
        have hxn:New e.K f n:=hn x (by rw [e1];rcases cW.1 hx with h3 | h3 <;> simp [h3]) n hnx
        refine hxn.app ?_ hnx
        rcases cW.1 hx with h3 | h3
        · exact (hd1 x h3).2
        · obtain ⟨hkx,hxl⟩:=e4 x h3
          have hxs:x<ops.size:=(zhe.1 (by rw [e1];simp [h3])).1
          exact ((zem hpo (k:=x) (by simpa using hxs)).2 k hkx).1
      · rw [e2];exact hr2
theorem wp_region_S {id:Nat} {w:World} (is:List I) (g:F) (hm:P.follows .mixedOrders=true) (hpo:pairsOk draw ops.toList is=true)
  (hdo:∀ k o,ops[k]?=some o->Does P ops o (at_ is k)) (hb:∀ k,FitsE e (at_ is k)) (hn:∀ k,∀ n ∈ (at_ is k).nw,New e.K f n)
  (hr:RunL is f (List.range ops.size) g) (h:St e f a w) (hQ:∀ a w,St e g a w->Q .normal a w):(Code.region id ops draw).wp P Q a w:=by
 cases draw with
 | false =>
  refine wp_region (wpOps_run hdo hb hQ _ f a w (fun k hk=>cD.1 hk) ?_ (fun k _=>hn k) hr h)
  refine List.Pairwise.imp_of_mem ?_ dZ
  intro j k hj hk hjk
  exact ((zem hpo (k:=k) (by simpa using cD.1 hk)).2 j hjk).1
 | true =>
  refine wp_region_any hm (wpAny_run hdo hb hQ hpo _ _ f a _ (by simp) ?_ ?_ (fun k _=>hn k) ?_ h.drew)
  ·intro k o ho hl
   have hks:=(cQ.1 ho).1
   simp [bN, hks] at hl
  ·refine bS (List.length_filter_le _ _) (by simp)
  ·have:left (Array.replicate ops.size false) ops.size=List.range ops.size:=by
    unfold left
    refine List.filter_eq_self.2 fun k hk=>?_
    have:=cD.1 hk
    simp [bN, this]
   rw [this]
   exact hr
end
theorem Ok.put {g:F} {w:World} (h:Ok e f H B a w) {d:Nat} {x:Option V} (hd:d<e.n) (hs:∀ t,g.s t=if t=d then x else f.s t) (hl:∀ n,g.l n=f.l n) (hx:∀ y,x=some y->VR H B y v) :
  Ok e g H B (a.put (some d) v) w:=by
 refine ⟨h.df,by simp [Act.put,h.n],h.ext,h.sat,?_,fun n l hn=>h.loc n l (by rw [<- hl];exact hn),fun n l b c hn=>h.priv n l b c (by rw [<- hl];exact hn),fun n m l l' b c c' h1 h2=>h.inj n m l l' b c c' (by rw [<- hl];exact h1) (by rw [<- hl];exact h2),h.low,h.le,h.keep,h.tab⟩
 intro t y hy
 rw [hs] at hy
 split at hy
 ·rename_i e1
  subst e1
  have:t<a.tmps.size:=by rw [h.n];exact hd
  simpa [Act.put,bN, this] using hx y hy
 ·rename_i e1
  have:=h.slot t y hy
  simpa [Act.put,bN, dY (Ne.symm e1)] using this
theorem zh0 (f:F) (d:Nat) (x:Option V) (i:I) (h:i.ws=[(d,x)]) (t:Nat):(f.app i).s t=if t=d then x else f.s t:=by
 simp only [F.app,h,List.lookup]
 by_cases e:t=d
 ·subst e;simp
 ·have:(t == d)=false:=by simp;exact e
  simp [this,e]
theorem app0_s (f:F) (i:I) (h:i.ws=[]) (t:Nat):(f.app i).s t=f.s t:=by simp [F.app,h]
theorem app0_l (f:F) (i:I) (h:i.wl=[]) (n:Nat):(f.app i).l n=f.l n:=by simp [F.app,h]
theorem app1_l (f:F) (m:Nat) (x:Option L) (i:I) (h:i.wl=[(m,x)]) (t:Nat):(f.app i).l t=if t=m then x else f.l t:=by
 simp only [F.app,h,List.lookup]
 by_cases e:t=m
 ·subst e;simp
 ·have:(t == m)=false:=by simp;exact e
  simp [this,e]
theorem zav.value {i:I} (d:Nat) (x:V) (hd:o.dst=some d) (hw:i.ws=[(d,some x)]) (hl:i.wl=[])
  (h:∀ (e:E) (f:F) (H:Im) (B:Bl) (a:Act) (w:World),Ok e f H B a w->Reads f i->∃ v,(execOp a.eval o).run P w = .ok (.value v) w/\VR H B x v):zav P o i:=by
 rintro e f a w Q ⟨H,B,hok⟩ hr hn hb
 obtain ⟨v,hrun,hv⟩:=h e f H B a w hok hr
 unfold Oper.wp
 rw [hrun,Oper.upon_value,hd]
 exact ⟨H,B,hok.put (x:=some x) (hb.1 (d,some x) (by rw [hw];simp)) (zh0 f d (some x) i hw) (app0_l f i hl) (fun y hy=>by injection hy with hy;subst hy;exact hv)⟩
inductive OV:Operand->V->List (Nat × V)->Prop
  | tmp (t:Nat) (x:V):OV (.tmp t) x [(t,x)]
  | const (v:Value) (h:flat v=true):OV (.const v) (.t (.c (.d (.raw v)))) []
  | func (f:FuncId):OV (.func f) (.t (.c (.fn (.func f) [] []))) []
variable {rs:List (Nat × V)}
theorem OV.eval {v:V} (h:OV x v rs) {w:World} (hok:Ok e f H B a w) (hr:∀ p ∈ rs,f.s p.1=some p.2):VR H B v (a.eval x):=by
 cases h with
 | tmp t x=>exact hok.slot t _ (hr (t,v) (by simp))
 | const u hf=>exact DR.raw u hf
 | func g=>exact ⟨[],[],rfl,trivial,trivial⟩
variable {rs':List (Nat × V)} {cs:List C}
section
variable {P:Program}
def vi (k:IntKind) (n:Int):V:=.t (.c (.d (.raw (.int k n))))
def vb (b:Bool):V:=.t (.c (.d (.raw (.bool b))))
def vs (s:ByteArray):V:=.t (.c (.d (.raw (.string s))))
def vp (n o:Nat):V:=.t (.c (.ptr n o))
theorem Op.move {d:Nat} {v:V} {ty pos af gd} (h:OV x v rs):zav P ⟨some d,.move x,ty,pos,af,gd⟩ { rs:=rs,ws:=[(d,some v)] } :=
 zav.value d v rfl rfl rfl fun _e _f _H _B a _w hok hr=>⟨a.eval x,rfl,h.eval hok hr.1⟩
theorem Op.assign {d:Nat} {v:V} {ty pos af gd} (h:OV x v rs):zav P ⟨some d,.assign x,ty,pos,af,gd⟩ { rs:=rs,ws:=[(d,some v)] } :=
 zav.value d v rfl rfl rfl fun _e _f _H _B a _w hok hr=>⟨a.eval x,rfl,h.eval hok hr.1⟩
theorem VR.rawI {u:Value} (h:VR H B (.t (.c (.d (.raw v)))) u):u=v:=by cases h;rfl
theorem VR.ptrI {o:Nat} {u:Value} (h:VR H B (.t (.c (.ptr n o))) u):∃ b c,B n=some (b,c)/\u = .pointer (some ⟨b,o,none⟩):=h
theorem Op.raw1 {d:Nat} {u:Value} (hd:o.dst=some d) (h:OV x (.t (.c (.d (.raw v)))) rs) (hf:flat u=true) (hrun:∀ (ρ:Operand->Value) w,ρ x=v->(execOp ρ o).run P w = .ok (.value u) w) :
  zav P o { rs:=rs,ws:=[(d,some (.t (.c (.d (.raw u)))))] } :=
 zav.value d _ hd rfl rfl fun _e _f _H _B a w hok hr=>⟨u,hrun a.eval w (h.eval hok hr.1).rawI,DR.raw u hf⟩
theorem Op.raw2 {d:Nat} {y:Operand} {v' u:Value} (hd:o.dst=some d) (h:OV x (.t (.c (.d (.raw v)))) rs) (h':OV y (.t (.c (.d (.raw v')))) rs') (hf:flat u=true)
  (hrun:∀ (ρ:Operand->Value) w,ρ x=v->ρ y=v'->(execOp ρ o).run P w = .ok (.value u) w) :
  zav P o { rs:=rs++rs', ws:=[(d,some (.t (.c (.d (.raw u)))))] } :=
 zav.value d _ hd rfl rfl fun _e _f _H _B a w hok hr =>
  ⟨u,hrun a.eval w (h.eval hok fun p hp=>hr.1 p (cU _ hp)).rawI (h'.eval hok fun p hp=>hr.1 p (cG _ hp)).rawI,DR.raw u hf⟩
theorem Op.arith {d:Nat} {y:Operand} {k:IntKind} {m n r:Int} {pos af gd} (h:OV x (vi k m) rs) (h':OV y (vi k n) rs')
  (hop:(op = .add/\r=m+n)\/(op = .sub/\r=m - n)\/(op = .mul/\r=m*n)) (hr:k.wrap r=r):zav P ⟨some d,.binOp op xt x y yt,ty,pos,af,gd⟩ { rs:=rs++rs', ws:=[(d,some (vi k r))] }:=by
 refine Op.raw2 rfl h h' rfl fun ρ w h1 h2=>?_
 rcases hop with ⟨rfl,rfl⟩ | ⟨rfl,rfl⟩ | ⟨rfl,rfl⟩ <;> simp [execOp,h1,h2,eqGuard,binOp,Op.intArith,hr,go_sem]
def cmpB:BinOp->Int->Int->Bool
  | .eql,a,b=>a == b
  | .neq,a,b=>a != b
  | .lss,a,b=>decide (a<b)
  | .leq,a,b=>decide (a<=b)
  | .gtr,a,b=>decide (a>b)
  | .geq,a,b=>decide (a>=b)
  | _,_,_=>false
def isCmp:BinOp->Bool
  | .eql | .neq | .lss | .leq | .gtr | .geq=>true
  | _=>false
theorem Op.cmp {d:Nat} {y:Operand} {k:IntKind} {m n:Int} {b:Bool} {pos af gd} (h:OV x (vi k m) rs) (h':OV y (vi k n) rs')
  (hop:isCmp op=true) (hb:cmpB op m n=b):zav P ⟨some d,.binOp op xt x y yt,ty,pos,af,gd⟩ { rs:=rs++rs', ws:=[(d,some (vb b))] }:=by
 subst hb
 refine Op.raw2 rfl h h' rfl fun ρ w h1 h2=>?_
 cases op <;> first | (simp [isCmp] at hop;done) | simp [execOp,h1,h2,eqGuard,binOp,Op.intCmp,cmpB,go_sem]
theorem Op.cmpb {d:Nat} {y:Operand} {m n b:Bool} {pos af gd} (ht:P.underlying xt=some .bool) (h:OV x (vb m) rs) (h':OV y (vb n) rs')
  (hop:(op = .eql/\b=(m == n))\/(op = .neq/\b=(m != n))):zav P ⟨some d,.binOp op xt x y yt,ty,pos,af,gd⟩ { rs:=rs++rs', ws:=[(d,some (vb b))] }:=by
 refine Op.raw2 rfl h h' rfl fun ρ w h1 h2=>?_
 have he:(Op.equal xt (.bool m) (.bool n)).run P w = .ok (m == n) w:=run_equalIn_bool' w 9999 xt m n ht
 rcases hop with ⟨rfl,rfl⟩ | ⟨rfl,rfl⟩ <;> simp [execOp,h1,h2,eqGuard,binOp,he,go_sem] <;> cases m <;> cases n <;> rfl
theorem Op.not {d:Nat} {m:Bool} {pos af gd} (h:OV x (vb m) rs):zav P ⟨some d,.unOp .not xt x,ty,pos,af,gd⟩ { rs:=rs,ws:=[(d,some (vb (!m)))] } :=
 Op.raw1 rfl h rfl fun ρ w h1=>by simp [execOp,h1,Op.unary,go_sem]
theorem Op.neg {d:Nat} {k:IntKind} {m r:Int} {pos af gd} (h:OV x (vi k m) rs) (he:r=-m) (hr:k.wrap r=r):zav P ⟨some d,.unOp .neg xt x,ty,pos,af,gd⟩ { rs:=rs,ws:=[(d,some (vi k r))] } :=
 Op.raw1 rfl h rfl fun ρ w h1=>by subst he;simp [execOp,h1,Op.unary,Op.intArith,hr,go_sem]
theorem Op.conv {d:Nat} {k k':IntKind} {m r:Int} {pos af gd} (ht:P.underlying yt=some (.int k')) (hs:P.underlying xt=some (.int k)) (h:OV x (vi k m) rs) (hr:k'.wrap m=r):zav P ⟨some d,.convert xt yt x,ty,pos,af,gd⟩ { rs:=rs,ws:=[(d,some (vi k' r))] } :=
 Op.raw1 rfl h rfl fun ρ w h1=>by simp [execOp,h1,convert,run_underlying ht,run_underlying hs,Conv.intToInt,hr,go_sem]
theorem Op.pickT {d:Nat} {y:Operand} {v:V} {ty pos af gd} (h:OV x v rs):zav P ⟨some d,.pick (.tmp t) x y,ty,pos,af,gd⟩ { rs:=(t,vb true) :: rs,ws:=[(d,some v)] } :=
 zav.value d v rfl rfl rfl fun e f H B a w hok hr=>⟨a.eval x,by
  have:=(hok.slot t _ (hr.1 (t,vb true) (by simp))).rawI
  have h2:a.eval (.tmp t) = .bool true:=this
  generalize a.eval=ρ at h2 ⊢
  simp [execOp,h2,asBool,go_sem],h.eval hok fun p hp=>hr.1 p (by simp [hp])⟩
theorem Op.pickF {d:Nat} {y:Operand} {v:V} {ty pos af gd} (h:OV y v rs):zav P ⟨some d,.pick (.tmp t) x y,ty,pos,af,gd⟩ { rs:=(t,vb false) :: rs,ws:=[(d,some v)] } :=
 zav.value d v rfl rfl rfl fun e f H B a w hok hr=>⟨a.eval y,by
  have:=(hok.slot t _ (hr.1 (t,vb false) (by simp))).rawI
  have h2:a.eval (.tmp t) = .bool false:=this
  generalize a.eval=ρ at h2 ⊢
  simp [execOp,h2,asBool,go_sem],h.eval hok fun p hp=>hr.1 p (by simp [hp])⟩
structure Sz (P:Program) (t:TypeId) (n:Nat) (agg:Bool):Prop where
  size:(P.info? t).map (·.size)=some n
  isAgg:∀ w,(isAgg t).run P w = .ok agg w
theorem Sz.mk' {t:TypeId} {d:TypeDesc} (hs:(P.info? t).map (·.size)=some n) (hu:P.underlying t=some d) (agg:Bool) (ha:agg=match d with | .struct _ | .array _ _=>true | _=>false):Sz P t n agg :=
 ⟨hs,fun w=>by subst ha;unfold Go.isAgg;simp only [Sem.run_bind,run_underlying hu,Result.andThen_ok];cases d <;> rfl⟩
theorem Sz.sizeOf {t:TypeId} {g:Bool} (h:Sz P t n g) (w:World):(Go.sizeOf t).run P w = .ok n w:=by
 have:=h.size
 cases hi:P.info? t with
 | none=>rw [hi] at this;cases this
 | some i =>
  rw [hi] at this
  injection this with this
  have e1:(typeInfo t).run P w = .ok i w:=by unfold typeInfo;simp only [Sem.run_bind,run_program,Result.andThen_ok,hi];rfl
  unfold Go.sizeOf
  simp [e1,this,go_sem]
structure Fd (P:Program) (t:TypeId) (k:Nat) (off n:Nat) (agg:Bool):Prop where
  ex:∃ fields f,P.underlying t=some (.struct fields)/\fields[k]?=some f/\f.offset=off/\Sz P f.type n agg
theorem Op.extract {d:Nat} {xs:List T} {x:T} {ty pos af gd} (h:xs[k]?=some x):zav P ⟨some d,.extract (.tmp t) k,ty,pos,af,gd⟩ { rs:=[(t,.tup xs)],ws:=[(d,some (.t x))] } :=
 zav.value d _ rfl rfl rfl fun e f H B a w hok hr=>by
  obtain ⟨us,hu,h2⟩:=hok.slot t _ (hr.1 (t,.tup xs) (by simp))
  obtain ⟨hk,rfl⟩:=cC.1 h
  obtain ⟨u,h3,h4⟩:=h2.get k hk
  refine ⟨u,?_,h4⟩
  have h5:a.eval (.tmp t) = .tuple ⟨us⟩:=hu
  generalize a.eval=ρ at h5 ⊢
  simp [execOp,h5,Instr.extract,h3,go_sem]
theorem part_agg {t:TypeId} (hs:Sz P t n true) {us:List Value} (h:zar (CR H B) cs us) {xs:List C} (hx:(cs.drop off).take n=xs) (w:World) :
  ∃ v,(part t ⟨us⟩ off).run P w = .ok v w/\TR H B (.agg xs) v:=by
 refine ⟨.agg ⟨(us.drop off).take n⟩,?_,_,rfl,?_⟩
 ·unfold part
  simp [Sem.run_bind,hs.isAgg w,hs.sizeOf w,go_sem,List.extract_eq_take_drop]
 ·rw [<- hx];exact (h.drop off).take n
theorem part_c {t:TypeId} (hs:Sz P t n false) {us:List Value} (h:zar (CR H B) cs us) {x:C} (hx:cs[off]?=some x) (w:World) :
  ∃ v,(part t ⟨us⟩ off).run P w = .ok v w/\TR H B (.c x) v:=by
 obtain ⟨hk,rfl⟩:=cC.1 hx
 obtain ⟨u,h3,h4⟩:=h.get off hk
 refine ⟨u,?_,h4⟩
 unfold part
 simp [Sem.run_bind,hs.isAgg w,h3,go_sem]
theorem Op.field_agg {d:Nat} {xs:List C} {ty pos af gd} (hf:Fd P xt k off n true) (h:(cs.drop off).take n=xs):zav P ⟨some d,.field xt (.tmp t) k,ty,pos,af,gd⟩ { rs:=[(t,.t (.agg cs))],ws:=[(d,some (.t (.agg xs)))] } :=
 zav.value d _ rfl rfl rfl fun e f H B a w hok hr=>by
  obtain ⟨us,hu,h2⟩:=hok.slot t _ (hr.1 (t,.t (.agg cs)) (by simp))
  obtain ⟨fields,fd,g1,g2,rfl,g4⟩:=hf.ex
  obtain ⟨v,h3,h4⟩:=part_agg (P:=P) g4 h2 h w
  refine ⟨v,?_,h4⟩
  have h5:a.eval (.tmp t) = .agg ⟨us⟩:=hu
  generalize a.eval=ρ at h5 ⊢
  simp only [execOp,h5,Instr.field,Sem.run_bind,run_underlying g1,Result.andThen_ok,g2,asAgg,Sem.run_pure,h3]
theorem Op.field_c {d:Nat} {x:C} {ty pos af gd} (hf:Fd P xt k off n false) (h:cs[off]?=some x):zav P ⟨some d,.field xt (.tmp t) k,ty,pos,af,gd⟩ { rs:=[(t,.t (.agg cs))],ws:=[(d,some (.t (.c x)))] } :=
 zav.value d _ rfl rfl rfl fun e f H B a w hok hr=>by
  obtain ⟨us,hu,h2⟩:=hok.slot t _ (hr.1 (t,.t (.agg cs)) (by simp))
  obtain ⟨fields,fd,g1,g2,rfl,g4⟩:=hf.ex
  obtain ⟨v,h3,h4⟩:=part_c (P:=P) g4 h2 h w
  refine ⟨v,?_,h4⟩
  have h5:a.eval (.tmp t) = .agg ⟨us⟩:=hu
  generalize a.eval=ρ at h5 ⊢
  simp only [execOp,h5,Instr.field,Sem.run_bind,run_underlying g1,Result.andThen_ok,g2,asAgg,Sem.run_pure,h3]
end
def cellsOf:T->List C
  | .c x=>[x]
  | .agg cs=>cs
theorem CR.flat {x:C} (h:CR H B x v):flat v=true:=by
 cases x with
 | d x=>exact DR.flat h
 | ptr n o=>obtain ⟨b,c,_,rfl⟩:=h;rfl
 | own n k =>
  simp only [CR] at h
  split at h
  ·obtain ⟨_,ao,h⟩:=h;rw [h];rfl
  ·rw [h];rfl
 | el xs=>obtain ⟨b,o,arr,ty,fz,hb,rfl,hx⟩:=h;rfl
 | fn f fs cs=>obtain ⟨a,b,rfl,_⟩:=h;rfl
 | sub n o len=>obtain ⟨⟨ao,c,rfl⟩,_⟩:=h;rfl
 | any=>exact h
 | mp n=>obtain ⟨b,c,_,rfl⟩:=h;rfl
theorem flat_cells (h:flat v=true):v.cells=⟨[v]⟩:=by cases v <;> first | rfl | cases h
theorem zfs (h:flat v=true):v.oneCell'=true:=by cases v <;> first | rfl | cases h
theorem TR.cells {x:T} (h:TR H B x v):∃ l:List Value,v.cells=⟨l⟩/\zar (CR H B) (cellsOf x) l:=by
 cases x with
 | c x=>exact ⟨[v],flat_cells (CR.flat h),h,trivial⟩
 | agg cs=>obtain ⟨vs,rfl,h2⟩:=h;exact ⟨vs,rfl,h2⟩
theorem Ok.new {g:F} {w:World} (h:Ok e f H B a w) (hn:New e.K f n) (o:Obj) (c:Nat) (l:L)
  (hs:∀ t,g.s t=f.s t) (hl:∀ m,g.l m=if m=n then some l else f.l m)
  (lr:LR H (fun m=>if m=n then some (w.heap.size,c) else B m) (w.alloc o) n l):Ok e g H (fun m=>if m=n then some (w.heap.size,c) else B m) a (w.alloc o):=by
 have hB:∀ m,m≠n->(fun m=>if m=n then some (w.heap.size,c) else B m) m=B m:=fun m hm=>by simp [hm]
 have hold:∀ b,b<w.heap.size->(w.alloc o).heap[b]?=w.heap[b]?:=fun b hb=>Below.heap_alloc w o b hb
 have hH:H w.heap.size=none:=by
  cases hx:H w.heap.size with
  | none=>rfl
  | some x=>have:=h.sat _ _ hx;simp at this
 refine ⟨h.df,h.n,⟨h.ext.os,h.ext.tape,h.ext.output,?_,?_⟩,?_,?_,?_,?_,?_,h.low,h.le,?_,h.tab⟩
 ·have:=h.ext.size;simp;omega
 ·intro b hb hm;have:=h.ext.size;rw [hold b (by omega)];exact h.ext.block b hb hm
 ·intro b x hx
  have h1:=h.sat b x hx
  have:b<w.heap.size:=(cQ.1 h1).1
  rw [hold b this];exact h1
 ·intro t v hv
  rw [hs] at hv
  exact VR.mono (Le.refl _) (fun m hm=>hB m (fun e=>hn.2.2.1 t v hv (e ▸ hm))) (h.slot t v hv)
 ·intro m l' hm
  rw [hl] at hm
  split at hm
  ·rename_i e1;subst e1;injection hm with hm;subst hm;exact lr
  ·rename_i e1
   refine LR.mono (Le.refl _) (hB m e1) (fun x hx=>hB x (fun e=>hn.2.2.2 m l' hm (e ▸ hx))) (fun b c hb=>?_) (h.loc m l' hm)
   exact hold b (h.priv m l' b c hm hb).1
 ·intro m l' b c' hm hb
  rw [hl] at hm
  split at hm
  ·rename_i e1
   subst e1
   simp at hb
   obtain ⟨rfl,rfl⟩:=hb
   exact ⟨by simp,hH,.inr h.ext.size⟩
  ·rename_i e1
   simp only [if_neg e1] at hb
   obtain ⟨h1,h2,h3⟩:=h.priv m l' b c' hm hb
   exact ⟨by simp;omega,h2,h3⟩
 ·intro m k l1 l2 b c1 c2 h1 h2 b1 b2
  rw [hl] at h1 h2
  by_cases e1:m=n <;> by_cases e2:k=n
  ·rw [e1,e2]
  ·simp [e1] at b1
   simp only [if_neg e2] at h2 b2
   have:=(h.priv k l2 b c2 h2 b2).1
   omega
  ·simp [e2] at b2
   simp only [if_neg e1] at h1 b1
   have:=(h.priv m l1 b c1 h1 b1).1
   omega
  ·simp only [if_neg e1,if_neg e2] at h1 h2 b1 b2
   exact h.inj m k l1 l2 b c1 c2 h1 h2 b1 b2
 ·intro m hm
  have:m≠n:=fun e=>hn.1 (e ▸ hm)
  exact (hB m this).trans (h.keep m hm)
section
variable {P:Program}
theorem zav.news {i:I} (d n:Nat) (x:V) (l:L) (hd:o.dst=some d) (hw:i.ws=[(d,some x)]) (hl:i.wl=[(n,some l)]) (hn:n ∈ i.nw)
  (h:∀ (e:E) (f:F) (H:Im) (B:Bl) (a:Act) (w:World),Ok e f H B a w->Reads f i->New e.K f n->∃ v c ob,(execOp a.eval o).run P w = .ok (.value v) (w.alloc ob) /\
   LR H (fun m=>if m=n then some (w.heap.size,c) else B m) (w.alloc ob) n l/\VR H (fun m=>if m=n then some (w.heap.size,c) else B m) x v):zav P o i:=by
 rintro e f a w Q ⟨H,B,hok⟩ hr hnw hb
 have hnew:=hnw n hn
 obtain ⟨v,c,ob,hrun,hlr,hvr⟩:=h e f H B a w hok hr hnew
 unfold Oper.wp
 rw [hrun,Oper.upon_value,hd]
 have h1:Ok e ⟨f.s,fun m=>if m=n then some l else f.l m⟩ H (fun m=>if m=n then some (w.heap.size,c) else B m) a (w.alloc ob):=hok.new hnew ob c l (fun _=>rfl) (fun _=>rfl) hlr
 exact ⟨H,_,h1.put (x:=some x) (hb.1 (d,some x) (by rw [hw];simp)) (zh0 f d (some x) i hw) (app1_l f n (some l) i hl) (fun y hy=>by injection hy with hy;subst hy;exact hvr)⟩
theorem zar.tagsMono {p:Nat × Nat} {l:List Value} (h:zar (CR H B) cs l) (ht:∀ c ∈ cs,n ∉ c.tags):zar (CR H (fun m=>if m=n then some p else B m)) cs l :=
 h.mono fun a ha b=>CR.mono (Le.refl _) fun m hm=>by
  have:m≠n:=fun e=>ht a ha (e ▸ hm)
  simp [this]
theorem Op.box {d:Nat} {v:T} {pos af gd} (h:OV x (.t v) rs) (cs:List C) (hc:cellsOf v=cs) :
  zav P ⟨some d,.box el x,ty,pos,af,gd⟩ { rs:=rs,ws:=[(d,some (vp n 0))],wl:=[(n,some (.box cs))],nw:=[n] }:=by
 subst hc
 refine zav.news d n _ _ rfl rfl rfl (by simp) fun e f H B a w hok hr hn=>?_
 have hv:=h.eval hok hr.1
 obtain ⟨l,h1,h2⟩:=TR.cells hv
 have ht:∀ c ∈ cellsOf v,n ∉ c.tags:=by
  intro c hc hm
  cases h with
  | tmp t y =>
   refine hn.2.2.1 t _ (hr.1 (t,.t v) (by simp)) ?_
   cases v with
   | c y=>simp [cellsOf] at hc;subst hc;exact hm
   | agg cs=>simp only [V.tags,T.tags,bL];exact ⟨c,hc,hm⟩
  | const u hf=>simp [cellsOf] at hc;subst hc;simp [C.tags] at hm
  | func g=>simp [cellsOf] at hc;subst hc;simp [C.tags] at hm
 refine ⟨.pointer (some ⟨w.heap.size,0,none⟩),0,.cells ⟨l⟩ el,?_,⟨w.heap.size,0,l,el,by simp,heap_alloc_new w _,zar.tagsMono h2 ht⟩,⟨w.heap.size,0,by simp,rfl⟩⟩
 simp only [execOp,Instr.box,newVar,newRow,newObj,h1,Sem.run_bind,Sem.run_pure]
 rfl
theorem Op.alloc {d:Nat} {pos af gd} (z:Value) (hz:(P.info? el).bind (·.zero)=some z) (cs:List C) (l:List Value) (hl:z.cells=⟨l⟩) (hc:∀ H B,zar (CR H B) cs l) :
  zav P ⟨some d,.alloc el,ty,pos,af,gd⟩ { ws:=[(d,some (vp n 0))],wl:=[(n,some (.box cs))],nw:=[n] }:=by
 refine zav.news d n _ _ rfl rfl rfl (by simp) fun e f H B a w hok hr hn=>⟨.pointer (some ⟨w.heap.size,0,none⟩),0,.cells ⟨l⟩ el,?_,⟨w.heap.size,0,l,el,by simp,heap_alloc_new w _,hc _ _⟩,⟨w.heap.size,0,by simp,rfl⟩⟩
 cases hi:P.info? el with
 | none=>rw [hi] at hz;cases hz
 | some i =>
  rw [hi] at hz
  have hz':i.zero=some z:=hz
  have e1:(zeroValue el).run P w = .ok z w:=by
   unfold zeroValue typeInfo
   simp only [Sem.run_bind,run_program,Result.andThen_ok,hi,Sem.run_pure,hz']
  simp only [execOp,Instr.alloc,Sem.run_bind,e1,Result.andThen_ok,newVar,newRow,newObj,hl,Sem.run_pure]
  rfl
theorem Op.fieldAddr {d o:Nat} {pos af gd} (hf:Fd P xt k off m ag) (hm:m≠0) (o':Nat) (ho:o+off=o'):zav P ⟨some d,.fieldAddr xt (.tmp t) k,ty,pos,af,gd⟩ { rs:=[(t,vp n o)],ws:=[(d,some (vp n o'))] } :=
 zav.value d _ rfl rfl rfl fun e f H B a w hok hr=>by
  obtain ⟨b,c,hb,hu⟩:=(hok.slot t _ (hr.1 (t,vp n o) (by simp))).ptrI
  obtain ⟨fields,fd,g1,g2,rfl,g4⟩:=hf.ex
  subst ho
  refine ⟨.pointer (some ⟨b,o+fd.offset,none⟩),?_,⟨b,c,hb,rfl⟩⟩
  have h5:a.eval (.tmp t) = .pointer (some ⟨b,o,none⟩):=hu
  generalize a.eval=ρ at h5 ⊢
  simp only [execOp,h5,Instr.fieldAt,Sem.run_bind,run_underlying g1,Result.andThen_ok,g2,Instr.sureAddr,Sem.run_pure,fieldPlace,g4.sizeOf,hm,if_false,Addr.add_mid]
theorem zd7 {w:World} {arr:List Value} (h:w.heap[b]?=some (.cells ⟨arr⟩ ty fz)) {o:Nat} (hv:arr[o]?=some v):w.cell? ⟨b,o,none⟩=some v:=by
 simp [World.cell?, h,hv]
theorem zd8 {t:TypeId} (hs:Sz P t n true) {w:World} {o:Nat} {cs:List Value} (hl:cs.length=n) (hc:w.rangeAt b o cs):(loadVar t ⟨b,o,none⟩).run P w = .ok (.agg cs.toArray) w:=by
 have hl':(loadCells ⟨b,o,none⟩ cs.length).run P w = .ok cs.toArray w :=
  run_loadCells_list (P:=P) w ⟨b,o,none⟩ cs (fun j v hv=>by rw [Addr.add_mid];exact hc j v hv)
 rw [hl] at hl'
 unfold loadVar
 simp only [Sem.run_bind,hs.isAgg,Result.andThen_ok,if_true,hs.sizeOf,hl', Sem.run_pure]
theorem zek {t:TypeId} (hs:Sz P t n false) {w:World} {o:Nat} (hc:w.cell? ⟨b,o,none⟩=some v):(loadVar t ⟨b,o,none⟩).run P w = .ok v w:=by
 unfold loadVar
 simp only [Sem.run_bind,hs.isAgg,Result.andThen_ok,dA,if_false]
 unfold load
 simp only [Sem.run,hc]
theorem Op.load_agg {d o:Nat} {xs:List C} {pos af gd} (hs:Sz P xt m true) (h:(cs.drop o).take m=xs) (hm:xs.length=m):zav P ⟨some d,.load xt (.tmp t),ty,pos,af,gd⟩ { rs:=[(t,vp n o)],rl:=[(n,.box cs)],ws:=[(d,some (.t (.agg xs)))] } :=
 zav.value d _ rfl rfl rfl fun e f H B a w hok hr=>by
  obtain ⟨b,c,hb,hu⟩:=(hok.slot t _ (hr.1 (t,vp n o) (by simp))).ptrI
  obtain ⟨b', c', arr,ty', hb', hc,h2⟩:=hok.loc n _ (hr.2 (n,.box cs) (by simp))
  rw [hb] at hb'
  injection hb' with hb'
  obtain ⟨rfl,rfl⟩:=Prod.mk.injEq .. ▸ hb'
  have h3:zar (CR H B) xs ((arr.drop o).take m):=by rw [<- h];exact (h2.drop o).take m
  refine ⟨.agg ((arr.drop o).take m).toArray,?_,⟨_,rfl,h3⟩⟩
  have h5:a.eval (.tmp t) = .pointer (some ⟨b,o,none⟩):=hu
  generalize a.eval=ρ at h5 ⊢
  have h6:=zd8 (P:=P) hs (w:=w) (b:=b) (o:=o) (cs:=(arr.drop o).take m) (by rw [<- h3.length,hm]) (fun j v hv=>by
   refine zd7 hc ?_
   rw [List.getElem?_take] at hv
   split at hv
   ·rw [dH] at hv;exact hv
   ·cases hv)
  simp only [execOp,h5,Instr.loadAt,Instr.sureAddr,Sem.run_bind,Sem.run_pure,Result.andThen_ok,h6]
theorem Op.load_c {d o:Nat} {x:C} {pos af gd} (hs:Sz P xt m false) (h:cs[o]?=some x):zav P ⟨some d,.load xt (.tmp t),ty,pos,af,gd⟩ { rs:=[(t,vp n o)],rl:=[(n,.box cs)],ws:=[(d,some (.t (.c x)))] } :=
 zav.value d _ rfl rfl rfl fun e f H B a w hok hr=>by
  obtain ⟨b,c,hb,hu⟩:=(hok.slot t _ (hr.1 (t,vp n o) (by simp))).ptrI
  obtain ⟨b', c', arr,ty', hb', hc,h2⟩:=hok.loc n _ (hr.2 (n,.box cs) (by simp))
  rw [hb] at hb'
  injection hb' with hb'
  obtain ⟨rfl,rfl⟩:=Prod.mk.injEq .. ▸ hb'
  obtain ⟨ho,rfl⟩:=cC.1 h
  obtain ⟨v,h3,h4⟩:=h2.get o ho
  refine ⟨v,?_,h4⟩
  have h5:a.eval (.tmp t) = .pointer (some ⟨b,o,none⟩):=hu
  generalize a.eval=ρ at h5 ⊢
  have h6:=zek (P:=P) hs (zd7 hc h3)
  simp only [execOp,h5,Instr.loadAt,Instr.sureAddr,Sem.run_bind,Sem.run_pure,Result.andThen_ok,h6]
def zh3 {α:Type}:List α->Nat->List α->List α
  | l,_,[]=>l
  | l,o,v :: r=>zh3 (l.set o v) (o+1) r
theorem zci:∀ (r l:List α) (o:Nat),(zh3 l o r).length=l.length
 | [],_,_=>rfl
 | v :: r,l,o=>by rw [zh3,zci r];simp
theorem zar.put {R:α->β->Prop}:∀ {xs:List α} {ys:List β} {us:List α} {vs:List β} (o:Nat),zar R us vs->zar R xs ys->zar R (zh3 us o xs) (zh3 vs o ys)
 | [],[],_,_,_,h,_=>h
 | _ :: _,_ :: _,_,_,o,h,k=>zar.put (o+1) (h.set o k.1) k.2
 | [],_ :: _,_,_,_,_,k=>k.elim
 | _ :: _,[],_,_,_,_,k=>k.elim
theorem setCell_same {w:World} {o:Nat} {arr:List Value} (h:w.heap[b]?=some (.cells ⟨arr⟩ ty fz)) (v:Value):(w.setCell ⟨b,o,none⟩ v).heap[b]?=some (.cells ⟨arr.set o v⟩ ty fz):=by
 simp [World.setCell,Array.getElem?_modify,h]
theorem zcs:∀ (vs:List Value) (o:Nat) (w:World) (arr:List Value),w.heap[b]?=some (.cells ⟨arr⟩ ty fz) ->
  (w.setCells b o vs).heap[b]?=some (.cells ⟨zh3 arr o vs⟩ ty fz)/\(∀ k,k≠b->(w.setCells b o vs).heap[k]?=w.heap[k]?)/\(w.setCells b o vs).heap.size=w.heap.size/\(w.setCells b o vs).os=w.os/\(w.setCells b o vs).tape=w.tape/\(w.setCells b o vs).output=w.output
 | [],_,_,_,h=>⟨h,fun _ _=>rfl,rfl,rfl,rfl,rfl⟩
 | v :: r,o,w,arr,h=>by
  obtain ⟨h1,h2,h3,h4,h5,h6⟩:=zcs r (o+1) (w.setCell ⟨b,o,none⟩ v) (arr.set o v) (setCell_same h v)
  refine ⟨h1,fun k hk=>(h2 k hk).trans (Below.heap_setCell w _ v k hk),?_,h4,h5,h6⟩
  rw [World.setCells,h3];simp [World.setCell]
theorem Ok.write {g:F} {w:World} (h:Ok e f H B a w) {c:Nat} {l l':L} (hn:f.l n=some l) (hb:B n=some (b,c))
    (hs:∀ t,g.s t=f.s t) (hl:∀ m,g.l m=if m=n then some l' else f.l m) (hk:∀ k,k≠b->w'.heap[k]?=w.heap[k]?) (hz:w'.heap.size=w.heap.size) (ho:w'.os=w.os) (ht:w'.tape=w.tape) (hu:w'.output=w.output)
    (lr:LR H B w' n l'):Ok e g H B a w':=by
  obtain ⟨p1,p2,p3⟩:=h.priv n l b c hn hb
  refine ⟨h.df,h.n,⟨ho.trans h.ext.os,ht.trans h.ext.tape,hu.trans h.ext.output,by rw [hz];exact h.ext.size,?_⟩,?_,fun t v hv=>h.slot t v (by rw [<- hs];exact hv),?_,?_,?_,h.low,h.le,h.keep,h.tab⟩
  · intro k hk1 hk2
    have hne:k≠b:=by rintro rfl;rcases p3 with p | p;exact hk2 p;omega
    rw [hk k hne];exact h.ext.block k hk1 hk2
  · intro k o hko
    have hne:k≠b:=by rintro rfl;rw [p2] at hko;cases hko
    rw [hk k hne];exact h.sat k o hko
  · intro m l2 hm
    rw [hl] at hm
    split at hm
    · rename_i e1;subst e1;injection hm with hm;subst hm;exact lr
    · rename_i e1
      refine LR.mono (Le.refl _) rfl (fun _ _=>rfl) (fun b2 c2 hb2=>?_) (h.loc m l2 hm)
      refine hk b2 ?_
      rintro rfl
      exact e1 (h.inj m n l2 l b2 c2 c hm hn hb2 hb)
  · intro m l2 b2 c2 hm hb2
    rw [hz]
    rw [hl] at hm
    split at hm
    · rename_i e1;subst e1;exact h.priv m l b2 c2 hn hb2
    · exact h.priv m l2 b2 c2 hm hb2
  · intro m k l1 l2 b1 c1 c2 h1 h2 b1' b2'
    rw [hl] at h1 h2
    have g1 : ∃ x, f.l m = some x := by split at h1; · rename_i e1; subst e1; exact ⟨l, hn⟩
                                        · exact ⟨l1,h1⟩
    have g2 : ∃ x, f.l k = some x := by split at h2; · rename_i e1; subst e1; exact ⟨l, hn⟩
                                        · exact ⟨l2,h2⟩
    obtain ⟨x1,g1⟩:=g1
    obtain ⟨x2,g2⟩:=g2
    exact h.inj m k x1 x2 b1 c1 c2 g1 g2 b1' b2'
theorem St.put0 {g:F} {w:World} (h:St e f a w) {dst:Option Nat} (hd:dst=none) (hs:∀ t,g.s t=f.s t) (hl:∀ n,g.l n=f.l n):St e g (a.put dst undef) w:=by
 subst hd
 exact h.weaken ⟨fun t v hv=>by rw [<- hs];exact hv,fun n l hn=>by rw [<- hl];exact hn⟩
theorem Op.store {o:Nat} {cs':List C} {v:T} {pos af gd} (hs:Sz P xt m ag) (h:OV x (.t v) rs) (hm:(cellsOf v).length=m) (ho:Nat.ble (o+m) cs.length=true) (hc:zh3 cs o (cellsOf v)=cs') :
  zav P ⟨none,.store xt (.tmp t) x,ty,pos,af,gd⟩ { rs:=(t,vp n o) :: rs,rl:=[(n,.box cs)],wl:=[(n,some (.box cs'))] }:=by
 rintro e f a w Q ⟨H,B,hok⟩ hr hnw hb0
 obtain ⟨b,c,hb,hu⟩:=(hok.slot t _ (hr.1 (t,vp n o) (by simp))).ptrI
 have hfl:=hr.2 (n,.box cs) (by simp)
 obtain ⟨b', c', arr,ty', hb', hcl,h2⟩:=hok.loc n _ hfl
 rw [hb] at hb'
 injection hb' with hb'
 obtain ⟨rfl,rfl⟩:=Prod.mk.injEq .. ▸ hb'
 have hv:=h.eval hok (fun p hp=>hr.1 p (by simp [hp]))
 obtain ⟨l,h3,h4⟩:=TR.cells hv
 have hll:l.length=m:=by rw [<- h4.length,hm]
 have ho':o+m<=arr.length:=by rw [<- h2.length];exact Nat.le_of_ble_eq_true ho
 have hrun:(storeVar xt ⟨b,o,none⟩ (a.eval x)).run P w = .ok () (w.setCells b o l):=by
  have hst:=run_storeCells_cells (P:=P) b o l 0 w (fun j hj=>by
    rw [zd7 hcl (o:=o+0+j) (v:=arr[o+0+j]'(by omega)) (dV _)];rfl) (fun j hj=>by simp [World.frozen?, hcl]) (fun v hv=>by
    obtain ⟨i,hi,rfl⟩:=List.getElem_of_mem hv
    obtain ⟨y,hy,hR⟩:=h4.get i (by rw [h4.length];exact hi)
    rw [dV hi] at hy
    injection hy with hy
    rw [hy]
    exact zfs (CR.flat hR))
  unfold storeVar
  simp only [Sem.run_bind,hs.sizeOf,Result.andThen_ok,h3,hll,List.size_toArray,ne_eq,not_true_eq_false,if_false]
  simpa using hst
 obtain ⟨k1,k2,k3,k4,k5,k6⟩:=zcs l o w arr hcl
 have h5:a.eval (.tmp t) = .pointer (some ⟨b,o,none⟩):=hu
 unfold Oper.wp
 have hexec:(execOp a.eval ⟨none,.store xt (.tmp t) x,ty,pos,af,gd⟩).run P w = .ok .skip (w.setCells b o l):=by
  generalize hq:a.eval x=q at hrun
  generalize a.eval=ρ at h5 hq ⊢
  simp only [execOp,h5,hq,Instr.storeAt,Instr.sureAddr,Sem.run_bind,Sem.run_pure,Result.andThen_ok,hrun]
 rw [hexec,Oper.upon_skip]
 subst hc
 refine St.put0 ⟨H,B,hok.write (g:=⟨f.s,fun m=>if m=n then some (.box (zh3 cs o (cellsOf v))) else f.l m⟩) (l' := .box (zh3 cs o (cellsOf v))) hfl hb (fun _=>rfl) (fun _=>rfl) k2 k3 k4 k5 k6 ⟨b,c,_,ty', hb,k1,h2.put o h4⟩⟩ rfl (app0_s _ _ rfl) (fun m=>app1_l f n _ _ rfl m)
end
structure Pre (ps:List (Nat × L)) (args:List V) (w:World) (H:Im) (B:Bl) (vals:List Value):Prop where
  sat:∀ b o,H b=some o->w.heap[b]?=some o
  loc:∀ p ∈ ps,LR H B w p.1 p.2
  priv:∀ p ∈ ps,∀ b c,B p.1=some (b,c)->b<w.heap.size/\H b=none
  inj:∀ p ∈ ps,∀ q ∈ ps,∀ b c c', B p.1=some (b,c)->B q.1=some (b,c')->p.1=q.1
  arg:zar (VR H B) args vals
  tab:TabH H
def mayP (ps:List (Nat × L)) (B:Bl) (b:Nat):Prop:=∃ p ∈ ps,∃ c,B p.1=some (b,c)
structure Post (ps:List (Nat × L)) (w:World) (H:Im) (B:Bl) (res:V) (qs:List (Nat × L)) (v:Value) (w':World) (H':Im) (B':Bl):Prop where
  le:Le H H'
  low:∀ b,b<w.heap.size->H' b=H b
  sat:∀ b o,H' b=some o->w'.heap[b]?=some o
  loc:∀ p ∈ qs,LR H' B' w' p.1 p.2
  priv:∀ p ∈ qs,∀ b c,B' p.1=some (b,c)->b<w'.heap.size/\H' b=none/\(mayP ps B b\/w.heap.size<=b)
  inj:∀ p ∈ qs,∀ q ∈ qs,∀ b c c', B' p.1=some (b,c)->B' q.1=some (b,c')->p.1=q.1
  keep:∀ n,n ∈ ps.map (·.1)\/n ∉ qs.map (·.1)->B' n=B n
  res:VR H' B' res v
  ext:Ext (mayP ps B) w w'
def Fn (P:Program) (k:FuncId) (ps:List (Nat × L)) (args:List V) (res:V) (qs:List (Nat × L)):Prop :=
  ∀ (w:World) (H:Im) (B:Bl) (vals:List Value),Pre ps args w H B vals->Calls P k ⟨vals⟩ w fun en w'=>∃ v H' B', en = .returned v/\Post ps w H B res qs v w' H' B'
def zf9 (rs:List (Nat × V)) (ps qs:List (Nat × L)) (d:Nat) (res:V):I :=
  { rs:=rs,rl:=ps,ws:=[(d,some res)],wl:=qs.map (fun q=>(q.1,some q.2))++ps.map (fun p=>(p.1,none)),nw:=(qs.map (·.1)).filter fun n=>!hasN (ps.map (·.1)) n }
variable {ps qs:List (Nat × L)}
theorem lookup_wl (n:Nat):(qs.map (fun q=>(q.1,some q.2))++ps.map (fun p=>(p.1,(none:Option L)))).lookup n=(match qs.lookup n with | some l=>some (some l) | none=>if n ∈ ps.map (·.1) then some none else none):=by
 induction qs with
 | nil =>
  simp only [List.map_nil,List.nil_append,List.lookup]
  induction ps with
  | nil=>rfl
  | cons p ps ih =>
   simp only [dG,List.lookup,dB]
   by_cases e:n=p.1
   ·simp [e]
   ·have:(n == p.1)=false:=by simp;exact e
    rw [this];simp only [ih,e,false_or]
 | cons q qs ih =>
  simp only [dG,dI,List.lookup]
  cases hc:(n == q.1) with
  | true=>rfl
  | false=>exact ih
variable {res:V}
theorem Ok.called {g:F} {B':Bl} {w:World} (h:Ok e f H B a w) (hp:∀ p ∈ ps,f.l p.1=some p.2)
  (hn:∀ n,n ∈ qs.map (·.1)->n ∉ ps.map (·.1)->New e.K f n) (post:Post ps w H B res qs v w' H' B') (hs:∀ t,g.s t=f.s t)
  (hl:∀ n,g.l n=match qs.lookup n with | some l=>some l | none=>if n ∈ ps.map (·.1) then none else f.l n):Ok e g H' B' a w':=by
 have hps:∀ p ∈ ps,p.1 ∈ ps.map (·.1):=fun p h=>bG.2 ⟨p,h,rfl⟩
 have keepT:∀ m,(m ∈ qs.map (·.1)->m ∉ ps.map (·.1)->False)->B' m=B m:=by
  intro m hm
  refine post.keep m ?_
  by_cases h1:m ∈ ps.map (·.1)
  ·exact .inl h1
  ·exact .inr fun h2=>hm h2 h1
 have may:∀ b,mayP ps B b->b<w.heap.size/\H b=none/\(e.may b\/e.w.heap.size<=b):=by
  rintro b ⟨p,hp1,c,hb⟩
  exact h.priv p.1 p.2 b c (hp p hp1) hb
 -- what g knows of a name: it is one of qs, or an old one beside ps
 have cls:∀ n l,g.l n=some l->((n,l) ∈ qs)\/(n ∉ qs.map (·.1)/\n ∉ ps.map (·.1)/\f.l n=some l):=by
  intro n l hnl
  rw [hl] at hnl
  cases hq:qs.lookup n with
  | some x=>rw [hq] at hnl;injection hnl with hnl;subst hnl;exact .inl (zaw hq)
  | none =>
   rw [hq] at hnl
   by_cases hm:n ∈ ps.map (·.1)
   ·rw [if_pos hm] at hnl;cases hnl
   ·rw [if_neg hm] at hnl
    refine .inr ⟨fun hm2=>?_,hm,hnl⟩
    obtain ⟨q,hq1,rfl⟩:=bG.1 hm2
    have:∀ (l:List (Nat × L)),q ∈ l->l.lookup q.1≠none:=by
     intro l
     induction l with
     | nil=>intro h;cases h
     | cons x l ih =>
      intro hx
      simp only [List.lookup]
      cases hc:(q.1 == x.1) with
      | true=>simp
      | false =>
       rcases dB.1 hx with rfl | hx
       ·simp at hc
       ·exact ih hx
    exact this qs hq1 hq
 have oldB:∀ n,n ∉ qs.map (·.1)->B' n=B n:=fun n hn2=>post.keep n (.inr hn2)
 refine ⟨h.df,h.n,⟨post.ext.os.trans h.ext.os,post.ext.tape.trans h.ext.tape,post.ext.output.trans h.ext.output,bS h.ext.size post.ext.size,?_⟩,post.sat,?_,?_,?_,?_,?_,h.le.trans post.le,?_,h.tab⟩
 ·intro b hb hm
  have:=h.ext.size
  rw [post.ext.block b (by omega) (fun hx=>by
   obtain ⟨_,_,h3⟩:=may b hx
   rcases h3 with h3 | h3
   ·exact hm h3
   ·omega)]
  exact h.ext.block b hb hm
 ·intro t x hx
  rw [hs] at hx
  exact VR.mono post.le (fun m hm=>keepT m fun h1 h2=>(hn m h1 h2).2.2.1 t x hx hm) (h.slot t x hx)
 ·intro n l hnl
  rcases cls n l hnl with h1 | ⟨h1,h2,h3⟩
  ·exact post.loc (n,l) h1
  ·refine LR.mono post.le (oldB n h1) (fun m hm=>keepT m fun k1 k2=>(hn m k1 k2).2.2.2 n l h3 hm) (fun b c hb=>?_) (h.loc n l h3)
   obtain ⟨p1,p2,p3⟩:=h.priv n l b c h3 hb
   refine post.ext.block b p1 ?_
   rintro ⟨p,hp1,c', hb'⟩
   have:=h.inj n p.1 l p.2 b c c' h3 (hp p hp1) hb hb'
   exact h2 (this ▸ hps p hp1)
 ·intro n l b c hnl hb
  rcases cls n l hnl with h1 | ⟨h1,h2,h3⟩
  ·obtain ⟨p1,p2,p3⟩:=post.priv (n,l) h1 b c hb
   refine ⟨p1,p2,?_⟩
   rcases p3 with p3 | p3
   ·exact (may b p3).2.2
   ·exact .inr (bS h.ext.size p3)
  ·rw [oldB n h1] at hb
   obtain ⟨p1,p2,p3⟩:=h.priv n l b c h3 hb
   exact ⟨cO p1 post.ext.size,by rw [post.low b p1];exact p2,p3⟩
 ·intro n m l l' b c c' h1 h2 b1 b2
  have cross:∀ n l b c m l' c', (n,l) ∈ qs->B' n=some (b,c)->m ∉ qs.map (·.1)->m ∉ ps.map (·.1)->f.l m=some l'->B' m=some (b,c')->False:=by
   intro n l b c m l' c' q1 q2 q3 q4 q5 q6
   rw [oldB m q3] at q6
   have:=h.priv m l' b c' q5 q6
   rcases (post.priv (n,l) q1 b c q2).2.2 with ⟨p,hp1,c2,hb2⟩ | hge
   ·have:=h.inj m p.1 l' p.2 b c' c2 q5 (hp p hp1) q6 hb2
    exact q4 (this ▸ hps p hp1)
   ·omega
  rcases cls n l h1 with k1 | ⟨k1,k2,k3⟩ <;> rcases cls m l' h2 with j1 | ⟨j1,j2,j3⟩
  ·exact post.inj (n,l) k1 (m,l') j1 b c c' b1 b2
  ·exact (cross n l b c m l' c' k1 b1 j1 j2 j3 b2).elim
  ·exact (cross m l' b c' n l c j1 b2 k1 k2 k3 b1).elim
  ·rw [oldB n k1] at b1
   rw [oldB m j1] at b2
   exact h.inj n m l l' b c c' k3 j3 b1 b2
 ·intro b hb
  have:=h.ext.size
  rw [post.low b (by omega)]
  exact h.low b hb
 ·intro n hn2
  refine (keepT n fun h1 h2=>(hn n h1 h2).1 hn2).trans (h.keep n hn2)
inductive OVs:List Operand->List V->List (Nat × V)->Prop
  | nil:OVs [] [] []
  | cons {x:Operand} {v:V} {rs:List (Nat × V)} {xs:List Operand} {vs:List V} {rs':List (Nat × V)} (h:OV x v rs) (t:OVs xs vs rs'):OVs (x :: xs) (v :: vs) (rs++rs')
theorem OVs.eval {xs:List Operand} {vs:List V} (h:OVs xs vs rs) {w:World} (hok:Ok e f H B a w) (hr:∀ p ∈ rs,f.s p.1=some p.2):zar (VR H B) vs (xs.map a.eval):=by
 induction h with
 | nil=>trivial
 | cons h t ih=>exact ⟨h.eval hok fun p hp=>hr p (cU _ hp),ih fun p hp=>hr p (cG _ hp)⟩
variable {args:List V}
section
variable {P:Program}
def zc2 (P : Program) (k : FuncId) : Prop := (P.funcs[k]?).map (fun fn => fn.name == "runtime.NumGoroutine" || fn.body.isNone) = some false
theorem run_callee {k:FuncId} (hk:zc2 P k) (args:Array Value) (w:World):(callFunc k args).run P w = .ok (.enter k args) w:=by
 unfold zc2 at hk
 cases hf:P.funcs[k]? with
 | none=>rw [hf] at hk;cases hk
 | some fn =>
  rw [hf] at hk
  injection hk with hk
  rw [Bool.or_eq_false_iff] at hk
  unfold callFunc
  simp only [Sem.run_bind,run_program,Result.andThen_ok,hf,hk.1,hk.2,dA,if_false,Sem.run_pure]
theorem Op.call {k:FuncId} (hc:Fn P k ps args res qs) (hk:zc2 P k) {d:Nat} {xs:List Operand} {tys:Array TypeId} {ty pos af gd} (h:OVs xs args rs) :
  zav P ⟨some d,.call { callee:=.value (.func k),args:=⟨xs⟩,argTypes:=tys }, ty,pos,af,gd⟩ (zf9 rs ps qs d res):=by
 rintro e f a w Q ⟨H,B,hok⟩ hr hnw hb
 have hex:(execOp a.eval ⟨some d,.call { callee:=.value (.func k),args:=⟨xs⟩,argTypes:=tys }, ty,pos,af,gd⟩).run P w = .ok (.enter k ⟨xs.map a.eval⟩) w:=by
  have h1:a.eval (.func k) = .func (.func k) #[] #[]:=rfl
  have h2:(⟨xs⟩:Array Operand).map a.eval=⟨xs.map a.eval⟩:=by simp
  simp only [execOp,resolve,h1,h2,Deferred.ofValue,Sem.run_bind,Sem.run_pure,Result.andThen_ok,invoke]
  rw [run_callee hk]
  simp
 have hargs:=h.eval hok hr.1
 have hps:∀ p ∈ ps,f.l p.1=some p.2:=hr.2
 have pre:Pre ps args w H B (xs.map a.eval):=⟨hok.sat,fun p hp=>hok.loc _ _ (hps p hp),fun p hp b c hb2=>by
   obtain ⟨h1,h2,_⟩:=hok.priv _ _ b c (hps p hp) hb2
   exact ⟨h1,h2⟩,fun p hp q hq b c c' h1 h2=>hok.inj _ _ _ _ b c c' (hps p hp) (hps q hq) h1 h2,hargs,hok.tab.mono hok.le⟩
 unfold Oper.wp
 rw [hex,Oper.upon_enter]
 refine (hc w H B _ pre).mono ?_
 rintro en w' ⟨v,H', B', rfl,post⟩
 have hnew:∀ n,n ∈ qs.map (·.1)->n ∉ ps.map (·.1)->New e.K f n:=by
  intro n h1 h2
  refine hnw n ?_
  simp only [zf9,cV]
  refine ⟨h1,?_⟩
  cases hx:hasN (ps.map (·.1)) n with
  | false=>rfl
  | true=>exact absurd (zdz.1 hx) h2
 have h1:Ok e ⟨f.s,(f.app (zf9 rs ps qs d res)).l⟩ H' B' a w':=hok.called (g:=⟨f.s,(f.app (zf9 rs ps qs d res)).l⟩) hps hnew post (fun _=>rfl) (fun n=>by
  simp only [F.app,zf9,lookup_wl]
  cases qs.lookup n with
  | some l=>rfl
  | none=>by_cases hm:n ∈ ps.map (·.1) <;> simp [hm])
 exact ⟨H', B', h1.put (x:=some res) (hb.1 (d,some res) (by simp [zf9])) (zh0 f d (some res) _ rfl) (fun n=>rfl) (fun y hy=>by injection hy with hy;subst hy;exact post.res)⟩
inductive RV (P:Program) (f:F):ResultVar->T->Prop
  | tmp (t:Nat) (x:T) (h:f.s t=some (.t x)):RV P f (.tmp t) x
  | agg (t n o m:Nat) (ty:TypeId) (cs xs:List C) (hs:Sz P ty m true) (h:f.s t=some (vp n o)) (hl:f.l n=some (.box cs)) (hx:(cs.drop o).take m=xs) (hm:xs.length=m):RV P f (.cell t ty) (.agg xs)
  | c (t n o m:Nat) (ty:TypeId) (cs:List C) (x:C) (hs:Sz P ty m false) (h:f.s t=some (vp n o)) (hl:f.l n=some (.box cs)) (hx:cs[o]?=some x):RV P f (.cell t ty) (.c x)
theorem vT9 {x : T} (h : f.s t = some (.t x) := by kernel_rfl) : RV P f (.tmp t) x := .tmp t x h
def resV:ResultVar->Array Value->Sem Value
  | .tmp t,tmps=>pure (tmps.getD t undef)
  | .cell a t,tmps=>do loadVar t (<- asAddr (tmps.getD a undef))
theorem RV.run {r:ResultVar} {x:T} (h:RV P f r x) {w:World} (hok:Ok e f H B a w):∃ v,(resV r a.tmps).run P w = .ok v w/\TR H B x v:=by
 cases h with
 | tmp t x h=>exact ⟨_,rfl,hok.slot t _ h⟩
 | agg t n o m ty cs xs hs h hl hx hm =>
  obtain ⟨b,c,hb,hu⟩:=(hok.slot t _ h).ptrI
  obtain ⟨b', c', arr,ty', hb', hc,h2⟩:=hok.loc n _ hl
  rw [hb] at hb'
  injection hb' with hb'
  obtain ⟨rfl,rfl⟩:=Prod.mk.injEq .. ▸ hb'
  have h3:zar (CR H B) xs ((arr.drop o).take m):=by rw [<- hx];exact (h2.drop o).take m
  have h6:=zd8 (P:=P) hs (w:=w) (b:=b) (o:=o) (cs:=(arr.drop o).take m) (by rw [<- h3.length,hm]) (fun j v hv=>by
   refine zd7 hc ?_
   rw [List.getElem?_take] at hv
   split at hv
   ·rw [dH] at hv;exact hv
   ·cases hv)
  refine ⟨_,?_,⟨_,rfl,h3⟩⟩
  simp only [resV,hu,asAddr,Sem.run_bind,Sem.run_pure,Result.andThen_ok,h6]
 | c t n o m ty cs x hs h hl hx =>
  obtain ⟨b,c,hb,hu⟩:=(hok.slot t _ h).ptrI
  obtain ⟨b', c', arr,ty', hb', hc,h2⟩:=hok.loc n _ hl
  rw [hb] at hb'
  injection hb' with hb'
  obtain ⟨rfl,rfl⟩:=Prod.mk.injEq .. ▸ hb'
  obtain ⟨ho,rfl⟩:=cC.1 hx
  obtain ⟨v,h3,h4⟩:=h2.get o ho
  refine ⟨v,?_,h4⟩
  simp only [resV,hu,asAddr,Sem.run_bind,Sem.run_pure,Result.andThen_ok,zek (P:=P) hs (zd7 hc h3)]
theorem run_mapM (g:ResultVar->Sem Value) {w:World}:∀ (l:List ResultVar) (vs:List Value),zar (fun r v=>(g r).run P w = .ok v w) l vs->(l.mapM g).run P w = .ok vs w
 | [],[],_=>rfl
 | r :: l,v :: vs,h=>by
  rw [List.mapM_cons]
  simp only [Sem.run_bind,h.1,Result.andThen_ok,run_mapM g l vs h.2,Sem.run_pure]
 | [],_ :: _,h=>h.elim
 | _ :: _,[],h=>h.elim
def resOf:List T->V
  | [x] => .t x
  | xs => .tup xs
theorem results_run {rs:List ResultVar} (hf:fn.results=⟨rs⟩) {xs:List T} {w:World} (hok:Ok e f H B a w) (h:zar (RV P f) rs xs) :
  ∃ v,(results fn a.tmps).run P w = .ok v w/\VR H B (resOf xs) v:=by
 have h1:∃ vs,zar (fun r v=>(resV r a.tmps).run P w = .ok v w) rs vs/\zar (TR H B) xs vs:=by
  clear hf
  induction rs generalizing xs with
  | nil=>cases xs with
   | nil=>exact ⟨[],trivial,trivial⟩
   | cons x xs=>exact h.elim
  | cons r rs ih=>cases xs with
   | nil=>exact h.elim
   | cons x xs =>
    obtain ⟨vs,k1,k2⟩:=ih h.2
    obtain ⟨v,k3,k4⟩:=h.1.run hok
    exact ⟨v :: vs,⟨k3,k1⟩,⟨k4,k2⟩⟩
 obtain ⟨vs,h2,h3⟩:=h1
 have h4:=run_mapM (P:=P) (fun r=>resV r a.tmps) rs vs h2
 refine ⟨if h:vs.length=1 then vs[0] else .tuple ⟨vs⟩,?_,?_⟩
 ·have e1:results fn a.tmps=(do
    let vs <- fn.results.mapM fun r=>resV r a.tmps
    pure (if h:vs.size=1 then vs[0] else .tuple vs)):=by
   unfold results
   congr 1
   congr 1
   funext r
   cases r <;> rfl
  rw [e1,hf,List.mapM_toArray]
  simp only [Sem.run_bind,Sem.run_map,h4,Result.andThen_ok,Sem.run_pure]
  simp
 ·have hl:=h3.length
  match xs,vs,h3 with
  | [],[],_=>exact ⟨[],rfl,trivial⟩
  | [x],[v],h3=>exact h3.1
  | x :: y :: xs,u :: v :: vs,h3=>exact ⟨u :: v :: vs,by simp,h3⟩
def RetQ (e:E) (ps:List (Nat × L)) (res:V) (qs:List (Nat × L)) (en:Ending) (w':World):Prop:=∃ v H' B', en = .returned v/\Post ps e.w e.H e.B res qs v w' H' B'
theorem St.ret {w:World} {rs:List ResultVar} {xs:List T} (h:St e f a w) (hK:e.K=ps.map (·.1)) (hf:fn.results=⟨rs⟩) (hx:zar (RV P f) rs xs) (hres:resOf xs=res)
  (hq:∀ q ∈ qs,f.l q.1=some q.2) (ht:(res.tags++qs.flatMap fun q=>q.2.tags).all (hasN (qs.map (·.1)))=true) (n:Exit) (hn:n = .ret\/n = .normal) :
  bodyPost P fn (RetQ e ps res qs) n a w:=by
 obtain ⟨H,B,hok⟩:=h
 obtain ⟨v,hv,hr⟩:=results_run (P:=P) hf hok hx
 have hm:∀ b,e.may b ↔ mayP ps e.B b:=by
  intro b
  unfold E.may mayP
  rw [hK]
  constructor
  ·rintro ⟨m,hm,c,hb⟩;obtain ⟨p,hp,rfl⟩:=bG.1 hm;exact ⟨p,hp,c,hb⟩
  ·rintro ⟨p,hp,c,hb⟩;exact ⟨p.1,bG.2 ⟨p,hp,rfl⟩,c,hb⟩
 have hB:∀ m,m ∈ qs.map (·.1)->(fun m=>if hasN (qs.map (·.1)) m then B m else e.B m) m=B m:=fun m hm=>by simp [zdz.2 hm]
 have htag:∀ m ∈ res.tags++qs.flatMap (fun q=>q.2.tags),m ∈ qs.map (·.1):=fun m hm=>zdz.1 (bK.1 ht m hm)
 have main:a.defers=[]/\∃ v,(results fn a.tmps).run P w = .ok v w/\RetQ e ps res qs (.returned v) w:=by
  refine ⟨hok.df,v,hv,v,H,fun m=>if hasN (qs.map (·.1)) m then B m else e.B m,rfl,?_⟩
  refine ⟨hok.le,hok.low,hok.sat,?_,?_,?_,?_,?_,⟨hok.ext.os,hok.ext.tape,hok.ext.output,hok.ext.size,fun b hb hb2=>hok.ext.block b hb (fun h=>hb2 ((hm b).1 h))⟩⟩
  ·intro q hq1
   have hmem:q.1 ∈ qs.map (·.1):=bG.2 ⟨q,hq1,rfl⟩
   refine LR.mono (Le.refl _) (hB _ hmem) (fun m hm=>hB m (htag m (cG _ (bL.2 ⟨q,hq1,hm⟩)))) (fun _ _ _=>rfl) (hok.loc _ _ (hq q hq1))
  ·intro q hq1 b c hb
   have hmem:q.1 ∈ qs.map (·.1):=bG.2 ⟨q,hq1,rfl⟩
   have hb:=(hB _ hmem).symm.trans hb
   obtain ⟨p1,p2,p3⟩:=hok.priv _ _ b c (hq q hq1) hb
   exact ⟨p1,p2,p3.imp (hm b).1 id⟩
  ·intro q hq1 q' hq2 b c c' h1 h2
   have h1:=(hB _ (bG.2 ⟨q,hq1,rfl⟩)).symm.trans h1
   have h2:=(hB _ (bG.2 ⟨q', hq2,rfl⟩)).symm.trans h2
   exact hok.inj _ _ _ _ b c c' (hq q hq1) (hq q' hq2) h1 h2
  ·intro m hm2
   by_cases hx:hasN (qs.map (·.1)) m=true
   ·simp only [hx,if_true]
    rcases hm2 with h1 | h1
    ·exact hok.keep m (by rw [hK];exact h1)
    ·exact absurd (zdz.1 hx) h1
   ·simp [hx]
  ·rw [hres] at hr
   exact VR.mono (Le.refl _) (fun m hm=>hB m (htag m (cU _ hm))) hr
 rcases hn with rfl | rfl <;> exact main
theorem Fn.of {k:FuncId} {c:Code} (hf:P.funcs[k]?=some fn) (hb:fn.body=some c) (f:F) (N:Nat) (hN:args.length+(fn.ntmps - args.length)=N)
  (hfs:∀ t v,f.s t=some v->args[t]?=some v) (hfl:∀ n l,f.l n=some l->(n,l) ∈ ps)
  (h:∀ (w:World) (H:Im) (B:Bl) (a:Act),St ⟨w,H,B,ps.map (·.1),N⟩ f a w->c.wp P (bodyPost P fn (RetQ ⟨w,H,B,ps.map (·.1),N⟩ ps res qs)) a w):Fn P k ps args res qs:=by
 intro w H B vals pre
 refine calls_of_wp hf hb (h w H B _ ⟨H,B,rfl,?_,⟨rfl,rfl,rfl,bC _,fun _ _ _=>rfl⟩,pre.sat,?_,?_,?_,?_,fun _ _=>rfl,Le.refl _,fun _ _=>rfl,pre.tab⟩)
 ·have:=pre.arg.length
  simp [<- hN,<- this]
 ·intro t v hv
  have h1:=hfs t v hv
  obtain ⟨ht,rfl⟩:=cC.1 h1
  obtain ⟨u,h2,h3⟩:=pre.arg.get t ht
  have htv:t<vals.length:=(cC.1 h2).1
  have:(((⟨vals⟩:Array Value)++Array.replicate (fn.ntmps - (⟨vals⟩:Array Value).size) undef).getD t undef)=u:=by
   rw [bN, Array.getElem?_append_left (by simpa using htv)]
   simp [h2]
  rw [this]
  exact h3
 ·intro n l hn;exact pre.loc _ (hfl n l hn)
 ·intro n l b c hn hb2
  obtain ⟨h1,h2⟩:=pre.priv _ (hfl n l hn) b c hb2
  exact ⟨h1,h2,.inl ⟨n,bG.2 ⟨_,hfl n l hn,rfl⟩,c,hb2⟩⟩
 ·intro n m l l' b c c' h1 h2 b1 b2
  exact pre.inj _ (hfl n l h1) _ (hfl m l' h2) b c c' b1 b2
section
variable {Q:Exit->Act->World->Prop} {e:E} {f:F} {a:Act} {w:World}
theorem wp_cond_S {x y:Code} (b:Bool) (h:St e f a w) (ht:f.s t=some (vb b)) (hx:b=true->x.wp P Q a w) (hy:b=false->y.wp P Q a w):(Code.cond (.tmp t) x y).wp P Q a w:=by
 obtain ⟨H,B,hok⟩:=h
 have:=(hok.slot t _ ht).rawI
 exact wp_cond_split this hx hy
theorem wp_loop_S {c:Code} (fs:ι->F) (μ:ι->Nat) (x:ι) (h:St e (fs x) a w) (round:∀ x a w,St e (fs x) a w->c.wp P (Exit.then (fun a' w'=>∃ y,μ y<μ x/\St e (fs y) a' w') Q) a w):(Code.loop c).wp P Q a w:=by
 intro b k cs
 have key:∀ n x a w,μ x=n->St e (fs x) a w->∃ en a' w', Q en a' w'/\Arrives P (lone (b.at a (.code c :: .inLoop c :: k)) cs w) b k cs en a' w':=by
  intro n
  induction n using Nat.strongRecOn with
  | _ n ih =>
   intro x a w hn hI
   obtain ⟨en,a₁,w₁,hq,harr⟩:=round x a w hI b (.inLoop c :: k) cs
   cases en with
   | normal =>
    obtain ⟨y,hlt,hI₁⟩:=hq
    obtain ⟨e₂,a₂,w₂,hq₂,harr₂⟩:=ih (μ y) (hn ▸ hlt) y a₁ w₁ rfl hI₁
    exact ⟨e₂,a₂,w₂,hq₂,.of_steps (Steps.trans harr (.one step_inLoop)) harr₂⟩
   | exit id=>exact ⟨_,a₁,w₁,hq,.pass (x:=.inLoop c) rfl (fun _ _ => .inl (by simp)) harr⟩
   | goto l=>exact ⟨_,a₁,w₁,hq,.pass (x:=.inLoop c) rfl (fun _ _ => .inl (by simp)) harr⟩
   | ret=>exact ⟨_,a₁,w₁,hq,.pass (x:=.inLoop c) rfl (fun _ _ => .inl (by simp)) harr⟩
   | panic ch=>exact ⟨_,a₁,w₁,hq,.pass (x:=.inLoop c) rfl (fun _ _ => .inl (by simp)) harr⟩
   | outgrown=>exact ⟨_,a₁,w₁,hq,.pass (x:=.inLoop c) rfl (fun _ _ => .inl (by simp)) harr⟩
 obtain ⟨en,a', w', hq,harr⟩:=key _ x a w rfl h
 exact ⟨en,a', w', hq,.of_steps (.one step_loop) harr⟩
theorem wp_seq_mid {x y:Code} (g:F) (hx:x.wp P (Exit.then (fun a w=>St e g a w) Q) a w) (hy:∀ a w,St e g a w->y.wp P Q a w):(Code.seq x y).wp P Q a w :=
 wp_seq (wp_mono hx fun en a w hq=>by
  cases en with
  | normal=>exact hy a w hq
  | _=>exact hq)
theorem zap {id:Nat} (h:Q .normal a w):Exit.inBlock id Q (.exit id) a w:=by simp only [Exit.inBlock,if_true];exact h
end
end
def F.of (sl:List (Nat × V)) (lc:List (Nat × L)):F:=⟨fun t=>sl.lookup t,fun n=>lc.lookup n⟩
def AllDo (P:Program) (ops:Array Oper):List Oper->List I->Prop
  | [],[]=>True
  | o :: os,i :: is=>Does P ops o i/\AllDo P ops os is
  | _,_=>False
theorem AllDo.get:∀ {os:List Oper} {is:List I}, AllDo P ops os is->∀ (k:Nat) (o:Oper),os[k]?=some o->Does P ops o (at_ is k)
 | o :: os,i :: is,h,0,x,hx=>by simp at hx;subst hx;exact h.1
 | o :: os,i :: is,h,k+1,x,hx=>by
  have:=AllDo.get h.2 k x (by simpa using hx)
  simpa [at_] using this
 | [],[],_,k,x,hx=>by simp at hx
 | _ :: _,[],h,_,_,_=>h.elim
 | [],_ :: _,h,_,_,_=>h.elim
theorem AllDo.length:∀ {os:List Oper} {is:List I}, AllDo P ops os is->os.length=is.length
 | o :: os,i :: is,h=>by simp [AllDo.length h.2]
 | [],[],_=>rfl
 | _ :: _,[],h=>h.elim
 | [],_ :: _,h=>h.elim
def runS:F->List I->List (Option V)
  | _,[]=>[]
  | f,i :: is=>i.rs.map (fun p=>f.s p.1)++runS (f.app i) is
def wantS (is:List I):List (Option V):=is.flatMap fun i=>i.rs.map fun p=>some p.2
def runN:F->List I->List (Option L)
  | _,[]=>[]
  | f,i :: is=>i.rl.map (fun p=>f.l p.1)++runN (f.app i) is
def wantN (is:List I):List (Option L):=is.flatMap fun i=>i.rl.map fun p=>some p.2
def runF:F->List I->F
  | f,[]=>f
  | f,i :: is=>runF (f.app i) is
theorem zgz {a b c d:List α} (h:a++b=c++d) (hl:a.length=c.length):a=c/\b=d:=List.append_inj h hl
theorem zcx {l:List α} {f:α->β} {g:α->β} (h:l.map f=l.map g):∀ x ∈ l,f x=g x:=by
 induction l with
 | nil=>intro x hx;cases hx
 | cons a l ih =>
  simp only [dG,List.cons.injEq] at h
  intro x hx
  rcases dB.1 hx with rfl | hx
  ·exact h.1
  ·exact ih h.2 x hx
theorem RunL.of {g:F}:∀ (pre is:List I) (f:F),runS f is=wantS is->runN f is=wantN is->(runF f is).le g->RunL (pre++is) f (List.range' pre.length is.length) g
 | pre,[],f,_,_,h=>by simpa [RunL,runF] using h
 | pre,i :: is,f,h1,h2,h3=>by
  have e:at_ (pre++i :: is) pre.length=i:=by simp [at_]
  simp only [cK,List.range'_succ,RunL,e]
  have s1:=zgz h1 (by simp)
  have s2:=zgz h2 (by simp)
  refine ⟨⟨fun p hp=>?_,fun p hp=>?_⟩,?_⟩
  ·exact zcx s1.1 p hp
  ·exact zcx s2.1 p hp
  ·have:=RunL.of (g:=g) (pre++[i]) is (f.app i) s1.2 s2.2 h3
   simpa using this
def newB (K:List Nat) (sl:List (Nat × V)) (lc:List (Nat × L)) (n:Nat):Bool:=!hasN K n && (sl.all fun p=>!hasN p.2.tags n) && lc.all fun p=>!Nat.beq p.1 n && !hasN p.2.tags n
variable {sl:List (Nat × V)} {lc:List (Nat × L)}
theorem zfm (h:newB K sl lc n=true):New K (F.of sl lc) n:=by
 simp only [newB,cH] at h
 obtain ⟨⟨h1,h2⟩,h3⟩:=h
 have nh:∀ {l:List Nat}, (!hasN l n)=true->n ∉ l:=fun h hm=>by rw [zdz.2 hm] at h;cases h
 refine ⟨nh h1,?_,fun t v hv=>?_,fun m l hm=>?_⟩
 ·cases hl:lc.lookup n with
  | none=>exact hl
  | some x =>
   have:=bK.1 h3 _ (zaw hl)
   simp at this
 ·exact nh (bK.1 h2 _ (zaw hv))
 ·have:=bK.1 h3 _ (zaw hm)
  rw [cH] at this
  exact nh this.2
def chk (draw:Bool) (ops:List Oper) (is:List I) (N:Nat) (K:List Nat) (sl:List (Nat × V)) (lc:List (Nat × L)):Bool :=
  pairsOk draw ops is && (is.all fun i=>i.ws.all fun p=>Nat.blt p.1 N) && (is.all fun i=>i.nw.all (newB K sl lc)) && is.all fun i=>!i.k0 || K.isEmpty
def leS (f:F) (sl:List (Nat × V)):List (Option V):=sl.map fun p=>f.s p.1
def leN (f:F) (lc:List (Nat × L)):List (Option L):=lc.map fun p=>f.l p.1
theorem zh4 (h1:leS f sl=sl.map fun p=>some p.2) (h2:leN f lc=lc.map fun p=>some p.2):f.le (F.of sl lc) :=
 ⟨fun _ _ hv=>zcx h1 _ (zaw hv),fun _ _ hv=>zcx h2 _ (zaw hv)⟩
section
variable {P:Program} {Q:Exit->Act->World->Prop} {w0:World} {H0:Im} {B0:Bl} {K:List Nat} {N:Nat}
theorem region {id:Nat} {w:World} (is:List I) (sl':List (Nat × V)) (lc':List (Nat × L)) (hm:P.follows .mixedOrders=true)
  (hdo:AllDo P ops ops.toList is) (hc:chk draw ops.toList is N K sl lc=true) (h1:runS (F.of sl lc) is=wantS is) (h2:runN (F.of sl lc) is=wantN is)
  (h3:leS (runF (F.of sl lc) is) sl'=sl'.map fun p=>some p.2) (h4:leN (runF (F.of sl lc) is) lc'=lc'.map fun p=>some p.2)
  (h:St ⟨w0,H0,B0,K,N⟩ (F.of sl lc) a w) (hQ:∀ a w,St ⟨w0,H0,B0,K,N⟩ (F.of sl' lc') a w->Q .normal a w):(Code.region id ops draw).wp P Q a w:=by
 simp only [chk,cH] at hc
 obtain ⟨⟨⟨c1,c2⟩,c3⟩,c4⟩:=hc
 have hmem:∀ k,at_ is k ∈ is\/at_ is k={}:=by
  intro k
  unfold at_
  rw [bI]
  cases hk:is[k]? with
  | none=>exact .inr rfl
  | some x=>exact .inl (eA hk)
 refine wp_region_S is (F.of sl' lc') hm c1 (fun k o ho=>hdo.get k o (by simpa using ho)) ?_ ?_ ?_ h hQ
 ·intro k
  refine ⟨fun p hp=>?_,fun h0=>?_⟩
  ·rcases hmem k with hk | hk
   ·have:=bK.1 (bK.1 c2 _ hk) p hp
    simpa [Nat.blt_eq] using this
   ·rw [hk] at hp;cases hp
  ·rcases hmem k with hk | hk
   ·have:=bK.1 c4 _ hk
    rw [h0] at this
    simpa using this
   ·rw [hk] at h0;cases h0
 ·intro k n hn
  rcases hmem k with hk | hk
  ·exact zfm (bK.1 (bK.1 c3 _ hk) n hn)
  ·rw [hk] at hn;cases hn
 ·have:=RunL.of (g:=F.of sl' lc') [] is (F.of sl lc) h1 h2 (zh4 h3 h4)
  have hl:=hdo.length
  simp only [List.nil_append,dE] at this
  rw [dU, <- Array.length_toList,hl]
  exact this
theorem zh5 {x y:Code} {w:World} (b:Bool) (h:St ⟨w0,H0,B0,K,N⟩ (F.of sl lc) a w) (ht:(F.of sl lc).s t=some (vb b)) (hx:b=true->x.wp P Q a w) (hy:b=false->y.wp P Q a w):(Code.cond (.tmp t) x y).wp P Q a w :=
 wp_cond_S b h ht hx hy
theorem loopS {c:Code} {w:World} (I:ι->Prop) (sls:ι->List (Nat × V)) (lcs:ι->List (Nat × L)) (μ:ι->Nat) (x:ι) (hI:I x) (h:St ⟨w0,H0,B0,K,N⟩ (F.of sl lc) a w)
  (h1:leS (F.of sl lc) (sls x)=(sls x).map fun p=>some p.2) (h2:leN (F.of sl lc) (lcs x)=(lcs x).map fun p=>some p.2)
  (round:∀ x a w,I x->St ⟨w0,H0,B0,K,N⟩ (F.of (sls x) (lcs x)) a w->c.wp P (Exit.then (fun a' w'=>∃ y,(I y/\μ y<μ x)/\St ⟨w0,H0,B0,K,N⟩ (F.of (sls y) (lcs y)) a' w') Q) a w):(Code.loop c).wp P Q a w:=by
 refine wp_loop_S (ι:={x // I x}) (fun x=>F.of (sls x.1) (lcs x.1)) (fun x=>μ x.1) ⟨x,hI⟩ (h.weaken (zh4 h1 h2)) fun x a w hst=>wp_mono (round x.1 a w x.2 hst) fun en a w hq=>?_
 cases en with
 | normal=>obtain ⟨y,⟨hy,hlt⟩,hst⟩:=hq;exact ⟨⟨y,hy⟩,hlt,hst⟩
 | _=>exact hq
theorem za9 {I:ι->Prop} {sls:ι->List (Nat × V)} {lcs:ι->List (Nat × L)} {μ:ι->Nat} {x:ι} {w:World} (y:ι) (h:St ⟨w0,H0,B0,K,N⟩ (F.of sl lc) a w) (hy:I y) (hlt:μ y<μ x)
  (h1:leS (F.of sl lc) (sls y)=(sls y).map fun p=>some p.2:=by kernel_rfl) (h2:leN (F.of sl lc) (lcs y)=(lcs y).map fun p=>some p.2:=by kernel_rfl):∃ y,(I y/\μ y<μ x)/\St ⟨w0,H0,B0,K,N⟩ (F.of (sls y) (lcs y)) a w :=
 ⟨y,⟨hy,hlt⟩,h.weaken (zh4 h1 h2)⟩
theorem midS {x y:Code} {w:World} (sl':List (Nat × V)) (lc':List (Nat × L)) (hx:x.wp P (Exit.then (fun a w=>St ⟨w0,H0,B0,K,N⟩ (F.of sl' lc') a w) Q) a w) (hy:∀ a w,St ⟨w0,H0,B0,K,N⟩ (F.of sl' lc') a w->y.wp P Q a w):(Code.seq x y).wp P Q a w :=
 wp_seq_mid (F.of sl' lc') hx hy
theorem atS {w:World} {sl':List (Nat × V)} {lc':List (Nat × L)} (h:St ⟨w0,H0,B0,K,N⟩ (F.of sl lc) a w) (h1:leS (F.of sl lc) sl'=sl'.map fun p=>some p.2:=by kernel_rfl) (h2:leN (F.of sl lc) lc'=lc'.map fun p=>some p.2:=by kernel_rfl):St ⟨w0,H0,B0,K,N⟩ (F.of sl' lc') a w :=
 h.weaken (zh4 h1 h2)
theorem zha {w:World} {rs:List ResultVar} (xs:List T) (h:St ⟨w0,H0,B0,ps.map (·.1),N⟩ (F.of sl lc) a w) (n:Exit) (hn:n = .ret\/n = .normal) (hf:fn.results=⟨rs⟩) (hx:zar (RV P (F.of sl lc)) rs xs) (hres:resOf xs=res)
  (hq:leN (F.of sl lc) qs=qs.map fun p=>some p.2:=by kernel_rfl) (ht:(res.tags++qs.flatMap fun q=>q.2.tags).all (hasN (qs.map (·.1)))=true:=by kernel_rfl):bodyPost P fn (RetQ ⟨w0,H0,B0,ps.map (·.1),N⟩ ps res qs) n a w :=
 St.ret h rfl hf hx hres (fun q hq1=>zcx hq q hq1) ht n hn
def argS:Nat->List V->List (Nat × V)
  | _,[]=>[]
  | k,v :: vs=>(k,v) :: argS (k+1) vs
theorem argS_get:∀ (vs:List V) (k t:Nat) (v:V),(argS k vs).lookup t=some v->k<=t/\vs[t - k]?=some v
 | [],_,_,_,h=>by cases h
 | x :: vs,k,t,v,h=>by
  simp only [argS,List.lookup] at h
  cases hc:(t == k) with
  | true =>
   rw [hc] at h
   simp at h hc
   subst h hc
   simp
  | false =>
   rw [hc] at h
   simp at hc
   obtain ⟨h1,h2⟩:=argS_get vs (k+1) t v h
   refine ⟨by omega,?_⟩
   have:t - k=(t - (k+1))+1:=by omega
   rw [this]
   simpa using h2
theorem Fn.body {k:FuncId} {c:Code} (hf:P.funcs[k]?=some fn) (hb:fn.body=some c) (N:Nat) (hN:args.length+(fn.ntmps - args.length)=N)
  (h:∀ (w:World) (H:Im) (B:Bl) (a:Act),St ⟨w,H,B,ps.map (·.1),N⟩ (F.of (argS 0 args) ps) a w->c.wp P (bodyPost P fn (RetQ ⟨w,H,B,ps.map (·.1),N⟩ ps res qs)) a w):Fn P k ps args res qs :=
 Fn.of hf hb (F.of (argS 0 args) ps) N hN (fun t v hv=>by have:=(argS_get args 0 t v hv).2;simpa using this) (fun n l hl=>zaw hl) h
end
variable {H0:Im} {B0:Bl}
section
variable {next:Act->World->Prop} {Q:Exit->Act->World->Prop} {a:Act} {w:World} {id:Nat}
theorem za3 (h:next a w):Exit.then next Q .normal a w:=h
theorem zbo (h:Q (.exit id) a w):Exit.then next Q (.exit id) a w:=h
theorem zae (h:Q .ret a w):Exit.then next Q .ret a w:=h
theorem exA {n1 n2 n3:Act->World->Prop} {w:World} (h:n3 a w):(Code.exit i).wp P (Exit.then n1 (Exit.then n2 (Exit.inBlock i (Exit.then n3 Q)))) a w:=wp_exit (zbo (zbo (zap (za3 h))))
theorem zca {x y:Code} {w:World} (h:St ⟨w0,H0,B0,K,N⟩ (F.of sl lc) a w) (hy:y.wp P Q a w) (ht:(F.of sl lc).s t=some (vb false):=by kernel_rfl):(Code.cond (.tmp t) x y).wp P Q a w:=zh5 false h ht nofun fun _=>hy
theorem fB {k:FuncId} {c:Code} (hf:P.funcs[k]?=some fn) (hb:fn.body=some c) (N:Nat) (h:∀ (w:World) (H:Im) (B:Bl) (a:Act),St ⟨w,H,B,ps.map (·.1),N⟩ (F.of (argS 0 args) ps) a w->c.wp P (bodyPost P fn (RetQ ⟨w,H,B,ps.map (·.1),N⟩ ps res qs)) a w) (hN:args.length+(fn.ntmps - args.length)=N:=by kernel_rfl):Fn P k ps args res qs:=Fn.body hf hb N hN h
theorem za6 (h:Q .normal a w):Exit.inBlock id Q .normal a w:=h
theorem zan (h:Q .ret a w):Exit.inBlock id Q .ret a w:=h
end
theorem St.conv {f':F} {w:World} (h:St e f a w) (hf:f=f'):St e f' a w:=hf ▸ h
theorem Fn.cast {k:FuncId} {res':V} (h:Fn P k ps args res qs) (e:res=res'):Fn P k ps args res' qs:=e ▸ h
theorem run_mapMA (g:α->Sem β) {w:World}:∀ (l:List α) (vs:List β),zar (fun r v=>(g r).run P w = .ok v w) l vs->(l.mapM g).run P w = .ok vs w
 | [],[],_=>rfl
 | r :: l,v :: vs,h=>by
  rw [List.mapM_cons]
  simp only [Sem.run_bind,h.1,Result.andThen_ok,run_mapMA g l vs h.2,Sem.run_pure]
 | [],_ :: _,h=>h.elim
 | _ :: _,[],h=>h.elim
def zgl (pl:List (Nat × Nat)):List C->List (Nat × T)->Option (List C)
  | cells,[]=>some cells
  | cells,(i,x) :: r=>match pl[i]? with
    | none=>none
    | some (off,size)=>if (cellsOf x).length=size/\off+size<=cells.length then zgl pl (zh3 cells off (cellsOf x)) r else none
theorem fold_put (off:Nat):∀ (l:List Value) (k:Nat) (cells:List Value),(l.zipIdx k).foldl (fun (cs:Array Value) (p:Value × Nat)=>cs.setIfInBounds (off+p.2) p.1) ⟨cells⟩=⟨zh3 cells (off+k) l⟩
 | [],_,_=>rfl
 | v :: r,k,cells=>by
  simp only [List.zipIdx_cons,List.foldl_cons,List.setIfInBounds_toArray]
  rw [fold_put off r (k+1),zh3]
  rfl
theorem fill_ok (pl:List (Nat × Nat)):∀ (parts:List (Nat × T)) (us:List (Nat × Value)) (cs:List C) (cells:List Value) (out:List C),zar (fun p u=>p.1=u.1/\TR H B p.2 u.2) parts us->zar (CR H B) cs cells->zgl pl cs parts=some out ->
  ∃ l,Instr.fill ((⟨pl⟩:Array (Nat × Nat))[·]?) ⟨cells⟩ us=some ⟨l⟩/\zar (CR H B) out l
 | [],[],cs,cells,out,_,hc,hf=>by simp only [zgl,Option.some.injEq] at hf;subst hf;exact ⟨cells,rfl,hc⟩
 | (i,x) :: r,(j,u) :: us,cs,cells,out,h,hc,hf=>by
  obtain ⟨⟨h1,h2⟩,h3⟩:=h
  simp only at h1 h2
  subst h1
  simp only [zgl] at hf
  cases hp:pl[i]? with
  | none=>rw [hp] at hf;cases hf
  | some q =>
   obtain ⟨off,size⟩:=q
   rw [hp] at hf
   simp only at hf
   split at hf
   ·rename_i hcond
    obtain ⟨l,g1,g2⟩:=TR.cells h2
    obtain ⟨l', k1,k2⟩:=fill_ok pl r us _ _ out h3 (hc.put off g2) hf
    refine ⟨l', ?_,k2⟩
    have e1:((⟨pl⟩:Array (Nat × Nat))[i]?)=some (off,size):=by simpa using hp
    have hl:l.length=size:=by rw [<- g2.length];exact hcond.1
    have hcl:=hc.length
    simp only [Instr.fill,e1,g1]
    rw [if_neg (by simp [hl];omega)]
    have:=fold_put off l 0 cells
    rw [Nat.add_zero] at this
    rw [<- k1,<- this]
    congr 1
    rw [<- Array.foldl_toList,Array.toList_zipIdx]
   ·cases hf
 | [],_ :: _,_,_,_,h,_,_=>h.elim
 | _ :: _,[],_,_,_,h,_,_=>h.elim
inductive OPs:List (Nat × Operand)->List (Nat × T)->List (Nat × V)->Prop
  | nil:OPs [] [] []
  | cons {i:Nat} {x:Operand} {v:T} {rs:List (Nat × V)} {xs:List (Nat × Operand)} {vs:List (Nat × T)} {rs':List (Nat × V)} (h:OV x (.t v) rs) (t:OPs xs vs rs'):OPs ((i,x) :: xs) ((i,v) :: vs) (rs++rs')
theorem OPs.eval {xs:List (Nat × Operand)} {vs:List (Nat × T)} (h:OPs xs vs rs) {w:World} (hok:Ok e f H B a w) (hr:∀ p ∈ rs,f.s p.1=some p.2) :
  zar (fun p u=>p.1=u.1/\TR H B p.2 u.2) vs (xs.map fun p=>(p.1,a.eval p.2)):=by
 induction h with
 | nil=>trivial
 | cons h t ih=>exact ⟨⟨rfl,h.eval hok fun p hp=>hr p (cU _ hp)⟩,ih fun p hp=>hr p (cG _ hp)⟩
theorem i64_id {t:Int} (h1:-9223372036854775808<=t) (h2:t<=9223372036854775807):IntKind.i64.wrap t=t:=Go.IntWalk.i64_in t ⟨h1,h2⟩
def I.also (i:I) (t:Nat) (v:V):I:={ i with rs:=(t,v) :: i.rs }
theorem zav.also {i:I} {v:V} (h:zav P o i):zav P o (i.also t v) :=
 fun e f a w Q hst hr hn hb=>h e f a w Q hst ⟨fun p hp=>hr.1 p (dR _ hp),hr.2⟩ hn hb
theorem zc2.mk' {k : FuncId} (h : (P.funcs[k]?).map (fun fn => fn.name == "runtime.NumGoroutine" || fn.body.isNone) = some false) : zc2 P k := h
theorem mixed:Tryz.prog.follows .mixedOrders=true:=by kernel_rfl
section
variable {P:Program}
theorem Fd.mk' {t:TypeId} (fields:Array Field) (f:Field) (hu:P.underlying t=some (.struct fields)) (hk:fields[k]?=some f) (ho:f.offset=off) (hs:Sz P f.type n ag):Fd P t k off n ag:=⟨fields,f,hu,hk,ho,hs⟩
structure Zero (P:Program) (t:TypeId) (zs:List C):Prop where
  ex:∃ z l,(P.info? t).bind (·.zero)=some z/\z.cells=⟨l⟩/\∀ H B,zar (CR H B) zs l
theorem Zero.run {t:TypeId} {z:Value} (hz:(P.info? t).bind (·.zero)=some z) (w:World):(zeroValue t).run P w = .ok z w:=by
 cases hi:P.info? t with
 | none=>rw [hi] at hz;cases hz
 | some i =>
  rw [hi] at hz
  have hz':i.zero=some z:=hz
  unfold zeroValue typeInfo
  simp only [Sem.run_bind,run_program,Result.andThen_ok,hi,Sem.run_pure,hz']
theorem Op.allocZ {d:Nat} {pos af gd} (h:Zero P el cs) :
  zav P ⟨some d,.alloc el,ty,pos,af,gd⟩ { ws:=[(d,some (vp n 0))],wl:=[(n,some (.box cs))],nw:=[n] }:=by
 obtain ⟨z,l,h1,h2,h3⟩:=h.ex
 exact Op.alloc z h1 cs l h2 h3
structure Places (P:Program) (t:TypeId) (pl:List (Nat × Nat)):Prop where
  ex:∃ fields:List Field,P.underlying t=some (.struct ⟨fields⟩)/\zar (fun (f:Field) (p:Nat × Nat)=>f.offset=p.1/\(P.info? f.type).map (·.size)=some p.2) fields pl
theorem Op.build {d:Nat} {pos af gd} {zs:List C} {pl:List (Nat × Nat)} (hz:Zero P xt zs) (hp:Places P xt pl) {xs:List (Nat × Operand)} {vs:List (Nat × T)} (h:OPs xs vs rs) (cs:List C) (hc:zgl pl zs vs=some cs) :
  zav P ⟨some d,.build xt ⟨xs⟩,ty,pos,af,gd⟩ { rs:=rs,ws:=[(d,some (.t (.agg cs)))] } :=
 zav.value d _ rfl rfl rfl fun e f H B a w hok hr=>by
  obtain ⟨z,l,z1,z2,z3⟩:=hz.ex
  obtain ⟨fields,p1,p2⟩:=hp.ex
  obtain ⟨out,k1,k2⟩:=fill_ok (H:=H) (B:=B) pl vs _ zs l cs (h.eval hok hr.1) (z3 H B) hc
  refine ⟨.agg ⟨out⟩,?_,_,rfl,k2⟩
  have e1:(fields.mapM fun (f:Field)=>do pure (f.offset,<- sizeOf f.type)).run P w = .ok pl w:=by
   refine run_mapMA _ fields pl (p2.mono fun fd _ q hq=>?_)
   obtain ⟨q1,q2⟩:=hq
   have e2:(sizeOf fd.type).run P w = .ok q.2 w:=by
    cases hi:P.info? fd.type with
    | none=>rw [hi] at q2;cases q2
    | some i =>
     rw [hi] at q2
     injection q2 with q2
     unfold sizeOf typeInfo
     simp only [Sem.run_bind,run_program,Result.andThen_ok,hi,Sem.run_pure,q2]
   simp only [Sem.run_bind,e2,Result.andThen_ok,Sem.run_pure,q1]
  have e3:(Array.map (fun (x:Nat × Operand)=>(x.1,a.eval x.2)) ⟨xs⟩).toList=xs.map fun p=>(p.1,a.eval p.2):=by simp
  simp only [execOp,Instr.build,Sem.run_bind,Zero.run z1,Result.andThen_ok,run_underlying p1,List.mapM_toArray,Sem.run_map,e1,z2]
  have e4:(Array.map (fun (x:Nat × Operand)=>match x with | (i,x)=>(i,a.eval x)) ⟨xs⟩).toList=xs.map fun p=>(p.1,a.eval p.2):=by simp
  rw [e4]
  rw [show (pl.toArray:Array (Nat × Nat))=⟨pl⟩ from rfl,k1]
  rfl
def lenC:C->Option Nat
  | .d (.sl _ rows)=>some rows.length
  | .own _ n=>some n
  | .sub _ _ n=>some n
  | .d (.raw (.slice _ n _))=>some n
  | _=>none
theorem lenC_spec {x:C} (h:lenC x=some n) (hv:CR H B x v):∃ a c,v = .slice a n c:=by
 cases x with
 | d x =>
  cases x with
  | raw u =>
   have hv:=VR.rawI (H:=H) (B:=B) hv
   subst hv
   cases v <;> first | (simp [lenC] at h;done) | skip
   simp [lenC] at h;subst h;exact ⟨_,_,rfl⟩
  | sl es rows =>
   simp [lenC] at h
   subst h
   cases hv with
   | nil ao c=>exact ⟨_,_,rfl⟩
   | sl=>exact ⟨_,_,rfl⟩
 | own m k =>
  simp [lenC] at h
  subst h
  simp only [CR] at hv
  split at hv
  ·obtain ⟨h1,ao,h2⟩:=hv;exact ⟨ao,0,by rw [h2,h1]⟩
  ·exact ⟨_,_,hv⟩
 | sub m o k =>
  simp [lenC] at h
  subst h
  obtain ⟨⟨ao,c,rfl⟩,_⟩:=hv
  exact ⟨_,_,rfl⟩
 | _=>simp [lenC] at h
theorem Op.len {d:Nat} {v:C} {t:TypeId} {pos af gd} (hu:P.underlying t=some (.slice el)) (h:OV x (.t (.c v)) rs) (hn:lenC v=some n) :
  zav P ⟨some d,.call { callee:=.builtin .len,args:=#[x],argTypes:=#[t] }, ty,pos,af,gd⟩ { rs:=rs,ws:=[(d,some (vi .i64 n))] } :=
 zav.value d _ rfl rfl rfl fun e f H B a w hok hr=>by
  obtain ⟨ao,c,hv⟩:=lenC_spec hn (h.eval hok hr.1)
  refine ⟨.int .i64 n,?_,DR.raw _ rfl⟩
  have h5:a.eval x = .slice ao n c:=hv
  generalize a.eval=ρ at h5 ⊢
  have e1:(Array.map ρ #[x])=#[.slice ao n c]:=by simp [h5]
  simp only [execOp,resolve,e1,Sem.run_bind,Sem.run_pure,Result.andThen_ok,invoke,builtin,Builtin.len_]
  simp [run_underlying hu,goInt]
theorem Op.lens {d:Nat} {s:ByteArray} {t:TypeId} {pos af gd} (hu:P.underlying t=some .string) (h:OV x (vs s) rs) :
  zav P ⟨some d,.call { callee:=.builtin .len,args:=#[x],argTypes:=#[t] }, ty,pos,af,gd⟩ { rs:=rs,ws:=[(d,some (vi .i64 s.size))] } :=
 Op.raw1 rfl h rfl fun ρ w h1=>by
  have e1:(Array.map ρ #[x])=#[.string s]:=by simp [h1]
  simp only [execOp,resolve,e1,Sem.run_bind,Sem.run_pure,Result.andThen_ok,invoke,builtin,Builtin.len_]
  simp [run_underlying hu,goInt]
end
theorem cv {w:World} {x y:α} (g:α->F) (p:x=y) (h:St e (g x) a w):St e (g y) a w:=p ▸ h
theorem gl (l:List α) (j:Nat) (h:j<l.length:=by first | omega | (simp at *;omega)):∃ z,l[j]?=some z:=⟨_,dV h⟩
theorem dT {p:Prop} [Decidable p] (h:decide p=true):p:=of_decide_eq_true h
theorem dF {p:Prop} [Decidable p] (h:decide p=false):¬ p:=of_decide_eq_false h
theorem lM {l:List α} {x:α} (h:l[i]?=some x):x ∈ l:=eA h
theorem zaj {x y:Code} {w:World} (p:Prop) [Decidable p] (h:St ⟨w0,H0,B0,K,N⟩ (F.of sl lc) a w) (hx:decide p=true->p->x.wp P Q a w) (hy:decide p=false->¬ p->y.wp P Q a w) (ht:(F.of sl lc).s t=some (vb (decide p)):=by kernel_rfl):(Code.cond (.tmp t) x y).wp P Q a w:=zh5 (decide p) h ht (fun c=>hx c (of_decide_eq_true c)) fun c=>hy c (of_decide_eq_false c)
theorem cS {x y:Code} {w:World} (b:Bool) (h:St ⟨w0,H0,B0,K,N⟩ (F.of sl lc) a w) (hx:b=true->x.wp P Q a w) (hy:b=false->y.wp P Q a w) (ht:(F.of sl lc).s t=some (vb b):=by kernel_rfl):(Code.cond (.tmp t) x y).wp P Q a w:=zh5 b h ht hx hy
theorem rT {w:World} (x:T) (h:St ⟨w0,H0,B0,ps.map (·.1),N⟩ (F.of sl lc) a w) (hf:fn.results=⟨[.tmp t]⟩) (hres:resOf [x]=res) (hx:(F.of sl lc).s t=some (.t x):=by kernel_rfl)
    (hq:leN (F.of sl lc) qs=qs.map fun p=>some p.2:=by kernel_rfl) (ht:(res.tags++qs.flatMap fun q=>q.2.tags).all (hasN (qs.map (·.1)))=true:=by kernel_rfl):bodyPost P fn (RetQ ⟨w0,H0,B0,ps.map (·.1),N⟩ ps res qs) .ret a w:=zha [x] h .ret (.inl rfl) hf ⟨RV.tmp _ _ hx,trivial⟩ hres hq ht
theorem rA {w:World} (n:Nat) (xs:List C) (h:St ⟨w0,H0,B0,ps.map (·.1),N⟩ (F.of sl lc) a w) (hs:Sz P ty m true) (hf:fn.results=⟨[.cell t ty]⟩) (hres:resOf [.agg xs]=res) (h1:(F.of sl lc).s t=some (vp n 0):=by kernel_rfl) (h2:(F.of sl lc).l n=some (.box xs):=by kernel_rfl) (h4:Nat.beq xs.length m=true:=by kernel_rfl)
    (hq:leN (F.of sl lc) qs=qs.map fun p=>some p.2:=by kernel_rfl) (ht:(res.tags++qs.flatMap fun q=>q.2.tags).all (hasN (qs.map (·.1)))=true:=by kernel_rfl):bodyPost P fn (RetQ ⟨w0,H0,B0,ps.map (·.1),N⟩ ps res qs) .ret a w:=zha [.agg xs] h .ret (.inl rfl) hf ⟨RV.agg _ n 0 _ _ _ _ hs h1 h2 (show xs.take m=xs from cM (Nat.le_of_eq (dQ h4))) (dQ h4),trivial⟩ hres hq ht
theorem i6 {t:Int} (h1:-9223372036854775808<=t:=by omega) (h2:t<=9223372036854775807:=by omega):IntKind.i64.wrap t=t:=i64_id h1 h2
theorem qW {w:World} {x y:Code} (h:x.wp P (Exit.then (y.wp P Q) Q) a w):(Code.seq x y).wp P Q a w:=wp_seq h
theorem qV {w:World} (h:Q .ret a w):Code.ret.wp P Q a w:=wp_ret h
theorem qU {w:World} (h:Q .normal a w):Code.skip.wp P Q a w:=wp_skip h
theorem qZ {w:World} {id:Nat} {c:Code} (h:c.wp P (Exit.inBlock id Q) a w):(Code.block id c).wp P Q a w:=wp_block h
abbrev vN (n:Nat):V:=vi .i64 (n:Int)
abbrev vI (n:Int):V:=vi .i64 n
abbrev vO (n l:Nat):V:=.t (.c (.own n l))
abbrev vS (n:Nat) (l:List (List D)):V:=.t (.c (.d (.sl n l)))
abbrev vW (x:Value):V:=.t (.c (.d (.raw x)))
abbrev vG (x:List C):V:=.t (.agg x)
abbrev cI (x:Int):C:=.d (.raw (.int .i64 x))
abbrev cB (x:Bool):C:=.d (.raw (.bool x))
structure ZI where
  neg:Bool
  abs:List Nat
def ZI.val (x:ZI):Int:=iv x.neg x.abs
def lbsF:Nat->Nat->List Nat
  | 0,_=>[]
  | f+1,n=>if n=0 then [] else n % 4294967296 :: lbsF f (n / 4294967296)
def lbs (n:Nat):List Nat:=lbsF n n
theorem canon_cons {z:Nat} (hz:z<4294967296) (h:zbt zs) (hn:zs=[]->z≠0):zbt (z :: zs):=by
 refine ⟨fun x hx=>?_,fun _=>?_⟩
 ·rcases dB.1 hx with rfl | hx
  ·exact hz
  ·exact h.1 x hx
 ·cases zs with
  | nil=>simpa [lim] using hn rfl
  | cons y ys=>have:=h.2 (by simp);simpa [lim] using this
theorem lbsF_spec:∀ (f n:Nat),n<=f->zbt (lbsF f n)/\nV (lbsF f n)=n
 | 0,n,h=>by
  obtain rfl:n=0:=by omega
  exact ⟨zbw,rfl⟩
 | f+1,n,h=>by
  unfold lbsF
  split
  ·rename_i e;subst e;exact ⟨zbw,rfl⟩
  ·obtain ⟨h1,h2⟩:=lbsF_spec f (n / 4294967296) (by omega)
   refine ⟨canon_cons (by omega) h1 fun e=>?_,?_⟩
   ·rw [e] at h2;simp [nV] at h2;omega
   ·simp only [nV,h2];omega
theorem zbu (n:Nat):zbt (lbs n):=(lbsF_spec n n (bC _)).1
theorem zd4 (n:Nat):nV (lbs n)=n:=(lbsF_spec n n (bC _)).2
theorem lbs_len {L:Nat} (h:n<pw L):(lbs n).length<=L:=zcl (zbu n) (zd4 n) h
theorem lbs_of (h:zbt zs) (hv:nV zs=n):zs=lbs n:=canon_inj h (zbu n) (hv.trans (zd4 n).symm)
def ZI.of (z:Int):ZI:=⟨decide (z<0),lbs z.natAbs⟩
theorem ZI.val_of (z:Int):(ZI.of z).val=z:=by
 unfold ZI.of ZI.val iv
 simp only [zd4]
 by_cases h:z<0 <;> simp [h] <;> omega
theorem ZI.can_of (z:Int):CanZ (ZI.of z).neg (ZI.of z).abs:=by
 refine ⟨zbu _,fun h=>?_⟩
 unfold ZI.of at h ⊢
 have:lbs z.natAbs=[]:=bV.1 h
 have hv:=zd4 z.natAbs
 rw [this] at hv
 simp [nV] at hv
 simp;omega
theorem ZI.of_eq {z:Int} (h:CanZ s zs) (hv:iv s zs=z):(⟨s,zs⟩:ZI)=ZI.of z:=by
 obtain ⟨h1,h2⟩:=h.inj (ZI.can_of z) (hv.trans (ZI.val_of z).symm)
 cases hz:ZI.of z
 rw [hz] at h1 h2
 simp only at h1 h2
 rw [h1,h2]
theorem ZI.lb_of (z:Int):Lb (ZI.of z).abs:=(ZI.can_of z).1.1
theorem ZI.len_of {z:Int} {L:Nat} (h:z.natAbs<pw L):(ZI.of z).abs.length<=L:=lbs_len h
theorem ZI.abs_lt {x:ZI} (h:Lb x.abs):x.val.natAbs<pw x.abs.length:=by
 unfold ZI.val;rw [iv_abs];exact zau h
theorem ZI.abs_nil {x:Int}:(ZI.of x).abs.length=0 ↔ x=0:=by
 constructor
 ·intro h
  have h1:=ZI.val_of x
  unfold ZI.val at h1
  rw [bV.1 h,iv_nil] at h1
  exact h1.symm
 ·rintro rfl;rfl
def nsl (zs:List Nat):D:=.sl 1 (zs.map fun (x:Nat)=>[.raw (.int .u32 (x:Int))])
def zi (x:ZI):List C:=[.d (.raw (.bool x.neg)),.d (nsl x.abs)]
def vz (x:ZI):V:=.t (.agg (zi x))
def vn (zs:List Nat):V:=.t (.c (.d (nsl zs)))
theorem nsl_rd (h:DR H (nsl zs) v) (hx:Lb zs):∃ ao c,v = .slice ao zs.length c/\∀ w:World,(∀ b o,H b=some o->w.heap[b]?=some o)->Rd w ao c zs:=by
 generalize hd:nsl zs=d at h
 unfold nsl at hd
 cases h with
 | raw v h=>cases hd
 | nil es ao c h hc =>
  injection hd with h1 h2
  have:zs=[]:=by simpa using h2
  subst this
  exact ⟨ao,c,rfl,fun w _=>⟨cF _,(by simpa [maxLen] using hc),h,hx,fun h=>(by simp at h),fun i h=>(by simp at h)⟩⟩
 | sl es rows b o c arr ty fz vs hp hb hl hc hes hv hr =>
  injection hd with h1 h2
  subst h1 h2
  refine ⟨some ⟨b,o,none⟩,c,(by simp),fun w hw=>⟨(by simpa using hl),(by simpa [maxLen] using hc),(fun h=>by cases h),hx,fun _=>rfl,fun i hi=>?_⟩⟩
  have h1:=hv i (by simpa using hi) 0 (by omega)
  have h2:=hr i (by simpa using hi) 0 (by simp)
  have h3:vs i 0 = .int .u32 (lim zs i):=by
   simp only [List.getElem_map,eB] at h2
   generalize vs i 0=u at h2
   cases h2
   unfold lim
   simp [bI,hi]
  have:=hw b _ hb
  simp only [bk,of]
  simp only [cY,Nat.add_zero] at h1
  rw [h3] at h1
  simp [World.cell?, this,h1]
theorem zdn (h:VR H B (vn zs) v) (hx:Lb zs):∃ ao c,v = .slice ao zs.length c/\∀ w:World,(∀ b o,H b=some o->w.heap[b]?=some o)->Rd w ao c zs:=nsl_rd h hx
def pub (w:World) (H:Im) (w':World):Im:=fun b=>if b<w.heap.size then H b else w'.heap[b]?
theorem own_dr {w:World} {B:Nat} {c:Nat} (h:Own w' B ao c zs) (hB:w.heap.size<=B):DR (pub w H w') (nsl zs) (.slice ao zs.length c):=by
 have hrd:=h.rd
 rcases cX zs.length with h0 | hp
 ·have:zs=[]:=bV.1 h0
  subst this
  exact .nil 1 ao c hrd.nl (by simpa [maxLen] using hrd.mx)
 ·rcases h.row.2 with ⟨hv,hn⟩ | ⟨g,cap,cur,hv,hb,hg,hnc,hcm,hcs,htake⟩
  ·omega
  ·simp only [Value.slice.injEq,true_and] at hv
   obtain ⟨rfl,rfl⟩:=hv
   have hpub:pub w H w' g=some (.cells cur 79):=by unfold pub;rw [if_neg (by omega)];exact hg
   have:=DR.sl (H:=pub w H w') 1 (zs.map fun (x:Nat)=>[.raw (.int .u32 (x:Int))]) g 0 c cur 79 (0,0) (fun i _ => .int .u32 (lim zs i)) (by simpa using hp) hpub (by simpa using hnc) hcm (fun i hi=>by simp) (fun i hi j hj=>?_) (fun i hi j hj=>?_)
   ·simpa [nsl] using this
   ·have hi':i<zs.length:=by simpa using hi
    obtain rfl:j=0:=by omega
    have h1:=hrd.cell i hi'
    simp only [bk,of,World.cell?, hg] at h1
    simpa using h1
   ·have hi':i<zs.length:=by simpa using hi
    obtain rfl:j=0:=by simp at hj;omega
    have e:lim zs i=zs[i]:=by unfold lim;simp [bI,hi']
    simp only [List.getElem_map,eB,e]
    exact .raw _ rfl
theorem own_vn {w:World} {Bb:Bl} {B:Nat} {c:Nat} (h:Own w' B ao c zs) (hB:w.heap.size<=B) (hc:zbt zs) (hv:nV zs=n):VR (pub w H w') Bb (vn (lbs n)) (.slice ao zs.length c):=by
 rw [<- lbs_of hc hv]
 exact own_dr h hB
theorem postE {w:World} (hx:Go.Proofs.YtakmnjihdfgolaaGreat.Ext w w') (hs:∀ b o,H b=some o->w.heap[b]?=some o) (hv:VR (pub w H w') B res v):Post [] w H B res [] v w' (pub w H w') B:=by
 have hlow:∀ b,b<w.heap.size->pub w H w' b=H b:=fun b hb=>by unfold pub;rw [if_pos hb]
 have hle:Le H (pub w H w'):=fun b o hb=>by
  have:=(cQ.1 (hs b o hb)).1
  rw [hlow b this];exact hb
 refine ⟨hle,hlow,fun b o hb=>?_,fun p hp=>(by cases hp),fun p hp=>(by cases hp),fun p hp=>(by cases hp),fun _ _=>rfl,hv,⟨hx.os,hx.tape,hx.output,hx.size,fun b hb _=>hx.block b hb⟩⟩
 unfold pub at hb
 split at hb
 ·rename_i h;rw [hx.block b h];exact hs b o hb
 ·exact hb
theorem postM {w:World} {L:Nat} (hs:∀ b o,H b=some o->w.heap[b]?=some o) (h:GotM w n L en w'):∃ v H' B', en = .returned v/\Post [] w H B (vn (lbs n)) [] v w' H' B':=by
 obtain ⟨ao,c,zs,Bk,rfl,hb,ho,hc,hv,_,hx⟩:=h
 exact ⟨_,_,_,rfl,postE hx hs (own_vn ho hb hc.out hv.out)⟩
theorem postSM {w:World} {L:Nat} {b:Bool} (hs:∀ b o,H b=some o->w.heap[b]?=some o) (h:GotSM w m n L b en w'):∃ v H' B', en = .returned v/\Post [] w H B (.tup [.c (.d (nsl (lbs (m - n)))),.c (.d (.raw (.bool b)))]) [] v w' H' B':=by
 obtain ⟨ao,c,xs,Bk,rfl,hb,ho,hc,hv,_,hx⟩:=h
 exact ⟨_,_,_,rfl,postE hx hs ⟨_,rfl,own_vn (Bb:=B) ho hb hc.out hv.out,DR.raw _ rfl,trivial⟩⟩
theorem postP {w:World} (hf:flat v=true) (hs:∀ b o,H b=some o->w.heap[b]?=some o) (h:GotP v w en w'):∃ u H' B', en = .returned u/\Post [] w H B (.t (.c (.d (.raw v)))) [] u w' H' B':=by
 obtain ⟨rfl,hx⟩:=h
 exact ⟨_,_,_,rfl,postE hx hs (DR.raw _ hf)⟩
theorem args1 {x:V} {vals:List Value} (h:zar (VR H B) [x] vals):∃ a,vals=[a]/\VR H B x a:=by
 match vals,h with
 | [a],h=>exact ⟨a,rfl,h.1⟩
 | [],h=>exact h.elim
 | _ :: _ :: _,h=>exact h.2.elim
theorem args2 {x y:V} {vals:List Value} (h:zar (VR H B) [x,y] vals):∃ a b,vals=[a,b]/\VR H B x a/\VR H B y b:=by
 match vals,h with
 | [a,b],h=>exact ⟨a,b,rfl,h.1,h.2.1⟩
 | [],h=>exact h.elim
 | [_],h=>exact h.2.elim
 | _ :: _ :: _ :: _,h=>exact h.2.2.elim
section
variable (xs ys:List Nat)
theorem SnAdd (hx:Lb xs) (hy:Lb ys) (lx:xs.length<=50000000) (ly:ys.length<=50000000):Fn eC 106 [] [vn xs,vn ys] (vn (lbs (nV xs+nV ys))) []:=by
 intro w H B vals pre
 obtain ⟨a,b,rfl,h1,h2⟩:=args2 pre.arg
 obtain ⟨ao,c,rfl,r1⟩:=zdn h1 hx
 obtain ⟨bo,d,rfl,r2⟩:=zdn h2 hy
 exact (AddM ao _ c xs bo _ d ys w rfl rfl (r1 w pre.sat) (r2 w pre.sat) (by omega) (by omega)).mono fun _ _ h=>postM pre.sat h
theorem SnMul (hx:Lb xs) (hy:Lb ys) (lx:xs.length<=50000) (ly:ys.length<=50000):Fn eC 102 [] [vn xs,vn ys] (vn (lbs (nV xs*nV ys))) []:=by
 intro w H B vals pre
 obtain ⟨a,b,rfl,h1,h2⟩:=args2 pre.arg
 obtain ⟨ao,c,rfl,r1⟩:=zdn h1 hx
 obtain ⟨bo,d,rfl,r2⟩:=zdn h2 hy
 exact (MulM ao _ c xs bo _ d ys w rfl rfl (r1 w pre.sat) (r2 w pre.sat) (by omega) (by omega)).mono fun _ _ h=>postM pre.sat h
theorem SRnAdd (hx:Lb xs) (hy:Lb ys) (lx:xs.length<=50000) (ly:ys.length<=50000):Fn eC 40 [] [vn xs,vn ys] (vn (lbs (nV xs+nV ys))) []:=by
 intro w H B vals pre
 obtain ⟨a,b,rfl,h1,h2⟩:=args2 pre.arg
 obtain ⟨ao,c,rfl,r1⟩:=zdn h1 hx
 obtain ⟨bo,d,rfl,r2⟩:=zdn h2 hy
 exact (RAddM ao _ c xs bo _ d ys w rfl rfl (r1 w pre.sat) (r2 w pre.sat) (by omega) (by omega)).mono fun _ _ h=>postM pre.sat h
theorem SRnMul (hx:Lb xs) (hy:Lb ys) (lx:xs.length<=50000) (ly:ys.length<=50000):Fn eC 119 [] [vn xs,vn ys] (vn (lbs (nV xs*nV ys))) []:=by
 intro w H B vals pre
 obtain ⟨a,b,rfl,h1,h2⟩:=args2 pre.arg
 obtain ⟨ao,c,rfl,r1⟩:=zdn h1 hx
 obtain ⟨bo,d,rfl,r2⟩:=zdn h2 hy
 exact (RMulM ao _ c xs bo _ d ys w rfl rfl (r1 w pre.sat) (r2 w pre.sat) (by omega) (by omega)).mono fun _ _ h=>postM pre.sat h
theorem SnTrim (hx:Lb xs) (lx:xs.length<=100000000):Fn eC 114 [] [vn xs] (vn (lbs (nV xs))) []:=by
 intro w H B vals pre
 obtain ⟨a,rfl,h1⟩:=args1 pre.arg
 obtain ⟨ao,c,rfl,r1⟩:=zdn h1 hx
 exact (TrimM ao _ c xs w rfl (r1 w pre.sat) (by omega)).mono fun _ _ h=>postM pre.sat h
theorem SnSub (hx:Lb xs) (hy:Lb ys) (lx:xs.length<=100000000) (ly:ys.length<=100000000):Fn eC 107 [] [vn xs,vn ys] (.tup [.c (.d (nsl (lbs (nV xs - nV ys)))),.c (cB (decide (nV ys<=nV xs)))]) []:=by
 intro w H B vals pre
 obtain ⟨a,b,rfl,h1,h2⟩:=args2 pre.arg
 obtain ⟨ao,c,rfl,r1⟩:=zdn h1 hx
 obtain ⟨bo,d,rfl,r2⟩:=zdn h2 hy
 exact (SubM ao _ c xs bo _ d ys w _ rfl rfl (r1 w pre.sat) (r2 w pre.sat) (by omega) (by omega) rfl).mono fun _ _ h=>postSM pre.sat h
theorem SRnTrim (hx:Lb xs) (lx:xs.length<=100000):Fn eC 76 [] [vn xs] (vn (lbs (nV xs))) []:=by
 intro w H B vals pre
 obtain ⟨a,rfl,h1⟩:=args1 pre.arg
 obtain ⟨ao,c,rfl,r1⟩:=zdn h1 hx
 exact (RTrimM ao _ c xs w rfl (r1 w pre.sat) (by omega)).mono fun _ _ h=>postM pre.sat h
theorem SRnSub (hx:Lb xs) (hy:Lb ys) (lx:xs.length<=100000) (ly:ys.length<=100000):Fn eC 118 [] [vn xs,vn ys] (.tup [.c (.d (nsl (lbs (nV xs - nV ys)))),.c (cB (decide (nV ys<=nV xs)))]) []:=by
 intro w H B vals pre
 obtain ⟨a,b,rfl,h1,h2⟩:=args2 pre.arg
 obtain ⟨ao,c,rfl,r1⟩:=zdn h1 hx
 obtain ⟨bo,d,rfl,r2⟩:=zdn h2 hy
 exact (RSubM ao _ c xs bo _ d ys w _ rfl rfl (r1 w pre.sat) (r2 w pre.sat) (by omega) (by omega) rfl).mono fun _ _ h=>postSM pre.sat h
theorem SnCmp (hx:Lb xs) (hy:Lb ys):Fn eC 53 [] [vn xs,vn ys] (vi .i64 (zhk (nV xs) (nV ys))) []:=by
 intro w H B vals pre
 obtain ⟨a,b,rfl,h1,h2⟩:=args2 pre.arg
 obtain ⟨ao,c,rfl,r1⟩:=zdn h1 hx
 obtain ⟨bo,d,rfl,r2⟩:=zdn h2 hy
 exact (zgp ao _ c xs bo _ d ys w rfl rfl (r1 w pre.sat) (r2 w pre.sat)).mono fun _ _ ⟨h,q⟩=>postP rfl pre.sat ⟨h,q.ext⟩
theorem SRnSame (hx:Lb xs) (hy:Lb ys):Fn eC 41 [] [vn xs,vn ys] (vb (decide (xs=ys))) []:=by
 intro w H B vals pre
 obtain ⟨a,b,rfl,h1,h2⟩:=args2 pre.arg
 obtain ⟨ao,c,rfl,r1⟩:=zdn h1 hx
 obtain ⟨bo,d,rfl,r2⟩:=zdn h2 hy
 exact (Same_any ao _ c xs bo _ d ys w rfl rfl (r1 w pre.sat) (r2 w pre.sat)).mono fun _ _ ⟨h,q⟩=>postP rfl pre.sat ⟨h,q.ext⟩
theorem SnOf (E:Int) (h0:0<=E) (h1:E<18446744073709551616):Fn eC 101 [] [vi .u64 E] (vn (lbs E.toNat)) []:=by
 intro w H B vals pre
 obtain ⟨a,rfl,h2⟩:=args1 pre.arg
 obtain rfl:=VR.rawI h2
 exact (OfM w E h0 h1).mono fun _ _ h=>postM pre.sat h
end
theorem pw2:pw 2=18446744073709551616:=by decide
theorem zcn {x y:ZI} (hx:Lb x.abs) (hy:Lb y.abs):(ZI.of (x.val+y.val)).abs.length<=x.abs.length+y.abs.length+1:=by
 have h1:=ZI.abs_lt hx
 have h2:=ZI.abs_lt hy
 refine ZI.len_of (cT (Int.natAbs_add_le _ _) ?_)
 have e1:=zd2 (show x.abs.length<=x.abs.length+y.abs.length by omega)
 have e2:=zd2 (show y.abs.length<=x.abs.length+y.abs.length by omega)
 rw [zai]
 omega
theorem len_neg {x:ZI} (hx:Lb x.abs):(ZI.of (-x.val)).abs.length<=x.abs.length:=ZI.len_of (by rw [Int.natAbs_neg];exact ZI.abs_lt hx)
theorem len_abs {x:ZI} (hx:Lb x.abs):(ZI.of (x.val.natAbs:Int)).abs.length<=x.abs.length:=ZI.len_of (by rw [Int.natAbs_natCast];exact ZI.abs_lt hx)
theorem zcg {x:ZI} (hx:Lb x.abs):(ZI.of x.val).abs.length<=x.abs.length:=ZI.len_of (ZI.abs_lt hx)
theorem zdy {x y:ZI} (hx:Lb x.abs) (hy:Lb y.abs):(ZI.of (x.val - y.val)).abs.length<=x.abs.length+y.abs.length+1:=by
 have h1:=ZI.abs_lt hx
 have h2:=ZI.abs_lt hy
 refine ZI.len_of (cT (Int.natAbs_sub_le _ _) ?_)
 have e1:=zd2 (show x.abs.length<=x.abs.length+y.abs.length by omega)
 have e2:=zd2 (show y.abs.length<=x.abs.length+y.abs.length by omega)
 rw [zai]
 omega
theorem zdi {x y:ZI} (hx:Lb x.abs) (hy:Lb y.abs):(ZI.of (x.val*y.val)).abs.length<=x.abs.length+y.abs.length:=by
 refine ZI.len_of ?_
 rw [Int.natAbs_mul]
 exact zbq (ZI.abs_lt hx) (ZI.abs_lt hy)
theorem zc0 (h:Lb zs):(ZI.of (iv s zs)).abs.length<=zs.length:=ZI.len_of (by rw [iv_abs];exact zau h)
end S
end Go.Proofs.YtakmnjihdfgolaaGreat
