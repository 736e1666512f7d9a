/-
  Part 2 of the proof of the statement WholeWords. It holds for every input.
-/
import Derived.Test.YtjnkkdfojfjncaaGreatWW1
import Derived.Laws.Cover3
import Derived.ProofKit
import Derived.OpenShut
import Derived.ShutString
import Derived.ChangeOld
import Derived.Below
import Derived.Deep.Slices
import Derived.ChangeArms
import Derived.Shelf.Small.Bits
import Derived.Test.YtjnkkdfojfjncaaGreatProg
import Derived.Laws.Bits64b
import Derived.Deep.RegionWith
import Derived.Deep.LoopGhost
import Derived.OrdersIn
import Derived.RangeFuncFrom
import Derived.RangeFuncLeaves
import Derived.RangeFuncCalls
import Derived.RangeFuncBound
import Derived.Shelf.Abstract
import Derived.Shelf.RegionOpen
import Derived.OwnWalkIn
import Derived.TacticsInMore
import Derived.LoopNIn
import Derived.LoopIn
import Derived.Laws.Strings
import Derived.Laws.MakeOwn
import Derived.Shelf.Sort.Plain
import Derived.Ground.Names2Prog
import Derived.Shelf.Slices.CompactI
import Derived.Shelf.Slices.In.SortNone
import Derived.Lib.RowBridge
set_option maxRecDepth 100000
set_option maxHeartbeats 20000000
open Go.RowKit
open List renaming mem_singleton->bA,mem_cons->bB,mem_flatMap->bC,mem_append->bE,length_map->bF,getElem?_eq_getElem->bI,mem_map->bK,mem_of_getElem?->bL,getElem?_eq_some_iff->bM,mem_filter->bN,mem_cons_self->bO,pairwise_cons->bQ,all_eq_true->bR,length_take->bS,getElem?_map->bT,length_append->bY,mem_zipIdx_iff_getElem?->bZ,mem_append_left->b8,filter_cons->cA,mem_append_right->cC,length_cons->cG,foldl_cons->cH,getElem_take->cJ,getElem?_append_left->cK,mem_iff_getElem?->cL,mem_cons_of_mem->cM,mem_of_mem_take->cN,filter_append->cO,length_eq_zero_iff->cQ,length_drop->cR,getElem_map->cU,length_replicate->cY,getElem?_modify->cZ,mem_range->dC,getElem?_toArray->dG,not_mem_nil->dH,mem_iff_getElem->dI,pairwise_iff_getElem->dJ,filter_eq_nil_iff->dM,mem_or_eq_of_mem_set->dN,pairwise_append->dO,getElem?_zipIdx->dY
open Nat renaming le_refl->bG,le_trans->bH,zero_le->bJ,zero_add->bU,mul_le_mul_right->bV,mod_eq_of_lt->bW,add_mul->bX,add_assoc->cD,mod_lt->cF,eq_zero_or_pos->cT,add_zero->c7,mul_le_mul_left->dA,add_mul_mod_self_left->dE,eq_of_beq_eq_true->dQ
open Option renaming map_some->bP,map_eq_some_iff->dL,bind_eq_some_iff->dR,isSome_iff_exists->dV
open Array renaming getElem?_eq_some_iff->b7,getD_eq_getD_getElem?->cE,toList_map->c8,getElem?_setIfInBounds_ne->dD,length_toList->dP,getElem?_setIfInBounds_self_of_lt->dW,getElem?_modify->dX
open Int renaming toNat_natCast->b9,le_refl->cP,mul_comm->cV,mul_nonneg->cW,natAbs_natCast->dB,fmod_nonneg_of_pos->dS,eq_ofNat_of_zero_le->dU
open Bool renaming and_eq_true->cX
open Go.Proofs.Tryz renaming prog->dZ
open Go.Proofs.YtjnkkdfojfjncaaGreat.S.ZI renaming of->d4,val_of->d5
namespace Go.Proofs.YtjnkkdfojfjncaaGreat
namespace S
variable {n m es j n' M h k bs b M':Nat} {H H0:Im} {B B0:Bl} {v:Value} {qs lc:List (Nat × L)} {args:List V} {res:V} {rs rs' sl:List (Nat × V)} {tys:Array TypeId} {el ty xt yt rty:TypeId} {e:E} {f:F} {a:Act} {w w0:World} {rows rows':List (List D)} {P:Program} {α:Type} {x y:Operand} {ao:Option Addr} {K:List Nat} {vals:List Value}
section
variable {w0:World} {H0:Im} {B0:Bl} {K:List Nat} {N:Nat} {a:Act} {w:World} {sl:List (Nat × V)} {lc:List (Nat × L)}
theorem ofS_mem {t:Nat} {v:V} (h:(F.of sl lc).s t=some v):(t,v) ∈ sl:=zae h
theorem ofL_mem {l:L} (h:(F.of sl lc).l n=some l):(n,l) ∈ lc:=zae h
theorem pubS (n es:Nat) (ty:TypeId) (rows:List (List D)) (sl':List (Nat × V)) (lc':List (Nat × L)) (h:St ⟨w0,H0,B0,[],N⟩ (F.of sl lc) a w) (hl:lc.lookup n=some (.row ty es rows))
  (h1:zcg rows.length (sl.flatMap (·.2.owns n))) (h2:zcg rows.length (lc.flatMap (·.2.owns n))) (h3:leS ((F.of sl lc).pub n es rows) sl'=sl'.map fun p=>some p.2:=by kernel_rfl) (h4:leN ((F.of sl lc).pub n es rows) lc'=lc'.map fun p=>some p.2:=by kernel_rfl) :
  St ⟨w0,H0,B0,[],N⟩ (F.of sl' lc') a w :=
 (h.pub n es ty rows hl (fun t v hv k hk=>zcg.mem h1 k (bC.2 ⟨(t,v),ofS_mem hv,hk⟩)) (fun m l hm k hk=>zcg.mem h2 k (bC.2 ⟨(m,l),ofL_mem hm,hk⟩))).weaken (zf8 h3 h4)
theorem allApp:∀ {a b:List Nat}, zcg m (a++b)->zcg m a/\zcg m b
  | [],_,h=>⟨trivial,h⟩
  | _ :: _,_,h=>⟨⟨h.1,(allApp h.2).1⟩,(allApp h.2).2⟩
def puM (n es:Nat) (rows:List (List D)) (lc:List (Nat × L)):List (Nat × L):=(lc.filter fun p=>!Nat.beq p.1 n).map fun p=>(p.1,p.2.pub n es rows)
theorem zg6 (n es:Nat) (ty:TypeId) (rows:List (List D)) (h:St ⟨w0,H0,B0,[],N⟩ (F.of sl lc) a w) (ks:List Nat) (h1:zcg rows.length ks) (h2:sl.flatMap (·.2.owns n)++lc.flatMap (·.2.owns n)=ks:=by kernel_rfl) (hl:lc.lookup n=some (.row ty es rows):=by kernel_rfl) (h3:leS ((F.of sl lc).pub n es rows) (sl.map fun p=>(p.1,p.2.pub n es rows))=(sl.map fun p=>(p.1,p.2.pub n es rows)).map fun p=>some p.2:=by kernel_rfl) (h4:leN ((F.of sl lc).pub n es rows) (puM n es rows lc)=(puM n es rows lc).map fun p=>some p.2:=by kernel_rfl) :
  St ⟨w0,H0,B0,[],N⟩ (F.of (sl.map fun p=>(p.1,p.2.pub n es rows)) (puM n es rows lc)) a w:=pubS n es ty rows (sl.map fun p=>(p.1,p.2.pub n es rows)) (puM n es rows lc) h hl (allApp (by rw [h2];exact h1:zcg rows.length (sl.flatMap (·.2.owns n)++lc.flatMap (·.2.owns n)))).1 (allApp (by rw [h2];exact h1:zcg rows.length (sl.flatMap (·.2.owns n)++lc.flatMap (·.2.owns n)))).2 h3 h4
theorem renS (n m:Nat) (sl':List (Nat × V)) (lc':List (Nat × L)) (h:St ⟨w0,H0,B0,K,N⟩ (F.of sl lc) a w) (hn:zhn K sl lc m=true:=by kernel_rfl)
  (h3:leS ((F.of sl lc).ren n m) sl'=sl'.map fun p=>some p.2:=by kernel_rfl) (h4:leN ((F.of sl lc).ren n m) lc'=lc'.map fun p=>some p.2:=by kernel_rfl):St ⟨w0,H0,B0,K,N⟩ (F.of sl' lc') a w :=
 (h.ren n m (zb9 hn)).weaken (zf8 h3 h4)
def rnM (n m:Nat) (lc:List (Nat × L)):List (Nat × L):=((lc.filter fun p=>!Nat.beq p.1 n).map fun p=>(p.1,p.2.ren n m))++(lc.filter fun p=>Nat.beq p.1 n).map fun p=>(m,p.2.ren n m)
theorem zb7 (n m:Nat) (h:St ⟨w0,H0,B0,K,N⟩ (F.of sl lc) a w) (hn:zhn K sl lc m=true:=by kernel_rfl) (h3:leS ((F.of sl lc).ren n m) (sl.map fun p=>(p.1,p.2.ren n m))=(sl.map fun p=>(p.1,p.2.ren n m)).map fun p=>some p.2:=by kernel_rfl) (h4:leN ((F.of sl lc).ren n m) (rnM n m lc)=(rnM n m lc).map fun p=>some p.2:=by kernel_rfl):St ⟨w0,H0,B0,K,N⟩ (F.of (sl.map fun p=>(p.1,p.2.ren n m)) (rnM n m lc)) a w:=renS n m (sl.map fun p=>(p.1,p.2.ren n m)) (rnM n m lc) h hn h3 h4
theorem nilOSs (t j n es:Nat) (ty:TypeId) (v:V) (sl':List (Nat × V)) (lc':List (Nat × L)) (h:St ⟨w0,H0,B0,K,N⟩ (F.of sl lc) a w) (hn:zhn K sl lc n=true) (hv:sl.lookup t=some v) (hg:v.getC j=some (.d (.raw za6)))
  (h3:leS (((F.of sl lc).setL n (.row ty es [])).setS t (v.setC j (.own n 0))) sl'=sl'.map fun p=>some p.2:=by kernel_rfl) (h4:leN (((F.of sl lc).setL n (.row ty es [])).setS t (v.setC j (.own n 0))) lc'=lc'.map fun p=>some p.2:=by kernel_rfl):St ⟨w0,H0,B0,K,N⟩ (F.of sl' lc') a w :=
 (h.nilOS t j n es ty hv hg (zb9 hn)).weaken (zf8 h3 h4)
theorem zdb (t j n es:Nat) (ty:TypeId) (v:V) (h:St ⟨w0,H0,B0,K,N⟩ (F.of sl lc) a w) (hn:zhn K sl lc n=true:=by kernel_rfl) (hv:sl.lookup t=some v:=by kernel_rfl) (hg:v.getC j=some (.d (.raw za6)):=by kernel_rfl) (h3:leS (((F.of sl lc).setL n (.row ty es [])).setS t (v.setC j (.own n 0))) (uK [] [(t,v.setC j (.own n 0))] sl)=(uK [] [(t,v.setC j (.own n 0))] sl).map fun p=>some p.2:=by kernel_rfl) (h4:leN (((F.of sl lc).setL n (.row ty es [])).setS t (v.setC j (.own n 0))) (uL [] [(n,.row ty es [])] lc)=(uL [] [(n,.row ty es [])] lc).map fun p=>some p.2:=by kernel_rfl):St ⟨w0,H0,B0,K,N⟩ (F.of (uK [] [(t,v.setC j (.own n 0))] sl) (uL [] [(n,.row ty es [])] lc)) a w:=nilOSs t j n es ty v (uK [] [(t,v.setC j (.own n 0))] sl) (uL [] [(n,.row ty es [])] lc) h hn hv hg h3 h4
theorem zgy (m j n es:Nat) (ty:TypeId) (cs:List C) (sl':List (Nat × V)) (lc':List (Nat × L)) (h:St ⟨w0,H0,B0,K,N⟩ (F.of sl lc) a w) (hn:zhn K sl lc n=true) (hv:lc.lookup m=some (.box cs)) (hg:cs[j]?=some (.d (.raw za6)))
  (h3:leS (((F.of sl lc).setL n (.row ty es [])).setL m (.box (cs.set j (.own n 0)))) sl'=sl'.map fun p=>some p.2:=by kernel_rfl) (h4:leN (((F.of sl lc).setL n (.row ty es [])).setL m (.box (cs.set j (.own n 0)))) lc'=lc'.map fun p=>some p.2:=by kernel_rfl):St ⟨w0,H0,B0,K,N⟩ (F.of sl' lc') a w :=
 (h.nilOL m j n es ty hv hg (zb9 hn)).weaken (zf8 h3 h4)
theorem zft (m j n es:Nat) (ty:TypeId) (cs:List C) (h:St ⟨w0,H0,B0,K,N⟩ (F.of sl lc) a w) (hn:zhn K sl lc n=true:=by kernel_rfl) (hv:lc.lookup m=some (.box cs):=by kernel_rfl) (hg:cs[j]?=some (.d (.raw za6)):=by kernel_rfl) (h3:leS (((F.of sl lc).setL n (.row ty es [])).setL m (.box (cs.set j (.own n 0)))) sl=sl.map fun p=>some p.2:=by kernel_rfl) (h4:leN (((F.of sl lc).setL n (.row ty es [])).setL m (.box (cs.set j (.own n 0)))) (uL [] [(m,.box (cs.set j (.own n 0))),(n,.row ty es [])] lc)=(uL [] [(m,.box (cs.set j (.own n 0))),(n,.row ty es [])] lc).map fun p=>some p.2:=by kernel_rfl):St ⟨w0,H0,B0,K,N⟩ (F.of sl (uL [] [(m,.box (cs.set j (.own n 0))),(n,.row ty es [])] lc)) a w:=zgy m j n es ty cs sl (uL [] [(m,.box (cs.set j (.own n 0))),(n,.row ty es [])] lc) h hn hv hg h3 h4
theorem nilDSs (t j es:Nat) (v:V) (sl':List (Nat × V)) (lc':List (Nat × L)) (h:St ⟨w0,H0,B0,K,N⟩ (F.of sl lc) a w) (hv:sl.lookup t=some v) (hg:v.getC j=some (.d (.raw za6)))
  (h3:leS ((F.of sl lc).setS t (v.setC j (.d (.sl es [])))) sl'=sl'.map fun p=>some p.2:=by kernel_rfl) (h4:leN ((F.of sl lc).setS t (v.setC j (.d (.sl es [])))) lc'=lc'.map fun p=>some p.2:=by kernel_rfl):St ⟨w0,H0,B0,K,N⟩ (F.of sl' lc') a w :=
 (h.nilDS t j es (ao:=none) hv hg (fun _=>rfl) (bJ _)).weaken (zf8 h3 h4)
theorem nilDSx (t j es:Nat) (v:V) (h:St ⟨w0,H0,B0,K,N⟩ (F.of sl lc) a w) (hv:sl.lookup t=some v:=by kernel_rfl) (hg:v.getC j=some (.d (.raw za6)):=by kernel_rfl) (h3:leS ((F.of sl lc).setS t (v.setC j (.d (.sl es [])))) (uK [] [(t,v.setC j (.d (.sl es [])))] sl)=(uK [] [(t,v.setC j (.d (.sl es [])))] sl).map fun p=>some p.2:=by kernel_rfl) (h4:leN ((F.of sl lc).setS t (v.setC j (.d (.sl es [])))) lc=lc.map fun p=>some p.2:=by kernel_rfl):St ⟨w0,H0,B0,K,N⟩ (F.of (uK [] [(t,v.setC j (.d (.sl es [])))] sl) lc) a w:=nilDSs t j es v (uK [] [(t,v.setC j (.d (.sl es [])))] sl) lc h hv hg h3 h4
theorem nilDLs (m j es:Nat) (cs:List C) (sl':List (Nat × V)) (lc':List (Nat × L)) (h:St ⟨w0,H0,B0,K,N⟩ (F.of sl lc) a w) (hv:lc.lookup m=some (.box cs)) (hg:cs[j]?=some (.d (.raw za6)))
  (h3:leS ((F.of sl lc).setL m (.box (cs.set j (.d (.sl es []))))) sl'=sl'.map fun p=>some p.2:=by kernel_rfl) (h4:leN ((F.of sl lc).setL m (.box (cs.set j (.d (.sl es []))))) lc'=lc'.map fun p=>some p.2:=by kernel_rfl):St ⟨w0,H0,B0,K,N⟩ (F.of sl' lc') a w :=
 (h.nilDL m j es (ao:=none) hv hg (fun _=>rfl) (bJ _)).weaken (zf8 h3 h4)
theorem zdm (m j es:Nat) (cs:List C) (h:St ⟨w0,H0,B0,K,N⟩ (F.of sl lc) a w) (hv:lc.lookup m=some (.box cs):=by kernel_rfl) (hg:cs[j]?=some (.d (.raw za6)):=by kernel_rfl) (h3:leS ((F.of sl lc).setL m (.box (cs.set j (.d (.sl es []))))) sl=sl.map fun p=>some p.2:=by kernel_rfl) (h4:leN ((F.of sl lc).setL m (.box (cs.set j (.d (.sl es []))))) (uL [] [(m,.box (cs.set j (.d (.sl es []))))] lc)=(uL [] [(m,.box (cs.set j (.d (.sl es []))))] lc).map fun p=>some p.2:=by kernel_rfl):St ⟨w0,H0,B0,K,N⟩ (F.of sl (uL [] [(m,.box (cs.set j (.d (.sl es []))))] lc)) a w:=nilDLs m j es cs sl (uL [] [(m,.box (cs.set j (.d (.sl es []))))] lc) h hv hg h3 h4
theorem cutS (n k es:Nat) (ty:TypeId) (rows:List (List D)) (sl':List (Nat × V)) (lc':List (Nat × L)) (h:St ⟨w0,H0,B0,K,N⟩ (F.of sl lc) a w) (hv:lc.lookup n=some (.row ty es rows))
  (h3:leS ((F.of sl lc).setL n (.row ty es (rows.take k))) sl'=sl'.map fun p=>some p.2) (h4:leN ((F.of sl lc).setL n (.row ty es (rows.take k))) lc'=lc'.map fun p=>some p.2):St ⟨w0,H0,B0,K,N⟩ (F.of sl' lc') a w :=
 (h.cutR n k es ty hv).weaken (zf8 h3 h4)
end
section
variable {P:Program}
def A.c:A->C
  | .d x => .d x
  | .ptr n o => .ptr n o
theorem AR.c {x:A} (h:AR H B x v):CR H B x.c v:=by cases x <;> exact h
def capV (cs:List A):List V:=cs.map fun x => .t (.c x.c)
theorem Op.callV {k:FuncId} {cap:List A} {ps:List (Nat × L)} (hc:Fn P k ps (args++capV cap) res qs) (hk:zax P k) {d t:Nat} {xs:List Operand} {ty pos af gd} (h:OVs xs args rs) :
  zar P ⟨some d,.call { callee:=.value (.tmp t),args:=⟨xs⟩,argTypes:=tys }, ty,pos,af,gd⟩ (zcn ((t,.t (.c (.fn (.func k) [] cap))) :: rs) ps qs d res):=by
 rintro e f a w Q ⟨H,B,hok⟩ hr hnw hb
 obtain ⟨vs1,vs2,hfv,hf1,hf2⟩:CR H B (.fn (.func k) [] cap) (a.eval (.tmp t)):=hok.slot t _ (hr.1 (t,.t (.c (.fn (.func k) [] cap))) (by simp [zcn]))
 obtain rfl:vs1=[]:=by cases vs1 with
  | nil=>rfl
  | cons _ _=>exact hf1.elim
 have hex:(execOp a.eval ⟨some d,.call { callee:=.value (.tmp t),args:=⟨xs⟩,argTypes:=tys }, ty,pos,af,gd⟩).run P w = .ok (.enter k ⟨xs.map a.eval++vs2⟩) w:=by
  have h1:a.eval (.tmp t) = .func (.func k) #[] ⟨vs2⟩:=hfv
  have h2:(⟨xs⟩:Array Operand).map a.eval=⟨xs.map a.eval⟩:=by simp
  simp only [execOp,resolve,h1,h2,Deferred.ofValue,Sem.run_bind,Sem.run_pure,Result.andThen_ok,invoke]
  rw [zg3 hk]
  simp
 have hargs:=h.eval hok fun p hp=>hr.1 p (by simp [zcn,hp])
 have hcap:zat (VR H B) (capV cap) vs2:=zat.mapL _ hf2 fun a _ b hab=>AR.c hab
 have hps:∀ p ∈ ps,f.l p.1=some p.2:=hr.2
 have pre:Pre ps (args++capV cap) w H B (xs.map a.eval++vs2):=⟨hok.sat,fun p hp=>hok.loc _ _ (hps p hp),fun p hp b c hb2=>by
   obtain ⟨h1,h2,_⟩:=hok.priv _ _ b c (hps p hp) hb2
   exact ⟨h1,h2⟩,fun p hp q hq b c c' h1 h2=>hok.inj _ _ _ _ b c c' (hps p hp) (hps q hq) h1 h2,zat.append hargs hcap,hok.tab.mono hok.le⟩
 unfold Oper.wp
 rw [hex,Oper.upon_enter]
 refine (hc w H B _ pre).mono ?_
 rintro en w' ⟨v,H', B', rfl,post⟩
 have hnew:∀ n,n ∈ qs.map (·.1)->n ∉ ps.map (·.1)->New e.K f n:=by
  intro n h1 h2
  refine hnw n ?_
  simp only [zcn,bN]
  refine ⟨h1,?_⟩
  cases hx:zcm (ps.map (·.1)) n with
  | false=>rfl
  | true=>exact absurd (zb5.1 hx) h2
 have h1:Ok e ⟨f.s,(f.app (zcn ((t,.t (.c (.fn (.func k) [] cap))) :: rs) ps qs d res)).l⟩ H' B' a w':=hok.called (g:=⟨f.s,(f.app (zcn ((t,.t (.c (.fn (.func k) [] cap))) :: rs) ps qs d res)).l⟩) hps hnew post (fun _=>rfl) (fun n=>by
  simp only [F.app,zcn,lookup_wl]
  cases qs.lookup n with
  | some l=>rfl
  | none=>by_cases hm:n ∈ ps.map (·.1) <;> simp [hm])
 exact ⟨H', B', h1.put (x:=some res) (hb.1 (d,some res) (by simp [zcn])) (zek f d (some res) _ rfl) (fun n=>rfl) (fun y hy=>by injection hy with hy;subst hy;exact post.res)⟩
theorem fill_ok' (place:Nat->Option (Nat × Nat)) (pl:List (Nat × Nat)) (hpl:∀ i q,pl[i]?=some q->place i=some q):∀ (parts:List (Nat × T)) (us:List (Nat × Value)) (cs:List C) (cells:List Value) (out:List C),zat (fun p u=>p.1=u.1/\TR H B p.2 u.2) parts us->zat (CR H B) cs cells->zfk pl cs parts=some out ->
  ∃ l,Instr.fill place ⟨cells⟩ us=some ⟨l⟩/\zat (CR H B) out l
 | [],[],cs,cells,out,_,hc,hf=>by simp only [zfk,Option.some.injEq] at hf;subst hf;exact ⟨cells,rfl,hc⟩
 | (i,x) :: r,(j,u) :: us,cs,cells,out,h,hc,hf=>by
  obtain ⟨⟨h1,h2⟩,h3⟩:=h
  simp only at h1 h2
  subst h1
  simp only [zfk] at hf
  cases hp:pl[i]? with
  | none=>rw [hp] at hf;cases hf
  | some q =>
   obtain ⟨off,size⟩:=q
   rw [hp] at hf
   simp only at hf
   split at hf
   ·rename_i hcond
    obtain ⟨l,g1,g2⟩:=TR.cells h2
    obtain ⟨l', k1,k2⟩:=fill_ok' place pl hpl r us _ _ out h3 (hc.put off g2) hf
    refine ⟨l', ?_,k2⟩
    have e1:place i=some (off,size):=hpl i _ hp
    have hl:l.length=size:=by rw [<- g2.length];exact hcond.1
    have hcl:=hc.length
    simp only [Instr.fill,e1,g1]
    rw [if_neg (by simp [hl];omega)]
    have:=fold_put off l 0 cells
    rw [c7] at this
    rw [<- k1,<- this]
    congr 1
    rw [<- Array.foldl_toList,Array.toList_zipIdx]
   ·cases hf
 | [],_ :: _,_,_,_,h,_,_=>h.elim
 | _ :: _,[],_,_,_,h,_,_=>h.elim
def plS:Nat->Nat->Nat->List (Nat × Nat)
  | 0,_,_=>[]
  | len+1,i,es=>(i*es,es) :: plS len (i+1) es
theorem plS_get:∀ (len i es j:Nat) q,(plS len i es)[j]?=some q->q=((i+j)*es,es)/\j<len
 | 0,_,_,_,_,h=>by simp [plS] at h
 | len+1,i,es,0,q,h=>by simp [plS] at h;subst h;exact ⟨rfl,by omega⟩
 | len+1,i,es,j+1,q,h=>by
  obtain ⟨h1,h2⟩:=plS_get len (i+1) es j q (by simpa [plS] using h)
  exact ⟨by rw [h1,show i+1+j=i+(j+1) by omega],by omega⟩
structure ElZ (P:Program) (t el:TypeId) (es:Nat):Prop where
  hu:P.underlying t=some (.slice el)
  ex:∃ i z,P.info? el=some i/\i.zero=some z/\i.size=es/\z.cells.size=es/\z.cells.toList.all flat=true
  pos:0<es
theorem ElZ.mk' {t:TypeId} (hu:P.underlying t=some (.slice el)) (i:TypeInfo) (z:Value) (h1:P.info? el=some i) (h2:i.zero=some z) (h3:i.size=es := by kernel_rfl) (h5:z.cells.size=es := by kernel_rfl) (h6:z.cells.toList.all flat=true := by kernel_rfl) (h7:0<es := by decide):ElZ P t el es:=⟨hu,⟨i,z,h1,h2,h3,h5,h6⟩,h7⟩
theorem zf5 {t:TypeId} {len:Nat} (hT:ElZ P t el es) (hlen:0<len) (hsm:len*es<=16777216) {parts:List (Nat × T)} {us:List (Nat × Value)} {out:List C} (hp:zat (fun p u=>p.1=u.1/\TR H B p.2 u.2) parts us)
    (hf:zfk (plS len 0 es) (List.replicate (len*es) .any) parts=some out) (w:World) :
    ∃ l:List Value,(Instr.buildSlice t len ⟨us⟩).run P w = .ok (.slice (some ⟨w.heap.size,0,none⟩) len len) (w.alloc (.cells ⟨l⟩ el))/\zat (CR H B) out l:=by
  obtain ⟨i,z,hi,hz,hsz,hzs,hfl⟩:=hT.ex
  have hcells:zat (CR H B) (List.replicate (len*es) .any) ((Array.range (len*es)).map (z.cells[· % z.cells.size]!)).toList:=by
    refine zat.iff.2 ⟨by simp,fun j x u hx hu=>?_⟩
    have hx':=bL hx
    have:=List.eq_of_mem_replicate hx'
    subst this
    simp only [c8,bT] at hu
    cases hr:(Array.range (len*es)).toList[j]? with
    | none=>rw [hr] at hu;cases hu
    | some k =>
      rw [hr] at hu
      injection hu with hu
      subst hu
      have hk:k % z.cells.size<z.cells.size:=cF _ (by rw [hzs];exact hT.pos)
      show flat (z.cells[k % z.cells.size]!)=true
      rw [getElem!_pos z.cells _ hk]
      have:=bR.1 hfl (z.cells[k % z.cells.size]'hk) (by simp)
      exact this
  have hpl:∀ i q,(plS len 0 es)[i]?=some q->(fun i=>some (i*es,es)) i=some q:=by
    intro j q hq
    obtain ⟨h1,_⟩:=plS_get len 0 es j q hq
    rw [h1,bU]
  obtain ⟨l,h1,h2⟩:=fill_ok' (fun i=>some (i*es,es)) (plS len 0 es) hpl parts us _ _ out hp hcells hf
  refine ⟨l,?_,h2⟩
  have hne:¬ len*i.size=0:=by rw [hsz];have:=Nat.mul_pos hlen hT.pos;omega
  refine run_buildSlice (P:=P) w t el len ⟨us⟩ ⟨l⟩ i z hT.hu hi hz (by rw [hsz];omega) hne ?_
  subst hsz
  exact h1
theorem Ok.newData (h:Ok e f H B a w) (o:Obj):Ok e f (fun b=>if b=w.heap.size then some o else H b) B a (w.alloc o)/\Le H (fun b=>if b=w.heap.size then some o else H b):=by
 have hold:∀ b,b<w.heap.size->(w.alloc o).heap[b]?=w.heap[b]?:=fun b hb=>Below.heap_alloc w o b hb
 have hlt:∀ b x,H b=some x->b<w.heap.size:=fun b x hb=>(b7.1 (h.sat b x hb)).1
 have hle:Le H (fun b=>if b=w.heap.size then some o else H b):=by
  intro b x hb
  have:=hlt b x hb
  have hne:b≠w.heap.size:=by omega
  simp [hne,hb]
 refine ⟨⟨h.df,h.n,⟨h.ext.os,h.ext.tape,h.ext.output,?_,?_⟩,?_,fun t v hv=>VR.mono hle (fun _ _=>rfl) (h.slot t v hv),?_,?_,h.inj,?_,h.le.trans hle,h.keep,h.tab⟩,hle⟩
 ·have:=h.ext.size;simp;omega
 ·intro b hb hm;have:=h.ext.size;rw [hold b (by omega)];exact h.ext.block b hb hm
 ·intro b x hx
  by_cases e1:b=w.heap.size
  ·subst e1
   simp only [if_true] at hx
   rw [<- hx]
   exact heap_alloc_new w o
  ·simp only [if_neg e1] at hx
   rw [hold b (hlt b x hx)];exact h.sat b x hx
 ·intro n l hn
  exact LR.mono hle rfl (fun _ _=>rfl) (fun b c hb=>hold b (h.priv n l b c hn hb).1) (h.loc n l hn)
 ·intro n l b c hn hb
  obtain ⟨h1,h2,h3⟩:=h.priv n l b c hn hb
  exact ⟨by simp;omega,by simp only [if_neg (show b≠w.heap.size by omega)];exact h2,h3⟩
 ·intro b hb
  have:=h.ext.size
  simp only [if_neg (show b≠w.heap.size by omega)]
  exact h.low b hb
theorem rowAt_of {l:List Value} (hes:∀ r ∈ rows,r.length=es) (h:zat (CR H B) (rows.flatten.map C.d) l):RowAt H l es rows:=by
 intro i r hr f x hx
 have hf:f<es:=by rw [<- hes r (bL hr)];exact (bM.1 hx).1
 have e1:(rows.flatten.map C.d)[i*es+f]?=some (.d x):=by
  rw [bT,flat_at hes i f hf,hr];simp [hx]
 have hlt:i*es+f<l.length:=by rw [<- h.length];exact (bM.1 e1).1
 exact ⟨_,bI hlt,(zat.iff.1 h).2 _ _ _ e1 (bI hlt)⟩
theorem Op.buildD {d len:Nat} {xs:List (Nat × Operand)} {vs:List (Nat × T)} {t:TypeId} {pos af gd} (hT:ElZ P t el es) (h:OPs xs vs rs) (hf:zfk (plS len 0 es) (List.replicate (len*es) .any) vs=some (rows.flatten.map C.d))
  (hlen:rows.length=len) (hes:∀ r ∈ rows,r.length=es) (hl0:0<len) (hsm:len*es<=16777216) :
  zar P ⟨some d,.buildSlice t len ⟨xs⟩,ty,pos,af,gd⟩ { rs:=rs,ws:=[(d,some (.t (.c (.d (.sl es rows)))))] }:=by
 rintro e f a w Q ⟨H,B,hok⟩ hr hnw hb0
 have hp:=h.eval hok hr.1
 obtain ⟨l,h1,h2⟩:=zf5 (P:=P) hT hl0 hsm hp hf w
 obtain ⟨hok', hle⟩:=hok.newData (.cells ⟨l⟩ el)
 have hfl:rows.flatten.length=len*es:=by rw [zf4 hes,hlen]
 have hrow:DR (fun b=>if b=w.heap.size then some (.cells ⟨l⟩ el (0,0)) else H b) (.sl es rows) (.slice (some ⟨w.heap.size,0,none⟩) len len):=by
  have:=zhk (H:=fun b=>if b=w.heap.size then some (.cells ⟨l⟩ el (0,0)) else H b) (es:=es) (b:=w.heap.size) (c:=len) (arr:=l) (ty:=el) (rows:=rows) (if_pos rfl) (by omega) (by
   have:len*1<=len*es:=dA _ hT.pos
   simp only [maxLen];omega) hes (fun i r hr f x hx=>by
    obtain ⟨u,k1,k2⟩:=rowAt_of hes h2 i r hr f x hx
    exact ⟨u,k1,k2.mono hle⟩)
  rwa [hlen] at this
 refine zdx (d:=d) rfl ?_ ⟨_,B,hok'.put (x:=some (.t (.c (.d (.sl es rows))))) (hb0.1 (d,some (.t (.c (.d (.sl es rows))))) (by simp)) (zek f d _ _ rfl) (app0_l f _ rfl) (fun y hy=>by injection hy with hy;subst hy;exact hrow)⟩
 have e1:((⟨xs⟩:Array (Nat × Operand)).map fun x=>(x.1,a.eval x.2))=⟨xs.map fun p=>(p.1,a.eval p.2)⟩:=by simp
 simp only [execOp,e1,Sem.run_bind,h1,Result.andThen_ok,Sem.run_pure]
theorem Op.buildO {d len:Nat} {xs:List (Nat × Operand)} {vs:List (Nat × T)} {t:TypeId} {pos af gd} (hT:ElZ P t el es) (h:OPs xs vs rs) (hf:zfk (plS len 0 es) (List.replicate (len*es) .any) vs=some (rows.flatten.map C.d))
  (hlen:rows.length=len) (hes:∀ r ∈ rows,r.length=es) (hl0:0<len) (hsm:len*es<=16777216) :
  zar P ⟨some d,.buildSlice t len ⟨xs⟩,ty,pos,af,gd⟩ { rs:=rs,ws:=[(d,some (.t (.c (.own n len))))],wl:=[(n,some (.row el es rows))],nw:=[n] }:=by
 refine zar.news d n _ _ rfl rfl rfl (by simp) fun e f H B a w hok hr hn=>?_
 have hp:=h.eval hok hr.1
 obtain ⟨l,h1,h2⟩:=zf5 (P:=P) hT hl0 hsm hp hf w
 have hfl:rows.flatten.length=len*es:=by rw [zf4 hes,hlen]
 have hll:l.length=len*es:=by rw [<- h2.length,bF,hfl]
 refine ⟨.slice (some ⟨w.heap.size,0,none⟩) len len,len,.cells ⟨l⟩ el,?_,?_,?_⟩
 ·have e1:((⟨xs⟩:Array (Nat × Operand)).map fun x=>(x.1,a.eval x.2))=⟨xs.map fun p=>(p.1,a.eval p.2)⟩:=by simp
  simp only [execOp,e1,Sem.run_bind,h1,Result.andThen_ok,Sem.run_pure]
 ·simp only [LR,if_true]
  refine ⟨l,heap_alloc_new w _,hll,by omega,?_,hes,(zbc hll (by omega) hes).2 (rowAt_of hes h2)⟩
  have:len*1<=len*es:=dA _ hT.pos
  simp only [maxLen];omega
 ·simp [VR,TR,CR]
theorem Op.buildE {d:Nat} {t:TypeId} {pos af gd} (hT:ElZ P t el es) :
  zar P ⟨some d,.buildSlice t 0 #[],ty,pos,af,gd⟩ { ws:=[(d,some (.t (.c (.own n 0))))],wl:=[(n,some (.row el es []))],nw:=[n] }:=by
 refine zar.news d n _ _ rfl rfl rfl (by simp) fun e f H B a w hok hr hn=>?_
 obtain ⟨i,z,hi,hz,hsz,hzs,hfl⟩:=hT.ex
 refine ⟨.slice (some ⟨w.heap.size,0,none⟩) 0 0,0,.cells #[] el,?_,?_,?_⟩
 ·have:(Instr.buildSlice t 0 #[]).run P w = .ok (.slice (some ⟨w.heap.size,0,none⟩) 0 0) (w.alloc (.cells #[] el)):=by
   simp [Instr.buildSlice,run_underlying hT.hu,sizeOf,typeInfo,hi,Instr.fill,newRow]
   exact congrArg (fun x=>w.alloc (.cells x el)) (Array.ext' (by simp))
  simp [execOp,this]
 ·simp only [LR,if_true]
  exact ⟨[],heap_alloc_new w _,by simp,bG _,bJ _,by simp,by simp [zat]⟩
 ·simp [VR,TR,CR]
theorem Op.buildED {d:Nat} {t:TypeId} {pos af gd} (hT:ElZ P t el es) :
  zar P ⟨some d,.buildSlice t 0 #[],ty,pos,af,gd⟩ { ws:=[(d,some (.t (.c (.d (.sl es [])))))] }:=by
 rintro e f a w Q ⟨H,B,hok⟩ hr hnw hb0
 obtain ⟨i,z,hi,hz,hsz,hzs,hfl⟩:=hT.ex
 have hrun:(Instr.buildSlice t 0 #[]).run P w = .ok (.slice (some ⟨w.heap.size,0,none⟩) 0 0) (w.alloc (.cells #[] el)):=by
  simp [Instr.buildSlice,run_underlying hT.hu,sizeOf,typeInfo,hi,Instr.fill,newRow]
  exact congrArg (fun x=>w.alloc (.cells x el)) (Array.ext' (by simp))
 obtain ⟨hok', _⟩:=hok.newData (.cells #[] el)
 have hrow:DR (fun b=>if b=w.heap.size then some (.cells #[] el (0,0)) else H b) (.sl es []) (.slice (some ⟨w.heap.size,0,none⟩) 0 0):=DR.nil es _ 0 (fun h=>by cases h) (bJ _)
 refine zdx (d:=d) rfl ?_ ⟨_,B,hok'.put (x:=some (.t (.c (.d (.sl es []))))) (hb0.1 (d,some (.t (.c (.d (.sl es []))))) (by simp)) (zek f d _ _ rfl) (app0_l f _ rfl) (fun y hy=>by injection hy with hy;subst hy;exact hrow)⟩
 simp [execOp,hrun]
end
theorem bD (d:Nat) (rows:List (List D)) {xs:List (Nat × Operand)} {vs:List (Nat × T)} (rs:List (Nat × V)) {t:TypeId} {pos af gd} (hT:ElZ P t el es) (h:OPs xs vs rs) (hf:zfk (plS 1 0 es) (List.replicate (1*es) .any) vs=some (rows.flatten.map C.d)) (hes:∀ r ∈ rows,r.length=es) (hlen:rows.length=1:=by exact rfl) (hsm:1*es<=16777216:=by decide) :
    zar P ⟨some d,.buildSlice t 1 ⟨xs⟩,ty,pos,af,gd⟩ { rs:=rs,ws:=[(d,some (.t (.c (.d (.sl es rows)))))] }:=Op.buildD hT h hf hlen hes (by decide) hsm
def fam0tb:Tb:=[(4,⟨1,false,[],[.d (.raw (.bool false))],3⟩),(2,⟨1,false,[],[.d (.raw (.int .i64 0))],13⟩),(153,⟨1,false,[],[.d (.raw (.int .u64 0))],17⟩),(151,⟨1,false,[],[.d (.raw (.int .u32 0))],16⟩),(3,⟨1,false,[],[.d (.raw (.int .i64 0))],13⟩),(34,⟨1,false,[],[.d (.raw za6)],1⟩),(134,⟨1,false,[],[.d (.raw (.int .u64 0))],17⟩),(9,⟨1,false,[],[.d (.raw (.string ByteArray.empty))],2⟩),(25,⟨1,false,[],[.d (.raw za6)],1⟩),(27,⟨2,true,[(0,1,false),(1,1,false)],[.d (.raw za6),.d (.raw za6)],0⟩),(32,⟨2,true,[(0,1,false),(1,1,false)],[.d (.raw za6),.d (.raw za6)],0⟩),(35,⟨1,false,[],[.d (.raw za6)],1⟩),(22,⟨1,false,[],[.d (.raw za6)],1⟩),(24,⟨3,true,[(0,1,false),(1,1,false),(2,1,false)],[.d (.raw (.int .i64 0)),.d (.raw (.int .i64 0)),.d (.raw za6)],0⟩),(121,⟨1,false,[],[.d (.raw .nilFunc)],4⟩),(91,⟨2,true,[],[.d (.raw za6),.d (.raw za6)],5⟩),(105,⟨1,false,[],[.d (.raw za6)],1⟩),(69,⟨1,false,[],[.d (.raw za6)],1⟩),(140,⟨1,false,[],[.d (.raw za6)],1⟩),(71,⟨4,true,[(0,1,false),(1,1,false),(2,1,false),(3,1,false)],[.d (.raw za6),.d (.raw za6),.d (.raw za6),.d (.raw (.int .i64 0))],0⟩),(62,⟨1,false,[],[.d (.raw za6)],1⟩),(63,⟨1,false,[],[.d (.raw za6)],1⟩),(64,⟨1,false,[],[.d (.raw za6)],1⟩),(66,⟨4,true,[(0,1,false),(1,1,false),(2,1,false),(3,1,false)],[.d (.raw za6),.d (.raw za6),.d (.raw za6),.d (.raw za6)],0⟩),(113,⟨3,true,[(0,1,false),(1,1,false),(2,1,false)],[.d (.raw za6),.d (.raw za6),.d (.raw za6)],0⟩),(83,⟨3,true,[(0,1,false),(1,1,false),(2,1,false)],[.d (.raw za6),.d (.raw za6),.d (.raw za6)],0⟩),(33,⟨1,false,[],[.d (.raw za6)],1⟩),(48,⟨1,false,[],[.d (.raw za6)],1⟩),(50,⟨3,true,[(0,1,false),(1,1,false),(2,1,false)],[.d (.raw za6),.d (.raw za6),.d (.raw za6)],0⟩),(97,⟨5,true,[(0,3,true),(3,2,true)],[.d (.raw za6),.d (.raw za6),.d (.raw za6),.d (.raw za6),.d (.raw za6)],0⟩),(103,⟨2,true,[(0,1,false),(1,1,false)],[.d (.raw (.int .i64 0)),.d (.raw (.int .i64 0))],0⟩),(58,⟨1,false,[],[.d (.raw .nilFunc)],4⟩),(100,⟨1,false,[],[.d (.raw za6)],1⟩),(74,⟨1,false,[],[.d (.raw (.map none))],4⟩),(75,⟨1,false,[],[.d (.raw za6)],1⟩),(77,⟨5,true,[(0,3,true),(3,1,false),(4,1,false)],[.d (.raw za6),.d (.raw za6),.d (.raw za6),.d (.raw (.map none)),.d (.raw za6)],0⟩),(81,⟨2,true,[(0,1,false),(1,1,false)],[.d (.raw (.int .i64 0)),.d (.raw (.int .i64 0))],0⟩),(37,⟨3,true,[(0,1,false),(1,1,false),(2,1,false)],[.d (.raw za6),.d (.raw za6),.d (.raw za6)],0⟩)]
theorem zak:zh4 dZ fam0tb:=tbB_spec (by kernel_rfl)
def za3 (v:Int):List D:=[.raw (.int .i64 v)]
def ziD (x:ZI):List D:=[.raw (.bool x.neg),nsl x.abs]
def strD (x:ByteArray):List D:=[.raw (.string x)]
def za0 (x:Bool):List D:=[.raw (.bool x)]
def slD {α:Type} (es:Nat) (f:α->List D) (xs:List α):List D:=[.sl es (xs.map f)]
theorem zab {β:Type} {xs:List α} {i:Nat} {x:α} (h:xs[i]?=some x) {f:α->β}:(xs.map f)[i]?=some (f x):=by rw [bT,h];rfl
theorem za9 (es:Nat) (f:α->List D) (xs:List α):lenC (.d (.sl es (xs.map f)))=some xs.length:=by simp [lenC]
def vd (l:List D):V:=.t (.agg (l.map C.d))
structure zbl where
  v:Int
  c:ZI
def zbl.d (x:zbl):List D:=[.raw (.int .i64 x.v),.raw (.bool x.c.neg),nsl x.c.abs]
structure zd8 where
  parts:List zbl
  k:ZI
def zd8.d (x:zd8):List D:=[.sl 3 (x.parts.map zbl.d),.raw (.bool x.k.neg),nsl x.k.abs]
abbrev zT (x:zd8):List C:=[.d (.sl 3 (x.parts.map zbl.d))]++zi x.k
abbrev vT (x:zd8):V:=.t (.agg (zT x))
abbrev vPs (x:List zbl):V:=.t (.c (.d (.sl 3 (x.map zbl.d))))
abbrev vIs (x:List Int):V:=.t (.c (.d (.sl 1 (x.map za3))))
abbrev vZs (x:List ZI):V:=.t (.c (.d (.sl 2 (x.map ziD))))
abbrev cPs (x:List zbl):C:=.d (.sl 3 (x.map zbl.d))
abbrev cIs (x:List Int):C:=.d (.sl 1 (x.map za3))
abbrev cZs (x:List ZI):C:=.d (.sl 2 (x.map ziD))
section
variable {P:Program}
theorem Op.rem {d:Nat} {k:IntKind} {m n r:Int} {pos af gd} (h:OV x (vi k m) rs) (h':OV y (vi k n) rs') (hn:n≠0) (he:m.tmod n=r) :
  zar P ⟨some d,.binOp .rem xt x y yt,ty,pos,af,gd⟩ { rs:=rs++rs', ws:=[(d,some (vi k r))] }:=by
 refine Op.raw2 rfl h h' rfl fun ρ w h1 h2=>?_
 simp [execOp,h1,h2,eqGuard,binOp,Op.intDiv,hn,he,go_sem]
theorem Op.shr {d:Nat} {k k':IntKind} {m r:Int} {pos af gd} (h:OV x (vi k m) rs) (h':OV y (vi k' n) rs') (hb:n<=k.bits) (he:m.fdiv (2 ^ n)=r) :
  zar P ⟨some d,.binOp .shr xt x y yt,ty,pos,af,gd⟩ { rs:=rs++rs', ws:=[(d,some (vi k r))] }:=by
 refine Op.raw2 rfl h h' rfl fun ρ w h1 h2=>?_
 have hs:Op.shift .shr k m k' n=pure (.int k r):=by
  unfold Op.shift
  rw [if_neg (by omega)]
  simp only [b9,Nat.min_eq_left hb,he]
 simp [execOp,h1,h2,eqGuard,binOp,hs,go_sem]
end
def zbi:List zbl->Int->Int
  | [],_=>0
  | p :: ps,v=>(if p.v=v/\0<=v then p.c.val else 0)+zbi ps v
theorem coefZ_app (ps qs:List zbl) (v:Int):zbi (ps++qs) v=zbi ps v+zbi qs v:=by
 induction ps with
 | nil=>simp [zbi]
 | cons p ps ih=>simp only [List.cons_append,zbi,ih];omega
def PsOk (L:Nat) (ps:List zbl):Prop:=ps.length<=1000/\∀ p ∈ ps,Lb p.c.abs/\p.c.abs.length<=L
theorem PsOk.take {L:Nat} {ps:List zbl} (h:PsOk L ps) (j:Nat):PsOk L (ps.take j):=⟨by rw [bS];have:=h.1;omega,fun p hp=>h.2 p (cN hp)⟩
variable {p:zbl}
theorem PsOk.get {L:Nat} {ps:List zbl} (h:PsOk L ps) (hp:ps[j]?=some p):Lb p.c.abs/\p.c.abs.length<=L:=h.2 p (bL hp)
theorem zhx {L:Nat}:∀ {ps:List zbl}, (∀ p ∈ ps,Lb p.c.abs/\p.c.abs.length<=L)->∀ v,(zbi ps v).natAbs<=ps.length*pw L
 | [],_,v=>by simp [zbi]
 | p :: ps,h,v=>by
  have ih:=zhx (fun q hq=>h q (by simp [hq])) v (ps:=ps)
  obtain ⟨h1,h2⟩:=h p (by simp)
  have h3:=ZI.abs_lt h1
  have h4:=pw_le h2
  simp only [zbi,cG,bX]
  split <;> omega
theorem coef_len {L:Nat} {ps:List zbl} (h:PsOk L ps) (v:Int):(d4 (zbi ps v)).abs.length<=L+1:=by
 refine ZI.len_of ?_
 have h1:=zhx h.2 v
 have h2:ps.length*pw L<=1000*pw L:=bV _ h.1
 have h3:=pw_pos L
 rw [pw_succ]
 omega
theorem zgv:ElZ dZ 34 3 1:=ElZ.mk' Tryz.underlying34 _ _ rfl rfl
theorem tb_1:SlT dZ 34 3 1:=SlT.mk' Tryz.underlying34 (by kernel_rfl)
theorem tb_2:ElT dZ 34 3 1 8:=ElT.mk' Tryz.underlying34 _ _ rfl rfl
theorem zal {xs:List α} {x:α} (h:xs[j]?=some x):j<xs.length:=(bM.1 h).1
def zbw (v:Int) (s:List Int × Bool) (x:Int):List Int × Bool :=
  let s1:=if s.2=false/\v<=x then (s.1++[v],true) else s
  if x≠v then (s1.1++[x],s1.2) else s1
def insZ (list:List Int) (v:Int):List Int :=
  let r:=list.foldl (zbw v) ([],false)
  if r.2 then r.1 else r.1++[v]
theorem insStep_len (v:Int) (s:List Int × Bool) (x:Int):(zbw v s x).1.length+s.2.toNat<=s.1.length+1+(zbw v s x).2.toNat:=by
 obtain ⟨l,b⟩:=s
 unfold zbw
 cases b <;> by_cases h1:v<=x <;> by_cases h2:x=v <;> simp [h1,h2]
theorem insFold_len (v:Int):∀ (list:List Int) (s:List Int × Bool),(list.foldl (zbw v) s).1.length+s.2.toNat<=s.1.length+list.length+(list.foldl (zbw v) s).2.toNat
 | [],s=>by simp
 | x :: xs,s=>by
  have ih:=insFold_len v xs (zbw v s x)
  have h1:=insStep_len v s x
  simp only [cH,cG]
  omega
theorem insZ_len (list:List Int) (v:Int):(insZ list v).length<=list.length+1:=by
 have h:=insFold_len v list ([],false)
 unfold insZ
 cases hr:(list.foldl (zbw v) ([],false)).2 <;> simp [hr] at h ⊢ <;> omega
def zdj (ps:List zbl) (out:List Int) (p:zbl):List Int:=if zbi ps p.v≠0 then insZ out p.v else out
def varsZ (ps:List zbl):List Int:=ps.foldl (zdj ps) []
def zbg (t:zd8):zd8:=⟨(varsZ t.parts).map fun v=>⟨v,d4 (zbi t.parts v)⟩,d4 t.k.val⟩
theorem zgs (qs:List zbl):∀ (ps:List zbl) (out:List Int),(ps.foldl (zdj qs) out).length<=out.length+ps.length
 | [],out=>by simp
 | p :: ps,out=>by
  have ih:=zgs qs ps (zdj qs out p)
  have h1:(zdj qs out p).length<=out.length+1:=by
   unfold zdj
   split
   ·exact insZ_len out p.v
   ·omega
  simp only [cH,cG]
  omega
theorem varsZ_len (ps:List zbl):(varsZ ps).length<=ps.length:=by have h:=zgs ps ps [];simp at h;exact h
structure TOk (n L:Nat) (t:zd8):Prop where
  len:t.parts.length<=n
  ps:∀ p ∈ t.parts,Lb p.c.abs/\p.c.abs.length<=L
  kb:Lb t.k.abs
  kl:t.k.abs.length<=L
variable {t:zd8}
theorem TOk.mono {L L':Nat} (h:TOk n L t) (hn:n<=n') (hL:L<=L'):TOk n' L' t :=
 ⟨bH h.len hn,fun p hp=>⟨(h.ps p hp).1,bH (h.ps p hp).2 hL⟩,h.kb,bH h.kl hL⟩
theorem TOk.get {L:Nat} (h:TOk n L t) (hp:t.parts[j]?=some p):Lb p.c.abs/\p.c.abs.length<=L:=h.ps p (bL hp)
theorem TOk.plain {L:Nat} (h:TOk n L t) (hn:n<=1000):TOk n (L+1) (zbg t):=by
 refine ⟨?_,?_,ZI.lb_of _,?_⟩
 ·simp only [zbg,bF];exact bH (varsZ_len _) h.len
 ·intro p hp
  simp only [zbg,bK] at hp
  obtain ⟨v,_,rfl⟩:=hp
  exact ⟨ZI.lb_of _,coef_len (L:=L) ⟨bH h.len hn,h.ps⟩ v⟩
 ·have:=len_id h.kb;simp only [zbg];have:=h.kl;omega
def addT (a b:zd8):zd8:=zbg ⟨a.parts++b.parts,d4 (a.k.val+b.k.val)⟩
def mulT (a:zd8) (n:ZI):zd8:=⟨a.parts.map fun p=>⟨p.v,d4 (p.c.val*n.val)⟩,d4 (a.k.val*n.val)⟩
def scaleT (a:zd8) (n:ZI):zd8:=zbg (mulT a n)
def numT (k:ZI):zd8:=⟨[],d4 k.val⟩
def oneT (v:Int):zd8:=⟨[⟨v,d4 1⟩],⟨false,[]⟩⟩
def varT (v:Int):zd8:=zbg (oneT v)
theorem TOk.add {L:Nat} {s:zd8} (hs:TOk n L s) (ht:TOk m L t) (r:ZI) (hr:Lb r.abs) (lr:r.abs.length<=L+L+1):TOk (n+m) (L+L+1) ⟨s.parts++t.parts,r⟩:=by
 refine ⟨?_,?_,hr,lr⟩
 ·simp only [bY];have:=hs.len;have:=ht.len;omega
 ·intro p hp
  rcases bE.1 hp with h | h
  ·exact ⟨(hs.ps p h).1,by have:=(hs.ps p h).2;omega⟩
  ·exact ⟨(ht.ps p h).1,by have:=(ht.ps p h).2;omega⟩
theorem TOk.one {v:Int}:TOk 1 2 (oneT v):=⟨bG _,fun p hp=>by
 simp only [oneT,bA] at hp
 subst hp
 exact ⟨ZI.lb_of _,show (d4 1).abs.length<=2 from by decide⟩,Lb_nil,bJ _⟩
theorem TOk.mul {L:Nat} {q:ZI} (ht:TOk n L t) (hq:Lb q.abs) (lq:q.abs.length<=M):TOk n (L+M) (mulT t q):=by
 refine ⟨by simp only [mulT,bF];exact ht.len,?_,ZI.lb_of _,?_⟩
 ·intro p hp
  simp only [mulT,bK] at hp
  obtain ⟨r,hr,rfl⟩:=hp
  obtain ⟨h1,h2⟩:=ht.ps r hr
  exact ⟨ZI.lb_of _,by have:=len_mul h1 hq;simp only;omega⟩
 ·have:=len_mul ht.kb hq;have:=ht.kl;simp only [mulT];omega
def subT (s t:zd8):zd8:=addT s (scaleT t (d4 (-1)))
section
variable {α:Type} (v:α->Int)
def Stb (xs ys:List α):Prop:=∀ k:Int,xs.filter (fun x=>decide (v x=k))=ys.filter (fun x=>decide (v x=k))
def Ris:List α->Prop
  | []=>True
  | x :: xs=>(∀ y ∈ xs,v x<=v y)/\Ris xs
variable {v}
theorem Stb.refl (xs:List α):Stb v xs xs:=fun _=>rfl
theorem Stb.symm {xs ys:List α} (h:Stb v xs ys):Stb v ys xs:=fun k=>(h k).symm
theorem Stb.trans {xs ys zs:List α} (h:Stb v xs ys) (g:Stb v ys zs):Stb v xs zs:=fun k=>(h k).trans (g k)
theorem Stb.app {xs ys zs us:List α} (h:Stb v xs ys) (g:Stb v zs us):Stb v (xs++zs) (ys++us):=fun k=>by rw [cO,cO,h k,g k]
theorem Stb.mem {xs ys:List α} (h:Stb v xs ys) {x:α} (hx:x ∈ xs):x ∈ ys:=by
 have h1:x ∈ xs.filter (fun y=>decide (v y=v x)):=bN.2 ⟨hx,by simp⟩
 rw [h (v x)] at h1
 exact (bN.1 h1).1
theorem Stb.swap {xs ys:List α} (h:∀ x ∈ xs,∀ y ∈ ys,v x≠v y):Stb v (xs++ys) (ys++xs):=by
 intro k
 rw [cO,cO]
 by_cases hx:∃ x ∈ xs,v x=k
 ·obtain ⟨x,hx,rfl⟩:=hx
  have:ys.filter (fun y=>decide (v y=v x))=[]:=dM.2 fun y hy=>by simpa using fun e=>h x hx y hy e.symm
  rw [this];simp
 ·have:xs.filter (fun x=>decide (v x=k))=[]:=dM.2 fun x hx2=>by simpa using fun e=>hx ⟨x,hx2,e⟩
  rw [this];simp
theorem Stb.nil {ys:List α} (h:Stb v [] ys):ys=[]:=by
 cases ys with
 | nil=>rfl
 | cons y ys=>exact absurd (h.symm.mem (bO ..)) (by simp)
theorem Ris.unique:∀ {xs ys:List α}, Ris v xs->Ris v ys->Stb v xs ys->xs=ys
 | [],ys,_,_,h=>h.nil.symm
 | x :: xs,[],_,_,h=>absurd (h.mem (bO ..)) (by simp)
 | x :: xs,y :: ys,hx,hy,h=>by
  have h1:v y<=v x:=by
   rcases bB.1 (h.mem (bO ..)) with e | e
   ·rw [e];exact cP _
   ·exact hy.1 x e
  have h2:v x<=v y:=by
   rcases bB.1 (h.symm.mem (bO ..)) with e | e
   ·rw [e];exact cP _
   ·exact hx.1 y e
  have hv:v x=v y:=by omega
  have hk:=h (v x)
  simp only [cA,decide_true,hv,if_true] at hk
  injection hk with e1 _
  subst e1
  have ht:Stb v xs ys:=by
   intro k
   have:=h k
   simp only [cA] at this
   split at this
   ·injection this
   ·exact this
  rw [Ris.unique hx.2 hy.2 ht]
theorem Ris.app {xs ys:List α}:Ris v (xs++ys) ↔ Ris v xs/\Ris v ys/\∀ x ∈ xs,∀ y ∈ ys,v x<=v y:=by
 induction xs with
 | nil=>simp [Ris]
 | cons x xs ih =>
  simp only [List.cons_append,Ris,ih,bE,bB]
  constructor
  ·rintro ⟨h1,h2,h3,h4⟩
   refine ⟨⟨fun y hy=>h1 y (.inl hy),h2⟩,h3,?_⟩
   rintro z (rfl | hz) y hy
   ·exact h1 y (.inr hy)
   ·exact h4 z hz y hy
  ·rintro ⟨⟨h1,h2⟩,h3,h4⟩
   refine ⟨?_,h2,h3,fun z hz y hy=>h4 z (.inr hz) y hy⟩
   rintro y (hy | hy)
   ·exact h1 y hy
   ·exact h4 x (.inl rfl) y hy
theorem Stb.length {xs ys:List α}:∀ (n:Nat) (_:xs.length=n) (_:Stb v xs ys),xs.length=ys.length:=by
 intro n
 induction n generalizing xs ys with
 | zero=>intro h hs;rw [cQ.1 h] at hs ⊢;rw [hs.nil]
 | succ n ih =>
  intro h hs
  cases xs with
  | nil=>cases h
  | cons x xs =>
   have hx:=hs.mem (bO ..)
   obtain ⟨y1,y2,rfl,hn⟩:∃ y1 y2,ys=y1++x :: y2/\∀ y ∈ y1,v y≠v x:=by
    have hk:=hs (v x)
    simp only [cA,decide_true,if_true] at hk
    clear h hs ih hx
    induction ys with
    | nil=>simp at hk
    | cons y ys ih2 =>
     by_cases e:v y=v x
     ·simp only [cA,e,decide_true,if_true] at hk
      injection hk with e1 _
      exact ⟨[],ys,by rw [e1];rfl,by simp⟩
     ·simp only [cA,e,decide_false,Bool.false_eq_true,if_false] at hk
      obtain ⟨y1,y2,rfl,h2⟩:=ih2 hk
      exact ⟨y :: y1,y2,rfl,fun z hz=>by rcases bB.1 hz with rfl | hz;exact e;exact h2 z hz⟩
   have hs2:Stb v (y1++x :: y2) (x :: (y1++y2)):=by
    have:=(Stb.swap (v:=v) (xs:=y1) (ys:=[x]) fun a ha b hb=>by rw [bA.1 hb];exact hn a ha).app (Stb.refl y2)
    simpa using this
   have hs3:=hs.trans hs2
   have ht:Stb v xs (y1++y2):=by
    intro k
    have:=hs3 k
    simp only [cA] at this
    split at this
    ·injection this
    ·exact this
   have:=ih (by simpa using h) ht
   simp only [cG,bY] at this ⊢
   omega
end
theorem zfg {xs:List α} {F:α->List D} (i:Nat) (x0:List D) (x1:α) {fo:Nat} {ds:List D} (h:zg5 x0 fo ds=F x1):(xs.map F).set i (zg5 x0 fo ds)=(xs.set i x1).map F:=by rw [h,List.map_set]
theorem len_nil {l:List α} (h:l.length=0):l=[]:=cQ.1 h
theorem half (x:Nat):(x:Int).fdiv (2 ^ 1)=((x / 2:Nat):Int):=by
 rw [Int.fdiv_eq_ediv_of_nonneg _ (by decide)];omega
inductive BO:Option Operand->Nat->Nat->List (Nat × V)->Prop
  | no (n:Nat):BO none n n []
  | yes {y:Operand} {k:IntKind} {i:Nat} {rs:List (Nat × V)} (n:Nat) (h:OV y (vi k i) rs):BO (some y) n i rs
section
variable {P:Program}
theorem BO.low {x:Option Operand} {l:Nat} (hx:BO x 0 l rs) (hok:Ok e f H B a w) (hr:∀ p ∈ rs,f.s p.1=some p.2) (hl:l<=h) (c:BoundsCode) :
  (match x.map a.eval with | some v=>Instr.sliceBound v h c | none=>pure 0).run P w = .ok l w:=by
 cases hx with
 | no=>simp
 | yes _ hv =>
  have h2:=(hv.eval hok hr).rawI
  simp only [bP]
  rw [h2,run_sliceBound (P:=P) w _ _ h c (by omega) (by omega)]
  simp
theorem BO.high {x:Option Operand} {l:Nat} (hx:BO x n l rs) (hok:Ok e f H B a w) (hr:∀ p ∈ rs,f.s p.1=some p.2) (hl:l<=h) (c:BoundsCode) :
  (match x.map a.eval with | some v=>Instr.sliceBound v h c | none=>pure n).run P w = .ok l w:=by
 cases hx with
 | no=>simp
 | yes _ hv =>
  have h2:=(hv.eval hok hr).rawI
  simp only [bP]
  rw [h2,run_sliceBound (P:=P) w _ _ h c (by omega) (by omega)]
  simp
theorem zf0 {lo hi:Option Operand} {len cap l:Nat} {is:Bool} (hl:BO lo 0 l rs) (hh:BO hi len h rs') (hok:Ok e f H B a w) (hr:∀ p ∈ rs,f.s p.1=some p.2) (hr':∀ p ∈ rs', f.s p.1=some p.2)
  (h1:l<=h) (h2:h<=cap):(Instr.sliceBounds is len cap (lo.map a.eval) (hi.map a.eval) none).run P w = .ok (l,h,cap) w:=by
 have g1:=hl.low (P:=P) hok hr h1 .sliceB
 have g2:=hh.high (P:=P) hok hr' h2 (if is then .sliceAcap else .sliceAlen)
 cases lo with
 | none =>
  cases hi with
  | none=>cases hl;cases hh;simp [Instr.sliceBounds]
  | some y=>simp only [bP,Option.map_none] at g1 g2 ⊢;cases hl;simp [Instr.sliceBounds,g2]
 | some x =>
  cases hi with
  | none=>simp only [bP,Option.map_none] at g1 g2 ⊢;cases hh;simp [Instr.sliceBounds,g1]
  | some y=>simp only [bP] at g1 g2 ⊢;simp [Instr.sliceBounds,g1,g2]
theorem ze0 {t:TypeId} (hs:SlT P t el es) {len cap l:Nat} {lo hi:Option Value} (hb:(Instr.sliceBounds true len cap lo hi none).run P w = .ok (l,h,cap) w) :
  (Instr.sliceAt t (.slice ao len cap) lo hi none).run P w = .ok (.slice (if cap=l then ao else ao.map (·.add (l*es))) (h - l) (cap - l)) w:=by
 simp only [Instr.sliceAt,Instr.slice,Sem.run_bind,run_underlying hs.hu,Result.andThen_ok,hb,zhi hs.hs,Sem.run_pure]
theorem Op.sliceD {d t l:Nat} {lo hi:Option Operand} {pos af gd} (hs:SlT P xt el es) (hl:BO lo 0 l rs) (hh:BO hi rows.length h rs') (h1:l<=h) (h2:h<=rows.length) (he:(rows.drop l).take (h - l)=rows') :
  zar P ⟨some d,.slice xt (.tmp t) lo hi none,ty,pos,af,gd⟩ { rs:=(t,.t (.c (.d (.sl es rows)))) :: (rs++rs'),ws:=[(d,some (.t (.c (.d (.sl es rows')))))] } :=
 zar.value d _ rfl rfl rfl fun e f H B a w hok hr2=>by
  have g1:=hok.slot t _ (hr2.1 (t,.t (.c (.d (.sl es rows)))) (by simp))
  have g3:DR H (.sl es rows) (a.eval (.tmp t)):=g1
  have bounds:∀ cap,rows.length<=cap->(Instr.sliceBounds true rows.length cap (lo.map a.eval) (hi.map a.eval) none).run P w = .ok (l,h,cap) w:=fun cap hc =>
   zf0 hl hh hok (fun p hp=>hr2.1 p (by simp [hp])) (fun p hp=>hr2.1 p (by simp [hp])) h1 (by omega)
  generalize hv0:a.eval (.tmp t)=v at g3
  subst he
  cases g3 with
  | nil _ ao c k1 k2 =>
   obtain rfl:h=0:=by simpa using h2
   obtain rfl:l=0:=by omega
   have hrun:=ze0 (ao:=ao) hs (bounds c (bJ _))
   refine ⟨.slice (if c=0 then ao else ao.map (·.add (0*es))) (0 - 0) (c - 0),?_,?_⟩
   ·generalize a.eval=ρ at hv0 hrun ⊢
    have hrun':(Instr.sliceAt xt (ρ (.tmp t)) (lo.map ρ) (hi.map ρ) ((none:Option Operand).map ρ)).run P w = .ok (.slice (if c=0 then ao else ao.map (·.add (0*es))) (0 - 0) (c - 0)) w:=by rw [hv0];exact hrun
    simp only [execOp,Sem.run_bind,hrun', Result.andThen_ok,Sem.run_pure]
   ·show DR H _ _
    simp only [List.drop_nil,List.take_nil,Nat.sub_zero]
    refine DR.nil es _ c (fun hn=>?_) k2
    split at hn
    ·exact k1 hn
    ·cases ao with
     | none=>exact k1 rfl
     | some _=>cases hn
  | sl _ _ b o c arr ty' fz vs hp hb hlc hc hes hv hx =>
   have hrun:=ze0 (ao:=some ⟨b,o,none⟩) hs (bounds c hlc)
   refine ⟨.slice (if c=l then some ⟨b,o,none⟩ else (some (⟨b,o,none⟩:Addr)).map (·.add (l*es))) (h - l) (c - l),?_,?_⟩
   ·generalize a.eval=ρ at hv0 hrun ⊢
    have hrun':(Instr.sliceAt xt (ρ (.tmp t)) (lo.map ρ) (hi.map ρ) ((none:Option Operand).map ρ)).run P w = .ok (.slice (if c=l then some ⟨b,o,none⟩ else (some (⟨b,o,none⟩:Addr)).map (·.add (l*es))) (h - l) (c - l)) w:=by rw [hv0];exact hrun
    simp only [execOp,Sem.run_bind,hrun', Result.andThen_ok,Sem.run_pure]
   ·show DR H _ _
    by_cases h0:h - l=0
    ·rw [h0,List.take_zero]
     refine DR.nil es _ _ (fun hn=>?_) (by omega)
     split at hn <;> cases hn
    ·have hlen:((rows.drop l).take (h - l)).length=h - l:=by rw [bS,cR];omega
     rw [if_neg (by omega)]
     simp only [bP,Addr.add_mid]
     have:=DR.sl (H:=H) es ((rows.drop l).take (h - l)) b (o+l*es) (c - l) arr ty' fz (fun i j=>vs (l+i) j) (by omega) hb (by omega) (by omega) (fun i hi2=>by
       rw [cJ,List.getElem_drop];exact hes _ _)
      (fun i hi2 j hj=>by
       have:=hv (l+i) (by omega) j hj
       rw [bX] at this
       rw [<- this];congr 1;omega)
      (fun i hi2 j hj=>by
       have e1:((rows.drop l).take (h - l))[i]=rows[l+i]'(by omega):=by rw [cJ,List.getElem_drop]
       have hj':j<(rows[l+i]'(by omega)).length:=by rw [<- e1];exact hj
       have e2:((rows.drop l).take (h - l))[i][j]=(rows[l+i]'(by omega))[j]:=by simp only [e1]
       rw [e2];exact hx (l+i) (by omega) j hj')
     rwa [hlen] at this
theorem Ok.ownCap (h:Ok e f H B a w) (hl:f.l n=some (.row ty es rows)) {len:Nat} (hk:k<=rows.length) (hv:CR H B (.own n len) v) :
  ∃ ao c,v = .slice ao len c/\k<=c/\((B n=none/\len=0/\c=0)\/∃ b,B n=some (b,c)/\ao=some ⟨b,0,none⟩):=by
 simp only [CR] at hv
 cases hB:B n with
 | none =>
  rw [hB] at hv
  obtain ⟨rfl,ao,rfl⟩:=hv
  have h1:=h.loc n _ hl
  simp only [LR,hB] at h1
  rw [h1] at hk
  exact ⟨ao,0,rfl,hk,.inl ⟨rfl,rfl,rfl⟩⟩
 | some q =>
  obtain ⟨b,c⟩:=q
  rw [hB] at hv
  obtain ⟨arr,g1,g2,g3,g4,g5,g6⟩:=h.row hl hB
  exact ⟨_,c,hv,by omega,.inr ⟨b,rfl,rfl⟩⟩
theorem Op.sliceLo {d t len l:Nat} {k:IntKind} {pos af gd} (hs:SlT P xt el es) (hlen:len<=rows.length) (hy:OV y (vi k l) rs) (h1:l<=len) {len':Nat} (he:len - l=len') :
  zar P ⟨some d,.slice xt (.tmp t) (some y) none none,ty,pos,af,gd⟩ { rs:=(t,.t (.c (.own n len))) :: rs,rl:=[(n,.row rty es rows)],ws:=[(d,some (.t (.c (.sub n (l*es) len'))))] } :=
 zar.value d _ rfl rfl rfl fun e f H B a w hok hr2=>by
  have g1:=hok.slot t _ (hr2.1 (t,.t (.c (.own n len))) (by simp))
  obtain ⟨ao,c,hv,hc,hB⟩:=hok.ownCap (hr2.2 (n,.row rty es rows) (by simp)) hlen g1
  have hv:a.eval (.tmp t) = .slice ao len c:=hv
  subst he
  have hb:=zf0 (P:=P) (is:=true) (lo:=some y) (hi:=none) (len:=len) (cap:=c) (BO.yes 0 hy) (BO.no len) hok (fun p hp=>hr2.1 p (by simp [hp])) (fun p hp=>by cases hp) h1 hc
  have hrun:=ze0 (ao:=ao) hs hb
  refine ⟨.slice (if c=l then ao else ao.map (·.add (l*es))) (len - l) (c - l),?_,⟨⟨_,_,rfl⟩,fun hlt=>?_⟩⟩
  ·generalize a.eval=ρ at hv hrun ⊢
   have hrun':(Instr.sliceAt xt (ρ (.tmp t)) ((some y).map ρ) ((none:Option Operand).map ρ) ((none:Option Operand).map ρ)).run P w = .ok (.slice (if c=l then ao else ao.map (·.add (l*es))) (len - l) (c - l)) w:=by rw [hv];exact hrun
   simp only [execOp,Sem.run_bind,hrun', Result.andThen_ok,Sem.run_pure]
  ·rcases hB with ⟨_,h3,_⟩ | ⟨b,h3,rfl⟩
   ·omega
   ·refine ⟨b,c,c - l,h3,?_⟩
    rw [if_neg (by omega)]
    simp only [bP,Addr.add_mid,bU]
theorem Op.sliceHi {d t len:Nat} {k:IntKind} {pos af gd} (hs:SlT P xt el es) (hlen:h<=rows.length) (hy:OV y (vi k h) rs) :
  zar P ⟨some d,.slice xt (.tmp t) none (some y) none,ty,pos,af,gd⟩ { rs:=(t,.t (.c (.own n len))) :: rs,rl:=[(n,.row rty es rows)],ws:=[(d,some (.t (.c (.own n h))))] } :=
 zar.value d _ rfl rfl rfl fun e f H B a w hok hr2=>by
  have g1:=hok.slot t _ (hr2.1 (t,.t (.c (.own n len))) (by simp))
  obtain ⟨ao,c,hv,hc,hB⟩:=hok.ownCap (hr2.2 (n,.row rty es rows) (by simp)) hlen g1
  have hv:a.eval (.tmp t) = .slice ao len c:=hv
  have hb:=zf0 (P:=P) (is:=true) (lo:=none) (hi:=some y) (len:=len) (cap:=c) (BO.no 0) (BO.yes len hy) hok (fun p hp=>by cases hp) (fun p hp=>hr2.1 p (by simp [hp])) (bJ _) (by omega)
  have hrun:=ze0 (ao:=ao) hs hb
  have e1:(if c=0 then ao else ao.map (·.add (0*es)))=ao:=by
   split
   ·rfl
   ·rcases hB with ⟨_,_,h3⟩ | ⟨b,h3,rfl⟩
    ·omega
    ·simp [Addr.add_mid]
  rw [e1] at hrun
  refine ⟨.slice ao h c,?_,?_⟩
  ·generalize a.eval=ρ at hv hrun ⊢
   have hrun':(Instr.sliceAt xt (ρ (.tmp t)) ((none:Option Operand).map ρ) ((some y).map ρ) ((none:Option Operand).map ρ)).run P w = .ok (.slice ao h c) w:=by rw [hv];exact hrun
   simp only [execOp,Sem.run_bind,hrun', Result.andThen_ok,Sem.run_pure]
  ·show CR H B (.own n h) _
   simp only [CR]
   rcases hB with ⟨h2,h3,h4⟩ | ⟨b,h3,rfl⟩
   ·rw [h2];exact ⟨by omega,ao,by rw [show h=0 by omega,h4]⟩
   ·rw [h3]
theorem Op.clearCut {o:Option Nat} {t off len l:Nat} {zs:List C} {pos af gd} (hu:P.underlying xt=some (.slice el)) (hz:Zero P el zs) (hzl:zs.length=es) (ho:off=l*es) (hlen:l+len=rows.length)
  (x:List (Nat × Option V)) (hx:x=(match o with | none=>[] | some d=>[(d,some (.tup []))])) :
  zar P ⟨o,.call { callee:=.builtin .clear,args:=#[.tmp t],argTypes:=#[xt] }, ty,pos,af,gd⟩ { rs:=[(t,.t (.c (.sub n off len)))],rl:=[(n,.row rty es rows)],ws:=x,wl:=[(n,some (.row rty es (rows.take l)))] }:=by
 rintro e f a w Q ⟨H,B,hok⟩ hr2 hnw hb0
 have hfl:=hr2.2 (n,.row rty es rows) (by simp)
 have hv:CR H B (.sub n off len) (a.eval (.tmp t)):=hok.slot t _ (hr2.1 (t,.t (.c (.sub n off len))) (by simp))
 obtain ⟨⟨ao,c,hv⟩,hv2⟩:=hv
 obtain ⟨z,zl,hz1,hz2,hz3⟩:=hz.ex
 have hzl2:zl.length=es:=by rw [<- (hz3 H B).length];exact hzl
 -- the run
 obtain ⟨w', hrun,hw'⟩:∃ w', (Builtin.clear_ #[xt] ty #[a.eval (.tmp t)]).run P w = .ok (.tuple #[]) w'/\Ok e ⟨f.s,fun m=>if m=n then some (.row rty es (rows.take l)) else f.l m⟩ H B a w':=by
  have cut:Ok e ⟨f.s,fun m=>if m=n then some (.row rty es (rows.take l)) else f.l m⟩ H B a w:=by
   obtain ⟨H', B', h'⟩:=(show St e f a w from ⟨H,B,hok⟩).cutR n l es rty hfl
   have h1:=hok.setL n _ (.row rty es (rows.take l)) hfl fun hu=>by
    simp only [LR] at hu ⊢
    split at hu
    ·rw [hu];simp
    ·obtain ⟨arr,h1,h2,h3,h4,h5,h6⟩:=hu
     have h5':∀ r ∈ rows.take l,r.length=es:=fun r hr=>h5 r (cN hr)
     have h3':(rows.take l).length<=_:=bH (by rw [bS];omega) h3
     refine ⟨arr,h1,h2,h3', h4,h5', (zbc h2 h3' h5').2 fun i r hr f x hx=>?_⟩
     rw [List.getElem?_take] at hr
     split at hr
     ·exact (zbc h2 h3 h5).1 h6 i r hr f x hx
     ·cases hr
   refine ⟨h1.df,h1.n,h1.ext,h1.sat,h1.slot,fun m y hy=>h1.loc m y ?_,fun m y b c hy=>h1.priv m y b c ?_,fun m k y y' b c c' hy hy'=>h1.inj m k y y' b c c' ?_ ?_,h1.low,h1.le,h1.keep,h1.tab⟩ <;> (simp only [F.setL];first | (simpa using hy) | (simpa using hy'))
  by_cases h0:len=0
  ·subst h0
   refine ⟨w,?_,cut⟩
   rw [hv]
   cases ao <;> simp [Builtin.clear_,run_underlying hu]
  ·obtain ⟨b,cc,k,hB,hv3⟩:=hv2 (by omega)
   obtain ⟨arr,hcl,h2,h3,h4,h5,h6⟩:=hok.row hfl hB
   have hzc:((Builtin.zeroCells z.cells len).toList).length=len*es:=by simp [Builtin.zeroCells,hz2,hzl2]
   have hle:rows.length*es<=cc*es:=bV _ h3
   have hfit:off+len*es<=arr.length:=by rw [h2,ho,<- bX,hlen];exact hle
   obtain ⟨k1,k2,k3,k4,k5,k6⟩:=zcr (Builtin.zeroCells z.cells len).toList off w arr hcl
   refine ⟨w.setCells b off (Builtin.zeroCells z.cells len).toList,?_,?_⟩
   ·have hst:=run_storeCells_cells (P:=P) b off (Builtin.zeroCells z.cells len).toList 0 w (fun j hj=>by
     rw [zc8 hcl (o:=off+0+j) (v:=arr[off+0+j]'(by omega)) (bI _)];rfl) (fun j hj=>by simp [World.frozen?, hcl]) (fun v hv=>by
     simp only [Builtin.zeroCells,hz2,c8,bK] at hv
     obtain ⟨i,hi,rfl⟩:=hv
     have hm:i % zl.length<zl.length:=by
      refine cF _ (Nat.pos_of_ne_zero fun e0=>?_)
      have hi':i<len*zl.length:=by simpa using hi
      rw [e0] at hi';omega
     have e1:((⟨zl⟩:Array Value)[i % (⟨zl⟩:Array Value).size]!)=zl[i % zl.length]:=by simp [hm]
     rw [e1]
     obtain ⟨y,hy,hR⟩:=(hz3 H B).get (i % zl.length) (by rw [(hz3 H B).length];exact hm)
     rw [bI hm] at hy
     injection hy with hy
     rw [hy]
     exact zf3 (CR.flat hR))
    have hzv:∀ w', (zeroValue el).run P w' = .ok z w':=fun w'=>Zero.run hz1 w'
    rw [hv3]
    cases len with
    | zero=>omega
    | succ m =>
     simp at hst
     simp [Builtin.clear_,hst,run_underlying hu,hzv]
   ·refine (hok.write (g:=⟨f.s,fun m=>if m=n then some (.row rty es (rows.take l)) else f.l m⟩) (l' := .row rty es (rows.take l)) hfl hB (fun _=>rfl) (fun _=>rfl) k2 k3 k4 k5 k6 ?_)
    simp only [LR,hB]
    have h5':∀ r ∈ rows.take l,r.length=es:=fun r hr=>h5 r (cN hr)
    have h3':(rows.take l).length<=cc:=bH (by rw [bS];omega) h3
    refine ⟨zg5 arr off (Builtin.zeroCells z.cells len).toList,k1,by rw [zbz];exact h2,h3', h4,h5', (zbc (by rw [zbz];exact h2) h3' h5').2 fun i r hr f x hx=>?_⟩
    rw [List.getElem?_take] at hr
    split at hr
    ·rename_i hil
     obtain ⟨u,j1,j2⟩:=h6 i r hr f x hx
     have hf:f<es:=by rw [<- h5 r (bL hr)];exact (bM.1 hx).1
     have:(i+1)*es<=l*es:=bV _ hil
     rw [bX] at this
     refine ⟨u,?_,j2⟩
     rw [zfq _ arr off _ (by omega),if_neg (by omega)]
     exact j1
    ·cases hr
 have hex:(execOp a.eval ⟨o,.call { callee:=.builtin .clear,args:=#[.tmp t],argTypes:=#[xt] }, ty,pos,af,gd⟩).run P w = .ok (.value (.tuple #[])) w':=by
  generalize a.eval=ρ at hrun ⊢
  have e1:(Array.map ρ #[.tmp t])=#[ρ (.tmp t)]:=by simp
  simp only [execOp,resolve,e1,Sem.run_bind,Sem.run_pure,Result.andThen_ok,invoke,builtin,hrun]
 unfold Oper.wp
 rw [hex,Oper.upon_value]
 subst hx
 cases o with
 | none=>exact St.put0 ⟨H,B,hw'⟩ rfl (app0_s _ _ rfl) (fun m=>zh3 f n _ _ rfl m)
 | some d=>exact ⟨H,B,hw'.put (x:=some (.tup [])) (hb0.1 (d,some (.tup [])) (by simp)) (zek f d _ _ rfl) (fun m=>zh3 f n _ _ rfl m) (fun y hy=>by injection hy with hy;subst hy;exact ⟨[],rfl,trivial⟩)⟩
theorem Op.clearCut' {o:Option Nat} {t off len l:Nat} {zs:List C} {pos af gd} (hu:P.underlying xt=some (.slice el)) (hz:Zero P el zs) (hzl:zs.length=es) (ho:off=l*es) (hlen:l+len=rows.length)
  (x:List (Nat × Option V)) (hx:x=(match o with | none=>[] | some d=>[(d,some (.tup []))])) (hr:rows.take l=rows') :
  zar P ⟨o,.call { callee:=.builtin .clear,args:=#[.tmp t],argTypes:=#[xt] }, ty,pos,af,gd⟩ { rs:=[(t,.t (.c (.sub n off len)))],rl:=[(n,.row rty es rows)],ws:=x,wl:=[(n,some (.row rty es rows'))] }:=by
 subst hr
 exact Op.clearCut hu hz hzl ho hlen x hx
theorem midH {N:Nat} {Q:Exit->Act->World->Prop} {x y:Code} (_h:St ⟨w0,H0,B0,K,N⟩ (F.of sl lc) a w) (sl':List (Nat × V)) (lc':List (Nat × L))
  (hx:x.wp P (Exit.then (fun a w=>St ⟨w0,H0,B0,K,N⟩ (F.of sl' lc') a w) Q) a w) (hy:∀ a w,St ⟨w0,H0,B0,K,N⟩ (F.of sl' lc') a w->y.wp P Q a w):(Code.seq x y).wp P Q a w:=midS sl' lc' hx hy
theorem nilDSr {N:Nat} (t j es:Nat) (v:V) (ao:Option Addr) (c:Nat) (h1:ao=none->c=0) (h2:c<=maxLen) (sl':List (Nat × V)) (lc':List (Nat × L)) (h:St ⟨w0,H0,B0,K,N⟩ (F.of sl lc) a w) (hv:sl.lookup t=some v) (hg:v.getC j=some (.d (.raw (.slice ao 0 c))))
  (h3:leS ((F.of sl lc).setS t (v.setC j (.d (.sl es [])))) sl'=sl'.map fun p=>some p.2:=by kernel_rfl) (h4:leN ((F.of sl lc).setS t (v.setC j (.d (.sl es [])))) lc'=lc'.map fun p=>some p.2:=by kernel_rfl):St ⟨w0,H0,B0,K,N⟩ (F.of sl' lc') a w :=
 (h.nilDS t j es (ao:=ao) hv hg h1 h2).weaken (zf8 h3 h4)
theorem run_eqNil (hu:P.underlying xt=some (.slice el)) (ao:Option Addr) (n c:Nat) (x y:Operand) (w:World) :
  (do eqGuard .eql xt x y (.slice ao n c) za6;binOp .eql xt (.slice ao n c) za6:Sem Value).run P w = .ok (.bool ao.isNone) w:=by
 have h1:(eqGuard .eql xt x y (.slice ao n c) za6).run P w = .ok () w:=by simp [eqGuard,za6]
 have h2:(binOp .eql xt (.slice ao n c) za6).run P w = .ok (.bool ao.isNone) w:=by
  show (do pure (Value.bool (<- Op.equal xt (.slice ao n c) (.slice none 0 0))):Sem Value).run P w=_
  simp only [Sem.run_bind,run_equal_slice_nil (P:=P) w xt el ao n c hu,Result.andThen_ok,Sem.run_pure]
 simp only [Sem.run_bind,h1,Result.andThen_ok,h2]
theorem Op.eqNilR {d:Nat} {c:Nat} {pos af gd} (hu:P.underlying xt=some (.slice el)) (h:OV x (.t (.c (.d (.raw (.slice ao n c))))) rs) (h':OV y (.t (.c (.d (.raw za6)))) rs') :
  zar P ⟨some d,.binOp .eql xt x y yt,ty,pos,af,gd⟩ { rs:=rs++rs', ws:=[(d,some (vb ao.isNone))] }:=by
 refine Op.raw2 rfl h h' rfl fun ρ w h1 h2=>?_
 have:=run_eqNil (P:=P) hu ao n c x y w
 simp only [Sem.run_bind] at this
 simp only [execOp,h1,h2,Sem.run_bind,this,Result.andThen_ok,Sem.run_pure]
theorem Op.eqNilD {d t:Nat} {pos af gd} (hu:P.underlying xt=some (.slice el)) (hn:0<rows.length) (h':OV y (.t (.c (.d (.raw za6)))) rs') :
  zar P ⟨some d,.binOp .eql xt (.tmp t) y yt,ty,pos,af,gd⟩ { rs:=(t,.t (.c (.d (.sl es rows)))) :: rs', ws:=[(d,some (vb false))] } :=
 zar.value d _ rfl rfl rfl fun e f H B a w hok hr2=>by
  have h1:=hok.slot t _ (hr2.1 (t,.t (.c (.d (.sl es rows)))) (by simp))
  have h2:a.eval y=za6:=(h'.eval hok fun p hp=>hr2.1 p (by simp [hp])).rawI
  have h3:DR H (.sl es rows) (a.eval (.tmp t)):=h1
  generalize hv0:a.eval (.tmp t)=v at h3
  cases h3 with
  | nil ao c=>simp at hn
  | sl _ _ b o c arr ty' fz vs hp hb hl hc hes hv hx =>
   refine ⟨.bool false,?_,DR.raw _ rfl⟩
   generalize a.eval=ρ at hv0 h2 ⊢
   have:=run_eqNil (P:=P) hu (some ⟨b,o,none⟩) rows.length c (.tmp t) y w
   simp only [Sem.run_bind] at this
   simp only [execOp,hv0,h2,Sem.run_bind,this,Result.andThen_ok,Sem.run_pure]
   rfl
theorem Fn.rawE {k:FuncId} {ps:List (Nat × L)} (h:∀ (ao:Option Addr) (c:Nat),(ao=none->c=0)->c<=maxLen->Fn P k ps [vW (.slice ao 0 c)] res qs):Fn P k ps [vS es []] res qs:=by
 intro w H B vals pre
 obtain ⟨h1,h2,h3,h4,h5,h0⟩:=pre
 cases vals with
 | nil=>exact h5.elim
 | cons v vs =>
  have h6:DR H (.sl es []) v:=h5.1
  cases h6 with
  | sl _ _ b o c arr ty fz ws hp=>exact absurd hp (by simp)
  | nil _ ao c g1 g2=>exact h ao c g1 g2 w H B _ ⟨h1,h2,h3,h4,⟨DR.raw _ rfl,h5.2⟩,h0⟩
end
inductive Blk (s:Nat):List zbl->Prop
  | last (l:List zbl) (h:Ris zbl.v l) (hl:l.length<=s):Blk s l
  | cons (X l:List zbl) (hX:X.length=s) (h:Ris zbl.v X) (hl:Blk s l):Blk s (X++l)
theorem Blk.one {s:Nat} {l:List zbl} (h:Blk s l) (hl:s<=l.length):∃ X r,l=X++r/\X.length=s/\Ris zbl.v X/\Blk s r:=by
 cases h with
 | last _ h h2=>exact ⟨l,[],by simp,by omega,h,.last _ trivial (bJ _)⟩
 | cons X l' hX h hl'=>exact ⟨X,l', rfl,hX,h,hl'⟩
def Pfx (s:Nat) (P:List zbl):Prop:=∀ Z,Blk s Z->Blk s (P++Z)
theorem Pfx.nil (s:Nat):Pfx s []:=fun _ h=>h
theorem Pfx.snoc {s:Nat} {P M:List zbl} (h:Pfx s P) (hM:M.length=s) (rM:Ris zbl.v M):Pfx s (P++M):=fun Z hZ=>by
 rw [List.append_assoc];exact h _ (.cons M Z hM rM hZ)
theorem Stb.len {xs ys:List zbl} (h:Stb zbl.v xs ys):xs.length=ys.length:=Stb.length xs.length rfl h
def zee (out:List zbl) (p:zbl):List zbl :=
  if p.v<0 then out else match out[out.length - 1]? with
    | some q=>if q.v=p.v then out.set (out.length - 1) ⟨q.v,d4 (q.c.val+p.c.val)⟩ else out++[⟨p.v,d4 p.c.val⟩]
    | none=>out++[⟨p.v,d4 p.c.val⟩]
variable {out:List zbl}
theorem mrg_neg (h:p.v<0):zee out p=out:=by simp [zee,h]
theorem mrg_nil (h:¬ p.v<0) (h0:out.length=0):zee out p=out++[⟨p.v,d4 p.c.val⟩]:=by
 rw [len_nil h0];simp [zee,h]
variable {q:zbl}
theorem mrg_same (h:¬ p.v<0) (hk:out.length=k+1) (hq:out[k]?=some q) (hv:q.v=p.v):zee out p=out.set k ⟨q.v,d4 (q.c.val+p.c.val)⟩:=by
 have:out.length - 1=k:=by omega
 simp only [zee,this,hq,if_neg h,if_pos hv]
theorem mrg_new (h:¬ p.v<0) (hk:out.length=k+1) (hq:out[k]?=some q) (hv:¬ q.v=p.v):zee out p=out++[⟨p.v,d4 p.c.val⟩]:=by
 have:out.length - 1=k:=by omega
 simp only [zee,this,hq,if_neg h,if_neg hv]
def MOk (L j:Nat) (out:List zbl):Prop:=∀ q ∈ out,q.c=d4 q.c.val/\q.c.val.natAbs<=j*pw L
theorem MOk.lb {L:Nat} (h:MOk L j out) (hq:q ∈ out) (hj:j<=1000):Lb q.c.abs/\q.c.abs.length<=L+1:=by
 obtain ⟨h1,h2⟩:=h q hq
 rw [h1]
 refine ⟨ZI.lb_of _,ZI.len_of ?_⟩
 have h3:j*pw L<=1000*pw L:=bV _ hj
 have h4:=pw_pos L
 rw [pw_succ];omega
theorem MOk.step {L:Nat} (h:MOk L j out) (hp:Lb p.c.abs/\p.c.abs.length<=L):MOk L (j+1) (zee out p):=by
 have hp2:p.c.val.natAbs<=pw L:=by
  have h3:=ZI.abs_lt hp.1
  have h4:=pw_le hp.2
  omega
 have up:∀ q ∈ out,q.c=d4 q.c.val/\q.c.val.natAbs<=(j+1)*pw L:=fun q hq=>⟨(h q hq).1,bH (h q hq).2 (bV _ (Nat.le_succ j))⟩
 have new:∀ q ∈ out++[(⟨p.v,d4 p.c.val⟩:zbl)],q.c=d4 q.c.val/\q.c.val.natAbs<=(j+1)*pw L:=by
  intro q hq
  rcases bE.1 hq with hq | hq
  ·exact up q hq
  ·rw [bA.1 hq]
   refine ⟨by rw [d5],?_⟩
   show (d4 p.c.val).val.natAbs<=_
   rw [d5,bX];omega
 intro q hq
 by_cases h1:p.v<0
 ·rw [mrg_neg h1] at hq;exact up q hq
 rcases cT out.length with h0 | h0
 ·rw [mrg_nil h1 h0] at hq;exact new q hq
 obtain ⟨k,hk⟩:∃ k,out.length=k+1:=⟨out.length - 1,by omega⟩
 have hk2:out[k]?=some (out[k]'(by omega)):=bI _
 by_cases hv:(out[k]'(by omega)).v=p.v
 ·rw [mrg_same h1 hk hk2 hv] at hq
  rcases dN hq with hq | rfl
  ·exact up q hq
  ·have:=(h _ (bL hk2)).2
   refine ⟨by rw [d5],?_⟩
   show (d4 _).val.natAbs<=_
   rw [d5,bX];omega
 ·rw [mrg_new h1 hk hk2 hv] at hq;exact new q hq
abbrev SR (l:List zbl):Prop:=l.Pairwise fun p q=>p.v<q.v
theorem zgj {l:List zbl} {v:Int} (h:∀ q ∈ l,q.v≠v):zbi l v=0:=by
 induction l with
 | nil=>rfl
 | cons q l ih=>simp only [zbi];rw [ih fun x hx=>h x (by simp [hx]),if_neg fun e=>h q (by simp) e.1];rfl
theorem SR.head {l:List zbl} (s:SR (p :: l)) (h0:0<=p.v):zbi (p :: l) p.v=p.c.val:=by
 rw [zbi,if_pos ⟨rfl,h0⟩,zgj (fun q hq=>by have:=(bQ.1 s).1 q hq;omega),Int.add_zero]
theorem SR.below {l:List zbl} {v:Int} (s:SR (p :: l)) (hv:v<p.v):zbi (p :: l) v=0:=by
 refine zgj fun q hq=>?_
 rcases bB.1 hq with rfl | hq
 ·omega
 ·have:=(bQ.1 s).1 q hq;omega
theorem SR.unique:∀ {l m:List zbl}, SR l->SR m->(∀ q ∈ l,0<=q.v/\q.c=d4 q.c.val/\q.c.val≠0)->(∀ q ∈ m,0<=q.v/\q.c=d4 q.c.val/\q.c.val≠0)->(∀ v,zbi l v=zbi m v)->l=m
 | [],[],_,_,_,_,_=>rfl
 | p :: l,[],s1,_,h1,_,h=>by
  have e:=h p.v
  rw [s1.head (h1 p (by simp)).1] at e
  exact absurd e (h1 p (by simp)).2.2
 | [],q :: m,_,s2,_,h2,h=>by
  have e:=h q.v
  rw [s2.head (h2 q (by simp)).1] at e
  exact absurd e.symm (h2 q (by simp)).2.2
 | p :: l,q :: m,s1,s2,h1,h2,h=>by
  obtain ⟨p0,p1,p2⟩:=h1 p (by simp)
  obtain ⟨q0,q1,q2⟩:=h2 q (by simp)
  rcases Int.lt_trichotomy p.v q.v with hv | hv | hv
  ·have e:=h p.v
   rw [s1.head p0,s2.below hv] at e
   exact absurd e p2
  ·have e:=h p.v
   rw [s1.head p0,hv,s2.head q0] at e
   have epq:p=q:=by
    cases p;cases q
    simp only at hv e p1 q1
    subst hv
    rw [p1,q1,e]
   subst epq
   rw [SR.unique (bQ.1 s1).2 (bQ.1 s2).2 (fun x hx=>h1 x (by simp [hx])) (fun x hx=>h2 x (by simp [hx])) fun v=>by
    have:=h v
    simp only [zbi] at this
    omega]
  ·have e:=h q.v
   rw [s2.head q0,s1.below hv] at e
   exact absurd e.symm q2
theorem SR.last {o:List zbl} (h:SR (o++[q])):∀ x ∈ o,x.v<q.v:=fun x hx=>(dO.1 h).2.2 x hx q (by simp)
def insR (v:Int):List Int->List Int
  | []=>[v]
  | x :: l=>if v<=x then v :: (x :: l).filter (fun y=>decide (y≠v)) else x :: insR v l
theorem zhu (v:Int):∀ (l acc:List Int),l.foldl (zbw v) (acc,true)=(acc++l.filter (fun y=>decide (y≠v)),true)
 | [],acc=>by simp
 | x :: l,acc=>by
  have e:zbw v (acc,true) x=(if x≠v then (acc++[x],true) else (acc,true)):=by simp [zbw]
  rw [cH,e]
  by_cases h:x=v
  ·rw [if_neg (fun g=>g h),zhu v l acc];simp [h]
  ·rw [if_pos h,zhu v l (acc++[x])];simp [h]
theorem insZ_R (v:Int):∀ (l acc:List Int),(if (l.foldl (zbw v) (acc,false)).2=true then (l.foldl (zbw v) (acc,false)).1 else (l.foldl (zbw v) (acc,false)).1++[v])=acc++insR v l
 | [],acc=>by simp [insR]
 | x :: l,acc=>by
  rw [cH]
  by_cases h:v<=x
  ·have e:zbw v (acc,false) x=(if x≠v then (acc++[v]++[x],true) else (acc++[v],true)):=by simp [zbw,h]
   by_cases h2:x=v
   ·rw [if_neg (fun g=>g h2)] at e
    rw [e,zhu];simp [insR,h2]
   ·rw [if_pos h2] at e
    rw [e,zhu];simp [insR,h,h2]
  ·have h2:x≠v:=by omega
   have e:zbw v (acc,false) x=(acc++[x],false):=by simp [zbw,h,h2]
   rw [e,insZ_R v l (acc++[x])]
   simp [insR,h]
theorem insZ_eq (l:List Int) (v:Int):insZ l v=insR v l:=by have:=insZ_R v l [];simpa [insZ] using this
abbrev SRi (l:List Int):Prop:=l.Pairwise fun x y=>x<y
theorem insR_mem (v x:Int):∀ l:List Int,x ∈ insR v l ↔ x=v\/x ∈ l
 | []=>by simp [insR]
 | y :: l=>by
  simp only [insR]
  split
  ·simp only [bB,bN,decide_eq_true_eq]
   by_cases h:x=v <;> simp [h]
  ·simp only [bB,insR_mem v x l]
   constructor
   ·rintro (h | h | h) <;> simp [h]
   ·rintro (h | h | h) <;> simp [h]
theorem insR_sr (v:Int):∀ {l:List Int}, SRi l->SRi (insR v l)
 | [],_=>by simp [insR]
 | y :: l,h=>by
  obtain ⟨h1,h2⟩:=bQ.1 h
  simp only [insR]
  split
  ·rename_i hv
   refine bQ.2 ⟨fun z hz=>?_,h.filter _⟩
   obtain ⟨hz1,hz2⟩:=bN.1 hz
   have hz2:z≠v:=by simpa using hz2
   rcases bB.1 hz1 with rfl | hz1
   ·omega
   ·have:=h1 z hz1;omega
  ·refine bQ.2 ⟨fun z hz=>?_,insR_sr v h2⟩
   rcases (insR_mem v z l).1 hz with rfl | hz
   ·omega
   ·exact h1 z hz
theorem varsFold (ps:List zbl):∀ (qs:List zbl) (out:List Int),SRi out->SRi (qs.foldl (zdj ps) out)/\∀ x,x ∈ qs.foldl (zdj ps) out ↔ x ∈ out\/∃ q ∈ qs,q.v=x/\zbi ps x≠0
 | [],out,h=>⟨h,fun x=>by simp⟩
 | q :: qs,out,h=>by
  have h1:SRi (zdj ps out q):=by
   unfold zdj
   split
   ·rw [insZ_eq];exact insR_sr _ h
   ·exact h
  obtain ⟨i1,i2⟩:=varsFold ps qs _ h1
  refine ⟨i1,fun x=>?_⟩
  rw [cH,i2 x]
  have h2:x ∈ zdj ps out q ↔ x ∈ out\/(q.v=x/\zbi ps x≠0):=by
   unfold zdj
   split
   ·rename_i hc
    rw [insZ_eq,insR_mem]
    constructor
    ·rintro (rfl | h)
     ·exact .inr ⟨rfl,hc⟩
     ·exact .inl h
    ·rintro (h | ⟨rfl,_⟩)
     ·exact .inr h
     ·exact .inl rfl
   ·rename_i hc
    constructor
    ·exact .inl
    ·rintro (h | ⟨rfl,h⟩)
     ·exact h
     ·exact absurd h hc
  rw [h2]
  constructor
  ·rintro ((h | h) | ⟨p,hp,h⟩)
   ·exact .inl h
   ·exact .inr ⟨q,by simp,h⟩
   ·exact .inr ⟨p,by simp [hp],h⟩
  ·rintro (h | ⟨p,hp,h⟩)
   ·exact .inl (.inl h)
   ·rcases bB.1 hp with rfl | hp
    ·exact .inl (.inr h)
    ·exact .inr ⟨p,hp,h⟩
theorem zd4 {ps:List zbl} {v:Int} (h:zbi ps v≠0):0<=v/\∃ q ∈ ps,q.v=v:=by
 refine ⟨Int.not_lt.1 fun hv=>h ?_,?_⟩
 ·induction ps with
  | nil=>rfl
  | cons p ps ih =>
   simp only [zbi] at h ⊢
   rw [if_neg (by omega),Int.zero_add] at h ⊢
   exact ih h
 ·exact Classical.byContradiction fun hq=>h (zgj fun q hq1 hq2=>hq ⟨q,hq1,hq2⟩)
theorem varsZ_ok (ps:List zbl):SRi (varsZ ps)/\∀ x,x ∈ varsZ ps ↔ zbi ps x≠0:=by
 obtain ⟨h1,h2⟩:=varsFold ps ps [] List.Pairwise.nil
 refine ⟨h1,fun x=>(h2 x).trans ⟨?_,fun h=>?_⟩⟩
 ·rintro (h | ⟨_,_,_,h⟩)
  ·cases h
  ·exact h
 ·obtain ⟨_,q,hq,e⟩:=zd4 h
  exact .inr ⟨q,hq,e,h⟩
def zfr (ps:List zbl) (v:Int):zbl:=⟨v,d4 (zbi ps v)⟩
theorem coefZ_map (ps:List zbl) (v:Int) (hv:0<=v):∀ {l:List Int}, SRi l->zbi (l.map (zfr ps)) v=if v ∈ l then zbi ps v else 0
 | [],_=>rfl
 | x :: l,h=>by
  obtain ⟨h1,h2⟩:=bQ.1 h
  simp only [List.map_cons,zbi,coefZ_map ps v hv h2]
  by_cases e:x=v
  ·subst e
   have:x ∉ l:=fun hx=>by have:=h1 x hx;omega
   simp [zfr,hv,this,d5]
  ·have e':¬ v=x:=fun g=>e g.symm
   simp [zfr,e,e']
theorem tl_7:Sz dZ 3 1 false:=Sz.mk' (by kernel_rfl) Tryz.underlying3 _ rfl
section
variable {P:Program}
theorem Op.capR {d:Nat} {c:Nat} {t:TypeId} {pos af gd} (hu:P.underlying t=some (.slice el)) (h:OV x (.t (.c (.d (.raw (.slice ao n c))))) rs) :
  zar P ⟨some d,.call { callee:=.builtin .cap,args:=#[x],argTypes:=#[t] }, ty,pos,af,gd⟩ { rs:=rs,ws:=[(d,some (vi .i64 (c:Int)))] } :=
 zar.value d _ rfl rfl rfl fun e f H B a w hok hr2=>by
  have h2:=(h.eval hok fun p hp=>hr2.1 p hp).rawI
  refine ⟨goInt c,?_,DR.raw _ rfl⟩
  generalize a.eval=ρ at h2 ⊢
  have e1:(Array.map ρ #[x])=#[ρ x]:=by simp
  simp [execOp,resolve,e1,h2,invoke,builtin,Builtin.cap_,run_underlying hu]
theorem Op.sliceR0 {d:Nat} {k:IntKind} {pos af gd} (hs:SlT P xt el es) (hx:OV x (.t (.c (.d (.raw za6)))) rs) (hy:OV y (vi k (0:Nat)) rs') :
  zar P ⟨some d,.slice xt x none (some y) none,ty,pos,af,gd⟩ { rs:=rs++rs', ws:=[(d,some (.t (.c (.d (.raw za6)))))] } :=
 zar.value d _ rfl rfl rfl fun e f H B a w hok hr2=>by
  have hv:a.eval x=za6:=(hx.eval hok fun p hp=>hr2.1 p (by simp [hp])).rawI
  have hb:=zf0 (P:=P) (is:=true) (lo:=none) (hi:=some y) (len:=0) (cap:=0) (BO.no 0) (BO.yes 0 hy) hok (fun p hp=>by cases hp) (fun p hp=>hr2.1 p (by simp [hp])) (bJ _) (bG _)
  have hrun:=ze0 (ao:=none) hs hb
  refine ⟨za6,?_,DR.raw _ rfl⟩
  generalize a.eval=ρ at hv hrun ⊢
  have hrun':(Instr.sliceAt xt (ρ x) ((none:Option Operand).map ρ) ((some y).map ρ) ((none:Option Operand).map ρ)).run P w = .ok za6 w:=by rw [hv];simpa [za6] using hrun
  simp only [execOp,Sem.run_bind,hrun', Result.andThen_ok,Sem.run_pure]
theorem run_app_make {it:TypeId} {i:TypeInfo} {z:Value} (hu:P.underlying xt=some (.slice el)) (hi:P.underlying it=some (.int .i64)) (hI:P.info? el=some i) (hz:i.zero=some z) (hs:i.size≠0) {L:Nat} (hL0:0<L) (hL:L<=4294967296) (hb:L*i.bytes<=140737488355328) (w:World) :
  (Builtin.append_ #[xt,it] ty #[za6,.int .i64 (L:Int)]).run P w = .ok (.slice (some ⟨w.heap.size,0,none⟩) L (grownCap w L 0 el)) (w.drew.alloc (.cells (Builtin.zeroCells z.cells L++Builtin.zeroCells z.cells (grownCap w L 0 el - L)) el)):=by
 have wl:IntKind.i64.wrap (L:Int)=(L:Int):=by rw [IntKind.wrap_i64];omega
 have c1:¬ ((L:Int)<0):=by omega
 have c2:¬ (281474976710656<(L:Int)*(i.bytes:Int)):=by
  have:((L*i.bytes:Nat):Int)=(L:Int)*(i.bytes:Int):=Int.natCast_mul _ _
  omega
 have c4:¬ (9223372036854775807<(L:Int)):=by omega
 have c5:¬ (281474976710656<Builtin.nextslicecap L 0*i.bytes):=by
  have:=growslice_fits (need:=L) (old:=0) (bytes:=i.bytes) (by omega) hb
  omega
 have hL1:L≠0:=by omega
 have hL2:L*i.size≠0:=Nat.mul_ne_zero hL1 hs
 simp [Builtin.append_,za6,run_underlying hu,run_underlying hi,sizeOf,typeInfo,zeroValue,hI,hz,hL2,asInt,asIntOf,wl,c1,c2,c4,c5,hL1,Question.forced,run_firstCells_none,newRow,grownCap]
theorem Op.appNM {d t u L:Nat} {it:TypeId} {pos af gd} (hT:ElT P xt el es bs) (hi:P.underlying it=some (.int .i64)) (hL0:0<L) (hL:L<=1000000000) (hb:L*bs<=140737488355328) :
  zar P ⟨some d,.call { callee:=.builtin .append,args:=#[.tmp t,.tmp u],argTypes:=#[xt,it] }, ty,pos,af,gd⟩
   { rs:=[(t,.t (.c (.d (.raw za6)))),(u,vi .i64 (L:Int))],ws:=[(d,some (.t (.c (.own n L))))],wl:=[(n,some (.row el es []))],nw:=[n] }:=by
 rintro e f a w Q ⟨H,B,hok⟩ hr hnw hb0
 have hnew:=hnw n (by simp)
 have h1:a.eval (.tmp t)=za6:=VR.rawI (hok.slot t _ (hr.1 (t,.t (.c (.d (.raw za6)))) (by simp)))
 have h2:a.eval (.tmp u) = .int .i64 (L:Int):=VR.rawI (hok.slot u _ (hr.1 (u,vi .i64 (L:Int)) (by simp)))
 obtain ⟨i,z,hI,hz,hsz,hby,hzs⟩:=hT.ex
 have hrun:=run_app_make (P:=P) (ty:=ty) hT.hu hi hI hz (by rw [hsz];exact Nat.pos_iff_ne_zero.1 hT.pos) hL0 (by omega) (by rw [hby];exact hb) w
 have hge:=grownCap_ge w L 0 el
 have hle:=grownCap_le_maxLen w L 0 el (by simp only [maxLen];omega)
 generalize grownCap w L 0 el=c at hrun hge hle
 have hok2:Ok e f H B a w.drew:=⟨hok.df,hok.n,⟨hok.ext.os,hok.ext.tape,hok.ext.output,hok.ext.size,hok.ext.block⟩,hok.sat,hok.slot,fun m l hm=>LR.mono (Le.refl _) rfl (fun _ _=>rfl) (fun _ _ _=>rfl) (hok.loc m l hm),hok.priv,hok.inj,hok.low,hok.le,hok.keep,hok.tab⟩
 have hlen:(Builtin.zeroCells z.cells L++Builtin.zeroCells z.cells (c - L)).toList.length=c*es:=by
  simp only [Builtin.zeroCells,Array.toList_append,bY,dP,Array.size_map,Array.size_range,hzs]
  rw [<- bX];congr 1;omega
 have hobj:(Builtin.zeroCells z.cells L++Builtin.zeroCells z.cells (c - L))=⟨(Builtin.zeroCells z.cells L++Builtin.zeroCells z.cells (c - L)).toList⟩:=by simp
 rw [hobj] at hrun
 generalize (Builtin.zeroCells z.cells L++Builtin.zeroCells z.cells (c - L)).toList=arr at hrun hlen
 have h3:Ok e ⟨f.s,fun m=>if m=n then some (.row el es []) else f.l m⟩ H (fun m=>if m=n then some (w.drew.heap.size,c) else B m) a (w.drew.alloc (.cells ⟨arr⟩ el)) :=
  hok2.new hnew (.cells ⟨arr⟩ el) c (.row el es []) (fun _=>rfl) (fun _=>rfl) (by
   simp only [LR,if_true]
   exact ⟨arr,heap_alloc_new w.drew _,hlen,bJ _,hle,by simp,by simp [zat]⟩)
 refine zdx (d:=d) rfl ?_ ⟨H,_,h3.put (x:=some (.t (.c (.own n L)))) (hb0.1 (d,some (.t (.c (.own n L)))) (by simp)) (zek f d _ _ rfl) (fun m=>?_) (v:=.slice (some ⟨w.heap.size,0,none⟩) L c) (fun y hy=>by injection hy with hy;subst hy;simp [VR,TR,CR])⟩
 ·generalize a.eval=ρ at h1 h2 ⊢
  have e1:(Array.map ρ #[.tmp t,.tmp u])=#[ρ (.tmp t),ρ (.tmp u)]:=by simp
  simp only [execOp,resolve,e1,h1,h2,Sem.run_bind,Sem.run_pure,Result.andThen_ok,invoke,builtin,hrun]
 ·simp only [F.app,List.lookup]
  by_cases e1:m=n
  ·simp [e1]
  ·have g1:(m == n)=false:=by simpa using e1
   simp [g1,e1]
theorem C.owns_tags {c:C} (h:k ∈ c.owns n):n ∈ c.tags:=by
 cases c with
 | own m j =>
  simp only [C.owns] at h
  split at h
  ·rename_i e;rw [dQ e];simp [C.tags]
  ·cases h
 | _=>simp [C.owns] at h
theorem T.owns_tags {x:T} (h:k ∈ x.owns n):n ∈ x.tags:=by
 cases x with
 | c x=>exact C.owns_tags h
 | agg cs =>
  obtain ⟨c,hc,hk⟩:=bC.1 h
  exact bC.2 ⟨c,hc,C.owns_tags hk⟩
theorem V.owns_tags {x:V} (h:k ∈ x.owns n):n ∈ x.tags:=by
 cases x with
 | t x=>exact T.owns_tags h
 | tup cs =>
  obtain ⟨c,hc,hk⟩:=bC.1 h
  exact bC.2 ⟨c,hc,T.owns_tags hk⟩
theorem L.owns_tags {x:L} (h:k ∈ x.owns n):n ∈ x.tags:=by
 cases x with
 | box cs =>
  obtain ⟨c,hc,hk⟩:=bC.1 h
  exact bC.2 ⟨c,hc,C.owns_tags hk⟩
 | row _ _ _=>simp [L.owns] at h
 | rowc _ _ r =>
  obtain ⟨c,hc,hk⟩:=bC.1 h
  exact bC.2 ⟨c,hc,C.owns_tags hk⟩
 | mp _=>simp [L.owns] at h
 | mpx _ _=>simp [L.owns] at h
 | it _ _ _ _=>simp [L.owns] at h
 | bld _ c rest =>
  simp only [L.owns] at h
  simp only [L.tags]
  rcases bE.1 h with h | h
  ·exact b8 _ (C.owns_tags h)
  ·obtain ⟨c,hc,hk⟩:=bC.1 h
   exact cC _ (bC.2 ⟨c,hc,C.owns_tags hk⟩)
theorem zck (h:m≠n):Nat.beq m n=false:=by
 cases e:Nat.beq m n with
 | false=>rfl
 | true=>exact absurd (dQ e) h
theorem C.pub_id {c:C} (h:n ∉ c.tags):c.pub n es rows=c:=by
 cases c <;> simp only [C.pub]
 all_goals (rw [zck (fun e=>h (by simp [C.tags,e]))];rfl)
theorem zbd {f:α->α}:∀ {l:List α}, (∀ x ∈ l,f x=x)->l.map f=l
 | [],_=>rfl
 | x :: l,h=>by rw [List.map_cons,h x (by simp),zbd fun y hy=>h y (by simp [hy])]
theorem T.pub_id {x:T} (h:n ∉ x.tags):x.pub n es rows=x:=by
 cases x with
 | c x=>simp only [T.pub];rw [C.pub_id h]
 | agg cs=>simp only [T.pub];rw [zbd fun c hc=>C.pub_id fun hn=>h (bC.2 ⟨c,hc,hn⟩)]
theorem V.pub_id {x:V} (h:n ∉ x.tags):x.pub n es rows=x:=by
 cases x with
 | t x=>simp only [V.pub];rw [T.pub_id h]
 | tup cs=>simp only [V.pub];rw [zbd fun c hc=>T.pub_id fun hn=>h (bC.2 ⟨c,hc,hn⟩)]
theorem L.pub_id {x:L} (h:n ∉ x.tags):x.pub n es rows=x:=by
 cases x with
 | box cs=>simp only [L.pub];rw [zbd fun c hc=>C.pub_id fun hn=>h (bC.2 ⟨c,hc,hn⟩)]
 | row _ _ _=>rfl
 | rowc _ _ r=>simp only [L.pub];rw [zbd fun r hr=>zbd fun c hc=>C.pub_id fun hn=>h (bC.2 ⟨c,List.mem_flatten.2 ⟨r,hr,hc⟩,hn⟩)]
 | mp _=>rfl
 | mpx _ _=>rfl
 | it _ _ _ _=>rfl
 | bld _ c rest =>
  simp only [L.tags,bE,not_or,bC,not_exists,not_and] at h
  simp only [L.pub];rw [C.pub_id h.1,zbd fun c hc=>C.pub_id fun hn=>h.2 c hc hn]
end
theorem zea (l:List Nat):∀ j,(l.take j).sum<=l.sum:=by
 induction l with
 | nil=>intro j;simp
 | cons x l ih =>
  intro j
  cases j with
  | zero=>simp
  | succ j=>simp only [List.take_succ_cons,List.sum_cons];have:=ih j;omega
theorem flat_sum (l:List (List α)):l.flatten.length=(l.map List.length).sum:=List.length_flatten
theorem sum_mem {l:List Nat} {x:Nat} (h:x ∈ l):x<=l.sum:=by
 induction l with
 | nil=>cases h
 | cons y l ih =>
  rw [List.sum_cons]
  rcases bB.1 h with rfl | h
  ·omega
  ·have:=ih h;omega
theorem plainT_eq {u:zd8} (h1:SR u.parts) (h2:∀ q ∈ u.parts,0<=q.v/\q.c=d4 q.c.val/\q.c.val≠0) (h3:∀ v,zbi t.parts v=zbi u.parts v) (h4:u.k=d4 t.k.val):zbg t=u:=by
 obtain ⟨v1,v2⟩:=varsZ_ok t.parts
 have hp:(varsZ t.parts).map (zfr t.parts)=u.parts:=by
  refine SR.unique (List.pairwise_map.2 v1) h1 (fun q hq=>?_) h2 fun v=>?_
  ·obtain ⟨v,hv,rfl⟩:=bK.1 hq
   have hv:=(v2 v).1 hv
   exact ⟨(zd4 hv).1,by simp [zfr,d5],by simpa [zfr,d5] using hv⟩
  ·rw [<- h3 v]
   by_cases hv:0<=v
   ·rw [coefZ_map t.parts v hv v1]
    by_cases h:v ∈ varsZ t.parts
    ·rw [if_pos h]
    ·rw [if_neg h];exact (Classical.byContradiction fun e=>h ((v2 v).2 fun e2=>e e2.symm))
   ·have z1:zbi t.parts v=0:=Classical.byContradiction fun e=>hv (zd4 e).1
    have z2:zbi ((varsZ t.parts).map (zfr t.parts)) v=0:=Classical.byContradiction fun e=>hv (zd4 e).1
    rw [z1,z2]
 cases u with
 | mk ps k =>
  simp only at hp h4
  unfold zbg
  rw [h4,<- hp];rfl
theorem zet (t:zd8):SR (zbg t).parts/\(∀ q ∈ (zbg t).parts,0<=q.v/\q.c=d4 q.c.val/\q.c.val≠0)/\∀ v,zbi (zbg t).parts v=zbi t.parts v:=by
 obtain ⟨v1,v2⟩:=varsZ_ok t.parts
 refine ⟨List.pairwise_map.2 v1,fun q hq=>?_,fun v=>?_⟩
 ·obtain ⟨v,hv,rfl⟩:=bK.1 hq
  have hv:=(v2 v).1 hv
  exact ⟨(zd4 hv).1,by simp [d5],by simpa [d5] using hv⟩
 ·show zbi ((varsZ t.parts).map (zfr t.parts)) v=_
  by_cases hv:0<=v
  ·rw [coefZ_map t.parts v hv v1]
   by_cases h:v ∈ varsZ t.parts
   ·rw [if_pos h]
   ·rw [if_neg h];exact (Classical.byContradiction fun e=>h ((v2 v).2 fun e2=>e e2.symm))
  ·have z1:zbi t.parts v=0:=Classical.byContradiction fun e=>hv (zd4 e).1
   have z2:zbi ((varsZ t.parts).map (zfr t.parts)) v=0:=Classical.byContradiction fun e=>hv (zd4 e).1
   rw [z1,z2]
theorem plain_idem (t:zd8):zbg (zbg t)=zbg t:=by
 obtain ⟨h1,h2,h3⟩:=zet t
 refine plainT_eq h1 h2 (fun v=>rfl) ?_
 simp [zbg,d5]
def Few1 (t:zd8):Prop:=t.parts.length<=30/\t.k.abs.length<=20/\∀ p ∈ t.parts,p.c.abs.length<=20
section
open Go.RowKit Go.WideShapes
def all (w:World):Im:=fun b=>w.heap[b]?
def RepN (w:World) (n:Nat) (t:TypeId) {α:Type} (f:α->List D) (good:α->Prop):Prop :=
  ∀ (H:Type) (enc:TypeId × Value->H) (base:Nat) (spare:Nat->Bool) (held:Bool) (fuel:Nat) (cs:List Value) (x:DataW H × List MemPlace),fuel<=n->DataW.trod enc dZ w base spare held fuel t cs=some x->∃ a:α,good a/\zat (DR (all w)) (f a) cs
section
variable {w:World} {n:Nat} {t:TypeId} {α β:Type} {f:α->List D} {good:α->Prop}
theorem RepN.zero:RepN w 0 t f good:=fun H enc base spare held fuel cs x hn h=>by
 obtain rfl:fuel=0:=by omega
 simp [DataW.trod] at h
theorem RepN.mono (h:RepN w n t f good) (hm:m<=n):RepN w m t f good:=fun H enc base spare held fuel cs x hn hx=>h H enc base spare held fuel cs x (by omega) hx
theorem RepN.map {f':β->List D} {good':β->Prop} (h:RepN w n t f good) (g:α->β) (hf:∀ a,f' (g a)=f a) (hg:∀ a,good a->good' (g a)):RepN w n t f' good':=fun H enc base spare held fuel cs x hn hx=>by
 obtain ⟨a,h1,h2⟩:=h H enc base spare held fuel cs x hn hx
 exact ⟨g a,hg a h1,by rw [hf];exact h2⟩
theorem rep_int {k:IntKind} (hu:Tryz.prog.underlying t=some (.int k)):RepN w n t (fun v:Int=>[.raw (.int k v)]) (fun v=>(Lit.int k v).wf=true):=fun H enc base spare held fuel cs x hn hx=>by
 obtain ⟨v,rfl,_,hw⟩:=DataW.trod_int hu hx
 exact ⟨v,hw,DR.raw _ rfl,trivial⟩
theorem rep_bool (hu:Tryz.prog.underlying t=some .bool):RepN w n t za0 (fun _=>True):=fun H enc base spare held fuel cs x hn hx=>by
 obtain ⟨v,rfl,_⟩:=DataW.trod_bool hu hx
 exact ⟨v,trivial,DR.raw _ rfl,trivial⟩
theorem rep_i64 (hu:Tryz.prog.underlying t=some (.int .i64)):RepN w n t za3 (fun v=>-9223372036854775808<=v/\v<=9223372036854775807) :=
 (rep_int hu).map id (fun _=>rfl) fun v h=>by have:=bounds_i64 h;simp only [id];omega
theorem listOf {P:Nat->α->Prop}:∀ (len:Nat),(∀ i,i<len->∃ a,P i a)->∃ xs:List α,xs.length=len/\∀ i x,xs[i]?=some x->P i x
 | 0,_=>⟨[],rfl,fun i x h=>by simp at h⟩
 | len+1,h=>by
  obtain ⟨xs,h1,h2⟩:=listOf len fun i hi=>h i (by omega)
  obtain ⟨a,ha⟩:=h len (by omega)
  refine ⟨xs++[a],by simp [h1],fun i x hx=>?_⟩
  by_cases hi:i<xs.length
  ·rw [cK hi] at hx;exact h2 i x hx
  ·have hl:=(bM.1 hx).1
   simp only [bY,cG,List.length_nil] at hl
   have e:i=xs.length:=by omega
   subst e
   simp at hx
   subst hx
   rw [h1];exact ha
theorem cell_at {o:Nat} (h:w.cell? ⟨b,o,none⟩=some v):∃ arr ty fz,w.heap[b]?=some (.cells arr ty fz)/\arr[o]?=some v:=by
 unfold World.cell? at h
 split at h
 ·rename_i cs ty fz hb
  exact ⟨cs,ty,fz,hb,by simpa using h⟩
 ·cases h
theorem rep_slice {e:TypeId} (hu:Tryz.prog.underlying t=some (.slice e)) (hc:Tryz.prog.cellsOf e=k) (hk:0<k) (hl:∀ a,(f a).length=k) (he:RepN w n e f good):RepN w n t (slD k f) (fun xs=>xs.length<=maxLen/\∀ x ∈ xs,good x):=fun H enc base spare held fuel cs x hn hx=>by
 rcases DataW.trod_slice hu hx with ⟨rfl,_⟩ | ⟨a,len,cap,elems,rest,m,rfl,rfl,_,_,h2,h3,h4,h5,_,_⟩
 ·exact ⟨[],⟨bJ _,by simp⟩,DR.nil _ _ _ (fun _=>rfl) (bJ _),trivial⟩
 ·rw [hc] at h5
  obtain ⟨xs,hxl,hxs⟩:=listOf (P:=fun i (y:α)=>good y/\∃ cs', w.cells? base (a.add (i*k)) k=some cs'/\zat (DR (all w)) (f y) cs') len fun i hi=>by
   have h6:=h5 i hi
   rw [bI (by omega)] at h6
   obtain ⟨cs', g1,g2⟩:=dR.1 h6
   obtain ⟨y,g3,g4⟩:=he H enc base spare held m cs' _ (by omega) g2
   exact ⟨y,g3,cs', g1,g4⟩
  refine ⟨xs,⟨by omega,fun y hy=>?_⟩,?_,trivial⟩
  ·obtain ⟨i,hi⟩:=cL.1 hy
   exact (hxs i y hi).1
  ·show DR (all w) (.sl k (xs.map f)) _
   rcases cT len with h0 | h0
   ·subst h0
    have:xs=[]:=cQ.1 hxl
    subst this
    exact DR.nil _ _ _ (fun e=>by cases e) h3
   ·have cells:∀ i y,xs[i]?=some y->∀ j,j<k->∃ v d,w.cell? ((a.add (i*k)).add j)=some v/\(f y)[j]?=some d/\DR (all w) d v:=fun i y hy j hj=>by
     obtain ⟨_,cs', g1,g2⟩:=hxs i y hy
     obtain ⟨_,g4,g5⟩:=World.cells?_some g1
     obtain ⟨v,g6,g7⟩:=g2.get j (by rw [hl];exact hj)
     exact ⟨v,_,by rw [g5 j hj];exact g6,bI (by rw [hl];exact hj),g7⟩
    obtain ⟨y0,hy0⟩:∃ y,xs[0]?=some y:=⟨_,bI (by omega)⟩
    obtain ⟨v0,_,c0,_,_⟩:=cells 0 y0 hy0 0 hk
    obtain ⟨b,o,sp⟩:=a
    have hsp:sp=none:=by
     have:=World.cell?_spot c0
     simpa [Addr.add] using this
    subst hsp
    have c0':w.cell? ⟨b,o,none⟩=some v0:=by simpa [Addr.add_mid] using c0
    obtain ⟨arr,ty,fz,hb,_⟩:=cell_at c0'
    have at_:∀ i y,xs[i]?=some y->∀ j,j<k->∃ v d,arr[o+i*k+j]?=some v/\(f y)[j]?=some d/\DR (all w) d v:=fun i y hy j hj=>by
     obtain ⟨v,d,g1,g2,g3⟩:=cells i y hy j hj
     rw [Addr.add_mid,Addr.add_mid] at g1
     obtain ⟨arr', ty', fz', hb', g4⟩:=cell_at g1
     rw [hb] at hb'
     injection hb' with hb'
     injection hb' with e1
     subst e1
     exact ⟨v,d,g4,g2,g3⟩
    have:=DR.sl (H:=all w) k (xs.map f) b o cap arr ty fz (fun i j=>(arr[o+i*k+j]?).getD v0) (by rw [bF];omega) hb (by rw [bF];omega) h3 (fun i hi=>by rw [cU];exact hl _)
     (fun i hi j hj=>by
      have hi':i<xs.length:=by simpa using hi
      obtain ⟨v,d,g1,_,_⟩:=at_ i xs[i] (bI hi') j hj
      rw [g1];rfl)
     (fun i hi j hj=>by
      have hi':i<xs.length:=by simpa using hi
      have hj':j<k:=by rw [cU,hl] at hj;exact hj
      obtain ⟨v,d,g1,g2,g3⟩:=at_ i xs[i] (bI hi') j hj'
      have e1:((xs.map f)[i])[j]?=some d:=by rw [cU];exact g2
      rw [bI hj] at e1
      injection e1 with e1
      rw [e1,g1];exact g3)
    rwa [bF,hxl] at this
def FsN (w:World) (n:Nat) (fs:List Field) (o k:Nat) {α:Type} (f:α->List D) (good:α->Prop):Prop :=
  ∀ (H:Type) (enc:TypeId × Value->H) (base:Nat) (spare:Nat->Bool) (held:Bool) (cs:List Value),(∀ fl ∈ fs,∃ m x,m<=n/\DataW.trod enc dZ w base spare held m fl.type ((cs.drop fl.offset).take (Tryz.prog.cellsOf fl.type))=some x)->o+k=cs.length->∃ a:α,good a/\zat (DR (all w)) (f a) (cs.drop o)
theorem FsN.nil {o:Nat}:FsN w n [] o 0 (fun _:Unit=>[]) (fun _=>True):=fun H enc base spare held cs _ hl=>⟨(),trivial,by rw [List.drop_of_length_le (by omega)];trivial⟩
theorem FsN.cons {fl:Field} {fs:List Field} {o k0 k1:Nat} {f1:β->List D} {good1:β->Prop} (ho:fl.offset=o) (hc:Tryz.prog.cellsOf fl.type=k0) (h0:RepN w n fl.type f good) (h1:FsN w n fs (o+k0) k1 f1 good1) :
  FsN w n (fl :: fs) o (k0+k1) (fun p:α × β=>f p.1++f1 p.2) (fun p=>good p.1/\good1 p.2):=fun H enc base spare held cs hf hl=>by
 obtain ⟨m,x,hm,hx⟩:=hf fl (by simp)
 rw [ho,hc] at hx
 obtain ⟨a,g1,g2⟩:=h0 H enc base spare held m _ x hm hx
 obtain ⟨b,g3,g4⟩:=h1 H enc base spare held cs (fun fl' h'=>hf fl' (by simp [h'])) (by omega)
 refine ⟨(a,b),⟨g1,g3⟩,?_⟩
 have e:cs.drop o=(cs.drop o).take k0++cs.drop (o+k0):=by rw [<- List.drop_drop,List.take_append_drop]
 rw [e]
 exact g2.append g4
theorem rep_struct {fs:Array Field} (hu:Tryz.prog.underlying t=some (.struct fs)) (hc:Tryz.prog.cellsOf t=k) (h:FsN w n fs.toList 0 k f good):RepN w (n+1) t f good:=fun H enc base spare held fuel cs x hn hx=>by
 obtain ⟨xs,m,rfl,_,h2,h3,h4⟩:=DataW.trod_struct hu hx
 obtain ⟨a,g1,g2⟩:=h H enc base spare held cs (fun fl hfl=>by
  obtain ⟨i,hi⟩:=cL.1 hfl
  have hi':fs[i]?=some fl:=by simpa using hi
  have:=h4 i fl hi'
  have hlt:i<xs.length:=by rw [h3];exact (b7.1 hi').1
  rw [bI hlt] at this
  exact ⟨m,_,by omega,this⟩) (by rw [h2,hc];omega)
 exact ⟨a,g1,by simpa using g2⟩
theorem rep_agg {fs:Array Field} (hu:Tryz.prog.underlying t=some (.struct fs)) (hr:∀ n,RepN w n t f good) {H:Type} {enc:TypeId × Value->H} {base:Nat} {spare:Nat->Bool} {held:Bool} {r:Reach} {b0:Nat} {d:DataW H} {p:List MemPlace} (hv:Value.okWide dZ w r b0 t v) (h:DataW.Trod enc dZ w base spare held t v d p) :
  ∃ (a:α) (cs:List Value),good a/\v = .agg ⟨cs⟩/\zat (DR (all w)) (f a) cs:=by
 obtain ⟨cs,rfl,_⟩:=okWide_struct hu hv
 obtain ⟨fuel,hf⟩:=h
 obtain ⟨a,g1,g2⟩:=hr fuel H enc base spare held fuel _ _ (bG _) hf
 exact ⟨a,cs.toList,g1,rfl,g2⟩
theorem dr_vd {l:List D} {cs:List Value} (h:zat (DR (all w)) l cs) (B:Bl):VR (all w) B (vd l) (.agg ⟨cs⟩):=by
 refine ⟨cs,rfl,zat.iff.2 ⟨by simpa using h.length,fun j a b ha hb=>?_⟩⟩
 rw [bT] at ha
 cases hj:l[j]? with
 | none=>rw [hj] at ha;cases ha
 | some d =>
  rw [hj] at ha
  injection ha with ha
  subst ha
  exact (zat.iff.1 h).2 j d b hj hb
end
theorem Fn.calls {k:FuncId} (h:Fn dZ k [] args (vb true) []) (ha:∀ B,zat (VR (all w) B) args vals) (ht:TabH (all w):=by exact trivial):Calls dZ k ⟨vals⟩ w (GotP (.bool true) w):=by
 refine (h w (all w) (fun _=>none) vals ⟨fun b o hb=>hb,fun p hp=>(by cases hp),fun p hp=>(by cases hp),fun p hp=>(by cases hp),ha _,ht⟩).mono ?_
 rintro en w' ⟨v,H', B', rfl,post⟩
 have:=VR.rawI post.res
 subst this
 exact ⟨rfl,post.ext.os,post.ext.tape,post.ext.output,post.ext.size,fun b hb=>post.ext.block b hb (by rintro ⟨p,hp,_⟩;cases hp)⟩
section
variable {w:World} {n:Nat}
def TLb (t:zd8):Prop:=Lb t.k.abs/\∀ p ∈ t.parts,Lb p.c.abs
end
end
theorem coefZ_head {l:List zbl} (hs:SR l):∀ p ∈ l,0<=p.v->zbi l p.v=p.c.val:=by
 induction l with
 | nil=>intro p hp;cases hp
 | cons q l ih =>
  intro p hp h0
  obtain ⟨h1,h2⟩:=bQ.1 hs
  rcases bB.1 hp with rfl | hp
  ·exact SR.head hs h0
  ·have:=h1 p hp
   simp only [zbi]
   rw [if_neg (by omega),ih h2 p hp h0,Int.zero_add]
structure Bd (n M:Nat) (t:zd8):Prop where
  pl:zbg t=t
  len:t.parts.length<=n
  cf:∀ v,(zbi t.parts v).natAbs<=M
  kf:t.k.val.natAbs<=M
theorem Bd.mono (h:Bd n M t) (hn:n<=n') (hM:M<=M'):Bd n' M' t:=⟨h.pl,bH h.len hn,fun v=>bH (h.cf v) hM,bH h.kf hM⟩
theorem Bd.tok {L:Nat} (h:Bd n M t) (hL:M<pw L):TOk n L t:=by
 obtain ⟨p1,p2,_⟩:=zet t
 rw [h.pl] at p1 p2
 have hk:t.k=d4 t.k.val:=by have:=congrArg zd8.k h.pl;rw [<- this];simp [zbg,d5]
 refine ⟨h.len,fun p hp=>?_,by rw [hk];exact ZI.lb_of _,by rw [hk];exact ZI.len_of (by have:=h.kf;omega)⟩
 obtain ⟨h0,h1,_⟩:=p2 p hp
 have h2:=h.cf p.v
 rw [coefZ_head p1 p hp h0] at h2
 rw [h1]
 exact ⟨ZI.lb_of _,ZI.len_of (by omega)⟩
theorem plainT_len (t:zd8):(zbg t).parts.length<=t.parts.length:=by simp only [zbg,bF];exact varsZ_len _
theorem Bd.add {s:zd8} (hs:Bd n M s) (ht:Bd m M' t):Bd (n+m) (M+M') (addT s t):=by
 obtain ⟨_,_,h3⟩:=zet ⟨s.parts++t.parts,d4 (s.k.val+t.k.val)⟩
 refine ⟨plain_idem _,bH (plainT_len _) (by simp only [bY];have:=hs.len;have:=ht.len;omega),fun v=>?_,?_⟩
 ·show (zbi (zbg _).parts v).natAbs<=_
  rw [h3 v,coefZ_app];have:=hs.cf v;have:=ht.cf v;omega
 ·simp only [addT,zbg,d5];have:=hs.kf;have:=ht.kf;omega
theorem Few1.cf (h:Few1 t) (hl:TLb t) (v:Int):(zbi t.parts v).natAbs<=30*pw 20:=by
 have h1:=zhx (L:=20) (ps:=t.parts) (fun q hq=>⟨hl.2 q hq,h.2.2 q hq⟩) v
 have:t.parts.length*pw 20<=30*pw 20:=bV _ h.1
 omega
theorem Few1.kf (h:Few1 t) (hl:TLb t):t.k.val.natAbs<=pw 20:=by
 have h1:=ZI.abs_lt hl.1
 have h2:=pw_le h.2.1
 omega
def idxI (v:Int):List Int->Nat->Int
  | [],_=>-1
  | x :: xs,n=>if v=x then n else idxI v xs (n+1)
def pickT (vs:List Int) (bys:List zd8) (v:Int):zd8 :=
  match bys[(idxI v vs 0).toNat]? with
  | some b=>if idxI v vs 0<0 then varT v else b
  | none=>varT v
def PkOk (t:zd8):Prop:=TOk 30 20 t
theorem PkOk.cf (h:PkOk t) (v:Int):(zbi t.parts v).natAbs<=30*pw 20:=by
 have h1:=zhx (L:=20) (ps:=t.parts) h.ps v
 have:t.parts.length*pw 20<=30*pw 20:=bV _ h.len
 omega
theorem PkOk.kf (h:PkOk t):t.k.val.natAbs<=30*pw 20:=by
 have h1:=ZI.abs_lt h.kb
 have h2:=pw_le h.kl
 omega
theorem PkOk.var (v:Int):PkOk (varT v):=((TOk.one (v:=v)).plain (by decide)).mono (by decide) (by decide)
theorem PkOk.pick {vs:List Int} {bys:List zd8} (h:∀ b ∈ bys,PkOk b) (v:Int):PkOk (pickT vs bys v):=by
 unfold pickT
 split
 ·rename_i b hb
  split
  ·exact PkOk.var v
  ·exact h b (bL hb)
 ·exact PkOk.var v
section
variable {P:Program}
theorem Op.raw2c {b:Builtin} {d:Nat} {v' u:Value} {pos af gd} (h:OV x (.t (.c (.d (.raw v)))) rs) (h':OV y (.t (.c (.d (.raw v')))) rs') (hf:flat u=true)
  (hrun:∀ (cs:Array Bool) w,(builtin b tys ty cs #[v,v']).run P w = .ok (.value u) w):zar P ⟨some d,.call { callee:=.builtin b,args:=#[x,y],argTypes:=tys }, ty,pos,af,gd⟩ { rs:=rs++rs', ws:=[(d,some (.t (.c (.d (.raw u)))))] } :=
 Op.raw2 rfl h h' hf fun ρ w h1 h2=>by
  have e1:(Array.map ρ #[x,y])=#[ρ x,ρ y]:=by simp
  simp only [execOp,resolve,e1,h1,h2,Sem.run_bind,Sem.run_pure,Result.andThen_ok,invoke,hrun]
theorem Op.max2 {d:Nat} {k:IntKind} {m n r:Int} {pos af gd} (h:OV x (vi k m) rs) (h':OV y (vi k n) rs') (he:r=max m n) :
  zar P ⟨some d,.call { callee:=.builtin .max,args:=#[x,y],argTypes:=tys }, ty,pos,af,gd⟩ { rs:=rs++rs', ws:=[(d,some (vi k r))] }:=by
 subst he
 refine Op.raw2c h h' rfl fun cs w=>?_
 by_cases hc:m<n
 ·simp [builtin,Builtin.max_,Builtin.max2,hc,Int.max_eq_right (Int.le_of_lt hc)]
 ·simp [builtin,Builtin.max_,Builtin.max2,hc,Int.max_eq_left (Int.not_lt.1 hc)]
end
end S
end Go.Proofs.YtjnkkdfojfjncaaGreat
section
namespace Go.Proofs
open Go.Shelf
def Tryz.lays128_ren:Go.Shelf.Ren:=⟨fun | 128=>106 | n=>n,fun | 51=>151 | 3=>3 | 4=>4 | 46=>134 | 5=>5 | 9=>9 | n=>n,fun | n=>n⟩
theorem Tryz.lays128:Go.Proofs.Lays.n128 dZ Tryz.lays128_ren:={
 mixed:=by kernel_rfl
 f128:=Tryz.func106.trans (congrArg some (by kernel_rfl))
 t3:=Tryz.underlying3
 a3:=Tryz.isAgg3
 z3:=Tryz.sizeOf3
 v3:=Tryz.zeroValue3
 t4:=Tryz.underlying4
 a4:=Tryz.isAgg4
 z4:=Tryz.sizeOf4
 v4:=Tryz.zeroValue4
 t5:=Tryz.underlying5
 a5:=Tryz.isAgg5
 z5:=Tryz.sizeOf5
 v5:=Tryz.zeroValue5
 t9:=Tryz.underlying9
 a9:=Tryz.isAgg9
 z9:=Tryz.sizeOf9
 v9:=Tryz.zeroValue9
 t46:=Tryz.underlying134
 a46:=Tryz.isAgg134
 z46:=Tryz.sizeOf134
 v46:=Tryz.zeroValue134
 t51:=Tryz.underlying151
 a51:=Tryz.isAgg151
 z51:=Tryz.sizeOf151
 v51:=Tryz.zeroValue151 }
theorem Tryz.bits_Len32 (x:Int) (w:World) (h0:0<=x) (h1:x<=4294967295) :
  Calls dZ 106 #[.int .u32 x] w fun e w'=>e = .returned (.int .i64 (Lib.bitLen x.toNat))/\w'=w:=Any.bits_Len32 Tryz.lays128 x w h0 h1
end Go.Proofs
end
namespace Go.Proofs.YtjnkkdfojfjncaaGreat
variable {zs:List Nat} {w w':World} {ao:Option Addr} {b M:Nat}
def ch (s:ByteArray) (i:Nat):Nat:=(s.data.toList.map UInt8.toNat).getD i 0
def isd (s:ByteArray) (i:Nat):Prop:=48<=ch s i/\ch s i<=57
def alld (s:ByteArray) (k:Nat):Prop:=∀ i,i<k->isd s i
instance (s:ByteArray) (i:Nat):Decidable (isd s i):=inferInstanceAs (Decidable (_/\_))
instance (s:ByteArray) (k:Nat):Decidable (alld s k):=Nat.decidableBallLT k (fun i _=>isd s i)
def bytes (s:ByteArray):List Nat:=s.data.toList.map UInt8.toNat
def LbB (zs:List Nat):Prop:=∀ z ∈ zs,z<256
theorem LbB_nil:LbB []:=fun _ h=>by simp at h
theorem LbB_take (h:LbB zs) (k:Nat):LbB (zs.take k):=fun z hz=>h z (cN hz)
theorem LbB_drop (h:LbB zs) (k:Nat):LbB (zs.drop k):=fun z hz=>h z (List.mem_of_mem_drop hz)
structure RdB (w:World) (ao:Option Addr) (c:Nat) (zs:List Nat):Prop where
  cap:zs.length<=c
  mx:c<=9223372036854775807
  nl:ao=none->c=0
  lb:LbB zs
  ad:0<zs.length->ao=some ⟨bk ao,of ao,none⟩
  cell:∀ i,i<zs.length->w.cell? ⟨bk ao,of ao+i,none⟩=some (.int .u8 (lim zs i))
theorem RdB.nil (w:World):RdB w none 0 []:=⟨bG _,by omega,fun _=>rfl,LbB_nil,fun h=>by simp at h,fun i h=>by simp at h⟩
theorem RdB.ext {c:Nat} (h:RdB w ao c zs) (k:Ext w w'):RdB w' ao c zs :=
 ⟨h.cap,h.mx,h.nl,h.lb,h.ad,fun i hi=>k.cell (h.cell i hi)⟩
theorem RdB.take {c:Nat} (h:RdB w ao c zs) (k:Nat) (_hk:k<=zs.length) (c':Nat) (hc':(zs.take k).length<=c') (hc2:c'<=c):RdB w ao c' (zs.take k):=by
 refine ⟨hc', bH hc2 h.mx,fun e=>by have:=h.nl e;omega,LbB_take h.lb _,?_,?_⟩
 ·intro hp;rw [bS] at hp;exact h.ad (by omega)
 ·intro i hi;rw [bS] at hi;rw [lim_take (by omega)];exact h.cell i (by omega)
theorem RdB.drop {o c:Nat} (h:RdB w (some ⟨b,o,none⟩) c zs) (k:Nat) (hk:k<=zs.length):RdB w (some ⟨b,o+k,none⟩) (c - k) (zs.drop k):=by
 have h1:=h.cap
 refine ⟨by rw [cR];omega,bH (Nat.sub_le _ _) h.mx,fun e=>by simp at e,LbB_drop h.lb _,fun _=>rfl,?_⟩
 intro i hi
 rw [cR] at hi
 have:=h.cell (k+i) (by omega)
 simp only [bk,of] at this ⊢
 rw [lim_drop,cD];exact this
theorem RdB.isAt {c:Nat} (h:RdB w ao c zs) (hp:0<zs.length):∃ b o,ao=some ⟨b,o,none⟩:=⟨_,_,h.ad hp⟩
theorem RdB.blt {c:Nat} (h:RdB w ao c zs) (hp:0<zs.length):bk ao<w.heap.size :=
 World.block_lt_of_cell? w _ (h.cell 0 hp)
structure OwB (w:World) (B:Nat) (ao:Option Addr) (c:Nat) (zs:List Nat):Prop where
  lb:LbB zs
  row:w.ownsRow B 5 1 (.slice ao zs.length c) zs.length (zs.map fun (x:Nat)=>Value.int .u8 (x:Int))
theorem OwB.nil (w:World) (B:Nat):OwB w B none 0 []:=⟨LbB_nil,World.ownsRow_nil _ _ _ _⟩
theorem OwB.lt {B:Nat} {c:Nat} (h:OwB w B ao c zs):∀ k,(Value.slice ao zs.length c).ownBlock=some k->B<=k/\k<w.heap.size:=h.row.lt
theorem OwB.blk {B:Nat} {c:Nat} (h:OwB w B ao c zs) (hp:0<zs.length):B<=bk ao/\bk ao<w.heap.size/\of ao=0/\ao=some ⟨bk ao,0,none⟩:=by
 rcases h.row.2 with ⟨hv,hn⟩ | ⟨g,cap,cur,hv,hb,hg,hnc,hcm,hcs,htake⟩
 ·omega
 ·simp only [Value.slice.injEq,true_and] at hv
  obtain ⟨rfl,rfl⟩:=hv
  exact ⟨hb,(b7.1 hg).1,rfl,rfl⟩
theorem OwB.frozen {B:Nat} {c:Nat} (h:OwB w B ao c zs) (hp:0<zs.length) (i:Nat):w.frozen? ⟨bk ao,of ao+i,none⟩=false:=by
 rcases h.row.2 with ⟨hv,hn⟩ | ⟨g,cap,cur,hv,hb,hg,hnc,hcm,hcs,htake⟩
 ·omega
 ·have hr:=h.row
  simp only [Value.slice.injEq,true_and] at hv
  obtain ⟨rfl,rfl⟩:=hv
  simp only [bk,of,bU]
  exact hr.frozenAt i
theorem OwB.alloc {B:Nat} {c:Nat} (h:OwB w B ao c zs) (o:Obj):OwB (w.alloc o) B ao c zs:=⟨h.lb,h.row.alloc o⟩
theorem OwB.ext {B:Nat} {c:Nat} (h:OwB w B ao c zs) (k:Ext w w'):OwB w' B ao c zs :=
 ⟨h.lb,h.row.kept (row:=none) ⟨k.os,k.tape,k.output,k.size,fun i hi _=>k.block i hi⟩ (by cases hv:Value.ownBlock _ <;> simp)⟩
theorem OwB.mono {B B':Nat} {c:Nat} (h:OwB w B ao c zs) (hB:B'<=B):OwB w B' ao c zs:=by
 refine ⟨h.lb,h.row.1,?_⟩
 rcases h.row.2 with hn | ⟨g,cap,cur,hv,hb,rest⟩
 ·exact .inl hn
 ·exact .inr ⟨g,cap,cur,hv,bH hB hb,rest⟩
theorem OwB.take {B:Nat} {c:Nat} (h:OwB w B ao c zs) (k:Nat) (hk:k<=zs.length):OwB w B ao c (zs.take k):=by
 refine ⟨LbB_take h.lb _,by simp,?_⟩
 rw [bS,Nat.min_eq_left hk]
 rcases h.row.2 with ⟨hv,hn⟩ | ⟨g,cap,cur,hv,hb,hg,hnc,hcm,hcs,htake⟩
 ·simp at hv
  obtain ⟨rfl,_,rfl⟩:=hv
  refine .inl ⟨?_,by omega⟩
  simp;omega
 ·simp only [Value.slice.injEq,true_and] at hv
  obtain ⟨rfl,rfl⟩:=hv
  refine .inr ⟨g,c,cur,rfl,hb,hg,by omega,hcm,hcs,?_⟩
  rw [List.map_take,<- htake,List.take_take]
  congr 1
  omega
theorem RdB.kept {c:Nat} {g:Nat} (h:RdB w ao c zs) (k:w.grownBy w' (some g)) (hne:0<zs.length->bk ao≠g):RdB w' ao c zs :=
 ⟨h.cap,h.mx,h.nl,h.lb,h.ad,fun i hi=>k.cell (h.cell i hi) (by simp;exact hne (by omega))⟩
theorem OwB.kept {B:Nat} {c:Nat} {g:Nat} (h:OwB w B ao c zs) (k:w.grownBy w' (some g)) (hne:(Value.slice ao zs.length c).ownBlock≠some g):OwB w' B ao c zs :=
 ⟨h.lb,h.row.kept k (.inr hne)⟩
theorem OwB.store {B:Nat} {c:Nat} (h:OwB w B ao c zs) (i:Nat) (hi:i<zs.length) (E:Int) (y:Nat) (hE:E=(y:Int)) (hy:y<256) :
  OwB (w.setCell ⟨bk ao,of ao+i,none⟩ (.int .u8 E)) B ao c (zs.set i y)/\w.grownBy (w.setCell ⟨bk ao,of ao+i,none⟩ (.int .u8 E)) (some (bk ao)):=by
 subst hE
 obtain ⟨h1,h2,h3,h4⟩:=h.blk (by omega)
 have hr:=h.row
 rw [h4] at hr
 have:=hr.stored i (.int .u8 (y:Int))
 rw [h3,bU]
 refine ⟨⟨?_,?_⟩,this.2⟩
 ·intro z hz
  rcases dN hz with hm | hm
  ·exact h.lb z hm
  ·omega
 ·rw [h4,List.length_set,List.map_set]
  exact this.1
theorem cells32:(Value.int .u32 0).cells=#[Value.int .u32 0]:=rfl
def GotD (w:World) (p r:Nat) (er:Int) (e:Ending) (w':World):Prop :=
  ∃ ao c xs bo d ys,e = .returned (.tuple #[.slice ao xs.length c,.slice bo ys.length d,.int .i64 er])/\Own w' w.heap.size ao c xs/\zdw xs/\nV xs=p/\Own w' w.heap.size bo d ys/\zdw ys/\nV ys=r/\Ext w w'
def nb (v:Nat):Nat:=if v=0 then 0 else v.log2+1
def tb (v i:Nat):Bool:=decide (v / 2 ^ i % 2=1)
def GotDM (w:World) (p r:Nat) (L M:Nat) (er:Int) (e:Ending) (w':World):Prop :=
  ∃ ao c xs B bo d ys C,e = .returned (.tuple #[.slice ao xs.length c,.slice bo ys.length d,.int .i64 er])/\w.heap.size<=B/\Own w' B ao c xs/\Hid (zdw xs)/\Hid (nV xs=p)/\xs.length<=L /\
    w.heap.size<=C/\Own w' C bo d ys/\Hid (zdw ys)/\Hid (nV ys=r)/\ys.length<=M/\Ext w w'
theorem GotD.len {p r L:Nat} {er:Int} {e:Ending} (h:GotD w p r er e w') (hp:p<pw L) (hr:r<pw M):GotDM w p r L M er e w':=by
 obtain ⟨ao,c,xs,bo,d,ys,he,h1,h2,h3,h4,h5,h6,h7⟩:=h
 exact ⟨ao,c,xs,_,bo,d,ys,_,he,bG _,h1,h2,h3,zdn h2 h3 hp,bG _,h4,h5,h6,zdn h5 h6 hr,h7⟩
namespace S
variable {r0 x0 y0 r1 x1 y1:Int} {j M' n m n' es bs:Nat} {α:Type} {ty xt el:TypeId} {w0:World} {H0 H1 H:Im} {B0 B:Bl} {K:List Nat} {sl rs rs':List (Nat × V)} {lc qs:List (Nat × L)} {e:E} {draw:Bool} {f:F} {a:Act} {o:Obj} {v:Value} {P:Program} {res:V} {rows rows':List (List D)} {x y:Operand} {args:List V}
theorem fmod_neg_range (a:Int) {b:Int} (h:b<0):b<a.fmod b/\a.fmod b<=0:=by
 have h1:=Int.fmod_lt_of_pos (-a) (b:=-b) (by omega)
 have h2:=dS (-a) (b:=-b) (by omega)
 rw [Int.neg_fmod_neg] at h1 h2
 omega
theorem fmod_range (a:Int) {b:Int} (_hb:b≠0):(0<b->0<=a.fmod b/\a.fmod b<b)/\(b<0->b<a.fmod b/\a.fmod b<=0) :=
 ⟨fun h=>⟨dS a h,Int.fmod_lt_of_pos a h⟩,fun h=>fmod_neg_range a h⟩
theorem fdiv_fmod (a b:Int):a=a.fdiv b*b+a.fmod b:=by have:=Int.mul_fdiv_add_fmod a b;rw [cV] at this;exact this.symm
theorem fmod_natAbs_lt (X:Int) {Y:Int} (hY:Y≠0):(X.fmod Y).natAbs<Y.natAbs:=by
 obtain ⟨h1,h2⟩:=fmod_range X hY
 rcases Int.lt_or_lt_of_ne hY with g | g
 ·have:=h2 g;omega
 ·have:=h1 g;omega
def bez (r0 x0 y0 r1 x1 y1:Int):Int × Int × Int :=
  if _h:r1<=0 then (r0,x0,y0) else bez r1 x1 y1 (r0.fmod r1) (x0 - r0.fdiv r1*x1) (y0 - r0.fdiv r1*y1)
  termination_by r1.natAbs
  decreasing_by exact fmod_natAbs_lt _ (by omega)
theorem bez_end (h:r1<=0):bez r0 x0 y0 r1 x1 y1=(r0,x0,y0):=by rw [bez,dif_pos h]
theorem bez_step (h:¬ r1<=0):bez r0 x0 y0 r1 x1 y1=bez r1 x1 y1 (r0.fmod r1) (x0 - r0.fdiv r1*x1) (y0 - r0.fdiv r1*y1):=by rw [bez,dif_neg h]
structure BzI (A B r0 x0 y0 r1 x1 y1:Int):Prop where
  a:0<=A
  b:0<=B
  p0:0<=r0
  p1:0<=r1
  g:Nat.gcd r0.natAbs r1.natAbs=Nat.gcd A.natAbs B.natAbs
  e0:r0=A*x0+B*y0
  e1:r1=A*x1+B*y1
  sx:(0<=x0/\x1<=0)\/(x0<=0/\0<=x1)
  sy:(0<=y0/\y1<=0)\/(y0<=0/\0<=y1)
  bx:r0*(x1.natAbs:Int)+r1*(x0.natAbs:Int)=B
  byy:r0*(y1.natAbs:Int)+r1*(y0.natAbs:Int)=A
  lx:(x1.natAbs:Int)<=B+1
  ly:(y1.natAbs:Int)<=A+1
  z:bez r0 x0 y0 r1 x1 y1=bez A 1 0 B 0 1
theorem BzI.start {A B:Int} (ha:0<=A) (hb:0<=B):BzI A B A 1 0 B 0 1 :=
 ⟨ha,hb,ha,hb,rfl,by simp,by simp,by simp,by simp,by simp,by simp,by simp;omega,by simp;omega,rfl⟩
theorem alt_abs {q:Int} (hq:0<=q) (h:(0<=x0/\x1<=0)\/(x0<=0/\0<=x1)):((x0 - q*x1).natAbs:Int)=x0.natAbs+q*x1.natAbs/\((0<=x1/\x0 - q*x1<=0)\/(x1<=0/\0<=x0 - q*x1)):=by
 rcases h with ⟨h1,h2⟩ | ⟨h1,h2⟩
 ·have h3:0<=q*(-x1):=cW hq (by omega)
  have e1:(x1.natAbs:Int)=-x1:=by omega
  rw [e1]
  rw [Int.mul_neg] at h3 ⊢
  omega
 ·have h3:0<=q*x1:=cW hq h2
  have e1:(x1.natAbs:Int)=x1:=by omega
  rw [e1]
  omega
theorem zh0 {r a b B:Int} (hr:0<r) (ha:0<=a) (hb:0<=b) (h:r*a+b=B):a<=B:=by
 have:1*a<=r*a:=Int.mul_le_mul_of_nonneg_right (by omega) ha
 omega
theorem BzI.step {A B:Int} (h:BzI A B r0 x0 y0 r1 x1 y1) (hr:r1≠0) :
  BzI A B r1 x1 y1 (r0.fmod r1) (x0 - r0.fdiv r1*x1) (y0 - r0.fdiv r1*y1):=by
 obtain ⟨ha,hb,p0,p1,g,e0,e1,sx,sy,bx,by_,lx,ly,z⟩:=h
 have hpos:0<r1:=by omega
 have hq:0<=r0.fdiv r1:=Int.fdiv_nonneg p0 p1
 obtain ⟨m1,m2⟩:=(fmod_range r0 hr).1 hpos
 have hd:=fdiv_fmod r0 r1
 obtain ⟨k1,k2⟩:=alt_abs hq sx
 obtain ⟨j1,j2⟩:=alt_abs hq sy
 have ex:r1*((x0 - r0.fdiv r1*x1).natAbs:Int)+r0.fmod r1*(x1.natAbs:Int)=B:=by
  rw [k1,Int.mul_add,<- bx]
  have:r0*(x1.natAbs:Int)=r0.fdiv r1*r1*(x1.natAbs:Int)+r0.fmod r1*(x1.natAbs:Int):=by rw [<- Int.add_mul,<- hd]
  have e2:r1*(r0.fdiv r1*(x1.natAbs:Int))=r0.fdiv r1*r1*(x1.natAbs:Int):=by rw [<- Int.mul_assoc,cV r1]
  omega
 have ey:r1*((y0 - r0.fdiv r1*y1).natAbs:Int)+r0.fmod r1*(y1.natAbs:Int)=A:=by
  rw [j1,Int.mul_add,<- by_]
  have:r0*(y1.natAbs:Int)=r0.fdiv r1*r1*(y1.natAbs:Int)+r0.fmod r1*(y1.natAbs:Int):=by rw [<- Int.add_mul,<- hd]
  have e2:r1*(r0.fdiv r1*(y1.natAbs:Int))=r0.fdiv r1*r1*(y1.natAbs:Int):=by rw [<- Int.mul_assoc,cV r1]
  omega
 refine ⟨ha,hb,p1,m1,?_,e1,?_,k2,j2,ex,ey,?_,?_,?_⟩
 ·have:(r0.fmod r1).natAbs=r0.natAbs % r1.natAbs:=by
   obtain ⟨u,hu⟩:=dU p0
   obtain ⟨v,hv⟩:=dU p1
   rw [hu,hv,<- Int.ofNat_fmod,dB,dB,dB]
  rw [this,Nat.gcd_comm,<- Nat.gcd_rec,Nat.gcd_comm,g]
 ·have:r0.fmod r1=r0 - r0.fdiv r1*r1:=by omega
  rw [this]
  have h1:A*(x0 - r0.fdiv r1*x1)=A*x0 - r0.fdiv r1*(A*x1):=by rw [Int.mul_sub,Int.mul_left_comm]
  have h2:B*(y0 - r0.fdiv r1*y1)=B*y0 - r0.fdiv r1*(B*y1):=by rw [Int.mul_sub,Int.mul_left_comm]
  have h3:r0.fdiv r1*r1=r0.fdiv r1*(A*x1)+r0.fdiv r1*(B*y1):=by rw [<- Int.mul_add,<- e1]
  omega
 ·have:=zh0 hpos (by omega) (cW m1 (by omega)) ex;omega
 ·have:=zh0 hpos (by omega) (cW m1 (by omega)) ey;omega
 ·rw [<- z];exact (bez_step (by omega)).symm
theorem BzI.done {A B:Int} (h:BzI A B r0 x0 y0 r1 x1 y1) (hr:r1=0):bez A 1 0 B 0 1=(r0,x0,y0)/\r0=(Nat.gcd A.natAbs B.natAbs:Int):=by
 subst hr
 refine ⟨by rw [<- h.z];exact bez_end (by omega),?_⟩
 have:=h.g
 simp at this
 rw [<- this]
 have:=h.p0
 omega
def valAt (vs:List ZI) (v:Int):Int:=if 0<=v then ((vs[v.toNat]?).map ZI.val).getD 0 else 0
def valP (vs:List ZI):List zbl->Int
  | []=>0
  | p :: ps=>p.c.val*valAt vs p.v+valP vs ps
def valT (t:zd8) (vs:List ZI):Int:=t.k.val+valP vs t.parts
def VOk (M:Nat) (vs:List ZI):Prop:=vs.length<=2000/\∀ y ∈ vs,Lb y.abs/\y.abs.length<=M
theorem VOk.get {vs:List ZI} (h:VOk M vs) {y:ZI} (hy:vs[j]?=some y):Lb y.abs/\y.abs.length<=M:=h.2 y (bL hy)
def conZ (ps:List zbl):Int:=ps.foldl (fun g p=>(Nat.gcd g.natAbs p.c.val.natAbs:Int)) 0
def allN:Nat->(Nat->Bool)->Bool
  | 0,_=>true
  | n+1,p=>allN n p && p n
def zbf {α:Type} (pr:α->Bool):List α->Nat->Int
  | [],_=>-1
  | p :: ps,n=>if pr p=true then n else zbf pr ps (n+1)
theorem zcj {pr:α->Bool} {xs:List α} {p:α} (h:xs[j]?=some p):zbf pr (xs.drop j) j=if pr p=true then (j:Int) else zbf pr (xs.drop (j+1)) (j+1):=by
 obtain ⟨hj,rfl⟩:=bM.1 h
 rw [List.drop_eq_getElem_cons hj];rfl
theorem zc2 (pr:α->Bool):∀ (xs:List α) (n:Nat),(zbf pr xs n=-1/\∀ x ∈ xs,pr x=false)\/∃ k x,zbf pr xs n=((n+k:Nat):Int)/\xs[k]?=some x/\pr x=true/\∀ y ∈ xs.take k,pr y=false
 | [],n => .inl ⟨rfl,fun x hx=>(by cases hx)⟩
 | p :: ps,n=>by
  cases hp:pr p with
  | true=>exact .inr ⟨0,p,by simp [zbf,hp],rfl,hp,fun y hy=>by simp at hy⟩
  | false =>
   rcases zc2 pr ps (n+1) with ⟨h1,h2⟩ | ⟨k,x,h1,h2,h3,h4⟩
   ·exact .inl ⟨by simp [zbf,hp,h1],fun x hx=>(bB.1 hx).elim (fun e=>e ▸ hp) (h2 x)⟩
   ·exact .inr ⟨k+1,x,by simp only [zbf,hp,Bool.false_eq_true,if_false,h1];omega,h2,h3,fun y hy=>by rw [List.take_succ_cons] at hy;exact (bB.1 hy).elim (fun e=>e ▸ hp) (h4 y)⟩
theorem zhv (pr:α->Bool) (xs:List α):decide (zbf pr xs 0>=0)=xs.any pr:=by
 rcases zc2 pr xs 0 with ⟨h1,h2⟩ | ⟨k,x,h1,h2,h3,_⟩
 ·rw [h1]
  cases h:xs.any pr with
  | false=>rfl
  | true=>obtain ⟨x,hx,hp⟩:=List.any_eq_true.1 h;rw [h2 x hx] at hp;cases hp
 ·rw [h1,decide_eq_true (by omega)]
  exact (List.any_eq_true.2 ⟨x,bL h2,h3⟩).symm
structure zh6 where
  t:zd8
  eq:Bool
def zh6.d (x:zh6):List D:=[.sl 3 (x.t.parts.map zbl.d),.raw (.bool x.t.k.neg),nsl x.t.k.abs,.raw (.bool x.eq)]
inductive zau where
  | mk (kind:Int) (r:zh6) (kids:List zau)
def zau.kind:zau->Int | ⟨k,_,_⟩=>k
def zau.r:zau->zh6 | ⟨_,r,_⟩=>r
def zau.kids:zau->List zau | ⟨_,_,ks⟩=>ks
theorem zau.ind {P:zau->Prop} (h:∀ k r ks,(∀ g ∈ ks,P g)->P ⟨k,r,ks⟩) (f:zau):P f :=
 zau.rec (motive_1:=P) (motive_2:=fun ks=>∀ g ∈ ks,P g) h (fun g hg=>(by cases hg)) (fun a l ha has g hg=>(bB.1 hg).elim (fun e=>e ▸ ha) (has g)) f
def zau.fold {α:Type} (g:Int->zh6->List zau->List α->α):zau->α
  | ⟨k,r,ks⟩=>g k r ks (ks.attach.map fun x=>zau.fold g x.1)
  termination_by f=>SizeOf.sizeOf f
  decreasing_by have:=List.sizeOf_lt_of_mem x.2;simp;omega
theorem zau.fold_mk (g:Int->zh6->List zau->List α->α) (k:Int) (r:zh6) (ks:List zau):zau.fold g ⟨k,r,ks⟩=g k r ks (ks.map (zau.fold g)):=by
 rw [zau.fold,List.attach_map_val]
theorem zau.fold_eq (g:Int->zh6->List zau->List α->α) (f:zau):zau.fold g f=g f.kind f.r f.kids (f.kids.map (zau.fold g)):=by cases f;exact zau.fold_mk g _ _ _
def zau.d (f:zau):List D:=f.fold fun k r _ ds=>[.raw (.int .i64 k),.sl 3 (r.t.parts.map zbl.d),.raw (.bool r.t.k.neg),nsl r.t.k.abs,.raw (.bool r.eq),.sl 6 ds]
theorem zau.d_eq (f:zau):f.d=[.raw (.int .i64 f.kind),.sl 3 (f.r.t.parts.map zbl.d),.raw (.bool f.r.t.k.neg),nsl f.r.t.k.abs,.raw (.bool f.r.eq),.sl 6 (f.kids.map zau.d)]:=zau.fold_eq _ f
theorem zau.d_len (f:zau):f.d.length=6:=by rw [zau.d_eq];rfl
structure zh7 where
  is_:Bool
  lo:ZI
  hi:ZI
def zh7.d (x:zh7):List D:=[.raw (.bool x.is_),.raw (.bool x.lo.neg),nsl x.lo.abs,.raw (.bool x.hi.neg),nsl x.hi.abs]
structure MoveD where
  v:Int
  any:Bool
  t:zd8
def MoveD.d (x:MoveD):List D:=[.raw (.int .i64 x.v),.raw (.bool x.any),.sl 3 (x.t.parts.map zbl.d),.raw (.bool x.t.k.neg),nsl x.t.k.abs]
structure ActD where
  proc:Int
  from_:Int
  to_:Int
  guard:zau
  moves:List MoveD
def ActD.d (x:ActD):List D:=[.raw (.int .i64 x.proc),.raw (.int .i64 x.from_),.raw (.int .i64 x.to_),.raw (.int .i64 x.guard.kind),.sl 3 (x.guard.r.t.parts.map zbl.d),.raw (.bool x.guard.r.t.k.neg),nsl x.guard.r.t.k.abs,.raw (.bool x.guard.r.eq),.sl 6 (x.guard.kids.map zau.d),.sl 5 (x.moves.map MoveD.d)]
structure ProcD where
  name:ByteArray
  locs:List ByteArray
  cmds:D
def ProcD.d (x:ProcD):List D:=[.raw (.string x.name),.sl 1 (x.locs.map strD),x.cmds]
structure SysD where
  vars:List ByteArray
  bounds:List zh7
  init:zau
  procs:List ProcD
  acts:List ActD
def SysD.d (x:SysD):List D:=[.sl 1 (x.vars.map strD),.sl 5 (x.bounds.map zh7.d),.raw (.int .i64 x.init.kind),.sl 3 (x.init.r.t.parts.map zbl.d),.raw (.bool x.init.r.t.k.neg),nsl x.init.r.t.k.abs,.raw (.bool x.init.r.eq),.sl 6 (x.init.kids.map zau.d),.sl 3 (x.procs.map ProcD.d),.sl 10 (x.acts.map ActD.d)]
structure StD where
  locs:List Int
  vals:List ZI
def StD.d (x:StD):List D:=[.sl 1 (x.locs.map za3),.sl 2 (x.vals.map ziD)]
structure RunD where
  stem:List StD
  cycle:List StD
  acts:List Int
def RunD.d (x:RunD):List D:=[.sl 2 (x.stem.map StD.d),.sl 2 (x.cycle.map StD.d),.sl 1 (x.acts.map za3)]
structure PropD where
  at_:Bool
  proc:Int
  loc:Int
  f:zau
def PropD.d (x:PropD):List D:=[.raw (.bool x.at_),.raw (.int .i64 x.proc),.raw (.int .i64 x.loc),.raw (.int .i64 x.f.kind),.sl 3 (x.f.r.t.parts.map zbl.d),.raw (.bool x.f.r.t.k.neg),nsl x.f.r.t.k.abs,.raw (.bool x.f.r.eq),.sl 6 (x.f.kids.map zau.d)]
structure zaf where
  stem:List (List Bool)
  cycle:List (List Bool)
def zaf.d (x:zaf):List D:=[.sl 1 (x.stem.map (slD 1 za0)),.sl 1 (x.cycle.map (slD 1 za0))]
abbrev sysC (s:SysD):List C:=([.d (.sl 1 (s.vars.map strD)),.d (.sl 5 (s.bounds.map zh7.d)),.d (.raw (.int .i64 s.init.kind)),.d (.sl 3 (s.init.r.t.parts.map zbl.d))]++zi s.init.r.t.k++[.d (.raw (.bool s.init.r.eq)),.d (.sl 6 (s.init.kids.map zau.d)),.d (.sl 3 (s.procs.map ProcD.d)),.d (.sl 10 (s.acts.map ActD.d))])
abbrev acC (x:ActD):List C:=[.d (.raw (.int .i64 x.proc)),.d (.raw (.int .i64 x.from_)),.d (.raw (.int .i64 x.to_)),.d (.raw (.int .i64 x.guard.kind)),.d (.sl 3 (x.guard.r.t.parts.map zbl.d))]++zi x.guard.r.t.k++[.d (.raw (.bool x.guard.r.eq)),.d (.sl 6 (x.guard.kids.map zau.d)),.d (.sl 5 (x.moves.map MoveD.d))]
abbrev zF (x:zau):List C:=[.d (.raw (.int .i64 x.kind)),.d (.sl 3 (x.r.t.parts.map zbl.d))]++zi x.r.t.k++[.d (.raw (.bool x.r.eq)),.d (.sl 6 (x.kids.map zau.d))]
abbrev zR_ (x:zh6):List C:=[.d (.sl 3 (x.t.parts.map zbl.d))]++zi x.t.k++[.d (.raw (.bool x.eq))]
abbrev vF (x:zau):V:=.t (.agg (zF x))
abbrev vR (x:zh6):V:=.t (.agg (zR_ x))
abbrev vFs (x:List zau):V:=.t (.c (.d (.sl 6 (x.map zau.d))))
abbrev vRs (x:List zh6):V:=.t (.c (.d (.sl 4 (x.map zh6.d))))
abbrev cFs (x:List zau):C:=.d (.sl 6 (x.map zau.d))
abbrev cRs (x:List zh6):C:=.d (.sl 4 (x.map zh6.d))
section
variable {P:Program}
theorem Op.makeFs {d:Nat} {fn:Go.Fn} (ts:List (Nat × Nat × Nat)) {pos af gd} :
  zar P ⟨some d,.makeFunc fn #[] ⟨ts.map fun p => .tmp p.1⟩,ty,pos,af,gd⟩ { rs:=ts.map fun p=>(p.1,vp p.2.1 p.2.2),ws:=[(d,some (.t (.c (.fn fn [] (ts.map fun p=>A.ptr p.2.1 p.2.2)))))] } :=
 zar.value d _ rfl rfl rfl fun e f H B a w hok hr=>by
  refine ⟨.func fn #[] ⟨ts.map fun p=>a.eval (.tmp p.1)⟩,?_,[],ts.map fun p=>a.eval (.tmp p.1),rfl,trivial,?_⟩
  ·simp [execOp,Instr.makeFunc,Function.comp_def]
  ·have h1:∀ p ∈ ts,AR H B (.ptr p.2.1 p.2.2) (a.eval (.tmp p.1)):=fun p hp=>hok.slot p.1 _ (hr.1 (p.1,vp p.2.1 p.2.2) (bK.2 ⟨p,hp,rfl⟩))
   clear hr
   induction ts with
   | nil=>trivial
   | cons p ts ih=>exact ⟨h1 p (by simp),ih fun q hq=>h1 q (by simp [hq])⟩
end
def cnt {α:Type} (k:Int) (xs:List α):List α:=if k=4\/k=5 then xs else if k=3 then xs.take 1 else []
def sizeGo (lim:Int):List (Int->Int)->Int->Int
  | [],n=>n
  | s :: ss,n=>if n<=lim then sizeGo lim ss (n+s (lim - n)) else n
def zau.size (f:zau):Int->Int:=f.fold fun k _ _ ss lim=>sizeGo lim (cnt k ss) 1
def relOk (vs:List ZI) (r:zh6):Bool:=if r.eq=true then sgn (valT r.t vs) == 0 else decide (sgn (valT r.t vs)>=0)
def zau.holds (vs:List ZI) (f:zau):Bool:=f.fold fun k r _ bs=>if k=0 then true else if k=2 then relOk vs r else if k=3 then (match bs with | []=>false | b :: _=>!b) else if k=4 then bs.all id else if k=5 then bs.any id else false
def TokR (L:Nat) (r:zh6):Prop:=TOk 20 L r.t
def zau.ok (L:Nat) (f:zau):Prop:=f.fold fun k r _ ps=>(k=2->TokR L r)/\∀ p ∈ cnt k ps,p
def zau.lb (f:zau):Prop:=f.fold fun _ r ks ps=>(TLb r.t/\ks.length<=9223372036854775807)/\∀ p ∈ ps,p
def zero0:ZI:=⟨false,[]⟩
def bnd0:zh7:=⟨false,zero0,zero0⟩
def bndAt (s:SysD) (v:Nat):zh7:=(s.bounds[v]?).getD bnd0
def withinB (b:zh7) (n:ZI):Bool:=!b.is_ || (decide (cmpZ b.lo.val n.val<=0) && decide (cmpZ n.val b.hi.val<=0))
def nlocs (s:SysD) (i:Nat):Nat:=((s.procs[i]?).map fun p=>p.locs.length).getD 0
def locOk (s:SysD) (x:StD) (i:Nat):Bool:=decide (0<=(x.locs[i]?).getD 0/\(x.locs[i]?).getD 0<(nlocs s i:Int))
def valOk (s:SysD) (x:StD) (v:Nat):Bool:=withinB (bndAt s v) ((x.vals[v]?).getD zero0)
def fits (s:SysD) (x:StD):Bool:=decide (x.locs.length=s.procs.length/\x.vals.length=s.vars.length) && (allN x.locs.length (locOk s x) && allN x.vals.length (valOk s x))
def first (s:SysD) (x:StD):Bool:=(fits s x && !x.locs.any fun l=>l != 0) && s.init.holds x.vals
def sameS (x y:StD):Bool:=decide (x.locs=y.locs) && decide (x.vals.map ZI.val=y.vals.map ZI.val)
def ZOk (L:Nat) (z:ZI):Prop:=Lb z.abs/\z.abs.length<=L
structure StOk (M:Nat) (x:StD):Prop where
  locs:x.locs.length<=10
  vals:x.vals.length<=10
  val:∀ z ∈ x.vals,ZOk M z
theorem StOk.mono {x:StD} (h:StOk M x) (hm:M<=M'):StOk M' x:=⟨h.locs,h.vals,fun z hz=>⟨(h.val z hz).1,bH (h.val z hz).2 hm⟩⟩
theorem ZOk.zero {L:Nat}:ZOk L zero0:=⟨Lb_nil,bJ _⟩
def actAt (s:SysD) (i:Int):Option ActD:=if 0<=i then s.acts[i.toNat]? else none
def mvAt (a:ActD) (v:Nat):Option MoveD:=a.moves.find? fun m=>m.v == (v:Int)
def freeAt (a:ActD) (v:Nat):Bool:=match mvAt a v with | some m=>m.any | none=>false
def newAt (x:StD) (a:ActD) (v:Nat):ZI:=match mvAt a v with | none=>d4 ((x.vals[v]?).getD zero0).val | some m=>if m.any=true then zero0 else d4 (valT m.t x.vals)
def there (s:SysD) (m:MoveD):Bool:=decide (m.v>=0) && decide (m.v<(s.vars.length:Int))
def enabled (s:SysD) (x:StD) (c:ActD):Bool:=(fits s x && (decide (0<=c.proc/\c.proc<(s.procs.length:Int)) && ((x.locs[c.proc.toNat]?).getD 0 == c.from_) && decide (0<=c.to_/\c.to_<(nlocs s c.proc.toNat:Int)))) && (!(c.moves.any fun m=>!there s m) && c.guard.holds x.vals)
def st0:StD:=⟨[],[]⟩
def canAt (s:SysD) (x:StD) (c:ActD) (v:Nat):Bool:=if freeAt c v=true then !((bndAt s v).is_ && decide (cmpZ (bndAt s v).lo.val (bndAt s v).hi.val>0)) else withinB (bndAt s v) (newAt x c v)
def canC (s:SysD) (x:StD) (c:ActD):Bool:=enabled s x c && allN s.vars.length (canAt s x c)
def can (s:SysD) (x:StD) (i:Int):Bool:=match actAt s i with | none=>false | some c=>canC s x c
def stuck (s:SysD) (x:StD):Bool:=allN s.acts.length (fun i=>!can s x (i:Int)) && fits s x
def cntFree (c:ActD):Nat->Nat
  | 0=>0
  | v+1=>cntFree c v+if freeAt c v=true then 1 else 0
def newV (x:StD) (c:ActD) (picks:List ZI) (v:Nat):ZI:=if freeAt c v=true then (match picks[cntFree c v]? with | some p=>d4 p.val | none=>zero0) else newAt x c v
def outS (s:SysD) (x:StD) (c:ActD) (picks:List ZI):StD:=⟨x.locs.set c.proc.toNat c.to_,(List.range s.vars.length).map (newV x c picks)⟩
def goC (s:SysD) (x:StD) (c:ActD) (picks:List ZI):StD × Bool:=if enabled s x c=true/\fits s (outS s x c picks)=true then (outS s x c picks,true) else (st0,false)
def picksOf (y:StD) (c:ActD):Nat->List ZI
  | 0=>[]
  | v+1=>if freeAt c v=true then picksOf y c v++[(y.vals[v]?).getD zero0] else picksOf y c v
def leadsC (s:SysD) (x:StD) (c:ActD) (y:StD):Bool:=(enabled s x c && fits s y) && ((goC s x c (picksOf y c s.vars.length)).2 && sameS y (goC s x c (picksOf y c s.vars.length)).1)
def leads (s:SysD) (x:StD) (i:Int) (y:StD):Bool:=if i=-1 then stuck s x && sameS x y else match actAt s i with | none=>false | some c=>leadsC s x c y
theorem zgc:ElZ dZ 35 4 1:=ElZ.mk' Tryz.underlying35 _ _ rfl rfl
theorem zf9:ElT dZ 35 4 1 1:=ElT.mk' Tryz.underlying35 _ _ rfl rfl
theorem kn_15:ElZ dZ 25 35 1:=ElZ.mk' Tryz.underlying25 _ _ rfl rfl
theorem kn_16:ElT dZ 25 35 1 24:=ElT.mk' Tryz.underlying25 _ _ rfl rfl
theorem kn_18:Sz dZ 27 2 true:=Sz.mk' (by kernel_rfl) Tryz.underlying27 _ rfl
structure RunOk (M:Nat) (r:RunD):Prop where
  len:r.stem.length+r.cycle.length<=20
  stem:∀ x ∈ r.stem,StOk M x
  cycle:∀ x ∈ r.cycle,StOk M x
theorem RunOk.all {r:RunD} (h:RunOk M r):∀ x ∈ r.stem++r.cycle,StOk M x:=fun x hx=>(bE.1 hx).elim (h.stem x) (h.cycle x)
def nxt (r:RunD) (i:Nat):StD:=if i+1<(r.stem++r.cycle).length then ((r.stem++r.cycle)[i+1]?).getD st0 else (r.cycle[0]?).getD st0
def stepOk (s:SysD) (r:RunD) (i:Nat):Bool:=leads s (((r.stem++r.cycle)[i]?).getD st0) ((r.acts[i]?).getD 0) (nxt r i)
def right (s:SysD) (r:RunD):Bool:=decide (r.cycle.length≠0/\r.acts.length=(r.stem++r.cycle).length) && (first s (((r.stem++r.cycle)[0]?).getD st0) && allN (r.stem++r.cycle).length (stepOk s r))
theorem zhd:SlT dZ 25 35 1:=SlT.mk' Tryz.underlying25 (by kernel_rfl)
theorem zbo:SlT dZ 35 4 1:=SlT.mk' Tryz.underlying35 (by kernel_rfl)
def wpX (r:Option Nat) (ds:List Deferred) (P:Program) (c:Code) (Q:Exit->Act->World->Prop) (a:Act) (w:World):Prop :=
  c.wpIn { Fence.wide with round:=r } 9 P (fun ex a' w'=>a'.defers=ds/\Q ex { a' with defers:=[] } w') { a with defers:=ds } w
section
variable {r:Option Nat} {ds:List Deferred} {P:Program} {Q:Exit->Act->World->Prop} {a:Act} {w:World}
theorem zgh (h:a.defers=ds):{ { a with defers:=[] } with defers:=ds }=a:=by cases a;cases h;rfl
theorem wpX_mono {c:Code} {Q':Exit->Act->World->Prop} (h:wpX r ds P c Q a w) (hq:∀ e a w,Q e a w->Q' e a w):wpX r ds P c Q' a w :=
 wpIn_mono h fun _ _ _ ⟨h1,h2⟩=>⟨h1,hq _ _ _ h2⟩
theorem wpX_seq {x y:Code} (h:wpX r ds P x (Exit.then (fun a w=>wpX r ds P y Q a w) Q) a w):wpX r ds P (.seq x y) Q a w:=by
 refine wpIn_seq (wpIn_mono h fun e a' w' hq=>?_)
 obtain ⟨h1,h2⟩:=hq
 cases e with
 | normal =>
  have h2:wpX r ds P y Q { a' with defers:=[] } w':=h2
  unfold wpX at h2
  rw [zgh h1] at h2
  exact h2
 | _=>exact ⟨h1,h2⟩
theorem wpX_block {id:Nat} {c:Code} (h:wpX r ds P c (Exit.inBlock id Q) a w):wpX r ds P (.block id c) Q a w:=by
 refine wpIn_block (wpIn_mono h fun e a' w' hq=>?_)
 obtain ⟨h1,h2⟩:=hq
 cases e with
 | exit id' =>
  simp only [Exit.inBlock] at h2 ⊢
  split
  ·rename_i he;rw [if_pos he] at h2;exact ⟨h1,h2⟩
  ·rename_i he;rw [if_neg he] at h2;exact ⟨h1,h2⟩
 | _=>exact ⟨h1,h2⟩
theorem wpX_skip (hd:a.defers=[]) (h:Q .normal a w):wpX r ds P .skip Q a w:=wpIn_skip ⟨rfl,by cases a;cases hd;exact h⟩
theorem wpX_ret (hd:a.defers=[]) (h:Q .ret a w):wpX r ds P .ret Q a w:=wpIn_ret ⟨rfl,by cases a;cases hd;exact h⟩
theorem condX {N:Nat} {t:Nat} {x y:Code} (b:Bool) (h:St ⟨w0,H0,B0,K,N⟩ (F.of sl lc) a w) (ht:(F.of sl lc).s t=some (vb b)) (hx:b=true->wpX r ds P x Q a w) (hy:b=false->wpX r ds P y Q a w):wpX r ds P (.cond (.tmp t) x y) Q a w:=by
 obtain ⟨H,B,hok⟩:=h
 have:=(hok.slot t _ ht).rawI
 exact wpIn_cond_split (t:=b) this hx hy
theorem op_nil {o:Oper} {K:Act->World->Prop} (hK:∀ a w,K a w->a.defers=[]) (hQ:∀ e a w,Q e a w->e = .normal) (h:o.wp P a w K Q):a.defers=[]:=by
 unfold Oper.wp at h
 have hput:∀ v w', K (a.put o.dst v) w'->a.defers=[]:=fun v w' hk=>by
  have:=hK _ _ hk
  cases hd:o.dst <;> rw [hd] at this <;> exact this
 cases hr:(execOp a.eval o).run P w with
 | ok x w' =>
  rw [hr] at h
  cases x with
  | value v=>exact hput _ _ h
  | skip=>exact hput _ _ h
  | defer d =>
   have:=hK _ _ h
   cases hd:o.dst <;> rw [hd] at this <;> simp [Act.put] at this
  | enter f args =>
   obtain ⟨e,w'', fr,he,_⟩:=(show Calls P f args w' _ from h) []
   cases e with
   | returned v=>exact hput _ _ he
   | panicked chain=>cases hQ _ _ _ he
   | outgrown=>obtain ⟨_,_,h2⟩:=he;cases hQ _ _ _ h2
  | row row args =>
   obtain ⟨v,w'', he,_⟩:=(show Rows P row args w' _ from h) default []
   exact hput _ _ he
  | _=>exact h.elim
 | halt x w' =>
  rw [hr] at h
  cases x with
  | panic v=>cases hQ _ _ _ h
  | _=>exact h.elim
theorem opI_nil {ops:Array Oper} {i:Nat} {K:Act->World->Prop} (hK:∀ a w,K a w->a.defers=[]) (hQ:∀ e a w,Q e a w->e = .normal) (h:wpOp P ops Q i K a w):a.defers=[]:=by
 unfold wpOp at h
 cases ho:ops[i]? with
 | none=>rw [ho] at h;exact hK _ _ h
 | some o =>
  rw [ho] at h
  dsimp only at h
  split at h
  ·exact op_nil hK hQ (h.resolve_right fun ⟨_,h2⟩=>by obtain ⟨a2,w2,h2⟩:=h2;cases hQ _ _ _ h2)
  ·have:=hK _ _ h
   cases hd:o.dst <;> rw [hd] at this <;> exact this
theorem ops_nil {ops:Array Oper} (hQ:∀ e a w,Q e a w->e = .normal/\a.defers=[]):∀ (l:List Nat) (a:Act) (w:World),wpOps P ops Q l a w->a.defers=[]
 | [],a,w,h=>(hQ _ _ _ h).2
 | i :: l,a,w,h=>by rw [wpOps_cons] at h;exact opI_nil (ops_nil hQ l) (fun e a w h=>(hQ e a w h).1) h
theorem any_nil {ops:Array Oper} {md:Region.Mode} (hQ:∀ e a w,Q e a w->e = .normal/\a.defers=[]):∀ (fuel:Nat) (listed:Array Bool) (a:Act) (w:World),wpAny P md ops Q fuel listed a w->a.defers=[]
 | 0,_,a,w,h=>(hQ _ _ _ h.2).2
 | fuel+1,listed,a,w,h=>by
  cases hr:Region.ready md ops listed with
  | nil=>exact (hQ _ _ _ (h.1 hr)).2
  | cons i l=>exact opI_nil (any_nil hQ fuel _) (fun e a w h=>(hQ e a w h).1) (h.2 i (by rw [hr];simp))
theorem opX {o:Oper} {K K':Act->World->Prop} (hnd:∀ c,o.op ≠ .defer c) (ha:a.defers=[]) (hK:∀ a w,K a w->a.defers=[]) (hK':∀ a w,a.defers=ds->K { a with defers:=[] } w->K' a w) (hQ:∀ a w,¬ Q .outgrown a w) (h:o.wp P a w K Q) :
  o.wpIn { Fence.wide with round:=r } 9 P { a with defers:=ds } w K' (fun ex a' w'=>a'.defers=ds/\Q ex { a' with defers:=[] } w'):=by
 refine ⟨fun _ _=>trivial,?_⟩
 rw [Oper.semAt_eq _ _ _ hnd]
 unfold Oper.wp at h
 have he:({ a with defers:=ds }:Act).eval=a.eval:=by funext x;cases x <;> rfl
 rw [he]
 have hput:∀ v w', K (a.put o.dst v) w'->K' (({ a with defers:=ds }:Act).put o.dst v) w':=by
  intro v w' hk
  refine hK' _ _ ?_ ?_
  ·cases o.dst <;> rfl
  ·have:({ (({ a with defers:=ds }:Act).put o.dst v) with defers:=[] }:Act)=a.put o.dst v:=by
    cases a;cases ha;cases o.dst <;> rfl
   rw [this];exact hk
 generalize (execOp a.eval o).run P w=res at h
 have hbare:({ ({ a with defers:=ds }:Act) with defers:=[] }:Act)=a:=by cases a;cases ha;rfl
 cases res with
 | ok x w' =>
  cases x with
  | value v=>exact hput _ _ h
  | skip=>exact hput _ _ h
  | defer d =>
   have:=hK _ _ h
   cases hd:o.dst with
   | none=>rw [hd] at this;simp [Act.put] at this
   | some q=>rw [hd] at this;simp [Act.put] at this
  | enter f args =>
   have h:Calls P f args w' _:=h
   refine ⟨fun h=>(by cases h),?_⟩
   refine CallsIn.mono (show CallsIn { Fence.wide with round:=r } (9 - 1) P f args w' _ from callsIn_wide.2 h) ?_
   intro e w'' he
   cases e with
   | returned v=>exact hput _ _ he
   | panicked chain=>exact ⟨rfl,by rw [hbare];exact he⟩
   | outgrown=>obtain ⟨a2,w2,h2⟩:=he;exact absurd h2 (hQ _ _)
  | row row args =>
   have h:Rows P row args w' _:=h
   refine ⟨fun h=>(by cases h),fun c cs _=>?_⟩
   obtain ⟨v,w'', h1,h2⟩:=h c cs
   exact ⟨v,w'', hput _ _ h1,(stepsIn_wide (P:=P)).2 h2⟩
  | _=>exact h.elim
 | halt x w' =>
  cases x with
  | panic v=>exact ⟨rfl,by rw [hbare];exact h⟩
  | _=>exact h.elim
theorem opIX {ops:Array Oper} {i:Nat} {K K':Act->World->Prop} (hnd:∀ o ∈ ops,∀ c,o.op ≠ .defer c) (hK:∀ a w,K a w->a.defers=[]) (hK':∀ a w,a.defers=ds->K { a with defers:=[] } w->K' a w) (hQ:∀ e a w,Q e a w->e = .normal) (h:wpOp P ops Q i K a w) :
  wpOpIn { Fence.wide with round:=r } 9 P ops (fun ex a' w'=>a'.defers=ds/\Q ex { a' with defers:=[] } w') i K' { a with defers:=ds } w:=by
 have ha:=opI_nil hK hQ h
 unfold wpOp at h
 unfold wpOpIn
 cases ho:ops[i]? with
 | none=>rw [ho] at h;exact hK' _ _ rfl (by cases a;cases ha;exact h)
 | some o =>
  rw [ho] at h
  dsimp only at h ⊢
  by_cases hw:Region.wanted o (yielded ops a.tmps)=true
  ·rw [if_pos hw] at h
   rw [if_pos hw]
   have h:=h.resolve_right fun ⟨_,h2⟩=>by obtain ⟨a2,w2,h2⟩:=h2;cases hQ _ _ _ h2
   exact opX (hnd o (Array.mem_of_getElem? ho)) ha hK hK' (fun a w hq=>by cases hQ _ _ _ hq) h
  ·rw [if_neg hw] at h
   rw [if_neg hw]
   refine ⟨fun _ _=>trivial,hK' _ _ ?_ ?_⟩
   ·cases o.dst <;> rfl
   ·have:({ (({ a with defers:=ds }:Act).put o.dst undef) with defers:=[] }:Act)=a.put o.dst undef:=by
     cases a;cases ha;cases o.dst <;> rfl
    rw [this];exact h
theorem opsX {ops:Array Oper} (hnd:∀ o ∈ ops,∀ c,o.op ≠ .defer c) (hQ:∀ e a w,Q e a w->e = .normal/\a.defers=[]):∀ (l:List Nat) (a:Act) (w:World),wpOps P ops Q l a w ->
  wpOpsIn { Fence.wide with round:=r } 9 P ops (fun ex a' w'=>a'.defers=ds/\Q ex { a' with defers:=[] } w') l { a with defers:=ds } w
 | [],a,w,h=>⟨rfl,by have ha:=(hQ _ _ _ h).2;cases a;cases ha;exact h⟩
 | i :: l,a,w,h=>by
  rw [wpOps_cons] at h
  rw [wpOpsIn_cons]
  exact opIX hnd (ops_nil hQ l) (fun a w hd hk=>by have:=opsX hnd hQ l _ w hk;rw [zgh hd] at this;exact this) (fun e a w h=>(hQ e a w h).1) h
theorem anyX {ops:Array Oper} {md:Region.Mode} (hnd:∀ o ∈ ops,∀ c,o.op ≠ .defer c) (hQ:∀ e a w,Q e a w->e = .normal/\a.defers=[]):∀ (fuel:Nat) (listed:Array Bool) (a:Act) (w:World),wpAny P md ops Q fuel listed a w ->
  wpAnyIn { Fence.wide with round:=r } 9 P md ops (fun ex a' w'=>a'.defers=ds/\Q ex { a' with defers:=[] } w') fuel listed { a with defers:=ds } w
 | 0,_,a,w,h=>⟨h.1,rfl,by have ha:=(hQ _ _ _ h.2).2;cases a;cases ha;exact h.2⟩
 | fuel+1,listed,a,w,h=>by
  refine ⟨fun h0=>⟨rfl,?_⟩,fun i hi=>?_⟩
  ·have h1:=h.1 h0
   have ha:=(hQ _ _ _ h1).2
   cases a;cases ha;exact h1
  ·exact opIX hnd (any_nil hQ fuel _) (fun a w hd hk=>by have:=anyX hnd hQ fuel _ _ w hk;rw [zgh hd] at this;exact this) (fun e a w h=>(hQ e a w h).1) (h.2 i hi)
end
def noDefer (o:Oper):Bool:=match o.op with | .defer _=>false | _=>true
section
variable {r:Option Nat} {ds:List Deferred} {P:Program} {Q:Exit->Act->World->Prop} {w0:World} {H0:Im} {B0:Bl} {K:List Nat} {N:Nat}
theorem wpX_region_S {ops:Array Oper} (hnd:∀ o ∈ ops,∀ c,o.op ≠ .defer c) {id:Nat} (is:List I) (g:F) (hm:P.follows .mixedOrders=true) (hpo:zg7 draw ops.toList is=true)
  (hdo:∀ k o,ops[k]?=some o->Does P ops o (at_ is k)) (hb:∀ k,FitsE e (at_ is k)) (hn:∀ k,∀ n ∈ (at_ is k).nw,New e.K f n)
  (hr:RunL is f (List.range ops.size) g) (h:St e f a w) (hQ:∀ a w,St e g a w->Q .normal a w):wpX r ds P (Code.region id ops draw) Q a w:=by
 have hN:∀ (ex:Exit) (a:Act) (w:World),(ex = .normal/\St e g a w)->ex = .normal/\a.defers=[]:=fun ex a w h=>⟨h.1,by obtain ⟨_,H,B,hok⟩:=h;exact hok.df⟩
 refine wpX_mono (Q:=fun ex a w=>ex = .normal/\St e g a w) ?_ (fun ex a w h=>by obtain ⟨rfl,h⟩:=h;exact hQ a w h)
 cases draw with
 | false =>
  refine wpIn_region (opsX hnd hN _ _ _ (wpOps_run hdo hb (fun a w h=>⟨rfl,h⟩) _ f a w (fun k hk=>dC.1 hk) ?_ (fun k _=>hn k) hr h))
  refine List.Pairwise.imp_of_mem ?_ List.pairwise_lt_range
  intro j k hj hk hjk
  exact ((ze2 hpo (k:=k) (by simpa using dC.1 hk)).2 j hjk).1
 | true =>
  refine wpIn_region_any hm (anyX hnd hN _ _ _ _ (wpAny_run hdo hb (fun a w h=>⟨rfl,h⟩) hpo _ _ f a _ (by simp) ?_ ?_ (fun k _=>hn k) ?_ h.drew))
  ·intro k o ho hl
   have hks:=(b7.1 ho).1
   simp [cE, hks] at hl
  ·refine bH (List.length_filter_le _ _) (by simp)
  ·have:left (Array.replicate ops.size false) ops.size=List.range ops.size:=by
    unfold left
    refine List.filter_eq_self.2 fun k hk=>?_
    have:=dC.1 hk
    simp [cE, this]
   rw [this]
   exact hr
theorem regionX {ops:Array Oper} (hnd:ops.toList.all noDefer=true) {id:Nat} (is:List I) (sl':List (Nat × V)) (lc':List (Nat × L)) (hm:P.follows .mixedOrders=true)
  (hdo:AllDo P ops ops.toList is) (hc:chk draw ops.toList is N K sl lc=true) (h1:runS (F.of sl lc) is=wantS is) (h2:runN (F.of sl lc) is=wantN is)
  (h3:leS (zhb (F.of sl lc) is) sl'=sl'.map fun p=>some p.2) (h4:leN (zhb (F.of sl lc) is) lc'=lc'.map fun p=>some p.2)
  (h:St ⟨w0,H0,B0,K,N⟩ (F.of sl lc) a w) (hQ:∀ a w,St ⟨w0,H0,B0,K,N⟩ (F.of sl' lc') a w->Q .normal a w):wpX r ds P (Code.region id ops draw) Q a w:=by
 simp only [chk,cX] at hc
 obtain ⟨⟨⟨c1,c2⟩,c3⟩,c4⟩:=hc
 have hmem:∀ k,at_ is k ∈ is\/at_ is k={}:=by
  intro k
  unfold at_
  rw [List.getD_eq_getElem?_getD]
  cases hk:is[k]? with
  | none=>exact .inr rfl
  | some x=>exact .inl (bL hk)
 refine wpX_region_S (fun o ho c hc=>by have:=bR.1 hnd o (by simpa using ho);unfold noDefer at this;rw [hc] at this;cases this) is (F.of sl' lc') hm c1 (fun k o ho=>hdo.get k o (by simpa using ho)) ?_ ?_ ?_ h hQ
 ·intro k
  refine ⟨fun p hp=>?_,fun h0=>?_⟩
  ·rcases hmem k with hk | hk
   ·have:=bR.1 (bR.1 c2 _ hk) p hp
    simpa [Nat.blt_eq] using this
   ·rw [hk] at hp;cases hp
  ·rcases hmem k with hk | hk
   ·have:=bR.1 c4 _ hk
    rw [h0] at this
    simpa using this
   ·rw [hk] at h0;cases h0
 ·intro k n hn
  rcases hmem k with hk | hk
  ·exact zb9 (bR.1 (bR.1 c3 _ hk) n hn)
  ·rw [hk] at hn;cases hn
 ·have:=RunL.of (g:=F.of sl' lc') [] is (F.of sl lc) h1 h2 (zf8 h3 h4)
  have hl:=hdo.length
  simp only [List.nil_append,List.length_nil] at this
  rw [List.range_eq_range', <- dP,hl]
  exact this
end
section
variable {r:Option Nat} {ds:List Deferred} {Q:Exit->Act->World->Prop} {w0:World} {H0:Im} {B0:Bl} {K:List Nat} {N:Nat}
theorem rSX {tb:Tb} (htb:zh4 dZ tb) {id:Nat} {ops:Array Oper} (nx:Nat) (cs:List (Nat × Orc dZ)) (sl':List (Nat × V)) (lc':List (Nat × L))
  (hnd:ops.toList.all noDefer=true)
  (hc:((gens ops.toList cs).map (·.1),(zd0 tb ops (F.of sl lc) nx 0 ops.toList cs).isSome,(zd0 tb ops (F.of sl lc) nx 0 ops.toList cs).map fun is=>Seen.mk (chk draw ops.toList is N K sl lc) (runS (F.of sl lc) is) (runN (F.of sl lc) is) (leS (zhb (F.of sl lc) is) sl') (leN (zhb (F.of sl lc) is) lc')) =
   ((gens ops.toList cs).map (·.2),true,(zd0 tb ops (F.of sl lc) nx 0 ops.toList cs).map fun is=>Seen.mk true (wantS is) (wantN is) (sl'.map fun p=>some p.2) (lc'.map fun p=>some p.2)))
  (h:St ⟨w0,H0,B0,K,N⟩ (F.of sl lc) a w) (hQ:∀ a w,St ⟨w0,H0,B0,K,N⟩ (F.of sl' lc') a w->Q .normal a w):wpX r ds dZ (Code.region id ops draw) Q a w:=by
 simp only [Prod.mk.injEq] at hc
 obtain ⟨hg,hs,hm⟩:=hc
 cases hi:zd0 tb ops (F.of sl lc) nx 0 ops.toList cs with
 | none=>rw [hi] at hs;cases hs
 | some is =>
  rw [hi] at hm
  simp only [bP,Option.some.injEq,Seen.mk.injEq] at hm
  exact regionX hnd is sl' lc' mixed (zht htb hg _ _ _ _ _ rfl hi) hm.1 hm.2.1 hm.2.2.1 hm.2.2.2.1 hm.2.2.2.2 h hQ
theorem rSeqX {tb:Tb} (htb:zh4 dZ tb) {id:Nat} {ops:Array Oper} {y:Code} (nx:Nat) (cs:List (Nat × Orc dZ)) (sl':List (Nat × V)) (lc':List (Nat × L))
  (hnd:ops.toList.all noDefer=true)
  (hc:((gens ops.toList cs).map (·.1),(zd0 tb ops (F.of sl lc) nx 0 ops.toList cs).isSome,(zd0 tb ops (F.of sl lc) nx 0 ops.toList cs).map fun is=>Seen.mk (chk draw ops.toList is N K sl lc) (runS (F.of sl lc) is) (runN (F.of sl lc) is) (leS (zhb (F.of sl lc) is) sl') (leN (zhb (F.of sl lc) is) lc')) =
   ((gens ops.toList cs).map (·.2),true,(zd0 tb ops (F.of sl lc) nx 0 ops.toList cs).map fun is=>Seen.mk true (wantS is) (wantN is) (sl'.map fun p=>some p.2) (lc'.map fun p=>some p.2)))
  (h:St ⟨w0,H0,B0,K,N⟩ (F.of sl lc) a w) (hQ:∀ a w,St ⟨w0,H0,B0,K,N⟩ (F.of sl' lc') a w->wpX r ds dZ y Q a w):wpX r ds dZ (Code.seq (Code.region id ops draw) y) Q a w :=
 wpX_seq (rSX htb nx cs sl' lc' hnd hc h hQ)
end
def dat:Obj->Bool
  | .cells _ _ _ | .map _ _ | .mapIter _ _ _ _=>true
  | _=>false
theorem dat_cells (h:dat o=false):o.isCells=false:=by cases o <;> first | rfl | cases h
def LeC (H H':Im):Prop:=∀ b o,H b=some o->dat o=true->H' b=some o
section
variable {H H':Im} {B:Bl}
theorem DR.monoC (hl:LeC H H') {x:D} (h:DR H x v):DR H' x v:=by
 induction h with
 | raw v h=>exact .raw v h
 | nil es ao c h hc=>exact .nil es ao c h hc
 | sl es rows b o c arr ty fz vs hp hb hl2 hc hes hv _ ih=>exact .sl es rows b o c arr ty fz vs hp (hl _ _ hb rfl) hl2 hc hes hv ih
theorem AR.monoC (hl:LeC H H') {x:A} (h:AR H B x v):AR H' B x v:=by
 cases x with
 | d x=>exact DR.monoC hl h
 | ptr n o=>exact h
theorem CR.monoC (hl:LeC H H') {x:C} (h:CR H B x v):CR H' B x v:=by
 cases x with
 | d x=>exact DR.monoC hl h
 | ptr n o=>exact h
 | own n k=>exact h
 | el xs =>
  obtain ⟨b,o,arr,ty,fz,hb,hv,hx⟩:=h
  exact ⟨b,o,arr,ty,fz,hl _ _ hb rfl,hv,fun j hj=>let ⟨u,h1,h2⟩:=hx j hj;⟨u,h1,h2.monoC hl⟩⟩
 | fn f fs cs =>
  obtain ⟨vs,ws,hv,h1,h2⟩:=h
  exact ⟨vs,ws,hv,h1.mono fun a _ b=>AR.monoC hl,h2.mono fun a _ b=>AR.monoC hl⟩
 | sub n o len=>exact h
 | any=>exact h
 | mp n=>exact h
theorem TR.monoC (hl:LeC H H') {x:T} (h:TR H B x v):TR H' B x v:=by
 cases x with
 | c x=>exact CR.monoC hl h
 | agg cs =>
  obtain ⟨vs,hv,h1⟩:=h
  exact ⟨vs,hv,h1.mono fun a _ b=>CR.monoC hl⟩
theorem VR.monoC (hl:LeC H H') {x:V} (h:VR H B x v):VR H' B x v:=by
 cases x with
 | t x=>exact TR.monoC hl h
 | tup xs =>
  obtain ⟨vs,hv,h1⟩:=h
  exact ⟨vs,hv,h1.mono fun a _ b=>TR.monoC hl⟩
theorem LR.monoC (hl:LeC H H') {x:L} (hw:∀ b c,B n=some (b,c)->w'.heap[b]?=w.heap[b]?) (h:LR H B w n x):LR H' B w' n x:=by
 cases x with
 | box cs =>
  obtain ⟨b,c,arr,ty,hb,hc,h1⟩:=h
  exact ⟨b,c,arr,ty,hb,(hw b c hb).trans hc,h1.mono fun a _ v=>CR.monoC hl⟩
 | row ty es rows =>
  simp only [LR] at h ⊢
  cases hb:B n with
  | none=>rw [hb] at h;exact h
  | some p =>
   obtain ⟨b,c⟩:=p
   rw [hb] at h
   obtain ⟨arr,h1,h2,h3,h4,h5,h6⟩:=h
   exact ⟨arr,(hw b c hb).trans h1,h2,h3,h4,h5,h6.mono fun a _ v=>DR.monoC hl⟩
 | rowc ty es rows =>
  simp only [LR] at h ⊢
  cases hb:B n with
  | none=>rw [hb] at h;exact h
  | some p =>
   obtain ⟨b,c⟩:=p
   rw [hb] at h
   obtain ⟨arr,h1,h2,h3,h4,h5,h6⟩:=h
   exact ⟨arr,(hw b c hb).trans h1,h2,h3,h4,h5,h6.mono fun a _ v=>CR.monoC hl⟩
 | bld ty x rest =>
  obtain ⟨b,c,v1,v2,vr,hb,hc,h1,h0,h2,h3⟩:=h
  exact ⟨b,c,v1,v2,vr,hb,(hw b c hb).trans hc,h1,h0,CR.monoC hl h2,h3.mono fun a _ v=>CR.monoC hl⟩
 | mp es =>
  obtain ⟨b,c,arr,cl,hb,hc,h1,h9⟩:=h
  exact ⟨b,c,arr,cl,hb,(hw b c hb).trans hc,h1.mono fun a _ e h2=>⟨h2.1,h2.2.monoC hl⟩,h9⟩
 | mpx arr cl=>obtain ⟨b,c,hb,hc⟩:=h;exact ⟨b,c,hb,(hw b c hb).trans hc⟩
 | it m since seen cl=>obtain ⟨b,c,b2,c2,hb,h2,hc⟩:=h;exact ⟨b,c,b2,c2,hb,h2,(hw b c hb).trans hc⟩
theorem LR.cells {x:L} {c:Nat} (h:LR H B w n x) (hb:B n=some (b,c)):∃ o,w.heap[b]?=some o/\dat o=true:=by
 cases x with
 | box cs=>obtain ⟨b', c', arr,ty,hb', hc,_⟩:=h;rw [hb] at hb';cases hb';exact ⟨_,hc,rfl⟩
 | row ty es rows =>
  simp only [LR] at h
  rw [hb] at h
  obtain ⟨arr,h1,_⟩:=h
  exact ⟨_,h1,rfl⟩
 | rowc ty es rows =>
  simp only [LR] at h
  rw [hb] at h
  obtain ⟨arr,h1,_⟩:=h
  exact ⟨_,h1,rfl⟩
 | bld ty x rest=>obtain ⟨b', c', v1,v2,vr,hb', hc,_⟩:=h;rw [hb] at hb';cases hb';exact ⟨_,hc,rfl⟩
 | mp es=>obtain ⟨b', c', arr,cl,hb', hc,_⟩:=h;rw [hb] at hb';cases hb';exact ⟨_,hc,rfl⟩
 | mpx _ _=>obtain ⟨b', c', hb', hc⟩:=h;rw [hb] at hb';cases hb';exact ⟨_,hc,rfl⟩
 | it _ _ _ _=>obtain ⟨b', c', _,_,hb', _,hc⟩:=h;rw [hb] at hb';cases hb';exact ⟨_,hc,rfl⟩
end
def cutH (H1 H:Im):Im:=fun b=>match H b with
  | some o=>if dat o || (H1 b).isSome then some o else none
  | none=>none
theorem cutH_some (h:cutH H1 H b=some o):H b=some o/\(dat o=true\/(H1 b).isSome=true):=by
 unfold cutH at h
 cases hb:H b with
 | none=>rw [hb] at h;cases h
 | some o' =>
  rw [hb] at h
  dsimp only at h
  split at h
  ·rename_i hc;cases h;exact ⟨rfl,by simpa using hc⟩
  ·cases h
theorem cutH_leC (H1 H:Im):LeC H (cutH H1 H):=fun b o h ho=>by unfold cutH;rw [h];dsimp only;rw [ho];rfl
theorem cutH_none (h:H b=none):cutH H1 H b=none:=by unfold cutH;rw [h]
theorem zgi (h:H b=some o) (h1:(H1 b).isSome=true):cutH H1 H b=some o:=by unfold cutH;rw [h];dsimp only;rw [h1,Bool.or_true];rfl
theorem TabH.back {Hx:Im} (h:∀ b o,Hx b=some o->H1 b=some o\/o.isCells=false) (ht:TabH Hx):TabH H1:=by
 have _:=h;have _:=ht;exact trivial
def zdq (H M:Im):Im:=fun b=>match H b with
  | some o=>some o
  | none=>M b
theorem zhs (H M:Im):Le H (zdq H M):=fun b o h=>by unfold zdq;rw [h]
theorem zge {M:Im} (h:zdq H M b=some o):H b=some o\/(H b=none/\M b=some o):=by
 unfold zdq at h
 cases hb:H b with
 | none=>rw [hb] at h;exact .inr ⟨rfl,h⟩
 | some o'=>rw [hb] at h;exact .inl h
def Clean (H1 H:Im):Prop:=∀ b o,H b=some o->H1 b=some o\/dat o=true
section
variable {w0:World} {Hx H1 H:Im} {B0 B:Bl} {K:List Nat} {N:Nat} {f:F} {a:Act} {w:World}
theorem Ok.cut (h:Ok ⟨w0,Hx,B0,K,N⟩ f H B a w) (h1:Le H1 Hx) (h2:∀ b o,Hx b=some o->H1 b=some o\/dat o=false):Ok ⟨w0,H1,B0,K,N⟩ f (cutH H1 H) B a w/\Clean H1 (cutH H1 H):=by
 have hc:LeC H (cutH H1 H):=cutH_leC H1 H
 refine ⟨⟨h.df,h.n,h.ext,fun b o hb=>h.sat b o (cutH_some hb).1,fun t v hv=>VR.monoC hc (h.slot t v hv),fun n l hn=>LR.monoC hc (fun _ _ _=>rfl) (h.loc n l hn),?_,h.inj,?_,?_,h.keep,TabH.back (fun b o hb=>(h2 b o hb).imp id dat_cells) h.tab⟩,?_⟩
 ·intro n l b c hn hb
  obtain ⟨p1,p2,p3⟩:=h.priv n l b c hn hb
  exact ⟨p1,cutH_none p2,p3⟩
 ·intro b hb
  have hlow:H b=Hx b:=h.low b hb
  cases hx:Hx b with
  | none =>
   rw [hx] at hlow
   rw [cutH_none hlow]
   cases h1b:H1 b with
   | none=>exact h1b.symm
   | some o=>have:=h1 b o h1b;rw [hx] at this;cases this
  | some o =>
   rw [hx] at hlow
   rcases h2 b o hx with h3 | h3
   ·rw [zgi hlow (by rw [h3];rfl)];exact h3.symm
   ·cases h1b:H1 b with
    | none=>unfold cutH;rw [hlow];dsimp only;rw [h3,h1b];rfl
    | some o'=>rw [zgi hlow (by rw [h1b];rfl)];have:=h1 b o' h1b;rw [hx] at this;exact this.trans h1b.symm
 ·intro b o hb
  exact zgi (h.le b o (h1 b o hb)) (by show (H1 b).isSome=true;rw [show H1 b=some o from hb];rfl)
 ·intro b o hb
  obtain ⟨h3,h4⟩:=cutH_some hb
  rcases h4 with h4 | h4
  ·exact .inr h4
  ·obtain ⟨o', h5⟩:=dV.1 h4
   have:=h.le b o' (h1 b o' h5)
   rw [h3] at this
   cases this
   exact .inl h5
theorem Ok.join (h:Ok ⟨w0,H1,B0,K,N⟩ f H B a w) (M:Im) (hM:∀ b o,M b=some o->w.heap[b]?=some o/\dat o=false):Ok ⟨w0,zdq H1 M,B0,K,N⟩ f (zdq H M) B a w:=by
 have hl:=zhs H M
 refine ⟨h.df,h.n,h.ext,?_,fun t v hv=>VR.mono hl (fun _ _=>rfl) (h.slot t v hv),fun n l hn=>LR.mono hl rfl (fun _ _=>rfl) (fun _ _ _=>rfl) (h.loc n l hn),?_,h.inj,?_,?_,h.keep,h.tab.mono (zhs H1 M)⟩
 ·intro b o hb
  rcases zge hb with h1 | ⟨_,h1⟩
  ·exact h.sat b o h1
  ·exact (hM b o h1).1
 ·intro n l b c hn hb
  obtain ⟨p1,p2,p3⟩:=h.priv n l b c hn hb
  refine ⟨p1,?_,p3⟩
  unfold zdq
  rw [p2]
  show M b=none
  cases hm:M b with
  | none=>rfl
  | some o =>
   obtain ⟨h1,h2⟩:=hM b o hm
   obtain ⟨o', h3,h4⟩:=(h.loc n l hn).cells hb
   rw [h1] at h3;cases h3;rw [h2] at h4;cases h4
 ·intro b hb
  have:H b=H1 b:=h.low b hb
  show zdq H M b=zdq H1 M b
  unfold zdq;rw [this]
 ·intro b o hb
  show zdq H M b=some o
  rcases zge hb with h1 | ⟨h0,h1⟩
  ·exact hl b o (h.le b o h1)
  ·cases hx:H b with
   | none=>unfold zdq;rw [hx];exact h1
   | some o'=>unfold zdq;rw [hx];have:=h.sat b o' hx;rw [(hM b o h1).1] at this;exact this.symm
def StC (w0:World) (H1:Im) (B0:Bl) (K:List Nat) (N:Nat) (f:F) (a:Act) (w:World):Prop:=∃ H B,Ok ⟨w0,H1,B0,K,N⟩ f H B a w/\Clean H1 H
theorem StC.st (h:StC w0 H1 B0 K N f a w):St ⟨w0,H1,B0,K,N⟩ f a w:=let ⟨H,B,h,_⟩:=h;⟨H,B,h⟩
theorem StC.of (h:St ⟨w0,Hx,B0,K,N⟩ f a w) (h1:Le H1 Hx) (h2:∀ b o,Hx b=some o->H1 b=some o\/dat o=false):StC w0 H1 B0 K N f a w:=let ⟨_,B,h⟩:=h;⟨_,B,h.cut h1 h2⟩
theorem St.join (h:St ⟨w0,H1,B0,K,N⟩ f a w) (M:Im) (hM:∀ b o,M b=some o->w.heap[b]?=some o/\dat o=false):St ⟨w0,zdq H1 M,B0,K,N⟩ f a w:=let ⟨_,B,h⟩:=h;⟨_,B,h.join M hM⟩
theorem StC.turn (h:StC w0 H1 B0 K N f a w) {r:Nat} {z:Nat} (hos:w'.os=w.os) (htape:w'.tape=w.tape) (hout:w'.output=w.output) (hsize:w.heap.size<=w'.heap.size)
  (hblock:∀ b,b<w.heap.size->b≠r->w'.heap[b]?=w.heap[b]?) (hz:w0.heap.size<=z) (hr:z<=r) (hro:∀ o,w.heap[r]?=some o->dat o=false) (h1:∀ b o,H1 b=some o->b<z):StC w0 H1 B0 K N f a w':=by
 obtain ⟨H,B,h,hcl⟩:=h
 have hne:∀ b o,H b=some o->b≠r:=fun b o hb e=>by
  subst e
  rcases hcl b o hb with h2 | h2
  ·have:=h1 b o h2;omega
  ·have:=hro o (h.sat b o hb);rw [h2] at this;cases this
 have hown:∀ n l b c,f.l n=some l->B n=some (b,c)->w'.heap[b]?=w.heap[b]?:=fun n l b c hn hb=>by
  obtain ⟨o', h3,h4⟩:=(h.loc n l hn).cells hb
  refine hblock b (h.priv n l b c hn hb).1 fun e=>?_
  subst e
  have:=hro _ h3
  rw [h4] at this
  cases this
 refine ⟨H,B,⟨h.df,h.n,⟨hos.trans h.ext.os,htape.trans h.ext.tape,hout.trans h.ext.output,bH h.ext.size hsize,fun b hb hm=>?_⟩,?_,h.slot,?_,?_,h.inj,h.low,h.le,h.keep,h.tab⟩,hcl⟩
 ·have hb:b<w0.heap.size:=hb
  exact (hblock b (Nat.lt_of_lt_of_le hb h.ext.size) (by omega)).trans (h.ext.block b hb hm)
 ·intro b o hb
  have hs:=h.sat b o hb
  exact (hblock b (b7.1 hs).1 (hne b o hb)).trans hs
 ·intro n l hn
  exact LR.mono (Le.refl _) rfl (fun _ _=>rfl) (fun b c hb=>hown n l b c hn hb) (h.loc n l hn)
 ·intro n l b c hn hb
  obtain ⟨p1,p2,p3⟩:=h.priv n l b c hn hb
  exact ⟨Nat.lt_of_lt_of_le p1 hsize,p2,p3⟩
end
theorem wpIn_depth {F:Fence} {c:Code} {Q:Exit->Act->World->Prop} (hd:F.depth=none) (h:c.wpIn F n P Q a w):c.wpIn F m P Q a w :=
 fun b k cs hro hb _=>h b k cs hro hb fun d h1=>by rw [hd] at h1;cases h1
theorem RetQ.low {N:Nat} {ps:List (Nat × L)} {en:Ending} (hle:Le H0 H1) (hlow:∀ b,b<w0.heap.size->H1 b=H0 b)
  (h:RetQ ⟨w0,H1,B0,ps.map (·.1),N⟩ ps res qs en w):RetQ ⟨w0,H0,B0,ps.map (·.1),N⟩ ps res qs en w:=by
 obtain ⟨v,H', B', he,hp⟩:=h
 exact ⟨v,H', B', he,Le.trans hle hp.le,fun b hb=>(hp.low b hb).trans (hlow b hb),hp.sat,hp.loc,hp.priv,hp.inj,hp.keep,hp.res,hp.ext⟩
def RetX (P:Program) (fn:Func) (e:E) (res:V) (qs:List (Nat × L)) (ex:Exit) (a:Act) (w:World):Prop :=
  (ex = .ret\/ex = .normal)/\∃ rs f xs,fn.results=⟨rs⟩/\St e f a w/\zat (RV P f) rs xs/\resOf xs=res/\(∀ q ∈ qs,f.l q.1=some q.2)/\(res.tags++qs.flatMap fun q=>q.2.tags).all (zcm (qs.map (·.1)))=true
theorem retX {N:Nat} {fn:Func} {rs:List ResultVar} (xs:List T) (h:St ⟨w0,H0,B0,K,N⟩ (F.of sl lc) a w) (n:Exit) (hn:n = .ret\/n = .normal) (hf:fn.results=⟨rs⟩) (hx:zat (RV P (F.of sl lc)) rs xs) (hres:resOf xs=res)
  (hq:leN (F.of sl lc) qs=qs.map fun p=>some p.2) (ht:(res.tags++qs.flatMap fun q=>q.2.tags).all (zcm (qs.map (·.1)))=true):RetX P fn ⟨w0,H0,B0,K,N⟩ res qs n a w :=
 ⟨hn,rs,F.of sl lc,xs,hf,h,hx,hres,fun q hq1=>zam hq q hq1,ht⟩
def markH (Dd:Nat):Im:=fun b=>if b=Dd then some (.deferred (some [])) else none
def ncH (W:World):Im:=fun b=>match W.heap[b]? with
  | some o=>if dat o then none else some o
  | none=>none
theorem ncH_some {W:World} (h:ncH W b=some o):W.heap[b]?=some o/\dat o=false:=by
 unfold ncH at h
 cases hb:W.heap[b]? with
 | none=>rw [hb] at h;cases h
 | some o' =>
  rw [hb] at h
  dsimp only at h
  split at h
  ·cases h
  ·rename_i hc;cases h;exact ⟨rfl,by simpa using hc⟩
theorem ncH_of {W:World} (h:W.heap[b]?=some o) (ho:dat o=false):ncH W b=some o:=by unfold ncH;rw [h];dsimp only;rw [ho];rfl
section
variable {w0:World} {H1:Im} {B0 Bx:Bl} {K Kn:List Nat} {N:Nat} {f:F} {a:Act} {w W:World}
theorem St.nc (hs:∀ b o,H1 b=some o->W.heap[b]?=some o) (h:St ⟨w0,zdq H1 (ncH W),B0,K,N⟩ f a w) (hb:W.heap[b]?=some o) (ho:dat o=false):w.heap[b]?=some o:=by
 obtain ⟨H,B,h⟩:=h
 refine h.sat b o (h.le b o ?_)
 show zdq H1 (ncH W) b=some o
 unfold zdq
 cases h1:H1 b with
 | none=>exact ncH_of hb ho
 | some o'=>have:=hs b o' h1;rw [hb] at this;exact this.symm
theorem St.uncut (h:St ⟨w0,zdq H1 (ncH W),B0,K,N⟩ f a w):StC w0 H1 B0 K N f a w:=StC.of h (zhs _ _) fun b o hb=>by
 rcases zge hb with h1 | ⟨_,h1⟩
 ·exact .inl h1
 ·exact .inr (ncH_some h1).2
theorem StC.jn (h:StC w0 H1 B0 K N f a w):St ⟨w0,zdq H1 (ncH w),B0,K,N⟩ f a w:=St.join h.st _ fun _ _ hb=>ncH_some hb
theorem StC.sat (h:StC w0 H1 B0 K N f a w):∀ b o,H1 b=some o->w.heap[b]?=some o:=fun b o hb=>by
 obtain ⟨H,B,h,_⟩:=h
 exact h.sat b o (h.le b o hb)
theorem StC.params {p1 p2:Nat} {x1 x2:V} {v1 v2:Value} (h:StC w0 H1 Bx Kn N (F.of sl lc) a w) (hp:p1≠p2) (h1:p1<N) (h2:p2<N) (hv:∀ B,VR H1 B x1 v1/\VR H1 B x2 v2) :
  StC w0 H1 Bx Kn N (F.of ((p1,x1) :: (p2,x2) :: sl) lc) { tmps:=(#[p1,p2].zip #[v1,v2]).foldl (fun t (p,v)=>t.setIfInBounds p v) a.tmps,defers:=[] } w:=by
 obtain ⟨H,B,h,hc⟩:=h
 have hn:a.tmps.size=N:=h.n
 have ht:(#[p1,p2].zip #[v1,v2]).foldl (fun t (p,v)=>t.setIfInBounds p v) a.tmps=(a.tmps.setIfInBounds p1 v1).setIfInBounds p2 v2:=by simp
 refine ⟨H,B,⟨rfl,?_,h.ext,h.sat,fun t v hv2=>?_,h.loc,h.priv,h.inj,h.low,h.le,h.keep,h.tab⟩,hc⟩
 ·show ((#[p1,p2].zip #[v1,v2]).foldl (fun t (p,v)=>t.setIfInBounds p v) a.tmps).size=N
  rw [ht];simpa using hn
 ·show VR H B v (((#[p1,p2].zip #[v1,v2]).foldl (fun t (p,v)=>t.setIfInBounds p v) a.tmps).getD t undef)
  rw [ht]
  have hv2:((p1,x1) :: (p2,x2) :: sl).lookup t=some v:=hv2
  rw [List.lookup_cons] at hv2
  by_cases e1:t=p1
  ·subst e1
   simp only [beq_self_eq_true] at hv2
   cases hv2
   have:((a.tmps.setIfInBounds t v1).setIfInBounds p2 v2).getD t undef=v1:=by
    rw [cE, dD (by omega),dW (by omega)];rfl
   rw [this]
   exact VR.mono h.le (fun _ _=>rfl) (hv B).1
  ·rw [beq_eq_false_iff_ne.2 e1] at hv2
   dsimp only at hv2
   rw [List.lookup_cons] at hv2
   by_cases e2:t=p2
   ·subst e2
    simp only [beq_self_eq_true] at hv2
    cases hv2
    have:((a.tmps.setIfInBounds p1 v1).setIfInBounds t v2).getD t undef=v2:=by
     rw [cE, dW (by simp;omega)];rfl
    rw [this]
    exact VR.mono h.le (fun _ _=>rfl) (hv B).2
   ·rw [beq_eq_false_iff_ne.2 e2] at hv2
    dsimp only at hv2
    have:((a.tmps.setIfInBounds p1 v1).setIfInBounds p2 v2).getD t undef=a.tmps.getD t undef:=by
     rw [cE, dD (by omega),dD (by omega),<- cE]
    rw [this]
    exact h.slot t v hv2
theorem StC.again {a':Act} (h:StC w0 H1 Bx Kn N (F.of [] lc) a' w) (hd:a.defers=[]) (hn:a.tmps.size=N) (hs:∀ t v,(F.of sl lc).s t=some v->VR H1 Bx v (a.tmps.getD t undef)) (hK:(sl.all fun p=>p.2.tags.all (zcm Kn))=true):StC w0 H1 Bx Kn N (F.of sl lc) a w:=by
 obtain ⟨H,B,h,hc⟩:=h
 refine ⟨H,B,⟨hd,hn,h.ext,h.sat,fun t v hv=>VR.mono h.le (fun n hm=>h.keep n ?_) (hs t v hv),h.loc,h.priv,h.inj,h.low,h.le,h.keep,h.tab⟩,hc⟩
 exact zb5.1 (bR.1 (bR.1 hK (t,v) (zae hv)) n hm)
end
theorem dfS (h:St e f a w):a.defers=[]:=let ⟨_,_,h⟩:=h;h.df
attribute [local go_sem] Oper.semAt_some
section
variable {w0:World} {H0:Im} {B0:Bl} {K:List Nat} {N:Nat} {sl:List (Nat × V)} {lc:List (Nat × L)} {a:Act} {w:World}
def keepK (K:List Nat) (n:Nat) (lc:List (Nat × L)):Bool:=K.all fun k=>!Nat.beq k n && (lc.lookup k).isSome
theorem pubSK (n es:Nat) (ty:TypeId) (rows:List (List D)) (sl':List (Nat × V)) (lc':List (Nat × L)) (h:St ⟨w0,H0,B0,K,N⟩ (F.of sl lc) a w) (hl:lc.lookup n=some (.row ty es rows)) (hk:keepK K n lc=true)
  (h1:zcg rows.length (sl.flatMap (·.2.owns n))) (h2:zcg rows.length (lc.flatMap (·.2.owns n))) (h3:leS ((F.of sl lc).pub n es rows) sl'=sl'.map fun p=>some p.2:=by kernel_rfl) (h4:leN ((F.of sl lc).pub n es rows) lc'=lc'.map fun p=>some p.2:=by kernel_rfl) :
  St ⟨w0,H0,B0,K,N⟩ (F.of sl' lc') a w :=
 (h.pubK n es ty rows hl (fun k hk2=>by
  have:=bR.1 hk k hk2
  simp only [cX,Bool.not_eq_true'] at this
  refine And.intro (fun e=>?_) ?_
  ·rw [e,Nat.beq_refl] at this
   exact absurd this.1 (by decide)
  ·exact dV.1 this.2) (fun t v hv k hk=>zcg.mem h1 k (bC.2 ⟨(t,v),ofS_mem hv,hk⟩)) (fun m l hm k hk=>zcg.mem h2 k (bC.2 ⟨(m,l),ofL_mem hm,hk⟩))).weaken (zf8 h3 h4)
theorem pubKX (n es:Nat) (ty:TypeId) (rows:List (List D)) (h:St ⟨w0,H0,B0,K,N⟩ (F.of sl lc) a w) (ks:List Nat) (h1:zcg rows.length ks) (h2:sl.flatMap (·.2.owns n)++lc.flatMap (·.2.owns n)=ks:=by kernel_rfl) (hl:lc.lookup n=some (.row ty es rows):=by kernel_rfl) (hk:keepK K n lc=true:=by kernel_rfl) (h3:leS ((F.of sl lc).pub n es rows) (sl.map fun p=>(p.1,p.2.pub n es rows))=(sl.map fun p=>(p.1,p.2.pub n es rows)).map fun p=>some p.2:=by kernel_rfl) (h4:leN ((F.of sl lc).pub n es rows) (puM n es rows lc)=(puM n es rows lc).map fun p=>some p.2:=by kernel_rfl) :
  St ⟨w0,H0,B0,K,N⟩ (F.of (sl.map fun p=>(p.1,p.2.pub n es rows)) (puM n es rows lc)) a w:=pubSK n es ty rows (sl.map fun p=>(p.1,p.2.pub n es rows)) (puM n es rows lc) h hl hk (allApp (by rw [h2];exact h1:zcg rows.length (sl.flatMap (·.2.owns n)++lc.flatMap (·.2.owns n)))).1 (allApp (by rw [h2];exact h1:zcg rows.length (sl.flatMap (·.2.owns n)++lc.flatMap (·.2.owns n)))).2 h3 h4
end
section
variable {P:Program}
theorem Op.appOO {d t u sn len len2 len':Nat} {rows2:List (List D)} {pos af gd} (hT:ElT P xt el es bs) (hlen:len=rows.length) (hlen2:len2=rows2.length) (hlen':len'=len+rows2.length) (hrow:rows++rows2=rows')
  (hb:(len+rows2.length)*bs<=140737488355328) :
  zar P ⟨some d,.call { callee:=.builtin .append,args:=#[.tmp t,.tmp u],argTypes:=#[xt,xt] }, ty,pos,af,gd⟩
   { rs:=[(t,.t (.c (.own n len))),(u,.t (.c (.own sn len2)))],rl:=[(n,.row el es rows),(sn,.row el es rows2)],ws:=[(d,some (.t (.c (.own n' len'))))],wl:=[(n', some (.row el es rows')),(n,none)],nw:=[n'] }:=by
 subst hlen hlen2 hlen' hrow
 refine Op.appG (bO ..) fun e f H B a w hok hs hl hnew=>?_
 have h2:=hok.ownD (hl (sn,.row el es rows2) (by simp)) (hok.slot u _ (hs (u,.t (.c (.own sn rows2.length))) (by simp)))
 obtain ⟨v,w', p,r1,r2,r⟩:=zgl (ty:=ty) hT (hok.ownD (hl (n,.row el es rows) (by simp)) (hok.slot t _ (hs (t,.t (.c (.own n rows.length))) (by simp)))) h2.hes (h2.src fun _ _ h=>DR.flat h) hb
 exact ⟨v,w', p,r1,r2.cr (if_pos rfl) bY,r2.lrD (if_pos rfl),r⟩
end
def divP (g:Int) (p:zbl):zbl:=⟨p.v,d4 (p.c.val.fdiv g)⟩
def shrT (t:zd8):zd8:=if conZ (zbg t).parts=0 then zbg t else ⟨(zbg t).parts.map (divP (conZ (zbg t).parts)),d4 (t.k.val.fdiv (conZ (zbg t).parts))⟩
section
variable {P:Program}
theorem Op.makeO {d L:Nat} {zs:List D} {pos af gd} (hT:ElT P xt el es bs) (hz0:Zero P el (zs.map C.d)) (hzl:zs.length=es) (hx:OV x (vi .i64 (L:Int)) rs) (hy:OV y (vi .i64 (L:Int)) rs') (hb:L*bs<=140737488355328) :
  zar P ⟨some d,.makeSlice xt x y,ty,pos,af,gd⟩ { rs:=rs++rs', ws:=[(d,some (.t (.c (.own n L))))],wl:=[(n,some (.row el es (List.replicate L zs)))],nw:=[n] }:=by
 refine zar.news d n _ _ rfl rfl rfl (by simp) fun e f H B a w hok hr hn=>?_
 have h1:a.eval x = .int .i64 (L:Int):=(hx.eval hok fun p hp=>hr.1 p (b8 _ hp)).rawI
 have h2:a.eval y = .int .i64 (L:Int):=(hy.eval hok fun p hp=>hr.1 p (cC _ hp)).rawI
 obtain ⟨i,z,hi,hz,hsz,hby,hzs⟩:=hT.ex
 obtain ⟨z', l,g1,g2,g3⟩:=hz0.ex
 have hzz:z'=z:=by
  rw [hi] at g1
  have g1':i.zero=some z':=g1
  rw [hz] at g1';injection g1' with g1';exact g1'.symm
 subst hzz
 have hL:L<=140737488355328:=by
  have:L*1<=L*bs:=dA _ hT.bpos
  omega
 have hbb:(bs:Int)*(L:Int)<=281474976710656:=by
  have:(bs:Int)*(L:Int)=((L*bs:Nat):Int):=by rw [Int.natCast_mul,cV]
  omega
 have hrun:=run_make (P:=P) w xt el i z' hT.hu hi hz .i64 .i64 (L:Int) (L:Int) (by omega) (cP _) (by rw [hby];exact hbb) (by omega)
 rw [b9,hsz] at hrun
 refine ⟨.slice (some ⟨w.heap.size,0,none⟩) L L,L,.cells (madeCells z'.cells (L*es)) el,?_,?_,?_⟩
 ·generalize a.eval=ρ at h1 h2 ⊢
  simp only [execOp,h1,h2,Sem.run_bind,hrun,Result.andThen_ok,Sem.run_pure]
 ·simp only [LR,if_true]
  have hall:∀ r ∈ List.replicate L zs,r.length=es:=fun r hr2=>by rw [(List.mem_replicate.1 hr2).2];exact hzl
  have hsize:(madeCells z'.cells (L*es)).toList.length=L*es:=by simp [madeCells]
  refine ⟨(madeCells z'.cells (L*es)).toList,heap_alloc_new w _,hsize,by rw [cY];exact bG _,by simp only [maxLen];omega,hall,?_⟩
  refine (zbc hsize (by rw [cY];exact bG _) hall).2 fun k r hri f' x' hx2=>?_
  obtain ⟨hk,hrk⟩:=bM.1 hri
  rw [cY] at hk
  rw [List.getElem_replicate] at hrk
  subst hrk
  have hf:=(bM.1 hx2).1
  rw [hzl] at hf
  obtain ⟨u,hu1,hu2⟩:=(g3 H B).get f' (by rw [bF,hzl];exact hf)
  have hx3:(zs.map C.d)[f']'(by rw [bF,hzl];exact hf)=C.d x':=by
   rw [cU];congr 1
   rw [bI (by omega)] at hx2
   injection hx2
  rw [hx3] at hu2
  refine ⟨u,?_,hu2⟩
  have hlt:k*es+f'<L*es:=by
   have:(k+1)*es<=L*es:=bV _ hk
   rw [bX] at this;omega
  have hmod:(k*es+f') % z'.cells.size=f':=by rw [hzs,Nat.mul_comm,Nat.mul_add_mod];exact bW hf
  simp only [madeCells,c8,Array.toList_range,bT,List.getElem?_range hlt,bP,hmod]
  rw [g2]
  simp [hu1]
 ·simp [VR,TR,CR]
theorem Op.makeO' {d L:Nat} {zs:List D} {pos af gd} (hT:ElT P xt el es bs) (hz0:Zero P el (zs.map C.d)) (hzl:zs.length=es) (hx:OV x (vi .i64 (L:Int)) rs) (hy:OV y (vi .i64 (L:Int)) rs') (hb:L*bs<=140737488355328) (hr:List.replicate L zs=rows) :
  zar P ⟨some d,.makeSlice xt x y,ty,pos,af,gd⟩ { rs:=rs++rs', ws:=[(d,some (.t (.c (.own n L))))],wl:=[(n,some (.row el es rows))],nw:=[n] }:=by
 subst hr
 exact Op.makeO hT hz0 hzl hx hy hb
end
def zR:zh6:=⟨⟨[],⟨false,[]⟩⟩,false⟩
def truF (b:Bool):zau:=⟨if b=true then 0 else 1,zR,[]⟩
def neg1 (t:zd8):zd8:=scaleT t (d4 (-1))
def firstN (t:zd8):Bool:=match t.parts with | []=>false | p :: _=>decide (sgn p.c.val<0)
def tightR (r:zh6):zh6 × Int :=
  if (zbg r.t).parts.length=0 then (zR,if (sgn r.t.k.val == 0 || (!r.eq && decide (sgn r.t.k.val>0)))=true then 1 else -1)
  else if r.eq=true/\r.t.k.val.fmod (conZ (zbg r.t).parts)≠0 then (zR,-1)
  else (⟨if (r.eq && firstN (shrT r.t))=true then neg1 (shrT r.t) else shrT r.t,r.eq⟩,0)
def tightF (r:zh6):zau:=if (tightR r).2=0 then ⟨2,(tightR r).1,[]⟩ else truF (decide ((tightR r).2>0))
def lowR (t:zd8):zh6:=⟨subT (neg1 t) (numT (d4 1)),false⟩
def denyR (r:zh6):List zh6:=if r.eq=true then [lowR (neg1 r.t),lowR r.t] else [lowR r.t]
def joinGo (k:Int):List zau->List zau->zau
  | [],out=>(match out with | []=>truF (decide (k=4)) | [g]=>g | _=>⟨k,zR,out⟩)
  | f :: fs,out=>if (k=4/\f.kind=1)\/(k=5/\f.kind=0) then f else if f.kind=0\/f.kind=1 then joinGo k fs out else if f.kind=k then joinGo k fs (out++f.kids) else joinGo k fs (out++[f])
def joinF (k:Int) (fs:List zau):zau:=joinGo k fs []
def flatK (k:Int) (r:zh6) (cs:List (Bool->zau)) (d:Bool):zau :=
  if k=0 then truF (!d) else if k=2 then (if d=true then joinF 5 ((denyR r).map tightF) else tightF r) else if k=3 then (match cs with | []=>truF d | c :: _=>c (!d)) else if k=4\/k=5 then joinF (if d=true then 9 - k else k) (cs.map fun c=>c d) else truF d
def zau.flat (f:zau):Bool->zau:=f.fold fun k r _ cs=>flatK k r cs
theorem od1_4:Zero dZ 3 [.d (.raw (.int .i64 0))]:=⟨(.int .i64 0:Value),[.int .i64 0],by kernel_rfl,rfl,(fun _ _=>⟨DR.raw _ rfl,trivial⟩)⟩
mutual
inductive Wk:D->D->Prop
  | refl (x:D):Wk x x
  | nil (es:Nat):Wk (.raw za6) (.sl es [])
  | sl (es:Nat) (a b:List (List D)) (h:WkR a b):Wk (.sl es a) (.sl es b)
inductive WkL:List D->List D->Prop
  | nil:WkL [] []
  | cons (x y:D) (xs ys:List D) (h:Wk x y) (hs:WkL xs ys):WkL (x :: xs) (y :: ys)
inductive WkR:List (List D)->List (List D)->Prop
  | nil:WkR [] []
  | cons (x y:List D) (xs ys:List (List D)) (h:WkL x y) (hs:WkR xs ys):WkR (x :: xs) (y :: ys)
end
def WkM (x y:D):Prop:=∀ (H:Im) (v:Value),DR H x v->DR H y v
def WkLM (xs ys:List D):Prop:=xs.length=ys.length/\∀ j (h:j<xs.length) (h':j<ys.length),WkM xs[j] ys[j]
def WkRM (xs ys:List (List D)):Prop:=xs.length=ys.length/\∀ i (h:i<xs.length) (h':i<ys.length),WkLM xs[i] ys[i]
theorem Wk.sound {x y:D} (h:Wk x y):WkM x y:=by
 refine Wk.rec (motive_1:=fun x y _=>WkM x y) (motive_2:=fun x y _=>WkLM x y) (motive_3:=fun x y _=>WkRM x y) ?_ ?_ ?_ ?_ ?_ ?_ ?_ h
 ·intro x H v h;exact h
 ·intro es H v h
  cases h with
  | raw v h=>exact DR.nil _ _ _ (fun _=>rfl) (bJ _)
 ·intro es a b _ ih H v h
  cases h with
  | nil es ao c h hc =>
   have:b=[]:=cQ.1 ih.1.symm
   subst this
   exact DR.nil _ _ _ h hc
  | sl es rows bb o c arr ty fz vs hp hb hl hc hes hv hr =>
   rw [ih.1] at hp hl ⊢
   refine DR.sl es b bb o c arr ty fz vs hp hb hl hc (fun i hi=>?_) (fun i hi=>?_) (fun i hi j hj=>?_)
   ·have h0:i<a.length:=by rw [ih.1];exact hi
    rw [<- (ih.2 i h0 hi).1];exact hes i h0
   ·exact hv i (by rw [ih.1];exact hi)
   ·have h0:i<a.length:=by rw [ih.1];exact hi
    have hj0:j<a[i].length:=by rw [(ih.2 i h0 hi).1];exact hj
    exact (ih.2 i h0 hi).2 j hj0 hj _ _ (hr i h0 j hj0)
 ·exact ⟨rfl,fun j h=>absurd h (Nat.not_lt_zero j)⟩
 ·intro x y xs ys _ _ h hs
  refine ⟨by simp [hs.1],fun j hj hj'=>?_⟩
  cases j with
  | zero=>exact h
  | succ j=>exact hs.2 j (by simpa using hj) (by simpa using hj')
 ·exact ⟨rfl,fun j h=>absurd h (Nat.not_lt_zero j)⟩
 ·intro x y xs ys _ _ h hs
  refine ⟨by simp [hs.1],fun j hj hj'=>?_⟩
  cases j with
  | zero=>exact h
  | succ j=>exact hs.2 j (by simpa using hj) (by simpa using hj')
inductive WkC:List C->List C->Prop
  | nil:WkC [] []
  | same (x:C) (xs ys:List C) (hs:WkC xs ys):WkC (x :: xs) (x :: ys)
  | d (x y:D) (xs ys:List C) (h:Wk x y) (hs:WkC xs ys):WkC (.d x :: xs) (.d y :: ys)
theorem WkC.sound {xs ys:List C} (h:WkC xs ys):∀ {vs:List Value}, zat (CR H B) xs vs->zat (CR H B) ys vs:=by
 induction h with
 | nil=>exact fun h=>h
 | same x xs ys _ ih =>
  intro vs k
  cases vs with
  | nil=>exact k.elim
  | cons v vs=>exact ⟨k.1,ih k.2⟩
 | d x y xs ys h _ ih =>
  intro vs k
  cases vs with
  | nil=>exact k.elim
  | cons v vs=>exact ⟨h.sound H v k.1,ih k.2⟩
inductive WkV:V->V->Prop
  | refl (x:V):WkV x x
  | c (x y:D) (h:Wk x y):WkV (.t (.c (.d x))) (.t (.c (.d y)))
  | agg (xs ys:List C) (h:WkC xs ys):WkV (.t (.agg xs)) (.t (.agg ys))
theorem WkV.sound {x y:V} (h:WkV x y) (k:VR H B x v):VR H B y v:=by
 cases h with
 | refl=>exact k
 | c x y h=>exact h.sound H v k
 | agg xs ys h=>obtain ⟨vs,e,k⟩:=k;exact ⟨vs,e,h.sound k⟩
inductive WkA:List V->List V->Prop
  | nil:WkA [] []
  | cons (x y:V) (xs ys:List V) (h:WkV x y) (hs:WkA xs ys):WkA (x :: xs) (y :: ys)
theorem WkA.sound {xs ys:List V} (h:WkA xs ys):∀ {vs:List Value}, zat (VR H B) xs vs->zat (VR H B) ys vs:=by
 induction h with
 | nil=>exact fun h=>h
 | cons x y xs ys h _ ih =>
  intro vs k
  cases vs with
  | nil=>exact k.elim
  | cons v vs=>exact ⟨h.sound k.1,ih k.2⟩
theorem Fn.argw {k:FuncId} {ps:List (Nat × L)} {args':List V} (h:Fn P k ps args' res qs) (hw:WkA args args'):Fn P k ps args res qs :=
 fun w H B vals pre=>h w H B vals ⟨pre.sat,pre.loc,pre.priv,pre.inj,hw.sound pre.arg,pre.tab⟩
structure EdgeD where
  act:Int
  to_:StD
def EdgeD.d (x:EdgeD):List D:=[.raw (.int .i64 x.act),.sl 1 (x.to_.locs.map za3),.sl 2 (x.to_.vals.map ziD)]
structure PrD where
  st:Int
  nd:Int
def PrD.d (x:PrD):List D:=[.raw (.int .i64 x.st),.raw (.int .i64 x.nd)]
structure MvD where
  act:Int
  to_:PrD
def MvD.d (x:MvD):List D:=[.raw (.int .i64 x.act),.raw (.int .i64 x.to_.st),.raw (.int .i64 x.to_.nd)]
structure WkD where
  at_:PrD
  moves:List MvD
  done:Nat
def WkD.d (x:WkD):List D:=[.raw (.int .i64 x.at_.st),.raw (.int .i64 x.at_.nd),.sl 3 (x.moves.map MvD.d),.raw (.int .i64 ((x.done:Nat):Int))]
structure za4 where
  must:List Int
  never:List Int
  next:List Int
def za4.d (x:za4):List D:=[.sl 1 (x.must.map za3),.sl 1 (x.never.map za3),.sl 1 (x.next.map za3)]
structure zca where
  nodes:List za4
  first:List Int
  good:List Bool
def zca.d (x:zca):List D:=[.sl 3 (x.nodes.map za4.d),.sl 1 (x.first.map za3),.sl 1 (x.good.map za0)]
instance prDec:DecidableEq PrD:=fun x y=>decidable_of_iff (x.st=y.st/\x.nd=y.nd) (by cases x;cases y;simp)
def hdB (l:List Bool) (p:Int):Bool:=decide (0<=p) && decide (p<(l.length:Int)) && (l[p.toNat]?).getD false
def alwT (n:za4) (l:List Bool):Bool:=!n.must.any (fun p=>!hdB l p) && !n.never.any (hdB l)
end S
end Go.Proofs.YtjnkkdfojfjncaaGreat
section
namespace Go.Proofs.YtjnkkdfojfjncaaGreat.S
variable {b:Nat}
inductive PF where
  | tt | ff
  | pa (p:Int) | na (p:Int)
  | and (p q:PF) | or (p q:PF) | nx (p:PF) | un (p q:PF) | fr (p q:PF)
namespace PF
def beq:PF->PF->Bool
  | tt,tt=>true
  | ff,ff=>true
  | pa p,pa q=>p == q
  | na p,na q=>p == q
  | and p q,and r s=>beq p r && beq q s
  | or p q,or r s=>beq p r && beq q s
  | nx p,nx q=>beq p q
  | un p q,un r s=>beq p r && beq q s
  | fr p q,fr r s=>beq p r && beq q s
  | _,_=>false
theorem beq_eq:∀ {a b:PF}, beq a b=true->a=b
 | tt,b,h=>by cases b <;> first | rfl | cases h
 | ff,b,h=>by cases b <;> first | rfl | cases h
 | pa p,b,h=>by cases b <;> first | (simp [beq] at h;rw [h]) | cases h
 | na p,b,h=>by cases b <;> first | (simp [beq] at h;rw [h]) | cases h
 | and p q,b,h=>by cases b <;> first | (simp [beq] at h;rw [beq_eq h.1,beq_eq h.2]) | cases h
 | or p q,b,h=>by cases b <;> first | (simp [beq] at h;rw [beq_eq h.1,beq_eq h.2]) | cases h
 | nx p,b,h=>by cases b <;> first | (simp [beq] at h;rw [beq_eq h]) | cases h
 | un p q,b,h=>by cases b <;> first | (simp [beq] at h;rw [beq_eq h.1,beq_eq h.2]) | cases h
 | fr p q,b,h=>by cases b <;> first | (simp [beq] at h;rw [beq_eq h.1,beq_eq h.2]) | cases h
theorem zdh:∀ a:PF,beq a a=true
 | tt=>rfl
 | ff=>rfl
 | pa p=>by simp [beq]
 | na p=>by simp [beq]
 | and p q=>by simp [beq,zdh p,zdh q]
 | or p q=>by simp [beq,zdh p,zdh q]
 | nx p=>by simp [beq,zdh p]
 | un p q=>by simp [beq,zdh p,zdh q]
 | fr p q=>by simp [beq,zdh p,zdh q]
def neg:PF->PF
  | tt=>ff
  | ff=>tt
  | pa p=>na p
  | na p=>pa p
  | and p q=>or (neg p) (neg q)
  | or p q=>and (neg p) (neg q)
  | nx p=>nx (neg p)
  | un p q=>fr (neg p) (neg q)
  | fr p q=>un (neg p) (neg q)
theorem neg_neg9:∀ p:PF,neg (neg p)=p
 | tt=>rfl
 | ff=>rfl
 | pa _=>rfl
 | na _=>rfl
 | and p q=>by simp [neg,neg_neg9 p,neg_neg9 q]
 | or p q=>by simp [neg,neg_neg9 p,neg_neg9 q]
 | nx p=>by simp [neg,neg_neg9 p]
 | un p q=>by simp [neg,neg_neg9 p,neg_neg9 q]
 | fr p q=>by simp [neg,neg_neg9 p,neg_neg9 q]
end PF
abbrev Sq9:=Nat->Int->Bool
def ps (σ:Sq9):PF->Nat->Prop
  | .tt,_=>True
  | .ff,_=>False
  | .pa p,i=>σ i p=true
  | .na p,i=>σ i p=false
  | .and p q,i=>ps σ p i/\ps σ q i
  | .or p q,i=>ps σ p i\/ps σ q i
  | .nx p,i=>ps σ p (i+1)
  | .un p q,i=>∃ k,ps σ q (i+k)/\∀ j,j<k->ps σ p (i+j)
  | .fr p q,i=>∀ k,ps σ q (i+k)\/∃ j,j<k/\ps σ p (i+j)
theorem zeh (σ:Sq9):∀ (p:PF) (i:Nat),ps σ p.neg i ↔ ¬ ps σ p i
 | .tt,_=>by simp [ps,PF.neg]
 | .ff,_=>by simp [ps,PF.neg]
 | .pa p,i=>by simp [ps,PF.neg]
 | .na p,i=>by simp [ps,PF.neg]
 | .and p q,i=>by
  simp only [ps,PF.neg,zeh σ p,zeh σ q]
  by_cases h:ps σ p i <;> by_cases h':ps σ q i <;> simp [h,h']
 | .or p q,i=>by simp only [ps,PF.neg,zeh σ p,zeh σ q,not_or]
 | .nx p,i=>by simp only [ps,PF.neg,zeh σ p]
 | .un p q,i=>by
  simp only [ps,PF.neg,zeh σ p,zeh σ q]
  constructor
  ·rintro h ⟨k,h1,h2⟩
   rcases h k with h3 | ⟨j,h3,h4⟩
   ·exact h3 h1
   ·exact h4 (h2 j h3)
  ·intro h k
   by_cases h1:ps σ q (i+k)
   ·refine .inr (Classical.byContradiction fun h2=>h ⟨k,h1,fun j hj=>Classical.byContradiction fun h3=>h2 ⟨j,hj,h3⟩⟩)
   ·exact .inl h1
 | .fr p q,i=>by
  simp only [ps,PF.neg,zeh σ p,zeh σ q]
  constructor
  ·rintro ⟨k,h1,h2⟩ h
   rcases h k with h3 | ⟨j,h3,h4⟩
   ·exact h1 h3
   ·exact h2 j h3 h4
  ·intro h
   refine Classical.byContradiction fun h0=>h fun k=>?_
   by_cases h1:ps σ q (i+k)
   ·exact .inl h1
   ·exact .inr (Classical.byContradiction fun h2=>h0 ⟨k,h1,fun j hj h3=>h2 ⟨j,hj,h3⟩⟩)
theorem ps_un (σ:Sq9) (p q:PF) (i:Nat):ps σ (.un p q) i ↔ ps σ q i\/(ps σ p i/\ps σ (.un p q) (i+1)):=by
 constructor
 ·rintro ⟨k,h1,h2⟩
  cases k with
  | zero=>exact .inl h1
  | succ k=>exact .inr ⟨h2 0 (by omega),k,by rw [show i+1+k=i+(k+1) by omega];exact h1,fun j hj=>by rw [show i+1+j=i+(j+1) by omega];exact h2 (j+1) (by omega)⟩
 ·rintro (h | ⟨h,k,h1,h2⟩)
  ·exact ⟨0,h,fun j hj=>by omega⟩
  ·refine ⟨k+1,by rw [show i+(k+1)=i+1+k by omega];exact h1,fun j hj=>?_⟩
   cases j with
   | zero=>exact h
   | succ j=>rw [show i+(j+1)=i+1+j by omega];exact h2 j (by omega)
theorem ps_fr (σ:Sq9) (p q:PF) (i:Nat):ps σ (.fr p q) i ↔ ps σ q i/\(ps σ p i\/ps σ (.fr p q) (i+1)):=by
 constructor
 ·intro h
  have h0:ps σ q i:=by rcases h 0 with h | ⟨j,hj,_⟩;exact h;omega
  refine ⟨h0,?_⟩
  by_cases h1:ps σ p i
  ·exact .inl h1
  ·refine .inr fun k=>?_
   rcases h (k+1) with h2 | ⟨j,hj,h2⟩
   ·exact .inl (by rw [show i+1+k=i+(k+1) by omega];exact h2)
   ·cases j with
    | zero=>exact absurd h2 h1
    | succ j=>exact .inr ⟨j,by omega,by rw [show i+1+j=i+(j+1) by omega];exact h2⟩
 ·rintro ⟨h,h1⟩ k
  cases k with
  | zero=>exact .inl h
  | succ k =>
   rcases h1 with h1 | h1
   ·exact .inr ⟨0,by omega,h1⟩
   ·rcases h1 k with h2 | ⟨j,hj,h2⟩
    ·exact .inl (by rw [show i+(k+1)=i+1+k by omega];exact h2)
    ·exact .inr ⟨j+1,by omega,by rw [show i+(j+1)=i+1+j by omega];exact h2⟩
theorem zc1 {σ τ:Sq9} {a:Nat} (h:∀ k,σ (a+k)=τ (b+k)):∀ (p:PF) (i:Nat),ps σ p (a+i) ↔ ps τ p (b+i)
 | .tt,_=>Iff.rfl
 | .ff,_=>Iff.rfl
 | .pa p,i=>by simp only [ps,h]
 | .na p,i=>by simp only [ps,h]
 | .and p q,i=>by simp only [ps,zc1 h p,zc1 h q]
 | .or p q,i=>by simp only [ps,zc1 h p,zc1 h q]
 | .nx p,i=>by simp only [ps,cD,zc1 h p]
 | .un p q,i=>by simp only [ps,cD,zc1 h p,zc1 h q]
 | .fr p q,i=>by simp only [ps,cD,zc1 h p,zc1 h q]
end Go.Proofs.YtjnkkdfojfjncaaGreat.S
end
namespace Go.Proofs.YtjnkkdfojfjncaaGreat
namespace S
variable {n m j:Nat}
inductive Rch {α:Type} (R:α->α->Prop) (I:α->Prop):α->Prop
  | base {a:α}:I a->Rch R I a
  | step {a b:α}:Rch R I a->R a b->Rch R I b
def Way {α:Type} (R:α->α->Prop) (n:Nat) (p:Nat->α):Prop:=∀ i,i<n->R (p i) (p (i+1))
section
variable {α:Type} {R:α->α->Prop} {I:α->Prop}
theorem Rch.way {b:α} (h:Rch R I b):∃ n p,I (p 0)/\p n=b/\Way R n p:=by
 induction h with
 | base h=>exact ⟨0,fun _=>_,h,rfl,fun i hi=>by omega⟩
 | step h hr ih =>
  obtain ⟨n,p,h1,h2,h3⟩:=ih
  rename_i a b
  refine ⟨n+1,fun i=>if i<=n then p i else b,?_,?_,fun i hi=>?_⟩
  ·show I (if 0<=n then p 0 else b)
   rw [if_pos (bJ _)];exact h1
  ·show (if n+1<=n then p (n+1) else b)=b
   rw [if_neg (by omega)]
  ·show R (if i<=n then p i else b) (if i+1<=n then p (i+1) else b)
   by_cases hn:i=n
   ·subst hn;rw [if_pos (bG _),if_neg (by omega),h2];exact hr
   ·rw [if_pos (by omega),if_pos (by omega)];exact h3 i (by omega)
theorem Rch.of_way {p:Nat->α} (h:I (p 0)) (hw:Way R n p):∀ i,i<=n->Rch R I (p i)
 | 0,_ => .base h
 | i+1,hi => .step (Rch.of_way h hw i (by omega)) (hw i (by omega))
theorem Way.cat {p q:Nat->α} (hp:Way R n p) (hq:Way R m q) (e:p n=q 0):Way R (n+m) fun i=>if i<=n then p i else q (i - n):=fun i hi=>by
 show R (if i<=n then p i else q (i - n)) (if i+1<=n then p (i+1) else q (i+1 - n))
 by_cases h1:i<n
 ·rw [if_pos (by omega),if_pos (by omega)];exact hp i h1
 ·rw [if_neg (show ¬ i+1<=n by omega)]
  by_cases h2:i=n
  ·subst h2;rw [if_pos (bG _),e,show i+1 - i=0+1 by omega];exact hq 0 (by omega)
  ·rw [if_neg (by omega),show i+1 - n=i - n+1 by omega];exact hq _ (by omega)
theorem Rch.round {s t:α} (h:Rch R (R s) t):∃ n p,0<n/\p 0=s/\p n=t/\Way R n p:=by
 obtain ⟨n,p,h1,h2,h3⟩:=h.way
 refine ⟨n+1,fun i=>if i=0 then s else p (i - 1),by omega,by simp,by simp [h2],fun i hi=>?_⟩
 show R (if i=0 then s else p (i - 1)) (if i+1=0 then s else p (i+1 - 1))
 rw [if_neg (show ¬ i+1=0 by omega),show i+1 - 1=i by omega]
 by_cases h0:i=0
 ·subst h0;rw [if_pos rfl];exact h1
 ·rw [if_neg h0];have:=h3 (i - 1) (by omega);rwa [show i - 1+1=i by omega] at this
theorem rounds {s:α} (h0:Rch R (R s) s):∀ ls:List (α->Prop),(∀ l ∈ ls,∃ x,Rch R (R s) x/\l x/\Rch R (R x) s)->∃ n p,0<n/\p 0=s/\p n=s/\Way R n p/\∀ l ∈ ls,∃ i,i<n/\l (p i)
 | [],_=>by
  obtain ⟨n,p,h1,h2,h3,h4⟩:=h0.round
  exact ⟨n,p,h1,h2,h3,h4,fun l hl=>by cases hl⟩
 | l :: ls,h=>by
  obtain ⟨n,p,h1,h2,h3,h4,h5⟩:=rounds h0 ls fun q hq=>h q (cM _ hq)
  obtain ⟨x,hx,hl,hy⟩:=h l bO
  obtain ⟨n1,p1,a1,a2,a3,a4⟩:=hx.round
  obtain ⟨n2,p2,b1,b2,b3,b4⟩:=hy.round
  have w:=(h4.cat a4 (by rw [h3,a2])).cat b4 (by
   show (if n+n1<=n then p (n+n1) else p1 (n+n1 - n))=_
   rw [if_neg (by omega),show n+n1 - n=n1 by omega,a3,b2])
  refine ⟨n+n1+n2,_,by omega,?_,?_,w,?_⟩
  ·simp [h2]
  ·show (if n+n1+n2<=n+n1 then _ else p2 (n+n1+n2 - (n+n1)))=s
   rw [if_neg (by omega),show n+n1+n2 - (n+n1)=n2 by omega,b3]
  ·intro q hq
   rcases bB.1 hq with rfl | hq
   ·refine ⟨n+n1,by omega,?_⟩
    show q (if n+n1<=n+n1 then (if n+n1<=n then p (n+n1) else p1 (n+n1 - n)) else _)
    rw [if_pos (bG _),if_neg (by omega),show n+n1 - n=n1 by omega,a3];exact hl
   ·obtain ⟨i,hi,hp⟩:=h5 q hq
    refine ⟨i,by omega,?_⟩
    show q (if i<=n+n1 then (if i<=n then p i else _) else _)
    rw [if_pos (by omega),if_pos (by omega)];exact hp
def Endless (R:α->α->Prop) (I:α->Prop) (ls:List (α->Prop)):Prop:=∃ r:Nat->α,I (r 0)/\(∀ i,R (r i) (r (i+1)))/\∀ l ∈ ls,∀ i,∃ j,i<=j/\l (r j)
theorem endless_of {s:α} {ls:List (α->Prop)} (h1:Rch R I s) (h2:Rch R (R s) s) (h3:∀ l ∈ ls,∃ x,Rch R (R s) x/\l x/\Rch R (R x) s):Endless R I ls:=by
 obtain ⟨m,a,a1,a2,a3⟩:=h1.way
 obtain ⟨n,p,b0,b1,b2,b3,b4⟩:=rounds h2 ls h3
 refine ⟨fun i=>if i<m then a i else p ((i - m) % n),?_,fun i=>?_,fun l hl i=>?_⟩
 ·show I (if 0<m then a 0 else p ((0 - m) % n))
  by_cases h:0<m
  ·rw [if_pos h];exact a1
  ·rw [if_neg h,show (0 - m) % n=0 by simp,b1,<- a2,show m=0 by omega];exact a1
 ·show R (if i<m then a i else p ((i - m) % n)) (if i+1<m then a (i+1) else p ((i+1 - m) % n))
  by_cases h:i<m
  ·rw [if_pos h]
   by_cases h':i+1<m
   ·rw [if_pos h'];exact a3 i h
   ·rw [if_neg h', show i+1 - m=0 by omega,Nat.zero_mod,b1,<- a2]
    have:=a3 i h
    rwa [show i+1=m by omega] at this
  ·rw [if_neg h,if_neg (by omega),show i+1 - m=i - m+1 by omega]
   have hk:=cF (i - m) b0
   have:=b3 _ hk
   by_cases h':(i - m) % n+1=n
   ·rw [h', b2,<- b1] at this
    rw [Nat.add_mod,show (i - m) % n=n - 1 by omega]
    by_cases hn:n=1
    ·subst hn;simp only [Nat.mod_one] at *;simpa using this
    ·rw [bW (show 1<n by omega),show n - 1+1=n by omega,Nat.mod_self]
     rwa [show (i - m) % n=n - 1 by omega] at this
   ·rw [Nat.add_mod]
    by_cases hn:n=1
    ·omega
    ·rw [bW (show 1<n by omega),bW (show (i - m) % n+1<n by omega)];exact this
 ·obtain ⟨k,hk,hp⟩:=b4 l hl
  refine ⟨m+n*i+k,by have:=Nat.le_mul_of_pos_left i b0;omega,?_⟩
  show l (if m+n*i+k<m then _ else p ((m+n*i+k - m) % n))
  rw [if_neg (by omega),show m+n*i+k - m=k+n*i by omega,dE,bW hk];exact hp
theorem inf_often:∀ (M:Nat) (f:Nat->Nat),(∀ i,f i<M)->∃ v,∀ i,∃ j,i<=j/\f j=v:=by
 intro M f h
 refine Classical.byContradiction fun h0=>?_
 have h1:∀ v,∃ i,∀ j,i<=j->f j≠v:=fun v=>Classical.byContradiction fun h2=>h0 ⟨v,fun i=>Classical.byContradiction fun h3=>h2 ⟨i,fun j hj e=>h3 ⟨j,hj,e⟩⟩⟩
 have h2:∀ m,∃ i,∀ v,v<m->∀ j,i<=j->f j≠v:=by
  intro m
  induction m with
  | zero=>exact ⟨0,fun v hv=>by omega⟩
  | succ m ih =>
   obtain ⟨i,hi⟩:=ih
   obtain ⟨k,hk⟩:=h1 m
   refine ⟨max i k,fun v hv j hj=>?_⟩
   by_cases e:v=m
   ·subst e;exact hk j (by omega)
   ·exact hi v (by omega) j (by omega)
 obtain ⟨i,hi⟩:=h2 M
 exact hi _ (h i) i (bG _) rfl
theorem rch_run {r:Nat->α} (h0:I (r 0)) (h:∀ i,R (r i) (r (i+1))) (i:Nat):Rch R I (r i):=Rch.of_way h0 (fun j _=>h j) i (bG i)
theorem zfp {r:Nat->α} (h:∀ i,R (r i) (r (i+1))) {i:Nat} (hij:i<j):Rch R (R (r i)) (r j):=by
 have:=Rch.of_way (I:=R (r i)) (R:=R) (n:=j - (i+1)) (p:=fun k=>r (i+1+k)) (h i) (fun k _=>h (i+1+k)) (j - (i+1)) (bG _)
 rwa [show i+1+(j - (i+1))=j by omega] at this
theorem endless_to {ls:List (α->Prop)} (code:α->Nat) (M:Nat) (hc:∀ x,Rch R I x->code x<M) (hi:∀ x y,Rch R I x->Rch R I y->code x=code y->x=y) (h:Endless R I ls):∃ s,Rch R I s/\Rch R (R s) s/\∀ l ∈ ls,∃ x,Rch R (R s) x/\l x/\Rch R (R x) s:=by
 obtain ⟨r,h0,h1,h2⟩:=h
 obtain ⟨v,hv⟩:=inf_often M (fun i=>code (r i)) fun i=>hc _ (rch_run h0 h1 i)
 obtain ⟨i0,_,e0⟩:=hv 0
 have same:∀ j,code (r j)=v->r j=r i0:=fun j e=>hi _ _ (rch_run h0 h1 j) (rch_run h0 h1 i0) (by rw [e,e0])
 refine ⟨r i0,rch_run h0 h1 i0,?_,fun l hl=>?_⟩
 ·obtain ⟨j,hj,e⟩:=hv (i0+1)
  have:=zfp h1 (show i0<j by omega)
  rwa [same j e] at this
 ·obtain ⟨j,hj,hl⟩:=h2 l hl (i0+1)
  obtain ⟨k,hk,e⟩:=hv (j+1)
  refine ⟨r j,zfp h1 (by omega),hl,?_⟩
  have:=zfp h1 (show j<k by omega)
  rwa [same k e] at this
end
def wN (w:zaf):Nat:=w.stem.length+w.cycle.length
def zc4 (w:zaf) (i:Nat):List Bool:=if i<w.stem.length then (w.stem[i]?).getD [] else (w.cycle[(i - w.stem.length) % w.cycle.length]?).getD []
def sg (w:zaf):Sq9:=fun i=>hdB (zc4 w i)
def nxW (w:zaf) (x:Nat):Nat:=if x+1=wN w then w.stem.length else x+1
def zbx (w:zaf) (i:Nat):Nat:=if i<w.stem.length then i else w.stem.length+(i - w.stem.length) % w.cycle.length
section
variable {w:zaf}
theorem plW_lt (hc:0<w.cycle.length) (i:Nat):zbx w i<wN w:=by
 unfold zbx wN
 split
 ·omega
 ·have:=cF (i - w.stem.length) hc;omega
theorem plW_id {i:Nat} (h:i<wN w):zbx w i=i:=by
 unfold zbx;unfold wN at h
 split
 ·rfl
 ·rw [bW (by omega)];omega
theorem zde (hc:0<w.cycle.length) (i:Nat):zbx w (i+1)=nxW w (zbx w i):=by
 unfold zbx nxW wN
 by_cases h:i<w.stem.length
 ·rw [if_pos h]
  by_cases h':i+1<w.stem.length
  ·rw [if_pos h', if_neg (by omega)]
  ·rw [if_neg h', show i+1 - w.stem.length=0 by omega,Nat.zero_mod,if_neg (by omega)];omega
 ·rw [if_neg h,if_neg (by omega),show i+1 - w.stem.length=i - w.stem.length+1 by omega]
  have hk:=cF (i - w.stem.length) hc
  generalize i - w.stem.length=m at *
  by_cases h1:m % w.cycle.length+1=w.cycle.length
  ·rw [if_pos (by omega)]
   have:(m+1) % w.cycle.length=0:=by
    rw [<- Nat.mod_add_div m w.cycle.length,show m % w.cycle.length+w.cycle.length*(m / w.cycle.length)+1=m % w.cycle.length+1+w.cycle.length*(m / w.cycle.length) by omega,h1,dE,Nat.mod_self]
   rw [this];rfl
  ·rw [if_neg (by omega)]
   have:(m+1) % w.cycle.length=m % w.cycle.length+1:=by
    conv=>lhs;rw [<- Nat.mod_add_div m w.cycle.length,show m % w.cycle.length+w.cycle.length*(m / w.cycle.length)+1=m % w.cycle.length+1+w.cycle.length*(m / w.cycle.length) by omega,dE]
    exact bW (by omega)
   rw [this];omega
theorem wLet_pl (i:Nat):zc4 w (zbx w i)=zc4 w i:=by
 unfold zc4 zbx
 by_cases h:i<w.stem.length
 ·rw [if_pos h,if_pos h]
 ·rw [if_neg h,if_neg h,if_neg (by omega),Nat.add_sub_cancel_left,Nat.mod_mod]
theorem zd2 (hc:0<w.cycle.length) {x:Nat} (h:x<wN w):nxW w x<wN w:=by
 unfold nxW;unfold wN at *;split <;> omega
theorem sg_tail (hc:0<w.cycle.length) (i k:Nat):sg w (i+k)=sg w (zbx w i+k):=by
 have e:∀ k,zbx w (i+k)=zbx w (zbx w i+k):=by
  intro k
  induction k with
  | zero=>rw [c7,c7,plW_id (plW_lt hc i)]
  | succ k ih=>rw [<- cD,<- cD,zde hc,zde hc,ih]
 unfold sg
 rw [<- wLet_pl (i+k),e k,wLet_pl]
theorem ps_pl (hc:0<w.cycle.length) (p:PF) (i:Nat):ps (sg w) p i ↔ ps (sg w) p (zbx w i):=zc1 (a:=i) (b:=zbx w i) (fun k=>sg_tail hc i k) p 0
theorem ps_nx (hc:0<w.cycle.length) (p:PF) {x:Nat} (h:x<wN w):ps (sg w) p (x+1) ↔ ps (sg w) p (nxW w x):=by
 rw [ps_pl hc p (x+1),zde hc,plW_id h]
end
structure GbD where
  nodes:List za4
  first:List Int
  sets:List (List Int)
def ndI (ns:List za4) (k:Int):Option za4:=if 0<=k then ns[k.toNat]? else none
def fitL (n:za4) (l:Int->Bool):Prop:=(∀ p ∈ n.must,l p=true)/\∀ p ∈ n.never,l p=false
theorem fit_alw {n:za4} {l:List Bool}:alwT n l=true ↔ fitL n (hdB l):=by
 unfold alwT fitL
 simp [List.any_eq_false]
def AccG (g:GbD) (σ:Sq9):Prop:=∃ ρ:Nat->Int,ρ 0 ∈ g.first/\(∀ i,∃ n,ndI g.nodes (ρ i)=some n/\fitL n (σ i)/\ρ (i+1) ∈ n.next)/\∀ s ∈ g.sets,∀ i,∃ j,i<=j/\ρ j ∈ s
structure SpD where
  node:Int
  at_:Nat
def spB (g:GbD) (w:zaf) (s:SpD):Bool:=match ndI g.nodes s.node with
  | some n=>alwT n (zc4 w s.at_)
  | none=>false
def nexI (g:GbD) (k:Int):List Int:=match ndI g.nodes k with
  | some n=>n.next
  | none=>[]
def zai (g:GbD) (w:zaf) (ks:List Int) (x:Nat):List SpD:=(ks.map fun k=>SpD.mk k x).filter (spB g w)
def zbb (g:GbD) (w:zaf) (s:SpD):List SpD:=zai g w (nexI g s.node) (nxW w s.at_)
def zcl (g:GbD) (w:zaf) (s t:SpD):Prop:=t ∈ zbb g w s
def initR (g:GbD) (w:zaf) (s:SpD):Prop:=s ∈ zai g w g.first 0
theorem zc0 {g:GbD} {w:zaf} {ks:List Int} {x:Nat} {s:SpD}:s ∈ zai g w ks x ↔ s.node ∈ ks/\s.at_=x/\∃ n,ndI g.nodes s.node=some n/\fitL n (sg w x):=by
 unfold zai
 rw [bN,bK]
 constructor
 ·rintro ⟨⟨k,hk,rfl⟩,h⟩
  refine ⟨hk,rfl,?_⟩
  unfold spB at h
  cases e:ndI g.nodes k with
  | none=>simp [e] at h
  | some n=>simp [e] at h;exact ⟨n,rfl,fit_alw.1 h⟩
 ·rintro ⟨h1,rfl,n,h2,h3⟩
  refine ⟨⟨s.node,h1,rfl⟩,?_⟩
  unfold spB;rw [h2];exact fit_alw.2 h3
def TakesP (g:GbD) (w:zaf):Prop:=∃ s,Rch (zcl g w) (initR g w) s/\Rch (zcl g w) (zcl g w s) s/\∀ l ∈ g.sets,∃ x,Rch (zcl g w) (zcl g w s) x/\x.node ∈ l/\Rch (zcl g w) (zcl g w x) s
theorem takes_iff {g:GbD} {w:zaf} (hc:0<w.cycle.length):TakesP g w ↔ AccG g (sg w):=by
  let ls:List (SpD->Prop):=g.sets.map fun l x=>x.node ∈ l
  have hpl:0<wN w:=by unfold wN;omega
  have e1:TakesP g w ↔ ∃ s,Rch (zcl g w) (initR g w) s/\Rch (zcl g w) (zcl g w s) s/\∀ l ∈ ls,∃ x,Rch (zcl g w) (zcl g w s) x/\l x/\Rch (zcl g w) (zcl g w x) s:=by
    refine exists_congr fun s=>and_congr_right fun _=>and_congr_right fun _=>⟨fun h l hl=>?_,fun h l hl=>h _ (bK.2 ⟨l,hl,rfl⟩)⟩
    obtain ⟨q,hq,rfl⟩:=bK.1 hl
    exact h q hq
  have inv:∀ x,Rch (zcl g w) (initR g w) x->(0<=x.node/\x.node.toNat<g.nodes.length)/\x.at_<wN w:=by
    have nd:∀ k n,ndI g.nodes k=some n->0<=k/\k.toNat<g.nodes.length:=fun k n h=>by
      unfold ndI at h
      split at h
      · exact ⟨by assumption,(bM.1 h).1⟩
      · cases h
    intro x hx
    induction hx with
    | base h=>obtain ⟨_,h2,n,h3,_⟩:=zc0.1 h;exact ⟨nd _ _ h3,by rw [h2];exact hpl⟩
    | step _ h ih=>obtain ⟨_,h2,n,h3,_⟩:=zc0.1 h;exact ⟨nd _ _ h3,by rw [h2];exact zd2 hc ih.2⟩
  have e2:(∃ s,Rch (zcl g w) (initR g w) s/\Rch (zcl g w) (zcl g w s) s/\∀ l ∈ ls,∃ x,Rch (zcl g w) (zcl g w s) x/\l x/\Rch (zcl g w) (zcl g w x) s) ↔ Endless (zcl g w) (initR g w) ls:=by
    constructor
    · rintro ⟨s,h1,h2,h3⟩;exact endless_of h1 h2 h3
    · refine endless_to (fun x=>x.node.toNat*wN w+x.at_) (g.nodes.length*wN w) (fun x hx=>?_) (fun x y hx hy e=>?_)
      · obtain ⟨⟨_,h1⟩,h2⟩:=inv x hx
        have:(x.node.toNat+1)*wN w<=g.nodes.length*wN w:=bV _ h1
        rw [Nat.succ_mul] at this
        show x.node.toNat*wN w+x.at_<_
        omega
      · obtain ⟨⟨h0,_⟩,h2⟩:=inv x hx
        obtain ⟨⟨g0,_⟩,g2⟩:=inv y hy
        have e:x.node.toNat*wN w+x.at_=y.node.toNat*wN w+y.at_:=e
        have ea:x.at_=y.at_:=by
          have:=congrArg (· % wN w) e
          simpa [Nat.add_comm,Nat.add_mul_mod_self_right,bW h2,bW g2] using this
        have en:x.node.toNat=y.node.toNat:=Nat.eq_of_mul_eq_mul_right hpl (by omega)
        cases x;cases y;simp at *;omega
  rw [e1,e2]
  constructor
  · rintro ⟨r,h0,h1,h2⟩
    have hat:∀ i,(r i).at_=zbx w i:=by
      intro i
      induction i with
      | zero=>rw [(zc0.1 h0).2.1,plW_id hpl]
      | succ i ih=>rw [(zc0.1 (h1 i)).2.1,ih,zde hc]
    have hfit:∀ i,∃ n,ndI g.nodes (r i).node=some n/\fitL n (sg w i):=by
      intro i
      cases i with
      | zero=>obtain ⟨_,_,n,h3,h4⟩:=zc0.1 h0;exact ⟨n,h3,h4⟩
      | succ i =>
        obtain ⟨_,e,n,h3,h4⟩:=zc0.1 (h1 i)
        refine ⟨n,h3,?_⟩
        have:sg w (nxW w (r i).at_)=sg w (i+1):=by
          rw [hat i,<- zde hc];unfold sg;rw [wLet_pl]
        rwa [<- this]
    refine ⟨fun i=>(r i).node,(zc0.1 h0).1,fun i=>?_,fun s hs i=>h2 _ (bK.2 ⟨s,hs,rfl⟩) i⟩
    obtain ⟨n,h3,h4⟩:=hfit i
    refine ⟨n,h3,h4,?_⟩
    have:=(zc0.1 (h1 i)).1
    unfold nexI at this
    rwa [h3] at this
  · rintro ⟨ρ,h0,h1,h2⟩
    have hf:∀ i,∃ n,ndI g.nodes (ρ i)=some n/\fitL n (sg w (zbx w i)):=fun i=>by
      obtain ⟨n,h3,h4,_⟩:=h1 i
      refine ⟨n,h3,?_⟩
      have:sg w (zbx w i)=sg w i:=by unfold sg;rw [wLet_pl]
      rw [this];exact h4
    refine ⟨fun i=>⟨ρ i,zbx w i⟩,zc0.2 ⟨h0,plW_id hpl,?_⟩,fun i=>zc0.2 ⟨?_,zde hc i,?_⟩,fun l hl i=>?_⟩
    · have:=hf 0;rwa [plW_id hpl] at this
    · obtain ⟨n,h3,_,h5⟩:=h1 i
      show ρ (i+1) ∈ nexI g (ρ i)
      unfold nexI;rw [h3];exact h5
    · have:=hf (i+1);rwa [zde hc] at this
    · obtain ⟨q,hq,rfl⟩:=bK.1 hl
      exact h2 q hq i
end S
end Go.Proofs.YtjnkkdfojfjncaaGreat
section
namespace Go.Proofs
open Go.Shelf
def Tryz.lays189_ren:Go.Shelf.Ren:=⟨fun | 189=>68 | 125=>89 | 257=>88 | 128=>106 | 129=>107 | 294=>97 | 295=>98 | 296=>99 | 297=>100 | 298=>101 | 299=>102 | 216=>103 | 300=>104 | 301=>105 | 328=>111 | 329=>112 | 330=>113 | 331=>114 | 332=>115 | 215=>116 | 343=>117 | n=>n,fun | 28=>34 | 3=>3 | 46=>134 | 0=>0 | 51=>151 | 53=>153 | 4=>4 | 183=>144 | 182=>143 | 131=>118 | 5=>5 | 9=>9 | 218=>155 | 222=>159 | 228=>161 | 229=>162 | n=>n,fun | n=>n⟩

theorem Tryz.lays189:Go.Proofs.Lays.n189 dZ Tryz.lays189_ren:={
 mixed:=by kernel_rfl
 f125:=Tryz.func89.trans (congrArg some (by kernel_rfl))
 f128:=Tryz.func106.trans (congrArg some (by kernel_rfl))
 f129:=Tryz.func107.trans (congrArg some (by kernel_rfl))
 f189:=Tryz.func68.trans (congrArg some (by kernel_rfl))
 f215:=Tryz.func116.trans (congrArg some (by kernel_rfl))
 f216:=Tryz.func103.trans (congrArg some (by kernel_rfl))
 f257:=Tryz.func88.trans (congrArg some (by kernel_rfl))
 f294:=Tryz.func97.trans (congrArg some (by kernel_rfl))
 f295:=Tryz.func98.trans (congrArg some (by kernel_rfl))
 f296:=Tryz.func99.trans (congrArg some (by kernel_rfl))
 f297:=Tryz.func100.trans (congrArg some (by kernel_rfl))
 f298:=Tryz.func101.trans (congrArg some (by kernel_rfl))
 f299:=Tryz.func102.trans (congrArg some (by kernel_rfl))
 f300:=Tryz.func104.trans (congrArg some (by kernel_rfl))
 f301:=Tryz.func105.trans (congrArg some (by kernel_rfl))
 f328:=Tryz.func111.trans (congrArg some (by kernel_rfl))
 f329:=Tryz.func112.trans (congrArg some (by kernel_rfl))
 f330:=Tryz.func113.trans (congrArg some (by kernel_rfl))
 f331:=Tryz.func114.trans (congrArg some (by kernel_rfl))
 f332:=Tryz.func115.trans (congrArg some (by kernel_rfl))
 f343:=Tryz.func117.trans (congrArg some (by kernel_rfl))
 t0:=Tryz.underlying0
 a0:=Tryz.isAgg0
 z0:=Tryz.sizeOf0
 v0:=Tryz.zeroValue0
 t3:=Tryz.underlying3
 a3:=Tryz.isAgg3
 z3:=Tryz.sizeOf3
 v3:=Tryz.zeroValue3
 t4:=Tryz.underlying4
 a4:=Tryz.isAgg4
 z4:=Tryz.sizeOf4
 v4:=Tryz.zeroValue4
 t5:=Tryz.underlying5
 a5:=Tryz.isAgg5
 z5:=Tryz.sizeOf5
 v5:=Tryz.zeroValue5
 t9:=Tryz.underlying9
 a9:=Tryz.isAgg9
 z9:=Tryz.sizeOf9
 v9:=Tryz.zeroValue9
 t28:=Tryz.underlying34
 a28:=Tryz.isAgg34
 z28:=Tryz.sizeOf34
 v28:=Tryz.zeroValue34
 t46:=Tryz.underlying134
 a46:=Tryz.isAgg134
 z46:=Tryz.sizeOf134
 v46:=Tryz.zeroValue134
 t51:=Tryz.underlying151
 a51:=Tryz.isAgg151
 z51:=Tryz.sizeOf151
 v51:=Tryz.zeroValue151
 t53:=Tryz.underlying153
 a53:=Tryz.isAgg153
 z53:=Tryz.sizeOf153
 v53:=Tryz.zeroValue153
 t131:=Tryz.underlying118
 a131:=Tryz.isAgg118
 z131:=Tryz.sizeOf118
 v131:=Tryz.zeroValue118
 t182:=Tryz.underlying143
 a182:=Tryz.isAgg143
 z182:=Tryz.sizeOf143
 v182:=Tryz.zeroValue143
 t183:=Tryz.underlying144
 a183:=Tryz.isAgg144
 z183:=Tryz.sizeOf144
 v183:=Tryz.zeroValue144
 t218:=Tryz.underlying155
 a218:=Tryz.isAgg155
 z218:=Tryz.sizeOf155
 v218:=Tryz.zeroValue155
 t222:=Tryz.underlying159
 a222:=Tryz.isAgg159
 z222:=Tryz.sizeOf159
 v222:=Tryz.zeroValue159
 t228:=Tryz.underlying161
 a228:=Tryz.isAgg161
 z228:=Tryz.sizeOf161
 v228:=Tryz.zeroValue161
 t229:=Tryz.underlying162
 a229:=Tryz.isAgg162
 z229:=Tryz.sizeOf162
 v229:=Tryz.zeroValue162 }

open Go.Sort Go.RowKit in
theorem Tryz.slices_Sort_int (blk off cap:Nat) (zs:List Int) (w:World) (hH:Holds (Value.int .i64) w blk off zs.toArray) (hblk:blk<w.heap.size) (hsz:zs.length<4611686018427387904) :
  Calls dZ 68 #[.slice (some ⟨blk,off,none⟩) zs.length cap] w fun e w' =>
   e = .returned (.tuple #[])/\∃ n os,w'=grow (putRow (Value.int .i64) (Sort.ahead w n) blk off (zs.mergeSort fun x y=>decide (x<=y)).toArray) os:=Any.slices_Sort_int Tryz.lays189 blk off cap zs w hH hblk hsz

def Tryz.laysNm220_ren:Go.Shelf.Ren:=⟨fun | 20=>69 | n=>n,fun | 22=>34 | 3=>3 | 4=>4 | 0=>0 | n=>n,fun | n=>n⟩

theorem Tryz.laysNm220:Go.Proofs.Lays2.n20 dZ Tryz.laysNm220_ren:={
 mixed:=by kernel_rfl
 f20:=Tryz.func69.trans (congrArg some (by kernel_rfl))
 t0:=Tryz.underlying0
 a0:=Tryz.isAgg0
 z0:=Tryz.sizeOf0
 v0:=Tryz.zeroValue0
 t3:=Tryz.underlying3
 a3:=Tryz.isAgg3
 z3:=Tryz.sizeOf3
 v3:=Tryz.zeroValue3
 t4:=Tryz.underlying4
 a4:=Tryz.isAgg4
 z4:=Tryz.sizeOf4
 v4:=Tryz.zeroValue4
 t22:=Tryz.underlying34
 a22:=Tryz.isAgg34
 z22:=Tryz.sizeOf34
 v22:=Tryz.zeroValue34
 i3:=by kernel_rfl }

open Go.RowKit Go.Lib Go.Sort in
theorem Tryz.slices_Compact_int (blk off cap:Nat) (zs:List Int) (w:World) (hH:Holds (Value.int .i64) w blk off zs.toArray) (hsz:zs.length<=9223372036854775807) (hcap:zs.length<=cap) :
  Calls dZ 69 #[.slice (some ⟨blk,off,none⟩) zs.length cap] w fun e w'=>e = .returned (.slice (some ⟨blk,off,none⟩) (Lib.compact zs).length cap)/\∃ q,w'=putRow (Value.int .i64) (Sort.ahead w q) blk off (Lib.compact zs++List.replicate (zs.length - (Lib.compact zs).length) 0).toArray:=Any.slices_Compact_int Tryz.laysNm220 blk off cap zs w hH hsz hcap

open Go.RowKit Go.Lib Go.Sort in
theorem Tryz.slices_Compact_int_empty (a:Option Addr) (cap:Nat) (w:World) :
  Calls dZ 69 #[.slice a 0 cap] w fun e w'=>e = .returned (.slice a 0 cap)/\w'=w:=Any.slices_Compact_int_empty Tryz.laysNm220 a cap w

open Go.RowKit Go.Sort in
theorem Tryz.slices_Sort_int_none (p:Option Addr) (cap:Nat) (w:World) :
  Calls dZ 68 #[.slice p 0 cap] w fun e w'=>e = .returned (.tuple #[])/\w'=w:=Any.slices_Sort_int_none Tryz.lays189 p cap w

end Go.Proofs
end
namespace Go.Proofs.YtjnkkdfojfjncaaGreat
namespace S
variable {e:E} {f:F} {H:Im} {ys xs:List Int} {w:World} {b n k:Nat} {ty:TypeId} {os:Array Obj} {B:Bl} {args:List V} {vals:List Value} {res:V} {v:Value} {i i0:Int} {α:Type}
structure SideD where
  times:ZI
  rest:zd8
def SideD.d (x:SideD):List D:=[.raw (.bool x.times.neg),nsl x.times.abs,.sl 3 (x.rest.parts.map zbl.d),.raw (.bool x.rest.k.neg),nsl x.rest.k.abs]
structure SidesD where
  lows:List SideD
  highs:List SideD
  others:List zh6
def SidesD.d (x:SidesD):List D:=[.sl 5 (x.lows.map SideD.d),.sl 5 (x.highs.map SideD.d),.sl 4 (x.others.map zh6.d)]
section
variable {w0:World} {H0:Im} {B0:Bl} {K:List Nat} {N:Nat} {a:Act} {w:World} {sl:List (Nat × V)} {lc:List (Nat × L)}
theorem St.anyL (h:St e f a w) (m j:Nat) {cs:List C} {c:C} (hv:f.l m=some (.box cs)) (hg:cs[j]?=some c):St e (f.setL m (.box (cs.set j .any))) a w:=by
 obtain ⟨H,B,hok⟩:=h
 exact ⟨H,B,hok.setL m (.box cs) _ hv fun hu=>LR.setC hg (fun _ hx=>CR.flat hx) hu⟩
end
section
open Go.RowKit Go.Sort
theorem ints_cells:∀ (xs:List Int) (us:List Value),zat (DR H) (xs.map za3).flatten us->us=xs.map (Value.int .i64)
 | [],[],_=>rfl
 | [],_ :: _,h=>h.elim
 | _ :: _,[],h=>h.elim
 | x :: xs,u :: us,h=>by
  have h1:DR H (.raw (.int .i64 x)) u/\zat (DR H) (xs.map za3).flatten us:=h
  have e:u = .int .i64 x:=VR.rawI (H:=H) (B:=fun _=>none) h1.1
  rw [e,ints_cells xs us h1.2];rfl
theorem ints_all2:∀ xs:List Int,zat (DR H) (xs.map za3).flatten (xs.map (Value.int .i64))
 | []=>trivial
 | _ :: xs=>⟨DR.raw _ rfl,ints_all2 xs⟩
theorem put_cells {arr:List Value} (hl:ys.length<=arr.length):putCells (Value.int .i64) 0 ys.toArray ⟨arr⟩=⟨ys.map (Value.int .i64)++arr.drop ys.length⟩:=by
 apply Array.ext_getElem?
 intro k
 unfold putCells
 rw [Array.getElem?_mapIdx,show (⟨arr⟩:Array Value)=arr.toArray from rfl,show (⟨ys.map (Value.int .i64)++arr.drop ys.length⟩:Array Value)=(ys.map (Value.int .i64)++arr.drop ys.length).toArray from rfl,dG,dG]
 by_cases hk:k<ys.length
 ·rw [cK (by rw [bF];exact hk),bT,bI hk,bI (by omega)]
  simp only [bP]
  rw [if_pos ⟨bJ _,by rw [bU];exact hk⟩]
  simp [hk]
 ·rw [List.getElem?_append_right (by rw [bF];omega),bF,List.getElem?_drop,show ys.length+(k - ys.length)=k by omega]
  cases hx:arr[k]? with
  | none=>rfl
  | some x =>
   simp only [bP]
   rw [if_neg (fun h=>hk (by have:=h.2;rw [bU] at this;exact this))]
theorem block_put {arr:List Value} (hb:w.heap[b]?=some (.cells ⟨arr⟩ ty (0,0))) (hl:ys.length<=arr.length) :
  (grow (putRow (Value.int .i64) (Go.Sort.ahead w n) b 0 ys.toArray) os).heap[b]?=some (.cells ⟨ys.map (Value.int .i64)++arr.drop ys.length⟩ ty (0,0)):=by
 have hlt:b<w.heap.size:=(b7.1 hb).1
 rw [heap_grow_old _ _ (by rw [size_putRow];exact hlt)]
 unfold putRow mapBlock
 rw [dX]
 show (if b=b then Option.map _ w.heap[b]? else _)=_
 rw [if_pos rfl,hb]
 show some (Obj.cells (putCells (Value.int .i64) 0 ys.toArray ⟨arr⟩) ty (0,0))=_
 rw [put_cells hl]
theorem block_keep (hk:k<w.heap.size) (hne:k≠b):(grow (putRow (Value.int .i64) (Go.Sort.ahead w n) b 0 ys.toArray) os).heap[k]?=w.heap[k]?:=by
 rw [heap_grow_old _ _ (by rw [size_putRow];exact hk)]
 unfold putRow mapBlock
 rw [dX]
 show (if b=k then _ else w.heap[k]?)=_
 rw [if_neg (Ne.symm hne)]
theorem put_post {c:Nat} (pre:Pre [(0,.row 3 1 (xs.map za3))] args w H B vals) (hB:B 0=some (b,c)) (hl:ys.length=xs.length) (hv:VR H B res v) :
  Post [(0,.row 3 1 (xs.map za3))] w H B res [(0,.row 3 1 (ys.map za3))] v (grow (putRow (Value.int .i64) (Go.Sort.ahead w n) b 0 ys.toArray) os) H B:=by
 have hloc:=pre.loc _ (bA.2 rfl)
 simp only [LR,hB] at hloc
 obtain ⟨arr,g1,g2,g3,g4,g5,g6⟩:=hloc
 rw [bF] at g3
 have hpr:=pre.priv _ (bA.2 rfl) b c hB
 have hla:ys.length<=arr.length:=by omega
 refine ⟨Le.refl _,fun _ _=>rfl,fun k o hk=>?_,fun p hp=>?_,fun p hp b2 c2 h2=>?_,fun p hp q hq _ _ _ _ _=>?_,fun _ _=>rfl,hv,⟨rfl,rfl,rfl,by rw [size_grow,size_putRow];show w.heap.size<=w.heap.size+_;omega,fun k hk hm=>?_⟩⟩
 ·have h1:=pre.sat k o hk
  have hne:k≠b:=fun e=>by rw [e,hpr.2] at hk;cases hk
  rw [block_keep (b7.1 h1).1 hne];exact h1
 ·rw [bA.1 hp]
  simp only [LR,hB]
  refine ⟨_,block_put g1 hla,?_,by rw [bF];omega,g4,fun r hr=>?_,?_⟩
  ·rw [bY,bF,cR];omega
  ·obtain ⟨x,_,rfl⟩:=bK.1 hr;rfl
  ·rw [bF,Nat.mul_one,List.take_append_of_le_length (by rw [bF];omega),List.take_of_length_le (by rw [bF];omega)]
   exact ints_all2 ys
 ·rw [bA.1 hp] at h2
  have h2:B 0=some (b2,c2):=h2
  rw [hB] at h2
  injection h2 with h2
  obtain ⟨rfl,rfl⟩:=Prod.mk.injEq .. ▸ h2
  exact ⟨by rw [size_grow,size_putRow];show b<w.heap.size+_;omega,hpr.2,.inl ⟨_,bA.2 rfl,c,hB⟩⟩
 ·rw [bA.1 hp,bA.1 hq]
 ·have hne:k≠b:=fun e=>hm ⟨_,bA.2 rfl,c,by rw [e];exact hB⟩
  exact block_keep hk hne
theorem row_holds {c:Nat} (hloc:LR H B w 0 (.row 3 1 (xs.map za3))) (hB:B 0=some (b,c)):Holds (Value.int .i64) w b 0 xs.toArray/\xs.length<=c/\c<=maxLen:=by
 simp only [LR,hB] at hloc
 obtain ⟨arr,g1,g2,g3,g4,g5,g6⟩:=hloc
 rw [bF] at g3 g6
 rw [Nat.mul_one] at g6
 have e:=ints_cells xs _ g6
 refine ⟨fun j hj=>?_,g3,g4⟩
 have hj':j<xs.length:=by simpa using hj
 constructor
 ·simp only [World.cell?, g1,bU]
  rw [if_neg (by decide),show (⟨arr⟩:Array Value)=arr.toArray from rfl,dG]
  have h2:(arr.take xs.length)[j]?=arr[j]?:=List.getElem?_take_of_lt hj'
  rw [<- h2,e,bT,bI hj']
  simp [hj']
 ·simp only [World.frozen?, g1];simp
def zb2 (xs:List Int):List Int:=xs.mergeSort fun x y=>decide (x<=y)
theorem zbs (xs:List Int):(zb2 xs).length=xs.length:=List.length_mergeSort xs
theorem arg1 {x:V} (h:zat (VR H B) [x] vals):∃ v,vals=[v]/\VR H B x v:=by
 match vals,h with
 | [v],h=>exact ⟨v,rfl,h.1⟩
 | [],h=>exact h.elim
 | _ :: _ :: _,h=>exact h.2.elim
theorem none_rows (hloc:LR H B w 0 (.row 3 1 (xs.map za3))) (hB:B 0=none):xs=[]:=by
 simp only [LR,hB] at hloc
 simpa using hloc
theorem same_post {ps:List (Nat × L)} (pre:Pre ps args w H B vals) (hv:VR H B res v):Post ps w H B res ps v w H B :=
 ⟨Le.refl _,fun _ _=>rfl,pre.sat,pre.loc,fun p hp b c h=>⟨(pre.priv p hp b c h).1,(pre.priv p hp b c h).2,.inl ⟨p,hp,c,h⟩⟩,pre.inj,fun _ _=>rfl,hv,Ext.refl _ _⟩
theorem SSortI (xs:List Int) (hl:xs.length<=1000000):Fn dZ 68 [(0,.row 3 1 (xs.map za3))] [vO 0 xs.length] (.tup []) [(0,.row 3 1 ((zb2 xs).map za3))]:=by
 intro w H B vals pre
 obtain ⟨v,rfl,hv⟩:=arg1 pre.arg
 have hloc:=pre.loc _ (bA.2 rfl)
 have hv:CR H B (.own 0 xs.length) v:=hv
 cases hB:B 0 with
 | none =>
  have hx:=none_rows hloc hB
  subst hx
  simp only [CR,hB] at hv
  obtain ⟨_,ao,rfl⟩:=hv
  refine (Tryz.slices_Sort_int_none ao 0 w).mono ?_
  rintro e w' ⟨rfl,rfl⟩
  rw [show zb2 []=[] by unfold zb2;simp]
  exact ⟨_,H,B,rfl,same_post pre (show VR H B (.tup []) (.tuple #[]) from ⟨[],rfl,trivial⟩)⟩
 | some p =>
  obtain ⟨b,c⟩:=p
  simp only [CR,hB] at hv
  subst hv
  obtain ⟨h1,h2,h3⟩:=row_holds hloc hB
  have hpr:=pre.priv _ (bA.2 rfl) b c hB
  refine (Tryz.slices_Sort_int b 0 c xs w h1 hpr.1 (by omega)).mono ?_
  rintro e w' ⟨rfl,n,os,rfl⟩
  exact ⟨_,H,B,rfl,put_post pre hB (zbs xs) (show VR H B (.tup []) (.tuple #[]) from ⟨[],rfl,trivial⟩)⟩
def zdu (xs:List Int):List Int:=Lib.compact xs
def comR (xs:List Int):List Int:=zdu xs++List.replicate (xs.length - (zdu xs).length) 0
theorem comR_len (xs:List Int):(comR xs).length=xs.length:=by
 have:=Lib.compact_length_le xs
 unfold comR zdu;rw [bY,cY];omega
theorem SCompactI (xs:List Int) (hl:xs.length<=1000000):Fn dZ 69 [(0,.row 3 1 (xs.map za3))] [vO 0 xs.length] (vO 0 (zdu xs).length) [(0,.row 3 1 ((comR xs).map za3))]:=by
 intro w H B vals pre
 obtain ⟨v,rfl,hv⟩:=arg1 pre.arg
 have hloc:=pre.loc _ (bA.2 rfl)
 have hv:CR H B (.own 0 xs.length) v:=hv
 cases hB:B 0 with
 | none =>
  have hx:=none_rows hloc hB
  subst hx
  simp only [CR,hB] at hv
  obtain ⟨_,ao,rfl⟩:=hv
  refine (Tryz.slices_Compact_int_empty ao 0 w).mono ?_
  rintro e w' ⟨rfl,rfl⟩
  exact ⟨_,H,B,rfl,same_post pre (show VR H B (vO 0 0) (.slice ao 0 0) from by show CR H B (.own 0 0) (.slice ao 0 0);simp only [CR,hB];exact ⟨trivial,ao,rfl⟩)⟩
 | some p =>
  obtain ⟨b,c⟩:=p
  simp only [CR,hB] at hv
  subst hv
  obtain ⟨h1,h2,h3⟩:=row_holds hloc hB
  refine (Tryz.slices_Compact_int b 0 c xs w h1 (by omega) h2).mono ?_
  rintro e w' ⟨rfl,q,rfl⟩
  have:=put_post (n:=q) (os:=#[]) pre hB (comR_len xs) (show VR H B (vO 0 (zdu xs).length) (.slice (some ⟨b,0,none⟩) (Lib.compact xs).length c) from by show CR H B (.own 0 (zdu xs).length) (.slice (some ⟨b,0,none⟩) (Lib.compact xs).length c);simp only [CR,hB];rfl)
  rw [grow_empty] at this
  exact ⟨_,H,B,rfl,this⟩
end
theorem sri_eq:∀ {xs ys:List Int}, SRi xs->SRi ys->(∀ v,v ∈ xs ↔ v ∈ ys)->xs=ys
 | [],[],_,_,_=>rfl
 | [],y :: _,_,_,h=>absurd ((h y).2 (bO ..)) (dH)
 | x :: _,[],_,_,h=>absurd ((h x).1 (bO ..)) (dH)
 | x :: xs,y :: ys,hx,hy,h=>by
  have hx':=bQ.1 hx
  have hy':=bQ.1 hy
  have e:x=y:=by
   rcases bB.1 ((h x).1 (bO ..)) with e | h1
   ·exact e
   ·rcases bB.1 ((h y).2 (bO ..)) with e | h2
    ·exact e.symm
    ·have:=hy'.1 x h1;have:=hx'.1 y h2;omega
  subst e
  congr 1
  refine sri_eq hx'.2 hy'.2 fun v=>⟨fun hv=>?_,fun hv=>?_⟩
  ·rcases bB.1 ((h v).1 (cM _ hv)) with e | h1
   ·have:=hx'.1 v hv;omega
   ·exact h1
  ·rcases bB.1 ((h v).2 (cM _ hv)) with e | h1
   ·have:=hy'.1 v hv;omega
   ·exact h1
theorem com_spec {zs:List Int} (hs:zs.Pairwise (·<=·)):∀ m,m<=zs.length->SRi (Lib.compactUpTo zs.toArray m)/\∀ v,v ∈ Lib.compactUpTo zs.toArray m ↔ v ∈ zs.take m
  | 0,_=>by
    have e:Lib.compactUpTo zs.toArray 0=[]:=by simp [Lib.compactUpTo]
    rw [e];exact ⟨List.Pairwise.nil,fun v=>by simp⟩
  | m+1,hm=>by
    obtain ⟨h1,h2⟩:=com_spec hs m (by omega)
    have hml:m<zs.length:=by omega
    have hd:(zs.toArray[m]!)=zs[m]:=by simp [hml]
    have ht:zs.take (m+1)=zs.take m++[zs[m]]:=by rw [List.take_add_one,bI hml];rfl
    rw [Lib.compactUpTo_succ,hd,ht]
    have hle:∀ v ∈ zs.take m,v<=zs[m]:=fun v hv=>by
      obtain ⟨i,hi,e⟩:=dI.1 hv
      rw [bS] at hi
      rw [cJ] at e
      rw [<- e]
      exact dJ.1 hs i m (by omega) hml (by omega)
    by_cases hk:Lib.keeps zs.toArray m=true
    · rw [if_pos hk]
      refine ⟨dO.2 ⟨h1,List.pairwise_singleton .., fun x hx y hy=>?_⟩,fun v=>by rw [bE,bE,h2]⟩
      rw [bA.1 hy]
      have hx':=(h2 x).1 hx
      have:=hle x hx'
      rcases cT m with rfl | hp
      · simp at hx'
      · have hne:zs[m]≠zs[m - 1]:=by
          unfold Lib.keeps at hk
          have hd2:(zs.toArray[m - 1]!)=zs[m - 1]:=by simp [show m - 1<zs.length by omega]
          rw [hd,hd2] at hk
          intro e
          rw [e] at hk
          simp at hk
          omega
        obtain ⟨i,hi,e⟩:=dI.1 hx'
        rw [bS] at hi
        rw [cJ] at e
        have h3:x<=zs[m - 1]:=by
          rw [<- e]
          rcases Nat.lt_or_ge i (m - 1) with h | h
          · exact dJ.1 hs i (m - 1) (by omega) (by omega) h
          · have:i=m - 1:=by omega
            subst this;exact cP _
        have h4:zs[m - 1]<=zs[m]:=dJ.1 hs (m - 1) m (by omega) hml (by omega)
        omega
    · rw [if_neg hk,List.append_nil]
      refine ⟨h1,fun v=>?_⟩
      rw [bE,bA,h2]
      refine ⟨.inl,fun h=>h.elim id fun e=>?_⟩
      have hp:0<m:=by
        rcases cT m with rfl | hp
        · exact absurd (by simp [Lib.keeps]) hk
        · exact hp
      have he:zs[m]=zs[m - 1]:=by
        refine Classical.byContradiction fun hne=>hk ?_
        have hd2:(zs.toArray[m - 1]!)=zs[m - 1]:=by simp [show m - 1<zs.length by omega]
        exact Lib.keeps_pos (by rw [hd,hd2];exact hne)
      rw [e,he]
      exact dI.2 ⟨m - 1,by rw [bS];omega,by rw [cJ]⟩
theorem sortZ_ris (xs:List Int):(zb2 xs).Pairwise (·<=·):=by
  have h:=List.pairwise_mergeSort (le:=fun x y:Int=>decide (x<=y)) (fun a b c h1 h2=>by simp only [decide_eq_true_eq] at *;omega) (fun a b=>by simp only [Bool.or_eq_true,decide_eq_true_eq];omega) xs
  exact h.imp fun h=>of_decide_eq_true h
theorem sortZ_mem (xs:List Int) (v:Int):v ∈ zb2 xs ↔ v ∈ xs:=(List.mergeSort_perm xs _).mem_iff
def zad (xs:List Int):List Int:=zdu (zb2 xs)
theorem zex (xs:List Int):SRi (zad xs):=(com_spec (sortZ_ris xs) _ (bG _)).1
theorem zb4 (xs:List Int) (v:Int):v ∈ zad xs ↔ v ∈ xs:=by
 unfold zad zdu Lib.compact
 rw [(com_spec (sortZ_ris xs) _ (bG _)).2,List.take_length,sortZ_mem]
theorem uniZ_eq (h:SRi ys) (hm:∀ v,v ∈ xs ↔ v ∈ ys):zad xs=ys:=sri_eq (zex xs) h fun v=>by rw [zb4,hm]
theorem comR_at {i:Nat} {x:Int} (h:(zdu xs)[i]?=some x):(comR xs)[i]?=some x:=by
 unfold comR;rw [cK (bM.1 h).1];exact h
structure TkD where
  look:List Int
  seen:List Int
  next:List Int
  frm:Int
structure zas where
  seen:List Int
  next:List Int
  frm:List Int
noncomputable def TkD.more (x:TkD) (ns:List Int):TkD:={ x with look:=zad (x.look++ns) }
noncomputable def TkD.later (x:TkD) (n:Int):TkD:={ x with next:=zad (x.next++[n]) }
def zcp (all:List PF) (i:Int):PF:=if 0<=i then (all[i.toNat]?).getD .ff else .ff
def kdA (kids:List (Int × Int)) (i:Int):Int × Int:=(kids[i.toNat]?).getD (0,0)
def PF.other:PF->PF
  | .na p => .pa p
  | .pa p => .na p
  | _ => .ff
def agT (all:List PF) (seen:List Int) (i:Int):Bool:=decide (zbf (fun g=>PF.beq g (zcp all i).other) all 0>=0) && seen.contains (zbf (fun g=>PF.beq g (zcp all i).other) all 0)
noncomputable def lk1 (all:List PF) (kids:List (Int × Int)) (y:TkD) (i:Int):List TkD:=match zcp all i with
  | .tt=>[y]
  | .ff=>[]
  | .pa _=>if agT all y.seen i=true then [] else [y]
  | .na _=>if agT all y.seen i=true then [] else [y]
  | .and _ _=>[y.more [(kdA kids i).1,(kdA kids i).2]]
  | .nx _=>[y.later (kdA kids i).1]
  | .or _ _=>[y.more [(kdA kids i).2],y.more [(kdA kids i).1]]
  | .un _ _=>[(y.more [(kdA kids i).1]).later i,y.more [(kdA kids i).2]]
  | .fr _ _=>[(y.more [(kdA kids i).2]).later i,y.more [(kdA kids i).1,(kdA kids i).2]]
noncomputable def lkT (all:List PF) (kids:List (Int × Int)) (x:TkD):List TkD:=match x.look with
  | []=>[]
  | i :: rest=>if x.seen.contains i=true then [⟨rest,x.seen,x.next,x.frm⟩] else lk1 all kids ⟨rest,zad (x.seen++[i]),x.next,x.frm⟩ i
def zdd (x:TkD) (p:zas):Bool:=decide (p.seen=x.seen) && decide (p.next=x.next)
def finT (ps:List zas) (x:TkD):Option (List zas × List TkD) :=
  if zbf (zdd x) ps 0<0 then (if ps.length=4096 then none else some (ps++[⟨x.seen,x.next,[x.frm]⟩],[⟨x.next,[],[],(ps.length:Int)⟩]))
  else some (ps.modify (zbf (zdd x) ps 0).toNat fun p=>{ p with frm:=p.frm++[x.frm] }, [])
structure TbS where
  places:List zas
  tasks:List TkD
noncomputable def stpT (all:List PF) (kids:List (Int × Int)) (s:TbS) (x:TkD):Option TbS:=match x.look with
  | []=>(finT s.places x).map fun r=>⟨r.1,s.tasks.dropLast++r.2⟩
  | _ :: _=>some ⟨s.places,s.tasks.dropLast++lkT all kids x⟩
noncomputable def runT9 (all:List PF) (kids:List (Int × Int)):Nat->TbS->Option (List zas)
  | n,s=>match s.tasks.getLast? with
    | none=>some s.places
    | some x=>match n with
      | 0=>none
      | n+1=>(stpT all kids s x).bind (runT9 all kids n)
def TabK (all:List PF) (kids:List (Int × Int)) (i:Int):Prop:=match zcp all i with
  | .and p q=>zcp all (kdA kids i).1=p/\zcp all (kdA kids i).2=q
  | .or p q=>zcp all (kdA kids i).1=p/\zcp all (kdA kids i).2=q
  | .un p q=>zcp all (kdA kids i).1=p/\zcp all (kdA kids i).2=q
  | .fr p q=>zcp all (kdA kids i).1=p/\zcp all (kdA kids i).2=q
  | .nx p=>zcp all (kdA kids i).1=p
  | _=>True
def TabOk (all:List PF) (kids:List (Int × Int)):Prop:=∀ i,TabK all kids i
variable {z:TkD}
section
variable {all:List PF} {kids:List (Int × Int)}
def locP (all:List PF) (kids:List (Int × Int)) (S N:Int->Prop) (i:Int):Prop:=match zcp all i with
  | .tt=>True
  | .ff=>False
  | .pa _=>True
  | .na _=>True
  | .and _ _=>S (kdA kids i).1/\S (kdA kids i).2
  | .or _ _=>S (kdA kids i).1\/S (kdA kids i).2
  | .nx _=>N (kdA kids i).1
  | .un _ _=>S (kdA kids i).2\/(S (kdA kids i).1/\N i)
  | .fr _ _=>S (kdA kids i).2/\(S (kdA kids i).1\/N i)
theorem locP.mono {S N S' N':Int->Prop} (hS:∀ i,S i->S' i) (hN:∀ i,N i->N' i) (h:locP all kids S N i):locP all kids S' N' i:=by
 unfold locP at *
 split <;> simp_all
 ·rcases h with h | h
  ·exact .inl (hS _ h)
  ·exact .inr (hS _ h)
 ·rcases h with h | h
  ·exact .inl (hS _ h)
  ·exact .inr ⟨hS _ h.1,hN _ h.2⟩
 ·rcases h.2 with h | h
  ·exact .inl (hS _ h)
  ·exact .inr (hN _ h)
def TkD.S (x:TkD) (i:Int):Prop:=i ∈ x.look\/i ∈ x.seen
def TkD.N (x:TkD) (i:Int):Prop:=i ∈ x.next
def TkD.ok (all:List PF) (kids:List (Int × Int)) (x:TkD):Prop:=∀ i ∈ x.seen,locP all kids x.S x.N i
def zhf (i0:Int) (ps:List zas) (S:Int->Prop) (m:Int):Prop:=(m=-1/\S i0)\/∃ k p,m=((k:Nat):Int)/\ps[k]?=some p/\∀ i ∈ p.next,S i
def Le1 (x y:TkD):Prop:=(∀ i,x.S i->y.S i)/\(∀ i,x.N i->y.N i)/\y.frm=x.frm
theorem zcv {x:TkD} {ns:List Int}:(x.more ns).S i ↔ x.S i\/i ∈ ns:=by
 unfold TkD.S TkD.more;simp only [zb4,bE]
 constructor
 ·rintro ((h | h) | h)
  ·exact .inl (.inl h)
  ·exact .inr h
  ·exact .inl (.inr h)
 ·rintro ((h | h) | h)
  ·exact .inl (.inl h)
  ·exact .inr h
  ·exact .inl (.inr h)
theorem zfj {x:TkD} {n:Int}:(x.later n).N i ↔ x.N i\/i=n:=by
 unfold TkD.N TkD.later;simp only [zb4,bE,bA]
theorem Le1.rfl' (x:TkD):Le1 x x:=⟨fun _ h=>h,fun _ h=>h,rfl⟩
theorem zfi (x:TkD) (ns:List Int):Le1 x (x.more ns):=⟨fun _ h=>zcv.2 (.inl h),fun _ h=>h,rfl⟩
theorem le_later (x:TkD) (n:Int):Le1 x (x.later n):=⟨fun _ h=>h,fun _ h=>zfj.2 (.inl h),rfl⟩
theorem Le1.trans {x y:TkD} (h:Le1 x y) (g:Le1 y z):Le1 x z:=⟨fun i hi=>g.1 i (h.1 i hi),fun i hi=>g.2.1 i (h.2.1 i hi),g.2.2.trans h.2.2⟩
theorem lk1_le {y:TkD} (h:z ∈ lk1 all kids y i):Le1 y z/\z.seen=y.seen/\locP all kids z.S z.N i:=by
 unfold lk1 at h
 unfold locP
 split at h <;> rename_i e <;> rw [e] <;> (try simp only [bB,dH,or_false] at h)
 ·subst h;exact ⟨Le1.rfl' _,rfl,trivial⟩
 ·split at h
  ·cases h
  ·rw [bA.1 h];exact ⟨Le1.rfl' _,rfl,trivial⟩
 ·split at h
  ·cases h
  ·rw [bA.1 h];exact ⟨Le1.rfl' _,rfl,trivial⟩
 ·subst h;exact ⟨zfi _ _,rfl,zcv.2 (.inr (by simp)),zcv.2 (.inr (by simp))⟩
 ·subst h;exact ⟨le_later _ _,rfl,zfj.2 (.inr rfl)⟩
 ·rcases h with rfl | rfl
  ·exact ⟨zfi _ _,rfl,.inr (zcv.2 (.inr (by simp)))⟩
  ·exact ⟨zfi _ _,rfl,.inl (zcv.2 (.inr (by simp)))⟩
 ·rcases h with rfl | rfl
  ·exact ⟨(zfi _ _).trans (le_later _ _),rfl,.inr ⟨zcv.2 (.inr (by simp)),zfj.2 (.inr rfl)⟩⟩
  ·exact ⟨zfi _ _,rfl,.inl (zcv.2 (.inr (by simp)))⟩
 ·rcases h with rfl | rfl
  ·exact ⟨(zfi _ _).trans (le_later _ _),rfl,zcv.2 (.inr (by simp)),.inr (zfj.2 (.inr rfl))⟩
  ·exact ⟨zfi _ _,rfl,zcv.2 (.inr (by simp)),.inl (zcv.2 (.inr (by simp)))⟩
theorem lk_le {x:TkD} (h:z ∈ lkT all kids x) (hx:x.ok all kids):Le1 x z/\z.ok all kids:=by
 unfold lkT at h
 cases e:x.look with
 | nil=>rw [e] at h;cases h
 | cons i rest =>
  rw [e] at h
  simp only at h
  split at h
  ·rename_i hk
   rw [bA.1 h]
   have hk:i ∈ x.seen:=by simpa using hk
   have hS:∀ j,x.S j->(TkD.mk rest x.seen x.next x.frm).S j:=fun j hj=>by
    rcases hj with hj | hj
    ·rw [e] at hj
     rcases bB.1 hj with rfl | hj
     ·exact .inr hk
     ·exact .inl hj
    ·exact .inr hj
   exact ⟨⟨hS,fun _ h=>h,rfl⟩,fun j hj=>(hx j hj).mono hS fun _ h=>h⟩
  ·obtain ⟨h1,h2,h3⟩:=lk1_le h
   have hS:∀ j,x.S j->z.S j:=fun j hj=>h1.1 j (by
    rcases hj with hj | hj
    ·rw [e] at hj
     rcases bB.1 hj with rfl | hj
     ·exact .inr ((zb4 _ _).2 (by simp))
     ·exact .inl hj
    ·exact .inr ((zb4 _ _).2 (by simp [hj])))
   have hN:∀ j,x.N j->z.N j:=h1.2.1
   refine ⟨⟨hS,hN,h1.2.2⟩,fun j hj=>?_⟩
   rw [h2] at hj
   rcases bE.1 ((zb4 _ _).1 hj) with hj | hj
   ·exact (hx j hj).mono hS hN
   ·rw [bA.1 hj];exact h3
variable {σ:Sq9}
structure FitT (all:List PF) (kids:List (Int × Int)) (σ:Sq9) (S N seen:Int->Prop) (x:Nat):Prop where
  s:∀ i,S i->ps σ (zcp all i) x
  n:∀ i,N i->ps σ (zcp all i) (x+1)
  u:∀ i p q,seen i->zcp all i = .un p q->ps σ (zcp all (kdA kids i).2) x->S (kdA kids i).2
def TkD.fit (all:List PF) (kids:List (Int × Int)) (σ:Sq9) (t:TkD) (x:Nat):Prop:=FitT all kids σ t.S t.N (· ∈ t.seen) x
theorem other_no {f:PF} {x:Nat} (h:(∃ p,f = .pa p)\/∃ p,f = .na p) (h1:ps σ f x):¬ ps σ f.other x:=by
 rcases h with ⟨p,rfl⟩ | ⟨p,rfl⟩
 ·show ¬ σ x p=false
  have h1:σ x p=true:=h1
  rw [h1];exact Bool.noConfusion
 ·show ¬ σ x p=true
  have h1:σ x p=false:=h1
  rw [h1];exact Bool.noConfusion
theorem ag_no {y:TkD} {x:Nat} (h:(∃ p,zcp all i = .pa p)\/∃ p,zcp all i = .na p) (hi:ps σ (zcp all i) x) (hy:∀ j ∈ y.seen,ps σ (zcp all j) x):agT all y.seen i=false:=by
 cases e:agT all y.seen i with
 | false=>rfl
 | true =>
  unfold agT at e
  rw [cX,decide_eq_true_eq] at e
  rcases zc2 (fun g=>PF.beq g (zcp all i).other) all 0 with ⟨h1,_⟩ | ⟨k,g,h1,h2,h3,_⟩
  ·rw [h1] at e;omega
  ·rw [h1] at e
   have h4:=hy _ (List.contains_iff_mem.1 e.2)
   have h5:zcp all ((0+k:Nat):Int)=g:=by unfold zcp;rw [if_pos (by omega),b9,bU,h2];rfl
   have h6:=PF.beq_eq h3
   rw [h5,h6] at h4
   exact absurd h4 (other_no h hi)
theorem lk1_fit (hT:TabOk all kids) {y:TkD} {x:Nat} (hi:i ∈ y.seen) (h:FitT all kids σ y.S y.N (fun j=>j ∈ y.seen/\j≠i) x):∃ z ∈ lk1 all kids y i,z.fit all kids σ x:=by
 have hp:=h.s i (.inr hi)
 have hk:=hT i
 -- a task with more
 have key:∀ z:TkD,z.seen=y.seen->(∀ j,y.S j->z.S j)->(∀ j,z.S j->ps σ (zcp all j) x)->(∀ j,z.N j->ps σ (zcp all j) (x+1))->(∀ p q,zcp all i = .un p q->ps σ (zcp all (kdA kids i).2) x->z.S (kdA kids i).2)->z.fit all kids σ x:=fun z e hm hs hn hu =>
  ⟨hs,hn,fun j p q hj hj2 hj3=>by
   by_cases hji:j=i
   ·subst hji;exact hu p q hj2 hj3
   ·exact hm _ (h.u j p q ⟨by rw [e] at hj;exact hj,hji⟩ hj2 hj3)⟩
 have more:∀ ns:List Int,(∀ j ∈ ns,ps σ (zcp all j) x)->∀ j,(y.more ns).S j->ps σ (zcp all j) x:=fun ns hn j hj=>(zcv.1 hj).elim (h.s j) (hn j)
 have no:∀ {z:TkD} {f:PF}, zcp all i=f->(∀ p q,f ≠ .un p q)->∀ p q,zcp all i = .un p q->ps σ (zcp all (kdA kids i).2) x->z.S (kdA kids i).2:=fun e hf p q e2=>absurd (e.symm.trans e2) (hf p q)
 unfold lk1
 unfold TabK at hk
 cases e:zcp all i with
 | tt=>exact ⟨y,by simp,key y rfl (fun _ h=>h) h.s h.n (no e (by simp))⟩
 | ff=>rw [e] at hp;cases hp
 | pa p=>exact ⟨y,by simp [ag_no (.inl ⟨p,e⟩) hp (fun j hj=>h.s j (.inr hj))],key y rfl (fun _ h=>h) h.s h.n (no e (by simp))⟩
 | na p=>exact ⟨y,by simp [ag_no (.inr ⟨p,e⟩) hp (fun j hj=>h.s j (.inr hj))],key y rfl (fun _ h=>h) h.s h.n (no e (by simp))⟩
 | and p q =>
  rw [e] at hp hk
  refine ⟨_,bA.2 rfl,key _ rfl (fun _ h=>zcv.2 (.inl h)) (more _ fun j hj=>?_) h.n (no e (by simp))⟩
  rcases bB.1 hj with rfl | hj
  ·rw [hk.1];exact hp.1
  ·rw [bA.1 hj,hk.2];exact hp.2
 | or p q =>
  rw [e] at hp hk
  rcases hp with hp | hp
  ·exact ⟨y.more [(kdA kids i).1],by simp,key _ rfl (fun _ h=>zcv.2 (.inl h)) (more _ fun j hj=>by rw [bA.1 hj,hk.1];exact hp) h.n (no e (by simp))⟩
  ·exact ⟨y.more [(kdA kids i).2],by simp,key _ rfl (fun _ h=>zcv.2 (.inl h)) (more _ fun j hj=>by rw [bA.1 hj,hk.2];exact hp) h.n (no e (by simp))⟩
 | nx p =>
  rw [e] at hp hk
  exact ⟨_,bA.2 rfl,key _ rfl (fun _ h=>h) h.s (fun j hj=>(zfj.1 hj).elim (h.n j) fun e2=>by rw [e2,hk];exact hp) (no e (by simp))⟩
 | un p q =>
  rw [e] at hp hk
  by_cases hq:ps σ q x
  ·exact ⟨y.more [(kdA kids i).2],by simp,key _ rfl (fun _ h=>zcv.2 (.inl h)) (more _ fun j hj=>by rw [bA.1 hj,hk.2];exact hq) h.n (fun _ _ _ _=>zcv.2 (.inr (by simp)))⟩
  ·rcases (ps_un σ p q x).1 hp with hp | ⟨h1,h2⟩
   ·exact absurd hp hq
   ·refine ⟨(y.more [(kdA kids i).1]).later i,by simp,key _ rfl (fun _ h=>zcv.2 (.inl h)) (fun j hj=>more _ (fun j hj=>by rw [bA.1 hj,hk.1];exact h1) j hj) (fun j hj=>(zfj.1 hj).elim (h.n j) fun e2=>by rw [e2,e];exact h2) (fun _ _ _ h3=>absurd (hk.2 ▸ h3) hq)⟩
 | fr p q =>
  rw [e] at hp hk
  obtain ⟨h1,h2⟩:=(ps_fr σ p q x).1 hp
  rcases h2 with h2 | h2
  ·refine ⟨y.more [(kdA kids i).1,(kdA kids i).2],by simp,key _ rfl (fun _ h=>zcv.2 (.inl h)) (more _ fun j hj=>?_) h.n (no e (by simp))⟩
   rcases bB.1 hj with rfl | hj
   ·rw [hk.1];exact h2
   ·rw [bA.1 hj,hk.2];exact h1
  ·exact ⟨(y.more [(kdA kids i).2]).later i,by simp,key _ rfl (fun _ h=>zcv.2 (.inl h)) (fun j hj=>more _ (fun j hj=>by rw [bA.1 hj,hk.2];exact h1) j hj) (fun j hj=>(zfj.1 hj).elim (h.n j) fun e2=>by rw [e2,e];exact h2) (no e (by simp))⟩
theorem lk_fit (hT:TabOk all kids) {x:TkD} {c:Nat} (hl:x.look≠[]) (h:x.fit all kids σ c):∃ z ∈ lkT all kids x,z.fit all kids σ c:=by
 unfold lkT
 cases e:x.look with
 | nil=>exact absurd e hl
 | cons i rest =>
  simp only
  split
  ·rename_i hk
   have hk:i ∈ x.seen:=by simpa using hk
   have hS:∀ j,(TkD.mk rest x.seen x.next x.frm).S j ↔ x.S j:=fun j=>by
    constructor
    ·rintro (hj | hj)
     ·exact .inl (by rw [e];exact cM _ hj)
     ·exact .inr hj
    ·rintro (hj | hj)
     ·rw [e] at hj
      rcases bB.1 hj with rfl | hj
      ·exact .inr hk
      ·exact .inl hj
     ·exact .inr hj
   exact ⟨_,bA.2 rfl,fun j hj=>h.s j ((hS j).1 hj),h.n,fun j p q h1 h2 h3=>(hS _).2 (h.u j p q h1 h2 h3)⟩
  ·rename_i hk
   have hS:∀ j,(TkD.mk rest (zad (x.seen++[i])) x.next x.frm).S j ↔ x.S j:=fun j=>by
    constructor
    ·rintro (hj | hj)
     ·exact .inl (by rw [e];exact cM _ hj)
     ·rcases bE.1 ((zb4 _ _).1 hj) with hj | hj
      ·exact .inr hj
      ·exact .inl (by rw [e,bA.1 hj];simp)
    ·rintro (hj | hj)
     ·rw [e] at hj
      rcases bB.1 hj with rfl | hj
      ·exact .inr ((zb4 _ _).2 (by simp))
      ·exact .inl hj
     ·exact .inr ((zb4 _ _).2 (by simp [hj]))
   refine lk1_fit hT ((zb4 _ _).2 (by simp)) ⟨fun j hj=>h.s j ((hS j).1 hj),h.n,fun j p q h1 h2 h3=>(hS _).2 (h.u j p q ?_ h2 h3)⟩
   rcases bE.1 ((zb4 _ _).1 h1.1) with hj | hj
   ·exact hj
   ·exact absurd (bA.1 hj) h1.2
end
section
variable {all:List PF} {kids:List (Int × Int)} {σ:Sq9}
def zas.ok (all:List PF) (kids:List (Int × Int)) (p:zas):Prop:=∀ i ∈ p.seen,locP all kids (· ∈ p.seen) (· ∈ p.next) i
def zas.fit (all:List PF) (kids:List (Int × Int)) (σ:Sq9) (p:zas) (x:Nat):Prop:=FitT all kids σ (· ∈ p.seen) (· ∈ p.next) (· ∈ p.seen) x
def askT (all:List PF) (σ:Sq9) (i0:Int) (ps:List zas) (m:Int) (x:Nat):Prop:=(m=-1/\S.ps σ (zcp all i0) x)\/∃ k p,m=((k:Nat):Int)/\ps[k]?=some p/\∀ i ∈ p.next,S.ps σ (zcp all i) (x)
structure TInv (all:List PF) (kids:List (Int × Int)) (i0:Int) (s:TbS):Prop where
  tok:∀ t ∈ s.tasks,t.ok all kids/\zhf i0 s.places t.S t.frm
  pok:∀ p ∈ s.places,p.ok all kids/\∀ m ∈ p.frm,zhf i0 s.places (· ∈ p.seen) m
  cov:∀ (σ:Sq9) (m:Int) (x:Nat),askT all σ i0 s.places m x->(∃ t ∈ s.tasks,t.frm=m/\t.fit all kids σ x)\/∃ p ∈ s.places,m ∈ p.frm/\p.fit all kids σ x
theorem zhf.mono {ps ps':List zas} {S S':Int->Prop} {m:Int} (h:zhf i0 ps S m) (hS:∀ i,S i->S' i) (hp:∀ (k:Nat) (p:zas),ps[k]?=some p->∃ p':zas,ps'[k]?=some p'/\p'.next=p.next):zhf i0 ps' S' m:=by
 rcases h with ⟨h,h'⟩ | ⟨k,p,h,h1,h2⟩
 ·exact .inl ⟨h,hS _ h'⟩
 ·obtain ⟨p', e1,e2⟩:=hp k p h1
  exact .inr ⟨k,p', h,e1,fun i hi=>hS i (h2 i (by rw [<- e2];exact hi))⟩
theorem last_app {xs:List α} {x:α} (h:xs.getLast?=some x):xs=xs.dropLast++[x]:=by
 obtain ⟨ys,rfl⟩:=List.getLast?_eq_some_iff.1 h
 simp
theorem stp_look (hT:TabOk all kids) {s:TbS} {x:TkD} (h:TInv all kids i0 s) (hx:s.tasks.getLast?=some x) (hl:x.look≠[]):TInv all kids i0 ⟨s.places,s.tasks.dropLast++lkT all kids x⟩:=by
 have e:=last_app hx
 have hxm:x ∈ s.tasks:=by rw [e];simp
 have hd:∀ t ∈ s.tasks.dropLast,t ∈ s.tasks:=fun t ht=>by rw [e];simp [ht]
 refine ⟨fun t ht=>?_,h.pok,fun σ m c hm=>?_⟩
 ·rcases bE.1 ht with ht | ht
  ·exact h.tok t (hd t ht)
  ·obtain ⟨h1,h2⟩:=h.tok x hxm
   obtain ⟨h3,h4⟩:=lk_le ht h1
   refine ⟨h4,?_⟩
   rw [h3.2.2]
   exact zhf.mono h2 h3.1 fun k p hp=>⟨p,hp,rfl⟩
 ·rcases h.cov σ m c hm with ⟨t,ht,h1,h2⟩ | h1
  ·rw [e] at ht
   rcases bE.1 ht with ht | ht
   ·exact .inl ⟨t,b8 _ ht,h1,h2⟩
   ·have ht:=bA.1 ht
    subst ht
    obtain ⟨z,hz,hf⟩:=lk_fit hT hl h2
    have:=(lk_le hz (h.tok t hxm).1).1.2.2
    exact .inl ⟨z,cC _ hz,this.trans h1,hf⟩
  ·exact .inr h1
theorem stp_fin {s:TbS} {x:TkD} {r:List zas × List TkD} (h:TInv all kids i0 s) (hx:s.tasks.getLast?=some x) (hl:x.look=[]) (hr:finT s.places x=some r):TInv all kids i0 ⟨r.1,s.tasks.dropLast++r.2⟩:=by
 have e:=last_app hx
 have hxm:x ∈ s.tasks:=by rw [e];simp
 have hd:∀ t ∈ s.tasks.dropLast,t ∈ s.tasks:=fun t ht=>by rw [e];simp [ht]
 obtain ⟨ox,fx⟩:=h.tok x hxm
 have hS:∀ i,x.S i ↔ i ∈ x.seen:=fun i=>by unfold TkD.S;rw [hl];simp
 unfold finT at hr
 rcases zc2 (zdd x) s.places 0 with ⟨h1,_⟩ | ⟨k,p,h1,h2,h3,_⟩
 ·rw [h1,if_pos (by decide)] at hr
  split at hr
  ·cases hr
  ·injection hr with hr
   subst hr
   have hg:∀ (k:Nat) (p:zas),s.places[k]?=some p->∃ p':zas,(s.places++[⟨x.seen,x.next,[x.frm]⟩])[k]?=some p'/\p'.next=p.next:=fun k p hp=>⟨p,by rw [cK (bM.1 hp).1];exact hp,rfl⟩
   have hN:(s.places++[zas.mk x.seen x.next [x.frm]])[s.places.length]?=some ⟨x.seen,x.next,[x.frm]⟩:=by simp
   refine ⟨fun t ht=>?_,fun p hp=>?_,fun σ m c hm=>?_⟩
   ·rcases bE.1 ht with ht | ht
    ·obtain ⟨a1,a2⟩:=h.tok t (hd t ht)
     exact ⟨a1,zhf.mono a2 (fun _ h=>h) hg⟩
    ·rw [bA.1 ht]
     exact ⟨fun i hi=>(by cases hi),.inr ⟨s.places.length,_,rfl,hN,fun i hi => .inl hi⟩⟩
   ·rcases bE.1 hp with hp | hp
    ·obtain ⟨a1,a2⟩:=h.pok p hp
     exact ⟨a1,fun m hm=>zhf.mono (a2 m hm) (fun _ h=>h) hg⟩
    ·rw [bA.1 hp]
     exact ⟨fun i hi=>(ox i hi).mono (fun j hj=>(hS j).1 hj) (fun _ h=>h),fun m hm=>by
      rw [bA.1 hm];exact zhf.mono fx (fun j hj=>(hS j).1 hj) hg⟩
   ·have old:askT all σ i0 s.places m c\/(m=(s.places.length:Int)/\∀ i ∈ x.next,ps σ (zcp all i) c):=by
     rcases hm with hm | ⟨k,p,e1,e2,e3⟩
     ·exact .inl (.inl hm)
     ·by_cases hk:k<s.places.length
      ·rw [cK hk] at e2
       exact .inl (.inr ⟨k,p,e1,e2,e3⟩)
      ·have:k=s.places.length:=by
        have:=(bM.1 e2).1
        simp at this;omega
       subst this
       rw [hN] at e2
       injection e2 with e2
       subst e2
       exact .inr ⟨e1,e3⟩
    rcases old with old | ⟨e1,e2⟩
    ·rcases h.cov σ m c old with ⟨t,ht,h4,h5⟩ | ⟨p,hp,h4,h5⟩
     ·rw [e] at ht
      rcases bE.1 ht with ht | ht
      ·exact .inl ⟨t,b8 _ ht,h4,h5⟩
      ·have ht:=bA.1 ht
       subst ht
       refine .inr ⟨_,cC _ (bA.2 rfl),by simp [h4],fun i hi=>h5.s i ((hS i).2 hi),h5.n,fun i p q a b c=>(hS _).1 (h5.u i p q a b c)⟩
     ·exact .inr ⟨p,b8 _ hp,h4,h5⟩
    ·exact .inl ⟨_,cC _ (bA.2 rfl),e1.symm,fun i hi=>e2 i (hi.resolve_right (by simp)),fun i hi=>(by cases hi),fun i p q hi=>(by cases hi)⟩
 ·rw [h1,if_neg (by omega)] at hr
  injection hr with hr
  subst hr
  rw [b9,bU]
  have h3:p.seen=x.seen/\p.next=x.next:=by
   unfold zdd at h3
   rw [cX,decide_eq_true_eq,decide_eq_true_eq] at h3
   exact h3
  have hk:=(bM.1 h2).1
  have hmod:∀ (j:Nat) (q:zas),s.places[j]?=some q->∃ q':zas,(s.places.modify k fun p=>{ p with frm:=p.frm++[x.frm] })[j]?=some q'/\q'.seen=q.seen/\q'.next=q.next/\(∀ m ∈ q.frm,m ∈ q'.frm)/\(j=k->x.frm ∈ q'.frm):=fun j q hq=>by
   rw [cZ,hq]
   by_cases hj:k=j
   ·exact ⟨{ q with frm:=q.frm++[x.frm] }, by show some (if k=j then _ else q)=_;rw [if_pos hj],rfl,rfl,fun m hm=>b8 _ hm,fun _=>cC _ (bA.2 rfl)⟩
   ·exact ⟨q,by show some (if k=j then _ else q)=_;rw [if_neg hj],rfl,rfl,fun m hm=>hm,fun e=>absurd e.symm hj⟩
  have hback:∀ q' ∈ (s.places.modify k fun p=>{ p with frm:=p.frm++[x.frm] }),∃ q ∈ s.places,q'.seen=q.seen/\q'.next=q.next/\∀ m ∈ q'.frm,m ∈ q.frm\/(m=x.frm/\q=p):=fun q' hq'=>by
   obtain ⟨j,hj⟩:=cL.1 hq'
   rw [cZ] at hj
   obtain ⟨q,hq,hq2⟩:=dL.1 hj
   refine ⟨q,bL hq,?_⟩
   by_cases hjk:k=j
   ·subst hjk
    rw [if_pos rfl] at hq2
    rw [h2] at hq;injection hq with hq;subst hq
    subst hq2
    exact ⟨rfl,rfl,fun m hm=>by simpa using hm⟩
   ·rw [if_neg hjk] at hq2
    subst hq2
    exact ⟨rfl,rfl,fun m hm => .inl hm⟩
  have hg:∀ (j:Nat) (q:zas),s.places[j]?=some q->∃ q':zas,(s.places.modify k fun p=>{ p with frm:=p.frm++[x.frm] })[j]?=some q'/\q'.next=q.next:=fun j q hq=>by
   obtain ⟨q', a,_,b,_⟩:=hmod j q hq;exact ⟨q', a,b⟩
  refine ⟨fun t ht=>?_,fun q' hq'=>?_,fun σ m c hm=>?_⟩
  ·rw [List.append_nil] at ht
   obtain ⟨a1,a2⟩:=h.tok t (hd t ht)
   exact ⟨a1,zhf.mono a2 (fun _ h=>h) hg⟩
  ·obtain ⟨q,hq,e1,e2,e3⟩:=hback q' hq'
   obtain ⟨a1,a2⟩:=h.pok q hq
   refine ⟨fun i hi=>?_,fun m hm=>?_⟩
   ·rw [e1] at hi;have:=a1 i hi;rw [<- e1,<- e2] at this;exact this
   ·rcases e3 m hm with hm | ⟨rfl,rfl⟩
    ·exact zhf.mono (a2 m hm) (fun i hi=>by rw [e1];exact hi) hg
    ·exact zhf.mono fx (fun j hj=>by rw [e1,h3.1];exact (hS j).1 hj) hg
  ·have old:askT all σ i0 s.places m c:=by
    rcases hm with hm | ⟨j,q', e1,e2,e3⟩
    ·exact .inl hm
    ·rw [cZ] at e2
     obtain ⟨q,hq,_⟩:=dL.1 e2
     obtain ⟨q2,a1,a2,a3,_⟩:=hmod j q hq
     rw [cZ] at a1
     rw [a1] at e2;injection e2 with e2;subst e2
     exact .inr ⟨j,q,e1,hq,fun i hi=>e3 i (by rw [a3];exact hi)⟩
   rcases h.cov σ m c old with ⟨t,ht,h4,h5⟩ | ⟨q,hq,h4,h5⟩
   ·rw [e] at ht
    rcases bE.1 ht with ht | ht
    ·exact .inl ⟨t,b8 _ ht,h4,h5⟩
    ·have ht:=bA.1 ht
     subst ht
     obtain ⟨q', a1,a2,a3,_,a5⟩:=hmod k p h2
     refine .inr ⟨q', bL a1,by rw [<- h4];exact a5 rfl,?_⟩
     unfold zas.fit
     rw [a2,a3,h3.1,h3.2]
     exact ⟨fun i hi=>h5.s i ((hS i).2 hi),h5.n,fun i p q a b c=>(hS _).1 (h5.u i p q a b c)⟩
   ·obtain ⟨j,hj⟩:=cL.1 hq
    obtain ⟨q', a1,a2,a3,a4,_⟩:=hmod j q hj
    refine .inr ⟨q', bL a1,a4 m h4,?_⟩
    unfold zas.fit
    rw [a2,a3];exact h5
theorem run_inv (hT:TabOk all kids):∀ (n:Nat) (s:TbS) (ps:List zas),TInv all kids i0 s->runT9 all kids n s=some ps->TInv all kids i0 ⟨ps,[]⟩
 | n,s,ps,h,hr=>by
  unfold runT9 at hr
  split at hr
  ·rename_i e
   injection hr with hr
   subst hr
   have:s.tasks=[]:=List.getLast?_eq_none_iff.1 e
   cases s;simp at this;subst this;exact h
  ·rename_i x e
   cases n with
   | zero=>cases hr
   | succ n =>
    simp only at hr
    obtain ⟨s', h1,h2⟩:=dR.1 hr
    refine run_inv hT n s' ps ?_ h2
    unfold stpT at h1
    cases hl:x.look with
    | nil =>
     rw [hl] at h1
     obtain ⟨r,h3,h4⟩:=dL.1 h1
     subst h4
     exact stp_fin h e hl h3
    | cons i rest =>
     rw [hl] at h1
     injection h1 with h1
     subst h1
     exact stp_look hT h e (by rw [hl];exact List.cons_ne_nil _ _)
theorem start_inv (i0:Int):TInv all kids i0 ⟨[],[⟨[i0],[],[],-1⟩]⟩ :=
  ⟨fun t ht=>by rw [bA.1 ht];exact ⟨fun i hi=>(by cases hi),.inl ⟨rfl,.inl (by simp)⟩⟩,
   fun p hp=>(by cases hp),
   fun σ m x hm=>by
    rcases hm with ⟨rfl,h⟩ | ⟨k,p,_,h,_⟩
    · exact .inl ⟨_,bA.2 rfl,rfl,fun i hi=>by rw [show i=i0 by simpa [TkD.S] using hi];exact h,fun i hi=>(by cases hi),fun i p q hi=>(by cases hi)⟩
    · simp at h⟩
end
def paT (all:List PF) (i:Int):Option Int:=match zcp all i with
  | .pa p=>some p
  | _=>none
def naT (all:List PF) (i:Int):Option Int:=match zcp all i with
  | .na p=>some p
  | _=>none
def isU (f:PF):Bool:=match f with
  | .un _ _=>true
  | _=>false
noncomputable def fromI (p:zas) (m:Int):List Int:=(zad p.frm).filter fun x=>decide (x=m)
noncomputable def nodT (all:List PF) (ps:List zas) (p:zas) (n:Nat):za4:=⟨zb2 (p.seen.filterMap (paT all)),zb2 (p.seen.filterMap (naT all)),ps.zipIdx.flatMap fun q=>(fromI q.1 (n:Int)).map fun _=>((q.2:Nat):Int)⟩
def fulB (kids:List (Int × Int)) (i:Int) (p:zas):Bool:=!p.seen.contains i || p.seen.contains (kdA kids i).2
def zhe (ps:List zas) (kids:List (Int × Int)) (i:Int):List Int:=(ps.zipIdx.filter fun q=>fulB kids i q.1).map fun q=>((q.2:Nat):Int)
noncomputable def gbT (all:List PF) (kids:List (Int × Int)) (ps:List zas):GbD :=
  ⟨ps.zipIdx.map fun q=>nodT all ps q.1 q.2,
   ps.zipIdx.flatMap fun q=>((zad q.1.frm).filter fun x=>decide (x<0)).map fun _=>((q.2:Nat):Int),
   (all.zipIdx.filter fun q=>isU q.1).map fun q=>zhe ps kids ((q.2:Nat):Int)⟩
section
variable {all:List PF} {kids:List (Int × Int)} {σ:Sq9} {ps:List zas}
theorem mem_next {x:Int} {p:zas}:x ∈ (nodT all ps p n).next ↔ ∃ (k:Nat) (q:zas),x=(k:Int)/\ps[k]?=some q/\(n:Int) ∈ q.frm:=by
 unfold nodT
 simp only [bC,bK]
 constructor
 ·rintro ⟨⟨q,k⟩,hq,y,hy,rfl⟩
  have hq:=bZ.1 hq
  obtain ⟨h1,h2⟩:=bN.1 hy
  have h2:y=(n:Int):=of_decide_eq_true h2
  exact ⟨k,q,rfl,hq,by rw [<- h2];exact (zb4 _ _).1 h1⟩
 ·rintro ⟨k,q,rfl,hq,hm⟩
  exact ⟨(q,k),bZ.2 hq,n,bN.2 ⟨(zb4 _ _).2 hm,decide_eq_true rfl⟩,rfl⟩
theorem mem_first {x:Int}:x ∈ (gbT all kids ps).first ↔ ∃ (k:Nat) (q:zas),x=(k:Int)/\ps[k]?=some q/\∃ m ∈ q.frm,m<0:=by
 unfold gbT
 simp only [bC,bK]
 constructor
 ·rintro ⟨⟨q,k⟩,hq,y,hy,rfl⟩
  have hq:=bZ.1 hq
  obtain ⟨h1,h2⟩:=bN.1 hy
  exact ⟨k,q,rfl,hq,y,(zb4 _ _).1 h1,of_decide_eq_true h2⟩
 ·rintro ⟨k,q,rfl,hq,m,hm,hm2⟩
  exact ⟨(q,k),bZ.2 hq,m,bN.2 ⟨(zb4 _ _).2 hm,decide_eq_true hm2⟩,rfl⟩
theorem nd_gb {k:Int} {n:za4}:ndI (gbT all kids ps).nodes k=some n ↔ ∃ (j:Nat) (p:zas),k=(j:Int)/\ps[j]?=some p/\n=nodT all ps p j:=by
 unfold ndI gbT
 constructor
 ·intro h
  split at h
  ·rename_i h0
   rw [bT,dY] at h
   cases e:ps[k.toNat]? with
   | none=>rw [e] at h;cases h
   | some p =>
    rw [e] at h
    simp at h
    exact ⟨k.toNat,p,by omega,e,h.symm⟩
  ·cases h
 ·rintro ⟨j,p,rfl,h,rfl⟩
  rw [if_pos (by omega),bT,dY,b9,h]
  simp
theorem mem_ful {x:Int}:x ∈ zhe ps kids i ↔ ∃ (k:Nat) (p:zas),x=(k:Int)/\ps[k]?=some p/\(i ∈ p.seen->(kdA kids i).2 ∈ p.seen):=by
 unfold zhe
 have hB:∀ p:zas,fulB kids i p=true ↔ (i ∈ p.seen->(kdA kids i).2 ∈ p.seen):=fun p=>by
  unfold fulB
  by_cases h:i ∈ p.seen <;> simp [h]
 simp only [bK,bN]
 constructor
 ·rintro ⟨⟨p,k⟩,⟨h1,h2⟩,rfl⟩
  exact ⟨k,p,rfl,bZ.1 h1,(hB p).1 h2⟩
 ·rintro ⟨k,p,rfl,h1,h2⟩
  exact ⟨(p,k),⟨bZ.2 h1,(hB p).2 h2⟩,rfl⟩
theorem sets_gb {s:List Int}:s ∈ (gbT all kids ps).sets ↔ ∃ (k:Nat) (p q:PF),all[k]?=some (.un p q)/\s=zhe ps kids (k:Int):=by
 unfold gbT
 simp only [bK,bN]
 constructor
 ·rintro ⟨⟨f,k⟩,⟨h1,h2⟩,rfl⟩
  cases f with
  | un p q=>exact ⟨k,p,q,bZ.1 h1,rfl⟩
  | _=>cases h2
 ·rintro ⟨k,p,q,h1,rfl⟩
  exact ⟨(.un p q,k),⟨bZ.2 h1,rfl⟩,rfl⟩
theorem fit_gb {p:zas} {l:Int->Bool}:fitL (nodT all ps p n) l ↔ (∀ i ∈ p.seen,∀ q,zcp all i = .pa q->l q=true)/\∀ i ∈ p.seen,∀ q,zcp all i = .na q->l q=false:=by
 unfold fitL nodT
 simp only [sortZ_mem,List.mem_filterMap]
 constructor
 ·rintro ⟨h1,h2⟩
  exact ⟨fun i hi q e=>h1 q ⟨i,hi,by unfold paT;rw [e]⟩,fun i hi q e=>h2 q ⟨i,hi,by unfold naT;rw [e]⟩⟩
 ·rintro ⟨h1,h2⟩
  refine ⟨fun q ⟨i,hi,e⟩=>h1 i hi q ?_,fun q ⟨i,hi,e⟩=>h2 i hi q ?_⟩
  ·unfold paT at e;split at e
   ·rename_i e2;injection e with e;rw [e2,e]
   ·cases e
  ·unfold naT at e;split at e
   ·rename_i e2;injection e with e;rw [e2,e]
   ·cases e
theorem at_some {f:PF} (h:all[k]?=some f):zcp all (k:Int)=f:=by unfold zcp;rw [if_pos (by omega),b9,h];rfl
theorem at_un {p q:PF} (h:zcp all i = .un p q):0<=i/\all[i.toNat]?=some (.un p q):=by
 unfold zcp at h
 split at h
 ·rename_i h0
  refine ⟨h0,?_⟩
  cases e:all[i.toNat]? with
  | none=>rw [e] at h;cases h
  | some f=>rw [e] at h;exact congrArg some h
 ·cases h
def RunP (all:List PF) (kids:List (Int × Int)) (ps:List zas) (σ:Sq9) (π:Nat->zas):Prop :=
  (∃ m ∈ (π 0).frm,m<0)/\(∀ i,∃ k:Nat,ps[k]?=some (π i)/\(k:Int) ∈ (π (i+1)).frm)/\(∀ i,(∀ j ∈ (π i).seen,∀ q,zcp all j = .pa q->σ i q=true)/\∀ j ∈ (π i).seen,∀ q,zcp all j = .na q->σ i q=false)/\∀ (k:Nat) (p q:PF),all[k]?=some (.un p q)->∀ i,∃ j,i<=j/\((k:Int) ∈ (π j).seen->(kdA kids k).2 ∈ (π j).seen)
theorem acc_run:AccG (gbT all kids ps) σ->∃ π,RunP all kids ps σ π:=by
 rintro ⟨ρ,h0,h1,h2⟩
 have hp:∀ i,∃ (k:Nat) (p:zas),ρ i=(k:Int)/\ps[k]?=some p:=fun i=>by
  obtain ⟨n,hn,_⟩:=h1 i
  obtain ⟨j,p,a,b,_⟩:=nd_gb.1 hn
  exact ⟨j,p,a,b⟩
 let κ:Nat->Nat:=fun i=>(hp i).choose
 let π:Nat->zas:=fun i=>(hp i).choose_spec.choose
 have hκ:∀ i,ρ i=(κ i:Int):=fun i=>(hp i).choose_spec.choose_spec.1
 have hπ:∀ i,ps[κ i]?=some (π i):=fun i=>(hp i).choose_spec.choose_spec.2
 have same:∀ (i:Nat) (k:Nat) (q:zas),ρ i=(k:Int)->ps[k]?=some q->q=π i:=fun i k q e1 e2=>by
  have:k=κ i:=by have:=hκ i;omega
  subst this;rw [hπ i] at e2;exact (Option.some.inj e2).symm
 refine ⟨π,?_,fun i=>?_,fun i=>?_,fun k p q hk i=>?_⟩
 ·obtain ⟨k,q,e1,e2,m,hm,hm2⟩:=mem_first.1 h0
  rw [<- same 0 k q e1 e2];exact ⟨m,hm,hm2⟩
 ·obtain ⟨n,hn,_,hx⟩:=h1 i
  obtain ⟨j,p,a,b,rfl⟩:=nd_gb.1 hn
  obtain ⟨k,q,e1,e2,e3⟩:=mem_next.1 hx
  refine ⟨κ i,hπ i,?_⟩
  rw [<- same (i+1) k q e1 e2,show κ i=j by have:=hκ i;omega];exact e3
 ·obtain ⟨n,hn,hf,_⟩:=h1 i
  obtain ⟨j,p,a,b,rfl⟩:=nd_gb.1 hn
  rw [<- same i j p a b];exact fit_gb.1 hf
 ·obtain ⟨j,hj,hm⟩:=h2 _ (sets_gb.2 ⟨k,p,q,hk,rfl⟩) i
  obtain ⟨x,y,e1,e2,e3⟩:=mem_ful.1 hm
  exact ⟨j,hj,by rw [<- same j x y e1 e2];exact e3⟩
theorem run_acc {π:Nat->zas} (h:RunP all kids ps σ π):AccG (gbT all kids ps) σ:=by
 obtain ⟨h0,h1,h2,h3⟩:=h
 let κ:Nat->Nat:=fun i=>(h1 i).choose
 have hκ:∀ i,ps[κ i]?=some (π i):=fun i=>(h1 i).choose_spec.1
 have hn:∀ i,((κ i:Nat):Int) ∈ (π (i+1)).frm:=fun i=>(h1 i).choose_spec.2
 refine ⟨fun i=>(κ i:Int),mem_first.2 ⟨κ 0,π 0,rfl,hκ 0,h0⟩,fun i=>⟨_,nd_gb.2 ⟨κ i,π i,rfl,hκ i,rfl⟩,fit_gb.2 (h2 i),mem_next.2 ⟨κ (i+1),π (i+1),rfl,hκ (i+1),hn i⟩⟩,fun s hs i=>?_⟩
 obtain ⟨k,p,q,hk,rfl⟩:=sets_gb.1 hs
 obtain ⟨j,hj,hm⟩:=h3 k p q hk i
 exact ⟨j,hj,mem_ful.2 ⟨κ j,π j,rfl,hκ j,hm⟩⟩
theorem run_sound (hT:TabOk all kids) (hok:∀ p ∈ ps,p.ok all kids/\∀ m ∈ p.frm,∀ k q,m=((k:Nat):Int)->ps[k]?=some q->∀ i ∈ q.next,i ∈ p.seen) {π:Nat->zas} (h:RunP all kids ps σ π):∀ (f:PF) (i:Int) (x:Nat),zcp all i=f->i ∈ (π x).seen->S.ps σ f x:=by
  obtain ⟨h0,h1,h2,h3⟩:=h
  have hm:∀ x,π x ∈ ps:=fun x=>by obtain ⟨k,hk,_⟩:=h1 x;exact bL hk
  have hloc:∀ x i,i ∈ (π x).seen->locP all kids (· ∈ (π x).seen) (· ∈ (π x).next) i:=fun x i hi=>(hok _ (hm x)).1 i hi
  have hnx:∀ x i,i ∈ (π x).next->i ∈ (π (x+1)).seen:=fun x i hi=>by
    obtain ⟨k,hk,hk2⟩:=h1 x
    exact (hok _ (hm (x+1))).2 _ hk2 k _ rfl hk i hi
  intro f
  induction f with
  | tt=>intro i x _ _;trivial
  | ff =>
    intro i x e hi
    have:=hloc x i hi
    unfold locP at this;rw [e] at this;exact this
  | pa p=>intro i x e hi;exact (h2 x).1 i hi p e
  | na p=>intro i x e hi;exact (h2 x).2 i hi p e
  | and p q ihp ihq =>
    intro i x e hi
    have hl:=hloc x i hi
    have hk:=hT i
    unfold locP at hl;unfold TabK at hk
    rw [e] at hl hk
    exact ⟨ihp _ x hk.1 hl.1,ihq _ x hk.2 hl.2⟩
  | or p q ihp ihq =>
    intro i x e hi
    have hl:=hloc x i hi
    have hk:=hT i
    unfold locP at hl;unfold TabK at hk
    rw [e] at hl hk
    rcases hl with hl | hl
    · exact .inl (ihp _ x hk.1 hl)
    · exact .inr (ihq _ x hk.2 hl)
  | nx p ihp =>
    intro i x e hi
    have hl:=hloc x i hi
    have hk:=hT i
    unfold locP at hl;unfold TabK at hk
    rw [e] at hl hk
    exact ihp _ (x+1) hk (hnx x _ hl)
  | un p q ihp ihq =>
    intro i x e hi
    have hk:=hT i
    unfold TabK at hk
    rw [e] at hk
    have hl:∀ y,i ∈ (π y).seen->(kdA kids i).2 ∈ (π y).seen\/((kdA kids i).1 ∈ (π y).seen/\i ∈ (π (y+1)).seen):=fun y hy=>by
      have:=hloc y i hy
      unfold locP at this;rw [e] at this
      rcases this with h | h
      · exact .inl h
      · exact .inr ⟨h.1,hnx y i h.2⟩
    obtain ⟨h00,hu⟩:=at_un e
    -- as long as it is put off it stays
    have stay:∀ n,(∃ m,m<n/\(kdA kids i).2 ∈ (π (x+m)).seen/\∀ j,j<m->(kdA kids i).1 ∈ (π (x+j)).seen)\/(i ∈ (π (x+n)).seen/\∀ j,j<n->(kdA kids i).1 ∈ (π (x+j)).seen):=by
      intro n
      induction n with
      | zero=>exact .inr ⟨hi,fun j hj=>by omega⟩
      | succ n ih =>
        rcases ih with ⟨m,a,b,c⟩ | ⟨a,b⟩
        · exact .inl ⟨m,by omega,b,c⟩
        · rcases hl _ a with c | ⟨c,d⟩
          · exact .inl ⟨n,by omega,c,b⟩
          · refine .inr ⟨d,fun j hj=>?_⟩
            by_cases hjn:j=n
            · subst hjn;exact c
            · exact b j (by omega)
    -- once it is not put off
    have fin:∃ m,(kdA kids i).2 ∈ (π (x+m)).seen/\∀ j,j<m->(kdA kids i).1 ∈ (π (x+j)).seen:=by
      have ei:((i.toNat:Nat):Int)=i:=Int.toNat_of_nonneg h00
      obtain ⟨j,hj,hm⟩:=h3 i.toNat p q hu x
      rw [ei] at hm
      rcases stay (j - x) with ⟨m,_,b,c⟩ | ⟨a,b⟩
      · exact ⟨m,b,c⟩
      · rw [show x+(j - x)=j by omega] at a
        exact ⟨j - x,by rw [show x+(j - x)=j by omega];exact hm a,b⟩
    obtain ⟨m,a,b⟩:=fin
    exact ⟨m,ihq _ _ hk.2 a,fun j hj=>ihp _ _ hk.1 (b j hj)⟩
  | fr p q ihp ihq =>
    intro i x e hi
    have hk:=hT i
    unfold TabK at hk
    rw [e] at hk
    have hl:∀ y,i ∈ (π y).seen->(kdA kids i).2 ∈ (π y).seen/\((kdA kids i).1 ∈ (π y).seen\/i ∈ (π (y+1)).seen):=fun y hy=>by
      have:=hloc y i hy
      unfold locP at this;rw [e] at this
      exact ⟨this.1,this.2.imp id (hnx y i)⟩
    have stay:∀ n,(∃ j,j<n/\(kdA kids i).1 ∈ (π (x+j)).seen)\/i ∈ (π (x+n)).seen:=by
      intro n
      induction n with
      | zero=>exact .inr hi
      | succ n ih =>
        rcases ih with ⟨j,a,b⟩ | a
        · exact .inl ⟨j,by omega,b⟩
        · rcases (hl _ a).2 with c | c
          · exact .inl ⟨n,by omega,c⟩
          · exact .inr c
    intro k
    rcases stay k with ⟨j,a,b⟩ | a
    · exact .inr ⟨j,a,ihp _ _ hk.1 b⟩
    · exact .inl (ihq _ _ hk.2 (hl _ a).1)
theorem choose_on {P:Nat->α->Prop} {R:α->α->Prop} {a0:α} (h0:P 0 a0) (h:∀ n a,P n a->∃ b,P (n+1) b/\R a b):∃ f:Nat->α,f 0=a0/\∀ n,P n (f n)/\R (f n) (f (n+1)):=by
 let g:(n:Nat)->{a:α // P n a}:=fun n=>Nat.rec ⟨a0,h0⟩ (fun n a=>⟨(h n a.1 a.2).choose,(h n a.1 a.2).choose_spec.1⟩) n
 exact ⟨fun n=>(g n).1,rfl,fun n=>⟨(g n).2,(h n (g n).1 (g n).2).choose_spec.2⟩⟩
theorem run_complete (hT:TabOk all kids) (hI:TInv all kids i0 ⟨ps,[]⟩) (h:S.ps σ (zcp all i0) 0):∃ π,RunP all kids ps σ π:=by
 have cov:∀ m x,askT all σ i0 ps m x->∃ p ∈ ps,m ∈ p.frm/\p.fit all kids σ x:=fun m x hm=>by
  rcases hI.cov σ m x hm with ⟨t,ht,_⟩ | h
  ·cases ht
  ·exact h
 obtain ⟨p0,a1,a2,a3⟩:=cov (-1) 0 (.inl ⟨rfl,h⟩)
 obtain ⟨π,e0,hπ⟩:=choose_on (P:=fun x p=>p ∈ ps/\zas.fit all kids σ p x) (R:=fun p q=>∃ k:Nat,ps[k]?=some p/\(k:Int) ∈ q.frm) (a0:=p0) ⟨a1,a3⟩ fun x p ⟨hp,hf⟩=>by
  obtain ⟨k,hk⟩:=cL.1 hp
  obtain ⟨q,b1,b2,b3⟩:=cov (k:Int) (x+1) (.inr ⟨k,p,rfl,hk,hf.n⟩)
  exact ⟨q,⟨b1,b3⟩,k,hk,b2⟩
 refine ⟨π,⟨-1,by rw [e0];exact a2,by decide⟩,fun i=>(hπ i).2,fun i=>⟨fun j hj q e=>?_,fun j hj q e=>?_⟩,fun k p q hk i=>?_⟩
 ·have:=(hπ i).1.2.s j hj;rw [e] at this;exact this
 ·have:=(hπ i).1.2.s j hj;rw [e] at this;exact this
 ·by_cases hi:(k:Int) ∈ (π i).seen
  ·have hs:=(hπ i).1.2.s _ hi
   have e:=at_some hk
   have hkk:=hT (k:Int)
   unfold TabK at hkk
   rw [e] at hkk
   rw [e] at hs
   obtain ⟨n,hn,_⟩:=hs
   exact ⟨i+n,by omega,fun hj=>(hπ (i+n)).1.2.u _ p q hj e (by rw [hkk.2];exact hn)⟩
  ·exact ⟨i,bG _,fun hj=>absurd hj hi⟩
theorem tab_acc (hT:TabOk all kids) (hI:TInv all kids i0 ⟨ps,[]⟩):AccG (gbT all kids ps) σ ↔ S.ps σ (zcp all i0) 0:=by
 constructor
 ·intro h
  obtain ⟨π,hr⟩:=acc_run h
  have hp0:π 0 ∈ ps:=by obtain ⟨k,hk,_⟩:=hr.2.1 0;exact bL hk
  refine run_sound hT (fun p hp=>⟨(hI.pok p hp).1,fun m hm k q e hk i hi=>?_⟩) hr _ i0 0 rfl ?_
  ·rcases (hI.pok p hp).2 m hm with ⟨e2,_⟩ | ⟨k2,q2,e2,hk2,h2⟩
   ·omega
   ·have:k2=k:=by omega
    subst this
    rw [hk] at hk2;injection hk2 with hk2;subst hk2
    exact h2 i hi
  ·obtain ⟨m,hm,hm0⟩:=hr.1
   rcases (hI.pok _ hp0).2 m hm with ⟨_,h2⟩ | ⟨k2,q2,e2,_⟩
   ·exact h2
   ·omega
 ·intro h
  obtain ⟨π,hr⟩:=run_complete hT hI h
  exact run_acc hr
end
end S
end Go.Proofs.YtjnkkdfojfjncaaGreat
