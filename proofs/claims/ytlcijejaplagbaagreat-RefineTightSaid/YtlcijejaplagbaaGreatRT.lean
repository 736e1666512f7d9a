/-
  The proof of the statement RefineTight. It holds for every input.
-/
import Derived.Test.YtlcijejaplagbaaGreatRT5
import Derived.Test.YtlcijejaplagbaaGreatRT4
import Derived.RangeFuncBound
import Derived.Shelf.Abstract
import Derived.Shelf.RegionOpen
import Derived.OwnWalkIn
import Derived.TacticsInMore
import Derived.LoopNIn
import Derived.LoopIn
import Derived.Test.YtlcijejaplagbaaGreatRows
import Derived.Test.YtlcijejaplagbaaGreatRT2
set_option maxRecDepth 100000
set_option maxHeartbeats 20000000
open Go.RowKit
open List renaming length_map->bC,mem_cons_self->bF,mem_map->bG,all_eq_true->bI,foldl_cons->bK,length_append->bL,mem_singleton->bU,mem_cons_of_mem->bV,getElem?_take->bW,mem_of_getElem?->b5,getElem?_map->b6,getElem?_eq_some_iff->b7,mem_append->b9,length_take->cC,take_of_length_le->cD,mem_of_mem_drop->cF,map_take->cH,getElem?_eq_getElem->cL,length_singleton->cM,getElem?_append_left->cN,mem_of_mem_take->cO
open Nat renaming le_refl->bE,zero_le->bJ,le_trans->cJ,le_of_ble_eq_true->cP
open Bool renaming eq_false_or_eq_true->bN,and_eq_true->bP
open Array renaming getD_eq_getD_getElem?->bS,getElem?_eq_some_iff->bX,getElem?_setIfInBounds_ne->b8,getElem?_setIfInBounds_self_of_lt->cK
open Int renaming natAbs_dvd_natAbs->cG
namespace Go.Proofs.YtlcijejaplagbaaGreat
namespace S
variable {n N b j:Nat} {P:Program} {a:Act} {w w0:World} {H0:Im} {B0:Bl} {qs lc:List (Nat × L)} {res:V} {fn:Func} {sl:List (Nat × V)} {o:Obj} {s:zaz} {ps out:List za8} {p:zds}
theorem wpIn_depth {F:Fence} {m:Nat} {c:Code} {Q:Exit->Act->World->Prop} (hd:F.depth=none) (h:c.wpIn F n P Q a w):c.wpIn F m P Q a w :=
 fun b k cs hro hb _=>h b k cs hro hb fun d h1=>by rw [hd] at h1;cases h1
def IterOk (P:Program) (gf:Nat) (xs:D) (m:Nat) (e:Nat->V × V):Prop :=
  ∀ (H1:Im) (Bs:Nat) (sv:Value) (ty:TypeId),H1 Bs=some (.cells #[sv] ty (0,0))->DR H1 xs sv ->
    ∃ ev:Nat->Value × Value,(∀ B j,j<m->VR H1 B (e j).1 (ev j).1/\VR H1 B (e j).2 (ev j).2) /\
      ∀ (l:Nat) (J:Nat->World->Prop) (W:World),(∀ j W,J j W->∀ b o,H1 b=some o->W.heap[b]?=some o) ->
        (∀ j W1,J j W1->j<m->YieldAt Fence.wide 7 P l #[(ev j).1,(ev j).2] W1 fun en W'=>en = .returned (.bool true)/\J (j+1) W') ->
        J 0 W->CallsIn Fence.wide 8 P gf #[.func (.yield l) #[] #[],.pointer (some ⟨Bs,0,none⟩)] W fun en W'=>(∃ v,en = .returned v)/\J m W'
theorem St.fix {f:F} {xs:D} (Kn:List Nat) (h:St ⟨w0,H0,B0,[],N⟩ f a w) (hl:f.l n=some (.box [.d xs])) :
  ∃ (H1:Im) (Bx:Bl) (Bs:Nat) (sv:Value) (ty:TypeId),Le H0 H1/\(∀ b,b<w0.heap.size->H1 b=H0 b)/\H1 Bs=some (.cells #[sv] ty (0,0))/\DR H1 xs sv /\
   (∀ t gf,f.s t=some (.t (.c (.fn (.func gf) [] [.ptr n 0])))->a.tmps.getD t undef = .func (.func gf) #[] #[.pointer (some ⟨Bs,0,none⟩)]) /\
   (∀ m l b c,f.l m=some l->Bx m=some (b,c)->w0.heap.size<=b)/\(∀ t v,f.s t=some v->VR H1 Bx v (a.tmps.getD t undef)) /\
   Ok ⟨w0,H1,Bx,Kn,N⟩ ⟨f.s,fun m=>if m=n then none else f.l m⟩ H1 Bx a w:=by
 obtain ⟨H,B,h⟩:=h
 obtain ⟨Bs,c,arr,ty,hB,hc,hx⟩:=h.loc n _ hl
 match arr,hx with
 | [sv],hx =>
 obtain ⟨p1,p2,p3⟩:=h.priv n _ Bs c hl hB
 have hnm:∀ b,¬ (⟨w0,H0,B0,[],N⟩:E).may b:=fun b hb=>by obtain ⟨m,hm,_⟩:=hb;cases hm
 have p4:w0.heap.size<=Bs:=p3.resolve_left (hnm _)
 have hle:Le H (fun b=>if b=Bs then some (.cells #[sv] ty (0,0)) else H b):=fun b o hb=>by
  by_cases e:b=Bs
  ·subst e;rw [p2] at hb;cases hb
  ·simp only [if_neg e];exact hb
 refine ⟨fun b=>if b=Bs then some (.cells #[sv] ty (0,0)) else H b,B,Bs,sv,ty,h.le.trans hle,fun b hb=>?_,by simp,DR.mono hle hx.1,fun t gf ht=>?_,fun m l b c hm hb=>(h.priv m l b c hm hb).2.2.resolve_left (hnm _),fun t v hv=>VR.mono hle (fun _ _=>rfl) (h.slot t v hv),?_⟩
 ·have:b≠Bs:=by omega
  simp only [if_neg this]
  exact h.low b hb
 ·obtain ⟨vs,ws,hv,h1,h2⟩:=h.slot t _ ht
  match vs,ws,h1,h2 with
  | [],[u],_,h2 =>
  obtain ⟨b', c', hb', hu⟩:=h2.1
  rw [hB] at hb';cases hb'
  rw [hv,hu]
 ·refine ⟨h.df,h.n,⟨h.ext.os,h.ext.tape,h.ext.output,h.ext.size,fun b hb _=>h.ext.block b hb (hnm _)⟩,?_,fun t v hv=>VR.mono hle (fun _ _=>rfl) (h.slot t v hv),?_,?_,?_,fun _ _=>rfl,Le.refl _,fun _ _=>rfl,(h.tab.mono h.le).mono hle⟩
  ·intro b o hb
   by_cases e:b=Bs
   ·subst e;simp only [if_true] at hb;cases hb;exact hc
   ·simp only [if_neg e] at hb;exact h.sat b o hb
  ·intro m l hm
   by_cases e:m=n
   ·simp [e] at hm
   ·simp only [if_neg e] at hm
    exact LR.mono hle rfl (fun _ _=>rfl) (fun _ _ _=>rfl) (h.loc m l hm)
  ·intro m l b c' hm hb
   by_cases e:m=n
   ·simp [e] at hm
   ·simp only [if_neg e] at hm
    obtain ⟨q1,q2,q3⟩:=h.priv m l b c' hm hb
    refine ⟨q1,?_,.inr (q3.resolve_left (hnm _))⟩
    have:b≠Bs:=fun e2=>by subst e2;exact e (h.inj m n _ _ b _ _ hm hl hb hB)
    simp only [if_neg this]
    exact q2
  ·intro m m' l l' b c1 c2 hm hm' hb hb'
   by_cases e:m=n
   ·simp [e] at hm
   by_cases e':m'=n
   ·simp [e'] at hm'
   simp only [if_neg e] at hm
   simp only [if_neg e'] at hm'
   exact h.inj m m' l l' b c1 c2 hm hm' hb hb'
theorem RetQ.low {H1:Im} {ps:List (Nat × L)} {en:Ending} (hle:Le H0 H1) (hlow:∀ b,b<w0.heap.size->H1 b=H0 b)
  (h:RetQ ⟨w0,H1,B0,ps.map (·.1),N⟩ ps res qs en w):RetQ ⟨w0,H0,B0,ps.map (·.1),N⟩ ps res qs en w:=by
 obtain ⟨v,H', B', he,hp⟩:=h
 exact ⟨v,H', B', he,Le.trans hle hp.le,fun b hb=>(hp.low b hb).trans (hlow b hb),hp.sat,hp.loc,hp.priv,hp.inj,hp.keep,hp.res,hp.ext⟩
def RetX (P:Program) (fn:Func) (e:E) (res:V) (qs:List (Nat × L)) (ex:Exit) (a:Act) (w:World):Prop :=
  (ex = .ret\/ex = .normal)/\∃ rs f xs,fn.results=⟨rs⟩/\St e f a w/\zb3 (RV P f) rs xs/\resOf xs=res/\(∀ q ∈ qs,f.l q.1=some q.2)/\(res.tags++qs.flatMap fun q=>q.2.tags).all (hasN (qs.map (·.1)))=true
theorem retX {K:List Nat} {rs:List ResultVar} (xs:List T) (h:St ⟨w0,H0,B0,K,N⟩ (F.of sl lc) a w) (n:Exit) (hn:n = .ret\/n = .normal) (hf:fn.results=⟨rs⟩) (hx:zb3 (RV P (F.of sl lc)) rs xs) (hres:resOf xs=res)
  (hq:leN (F.of sl lc) qs=qs.map fun p=>some p.2) (ht:(res.tags++qs.flatMap fun q=>q.2.tags).all (hasN (qs.map (·.1)))=true):RetX P fn ⟨w0,H0,B0,K,N⟩ res qs n a w :=
 ⟨hn,rs,F.of sl lc,xs,hf,h,hx,hres,fun q hq1=>zc8 hq q hq1,ht⟩
def markH (Dd:Nat):Im:=fun b=>if b=Dd then some (.deferred (some [])) else none
theorem leave_mark {H1:Im} {ps:List (Nat × L)} {Dd:Nat} (hle:Le H0 H1) (hlow:∀ b,b<w0.heap.size->H1 b=H0 b) (hD:w0.heap.size<=Dd) (hD1:∀ b o,H1 b=some o->b<Dd) {ex:Exit}
  (hd:a.defers=[{ target:=.collected Dd,args:=#[] }]) (h:RetX P fn ⟨w0,ze8 H1 (markH Dd),B0,ps.map (·.1),N⟩ res qs ex { a with defers:=[] } w) :
  bodyPostM Fence.wide 9 P fn (RetQ ⟨w0,H0,B0,ps.map (·.1),N⟩ ps res qs) ex a w:=by
 obtain ⟨hn,rs,f,xs,hf,hst,hx,hres,hq,ht⟩:=h
 have hH1:H1 Dd=none:=by
  cases h1:H1 Dd with
  | none=>rfl
  | some o=>have:=hD1 _ _ h1;omega
 have hJ:ze8 H1 (markH Dd) Dd=some (.deferred (some [])):=by unfold ze8 markH;rw [hH1];simp
 have hw:w.heap[Dd]?=some (.deferred (some [])):=by
  obtain ⟨H,B,hok⟩:=hst
  exact hok.sat _ _ (hok.le _ _ hJ)
 have hc:StC w0 H1 B0 (ps.map (·.1)) N f { a with defers:=[] } w:=StC.of hst (zjp _ _) fun b o hb=>by
  rcases zgg hb with h1 | ⟨_,h1⟩
  ·exact .inl h1
  ·unfold markH at h1
   split at h1
   ·cases h1;exact .inr rfl
   ·cases h1
 have hc2:=(hc.turn (w':=w.putObj Dd (.deferred none)) (r:=Dd) (z:=Dd) rfl rfl rfl (by simp) (fun b _ hb=>World.putObj_heap_other hb) hD (bE _) (fun o ho=>by rw [hw] at ho;cases ho;rfl) hD1).st
 have hb:=St.ret (P:=P) (ps:=ps) hc2 rfl hf hx hres hq ht .ret (.inl rfl)
 obtain ⟨_,v,hv,hr⟩:=hb
 have hl:LeavesInM Fence.wide 9 P fn a.tmps (RetQ ⟨w0,H0,B0,ps.map (·.1),N⟩ ps res qs) a.defers .returning w:=by
  rw [hd]
  exact ⟨by simp,.inl ⟨_,_,rfl,run_takeDeferred hw,v,hv,hr.low hle hlow⟩⟩
 rcases hn with rfl | rfl
 ·exact hl
 ·exact hl
theorem Fn.bodyR {k:FuncId} {c:Code} {args:List V} (hf:P.funcs[k]?=some fn) (hb:fn.body=some c) (N:Nat) (hN:args.length+(fn.ntmps - args.length)=N)
  (h:∀ (w:World) (H:Im) (B:Bl) (a:Act),St ⟨w,H,B,[],N⟩ (F.of (argS 0 args) []) a w->c.wp P (bodyPostM Fence.wide 9 P fn (RetQ ⟨w,H,B,[],N⟩ [] res qs)) a w):Fn P k [] args res qs:=by
 intro w H B vals pre
 refine callsIn_wide.1 (callsIn_of_wp_marks (n:=9) hf hb trivial (wpIn_wide.2 (h w H B _ ⟨H,B,rfl,?_,⟨rfl,rfl,rfl,bE _,fun _ _ _=>rfl⟩,pre.sat,?_,?_,?_,?_,fun _ _=>rfl,Le.refl _,fun _ _=>rfl,pre.tab⟩)))
 ·have:=pre.arg.length
  simp [<- hN,<- this]
 ·intro t v hv
  have h1:=(argS_get args 0 t v hv).2
  rw [Nat.sub_zero] at h1
  obtain ⟨ht,rfl⟩:=b7.1 h1
  obtain ⟨u,h2,h3⟩:=pre.arg.get t ht
  have htv:t<vals.length:=(b7.1 h2).1
  have:(((⟨vals⟩:Array Value)++Array.replicate (fn.ntmps - (⟨vals⟩:Array Value).size) undef).getD t undef)=u:=by
   rw [bS, Array.getElem?_append_left (by simpa using htv)]
   simp [h2]
  rw [this]
  exact h3
 ·intro n l hn;cases hn
 ·intro n l b c hn;cases hn
 ·intro n m l l' b c c' h1;cases h1
def ncH (W:World):Im:=fun b=>match W.heap[b]? with
  | some o=>if dat o then none else some o
  | none=>none
theorem ncH_some {W:World} (h:ncH W b=some o):W.heap[b]?=some o/\dat o=false:=by
 unfold ncH at h
 cases hb:W.heap[b]? with
 | none=>rw [hb] at h;cases h
 | some o' =>
  rw [hb] at h
  dsimp only at h
  split at h
  ·cases h
  ·rename_i hc;cases h;exact ⟨rfl,by simpa using hc⟩
theorem ncH_of {W:World} (h:W.heap[b]?=some o) (ho:dat o=false):ncH W b=some o:=by unfold ncH;rw [h];dsimp only;rw [ho];rfl
section
variable {w0:World} {H1:Im} {B0 Bx:Bl} {K Kn:List Nat} {N:Nat} {f:F} {a:Act} {w W:World}
theorem St.nc (hs:∀ b o,H1 b=some o->W.heap[b]?=some o) (h:St ⟨w0,ze8 H1 (ncH W),B0,K,N⟩ f a w) (hb:W.heap[b]?=some o) (ho:dat o=false):w.heap[b]?=some o:=by
 obtain ⟨H,B,h⟩:=h
 refine h.sat b o (h.le b o ?_)
 show ze8 H1 (ncH W) b=some o
 unfold ze8
 cases h1:H1 b with
 | none=>exact ncH_of hb ho
 | some o'=>have:=hs b o' h1;rw [hb] at this;exact this.symm
theorem St.uncut (h:St ⟨w0,ze8 H1 (ncH W),B0,K,N⟩ f a w):StC w0 H1 B0 K N f a w:=StC.of h (zjp _ _) fun b o hb=>by
 rcases zgg hb with h1 | ⟨_,h1⟩
 ·exact .inl h1
 ·exact .inr (ncH_some h1).2
theorem StC.jn (h:StC w0 H1 B0 K N f a w):St ⟨w0,ze8 H1 (ncH w),B0,K,N⟩ f a w:=St.join h.st _ fun _ _ hb=>ncH_some hb
theorem StC.sat (h:StC w0 H1 B0 K N f a w):∀ b o,H1 b=some o->w.heap[b]?=some o:=fun b o hb=>by
 obtain ⟨H,B,h,_⟩:=h
 exact h.sat b o (h.le b o hb)
theorem StC.open (hb:∀ n ∈ Kn,∀ b c,Bx n=some (b,c)->w0.heap.size<=b) (h:StC w0 H1 Bx Kn N f a w):St ⟨w0,H1,B0,[],N⟩ f a w:=by
 obtain ⟨H,B,h,_⟩:=h
 have hm:∀ b,(⟨w0,H1,Bx,Kn,N⟩:E).may b->w0.heap.size<=b:=fun b ⟨n,hn,c,h1⟩=>hb n hn b c h1
 refine ⟨H,B,h.df,h.n,⟨h.ext.os,h.ext.tape,h.ext.output,h.ext.size,fun b h1 _=>h.ext.block b h1 fun h2=>by have:=hm b h2;have h1:b<w0.heap.size:=h1;omega⟩,h.sat,h.slot,h.loc,fun n l b c hn h1=>?_,h.inj,h.low,h.le,fun n hn=>(by cases hn),h.tab⟩
 obtain ⟨p1,p2,p3⟩:=h.priv n l b c hn h1
 exact ⟨p1,p2,.inr (p3.elim (hm b) id)⟩
theorem StC.params {p1 p2:Nat} {x1 x2:V} {v1 v2:Value} (h:StC w0 H1 Bx Kn N (F.of sl lc) a w) (hp:p1≠p2) (h1:p1<N) (h2:p2<N) (hv:∀ B,VR H1 B x1 v1/\VR H1 B x2 v2) :
  StC w0 H1 Bx Kn N (F.of ((p1,x1) :: (p2,x2) :: sl) lc) { tmps:=(#[p1,p2].zip #[v1,v2]).foldl (fun t (p,v)=>t.setIfInBounds p v) a.tmps,defers:=[] } w:=by
 obtain ⟨H,B,h,hc⟩:=h
 have hn:a.tmps.size=N:=h.n
 have ht:(#[p1,p2].zip #[v1,v2]).foldl (fun t (p,v)=>t.setIfInBounds p v) a.tmps=(a.tmps.setIfInBounds p1 v1).setIfInBounds p2 v2:=by simp
 refine ⟨H,B,⟨rfl,?_,h.ext,h.sat,fun t v hv2=>?_,h.loc,h.priv,h.inj,h.low,h.le,h.keep,h.tab⟩,hc⟩
 ·show ((#[p1,p2].zip #[v1,v2]).foldl (fun t (p,v)=>t.setIfInBounds p v) a.tmps).size=N
  rw [ht];simpa using hn
 ·show VR H B v (((#[p1,p2].zip #[v1,v2]).foldl (fun t (p,v)=>t.setIfInBounds p v) a.tmps).getD t undef)
  rw [ht]
  have hv2:((p1,x1) :: (p2,x2) :: sl).lookup t=some v:=hv2
  rw [List.lookup_cons] at hv2
  by_cases e1:t=p1
  ·subst e1
   simp only [beq_self_eq_true] at hv2
   cases hv2
   have:((a.tmps.setIfInBounds t v1).setIfInBounds p2 v2).getD t undef=v1:=by
    rw [bS, b8 (by omega),cK (by omega)];rfl
   rw [this]
   exact VR.mono h.le (fun _ _=>rfl) (hv B).1
  ·rw [beq_eq_false_iff_ne.2 e1] at hv2
   dsimp only at hv2
   rw [List.lookup_cons] at hv2
   by_cases e2:t=p2
   ·subst e2
    simp only [beq_self_eq_true] at hv2
    cases hv2
    have:((a.tmps.setIfInBounds p1 v1).setIfInBounds t v2).getD t undef=v2:=by
     rw [bS, cK (by simp;omega)];rfl
    rw [this]
    exact VR.mono h.le (fun _ _=>rfl) (hv B).2
   ·rw [beq_eq_false_iff_ne.2 e2] at hv2
    dsimp only at hv2
    have:((a.tmps.setIfInBounds p1 v1).setIfInBounds p2 v2).getD t undef=a.tmps.getD t undef:=by
     rw [bS, b8 (by omega),b8 (by omega),<- bS]
    rw [this]
    exact h.slot t v hv2
theorem StC.again {a':Act} (h:StC w0 H1 Bx Kn N (F.of [] lc) a' w) (hd:a.defers=[]) (hn:a.tmps.size=N) (hs:∀ t v,(F.of sl lc).s t=some v->VR H1 Bx v (a.tmps.getD t undef)) (hK:(sl.all fun p=>p.2.tags.all (hasN Kn))=true):StC w0 H1 Bx Kn N (F.of sl lc) a w:=by
 obtain ⟨H,B,h,hc⟩:=h
 refine ⟨H,B,⟨hd,hn,h.ext,h.sat,fun t v hv=>VR.mono h.le (fun n hm=>h.keep n ?_) (hs t v hv),h.loc,h.priv,h.inj,h.low,h.le,h.keep,h.tab⟩,hc⟩
 exact zei.1 (bI.1 (bI.1 hK (t,v) (zaw hv)) n hm)
end
theorem rangeB {t p1 p2 id gf:Nat} {assign body rest:Code} {xs:D} {m:Nat} {e:Nat->V × V} {Q0:Exit->Act->World->Prop}
  (Kn:List Nat) (sl':List (Nat × V)) (lcs:Nat->List (Nat × L)) (slA:Nat->List (Nat × V)) (lcA:Nat->List (Nat × L)) (h:St ⟨w0,H0,B0,[],N⟩ (F.of sl lc) a w) (it:IterOk P gf xs m e) (hk:zbd P gf)
  (hs:(F.of sl lc).s t=some (.t (.c (.fn (.func gf) [] [.ptr n 0])))) (hl:(F.of sl lc).l n=some (.box [.d xs])) (hp:p1≠p2) (hp1:p1<N) (hp2:p2<N)
  (h1:leS (F.of sl lc) sl'=sl'.map fun p=>some p.2) (h2:leN (F.of sl lc) (lcs 0)=(lcs 0).map fun p=>some p.2) (h3:((lcs 0).all fun p=>!(p.1 == n))=true) (hK:(sl'.all fun p=>p.2.tags.all (hasN Kn))=true) (hK2:(Kn.all fun k=>((F.of sl lc).l k).isSome)=true)
  (hassign:∀ (H:Im) (B:Bl) (l j:Nat) (a:Act) (w:World),j<m->St ⟨w0,H,B,Kn,N⟩ (F.of ((p1,(e j).1) :: (p2,(e j).2) :: sl') (lcs j)) a w->wpX (some l) [] P assign (fun ex a w=>ex = .normal/\St ⟨w0,H,B,Kn,N⟩ (F.of (slA j) (lcA j)) a w) a w)
  (hbody:∀ (H:Im) (B:Bl) (l j:Nat) (a:Act) (w:World),j<m->St ⟨w0,H,B,Kn,N⟩ (F.of (slA j) (lcA j)) a w->wpX (some l) [] P body (fun ex a w=>ex = .normal/\St ⟨w0,H,B,Kn,N⟩ (F.of [] (lcs (j+1))) a w) a w)
  (hrest:∀ (H:Im) (Dd:Nat) (a:Act) (w:World),St ⟨w0,H,B0,[],N⟩ (F.of sl' (lcs m)) a w->wpX none [{ target:=.collected Dd,args:=#[] }] P rest (RetX P fn ⟨w0,H,B0,[],N⟩ res qs) a w) :
  (Code.block id (.rangeFunc (.tmp t) #[p1,p2] assign body)).wp P (Exit.then (fun a w=>rest.wp P (bodyPostM Fence.wide 9 P fn (RetQ ⟨w0,H0,B0,[],N⟩ [] res qs)) a w) Q0) a w:=by
 have hdf:a.defers=[]:=by obtain ⟨_,_,h⟩:=h;exact h.df
 obtain ⟨H1,Bx,Bs,sv,ty,hle,hlow,hBs,hxs,hfn,hbx,hslot,hok⟩:=St.fix Kn h hl
 obtain ⟨ev,hev,hit⟩:=it H1 Bs sv ty hBs hxs
 have hn0:a.tmps.size=N:=hok.n
 have hH1:∀ b o,H1 b=some o->b<w.heap.size:=fun b o hb=>(bX.1 (hok.sat b o hb)).1
 have hKb:∀ k ∈ Kn,∀ b c,Bx k=some (b,c)->w0.heap.size<=b:=fun k hk b c hb=>by
  obtain ⟨l,hl⟩:=Option.isSome_iff_exists.1 (bI.1 hK2 k hk)
  exact hbx k l b c hl hb
 have hsl:∀ t v,sl'.lookup t=some v->VR H1 Bx v (a.tmps.getD t undef):=fun t v hv=>hslot t v (zc8 h1 (t,v) (zaw hv))
 have hws:w0.heap.size<=w.heap.size:=hok.ext.size
 have hfl:(⟨(F.of sl lc).s,fun m=>if m=n then none else (F.of sl lc).l m⟩:F).le (F.of sl' (lcs 0)):=by
  refine ⟨fun t v hv=>zc8 h1 (t,v) (zaw hv),fun k l hk=>?_⟩
  have hm:=zaw hk
  have hne:k≠n:=by have:=bI.1 h3 _ hm;simpa using this
  simp only [if_neg hne]
  exact zc8 h2 (k,l) hm
 have hst0:StC w0 H1 Bx Kn N (F.of sl' (lcs 0)) a w :=
  ⟨H1,Bx,⟨hok.df,hok.n,hok.ext,hok.sat,fun t v hv=>hok.slot t v (hfl.1 t v hv),fun k l hk=>hok.loc k l (hfl.2 k l hk),fun k l b c hk=>hok.priv k l b c (hfl.2 k l hk),fun k k' l l' b c c' hk hk'=>hok.inj k k' l l' b c c' (hfl.2 k l hk) (hfl.2 k' l' hk'),hok.low,hok.le,hok.keep,hok.tab⟩,fun b o hb => .inl hb⟩
 refine (wpIn_wide (n:=9)).1 (wpIn_block (wpIn_rangeFunc fun fnid _=>?_))
 obtain ⟨rec,hrec⟩:∃ rec:LoopState->Option Code->Loop,rec=fun st pe=>{ state:=st,pending:=pe,fn:=fnid,tmps:=a.tmps,params:=#[p1,p2],assign,body,defers:=w.heap.size }:=⟨_,rfl⟩
 obtain ⟨W1,hW1⟩:∃ W1,(w.alloc (.deferred (some []))).alloc (.loop (rec .ready none))=W1:=⟨_,rfl⟩
 have hL1:W1.heap[w.heap.size+1]?=some (.loop (rec .ready none)):=by
  rw [<- hW1];have:=World.alloc_heap_new (w.alloc (.deferred (some []))) (.loop (rec .ready none));rwa [World.size_alloc] at this
 have hK1:W1.heap[w.heap.size]?=some (.deferred (some [])):=by
  rw [<- hW1];exact (Below.heap_alloc _ _ _ (by simp)).trans (World.alloc_heap_new w _)
 have hbelow:Below w.heap.size w W1:=by rw [<- hW1];exact ((Below.refl _ w).alloc (bE _) _).alloc (by simp) _
 have hst1:StC w0 H1 Bx Kn N (F.of sl' (lcs 0)) a W1 :=
  hst0.turn (r:=W1.heap.size) (z:=w.heap.size) hbelow.os hbelow.tape hbelow.output hbelow.size (fun b hb _=>hbelow.block b hb) hws hbelow.size (fun o ho=>by have:=(bX.1 ho).1;have:=hbelow.size;omega) hH1
 -- a turn of the record keeps the state
 have hturn:∀ {K':List Nat} {B':Bl} {f:F} {a':Act} {W:World} (l:Nat) (o o':Obj),w.heap.size<=l->W.heap[l]?=some o->dat o=false->StC w0 H1 B' K' N f a' W->StC w0 H1 B' K' N f a' (W.putObj l o'):=fun l o o' hl ho hc hst =>
  hst.turn (r:=l) (z:=w.heap.size) rfl rfl rfl (by simp) (fun b _ hb=>World.putObj_heap_other hb) hws hl (fun o2 ho2=>by rw [ho] at ho2;cases ho2;exact hc) hH1
 have hfn1:a.eval (.tmp t) = .func (.func gf) #[] #[.pointer (some ⟨Bs,0,none⟩)]:=hfn t gf hs
 refine ⟨w.heap.size+1,[{ target:=.collected w.heap.size,args:=#[] }],W1,{ target:=.fn (.func gf) #[.pointer (some ⟨Bs,0,none⟩)],args:=#[.func (.yield (w.heap.size+1)) #[] #[]] }, W1,gf,
  #[.func (.yield (w.heap.size+1)) #[] #[]]++#[.pointer (some ⟨Bs,0,none⟩)],W1,?_,?_,fun _ _=>trivial,?_,fun h=>(by cases h),?_⟩
 ·rw [<- hW1,hrec];exact run_enterLoop_outer _ _ _ _ _
 ·simp only [resolve,hfn1]
  simp [go_sem]
 ·simp [invoke,go_sem,zi9 hk]
 ·refine (hit (w.heap.size+1) (fun j W=>StC w0 H1 Bx Kn N (F.of sl' (lcs j)) a W/\W.heap[w.heap.size+1]?=some (.loop (rec .ready none))/\W.heap[w.heap.size]?=some (.deferred (some []))) W1 (fun j W hJ=>hJ.1.sat) ?_ ⟨hst1,hL1,hK1⟩).mono ?_
  ·rintro j W ⟨hst,hl,hd⟩ hj
   have hy:=run_yield (P:=P) (args:=#[(ev j).1,(ev j).2]) hl (by rw [hrec];rfl)
   rw [hrec] at hy
   refine ⟨fnid,_,assign,body,hy,roundIn_of_wpIn trivial ?_⟩
   have hA:=hassign _ Bx (w.heap.size+1) j _ W hj (hst.params hp hp1 hp2 (fun B=>hev B j hj)).jn
   refine wpIn_depth (n:=9) rfl (wpIn_mono hA ?_)
   rintro ex ⟨tm,dfs⟩ w1 ⟨hd1,rfl,hS⟩
   cases hd1
   have hl1:=hS.nc hst.sat hl rfl
   have hdd1:=hS.nc hst.sat hd rfl
   refine ⟨_,run_beginRound hl1 (by rw [hrec]),?_⟩
   obtain ⟨W2,hW2⟩:∃ W2,w1.putObj (w.heap.size+1) (.loop { rec .ready none with state:=.busy })=W2:=⟨_,rfl⟩
   rw [hW2]
   have hst2:=hturn (w.heap.size+1) _ (.loop { rec .ready none with state:=.busy }) (by omega) hl1 rfl hS.uncut
   rw [hW2] at hst2
   have hl2:W2.heap[w.heap.size+1]?=some (.loop { rec .ready none with state:=.busy }):=by rw [<- hW2];exact World.putObj_heap_same (bX.1 hl1).1
   have hdd2:W2.heap[w.heap.size]?=some (.deferred (some [])):=by rw [<- hW2];exact (World.putObj_heap_other (by omega)).trans hdd1
   have hB:=hbody _ Bx (w.heap.size+1) j _ W2 hj hst2.jn
   refine wpIn_depth (n:=9) rfl (wpIn_mono hB ?_)
   rintro ex ⟨tm3,dfs3⟩ w3 ⟨hd3,rfl,hS3⟩
   cases hd3
   have hl3:=hS3.nc hst2.sat hl2 rfl
   have hdd3:=hS3.nc hst2.sat hdd2 rfl
   have hend:=run_endRound (P:=P) none hl3
   refine ⟨_,_,hend,rfl,?_,?_,?_⟩
   ·exact hturn (w.heap.size+1) _ _ (by omega) hl3 rfl (hS3.uncut.again hdf hn0 hsl hK)
   ·rw [World.putObj_heap_same (bX.1 hl3).1,hrec];rfl
   ·exact (World.putObj_heap_other (by omega)).trans hdd3
  ·rintro en W2 ⟨⟨v,rfl⟩,hst,hl,hd⟩
   have hend:=run_endLoop (P:=P) hl (by rw [hrec];simp)
   refine ⟨_,_,hend,?_⟩
   rw [hrec]
   have hstE:=hturn (w.heap.size+1) _ (.loop { rec .ready none with state:=.exhausted }) (by omega) hl rfl hst
   have hdE:(W2.putObj (w.heap.size+1) (.loop { rec .ready none with state:=.exhausted })).heap[w.heap.size]?=some (.deferred (some [])):=(World.putObj_heap_other (by omega)).trans hd
   rw [hrec] at hstE hdE
   have hR:=hrest (ze8 H1 (markH w.heap.size)) w.heap.size a _ (St.join (hstE.open hKb) _ fun b o hb=>by
    unfold markH at hb
    split at hb
    ·rename_i e;subst e;cases hb;exact ⟨hdE,rfl⟩
    ·cases hb)
   refine (wpIn_wide (n:=9)).1 (wpIn_mono (show rest.wpIn Fence.wide 9 P _ { a with defers:=[{ target:=.collected w.heap.size,args:=#[] }]++a.defers } _ from by rw [hdf];exact hR) ?_)
   rintro ex a' w' ⟨hd', hr⟩
   exact leave_mark (ps:=[]) hle hlow hws hH1 hd' hr
theorem dfS {e:E} {f:F} (h:St e f a w):a.defers=[]:=let ⟨_,_,h⟩:=h;h.df
attribute [local go_sem] Oper.semAt_some
def zbs (zs:List za0) (j:Nat):za0:=(zs[zs.length - 1 - j]?).getD ⟨0,⟨⟨[],⟨false,[]⟩⟩,false⟩,[]⟩
theorem backF_at {zs:List za0} (hj:j<zs.length):zs[zs.length - 1 - j]?=some (zbs zs j):=by unfold zbs;rw [cL (by omega)];rfl
theorem backF_mem {zs:List za0} (hj:j<zs.length):zbs zs j ∈ zs:=b5 (backF_at hj)
theorem back_forms (zs:List za0) (hz:zs.length<=1000000):IterOk Tryz.prog 79 (.sl 6 (zs.map za0.d)) zs.length (fun j=>(vi .i64 ((zs.length - 1 - j:Nat):Int),.t (.agg [.d (.raw (.int .i64 (zbs zs j).kind)),.d (.sl 3 ((zbs zs j).r.t.parts.map za3.d)),.d (.raw (.bool (zbs zs j).r.t.k.neg)),.d (nsl (zbs zs j).r.t.k.abs),.d (.raw (.bool (zbs zs j).r.eq)),.d (.sl 6 ((zbs zs j).kids.map za0.d))]))):=by
 intro H1 Bs sv ty hBs hxs
 obtain ⟨ao,c,wv,rfl,hel,hdr⟩:∃ ao c,∃ wv:Nat->Nat->Value,sv = .slice ao zs.length c/\(∀ k,k<zs.length->∃ b o,ao=some ⟨b,o,none⟩/\∀ i,i<6->∀ W:World,(∀ b' o', H1 b'=some o'->W.heap[b']?=some o')->W.cell? ⟨b,o+k*6+i,none⟩=some (wv k i))/\∀ k,k<zs.length->∀ i,i<6->∀ d,((zs[k]?).getD ⟨0,⟨⟨[],⟨false,[]⟩⟩,false⟩,[]⟩).d[i]?=some d->DR H1 d (wv k i):=by
  cases hz0:zs with
  | nil =>
   rw [hz0] at hxs
   generalize hxd:D.sl 6 (([]:List za0).map za0.d)=xd at hxs
   cases hxs with
   | raw=>cases hxd
   | nil es ao c h hc=>exact ⟨ao,c,fun _ _=>undef,rfl,fun k hk=>absurd hk (Nat.not_lt_zero k),fun k hk=>absurd hk (Nat.not_lt_zero k)⟩
   | sl es rows b o c arr ty fz vs hp=>injection hxd with _ h2;subst h2;simp at hp
  | cons z zs' =>
   rw [<- hz0]
   generalize hxd:D.sl 6 (zs.map za0.d)=xd at hxs
   cases hxs with
   | raw=>cases hxd
   | nil es ao c h hc=>injection hxd with _ h2;rw [hz0] at h2;cases h2
   | sl es rows b o c arr ty fz vs hp hb hl hc hes hv hr =>
    injection hxd with h1 h2
    subst h1 h2
    refine ⟨some ⟨b,o,none⟩,c,vs,by simp,fun k hk=>⟨b,o,rfl,fun i hi W hW=>?_⟩,fun k hk i hi d hd=>?_⟩
    ·have hkl:k<(zs.map za0.d).length:=by simpa using hk
     have h3:=hv k hkl i hi
     exact zdh (hW _ _ hb) (by simpa using h3)
    ·have hkl:k<(zs.map za0.d).length:=by simpa using hk
     have e:(zs.map za0.d)[k]'hkl=((zs[k]?).getD ⟨0,⟨⟨[],⟨false,[]⟩⟩,false⟩,[]⟩).d:=by simp [hk]
     have hd2:((zs.map za0.d)[k]'hkl)[i]?=some d:=by rw [e];exact hd
     obtain ⟨hi2,rfl⟩:=b7.1 hd2
     exact hr k hkl i hi2
 refine ⟨fun j=>(.int .i64 ((zs.length:Int) - 1 - j),.agg #[wv (zs.length - 1 - j) 0,wv (zs.length - 1 - j) 1,wv (zs.length - 1 - j) 2,wv (zs.length - 1 - j) 3,wv (zs.length - 1 - j) 4,wv (zs.length - 1 - j) 5]),fun B j hj=>⟨?_,?_⟩,fun l J W hJs hY h0=>?_⟩
 ·show VR H1 B (vi .i64 ((zs.length - 1 - j:Nat):Int)) _
  rw [show ((zs.length - 1 - j:Nat):Int)=(zs.length:Int) - 1 - j by omega];exact .raw _ rfl
 ·have hk:zs.length - 1 - j<zs.length:=by omega
  have q:=fun i hi d=>hdr _ hk i hi d
  rw [za0.d_eq] at q
  exact ⟨[_,_,_,_,_,_],rfl,q 0 (by decide) _ rfl,q 1 (by decide) _ rfl,q 2 (by decide) _ rfl,q 3 (by decide) _ rfl,q 4 (by decide) _ rfl,q 5 (by decide) _ rfl,trivial⟩
 have hcB:∀ j W,J j W->W.cell? ⟨Bs,0,none⟩=some (.slice ao zs.length c):=fun j W hJ=>zdh (hJs j W hJ _ _ hBs) rfl
 have hc0:=hcB 0 W h0
 refine callsIn_of_wp Tryz.func79 rfl trivial ?_ rfl
 simp only [Tryz.ntmps79,List.size_toArray,List.length_cons,List.length_nil,Nat.reduceAdd,Nat.reduceSub,Array.replicate_succ,Array.replicate_zero,List.push_toArray,List.append_toArray,List.nil_append,List.cons_append]
 gi_wp2
 gi_loopw [3] (fun i wr=>∃ k:Nat,k<=zs.length/\i = .int .i64 ((zs.length:Int) - 1 - k)/\J k wr) (fun i _=>(intOf i+1).toNat)
 case atStart=>exact ⟨0,bJ _,by simp,h0⟩
 case round =>
  obtain ⟨k,hk,rfl,hJk⟩:=hrel
  have hcw:=hcB k wr hJk
  by_cases hlt:k<zs.length
  ·obtain ⟨fn,tmps,assign,body,hy,hR⟩:=hY k wr hJk hlt
   obtain ⟨b,o,rfl,hcell⟩:=hel (zs.length - 1 - k) (by omega)
   have hcx0:wr.cell? ⟨b,o+(zs.length - 1 - k)*6,none⟩=some (wv (zs.length - 1 - k) 0):=hcell 0 (by decide) wr (hJs k wr hJk)
   have hcx1:=hcell 1 (by decide) wr (hJs k wr hJk)
   have hcx2:=hcell 2 (by decide) wr (hJs k wr hJk)
   have hcx3:=hcell 3 (by decide) wr (hJs k wr hJk)
   have hcx4:=hcell 4 (by decide) wr (hJs k wr hJk)
   have hcx5:=hcell 5 (by decide) wr (hJs k wr hJk)
   have e1:((zs.length:Int) - 1 - k).toNat=zs.length - 1 - k:=by omega
   have hge:decide ((zs.length:Int) - 1 - k>=0)=true:=decide_eq_true (by omega)
   try dsimp only at hy
   gi_wp2
   refine hR.mono ?_
   rintro e W3 ⟨rfl,hJ3⟩
   gi_wp2
   go_roundw
   case rel=>exact ⟨k+1,by omega,by first | rfl | (simp;omega),hJ3⟩
   case measure=>simp [intOf];omega
  ·obtain rfl:k=zs.length:=by omega
   gi_wp2
   go_end0
   exact ⟨⟨_,rfl⟩,hJk⟩
theorem nc2_6:zbd Tryz.prog 79:=zbd.mk' (by kernel_rfl)
theorem gath_allG {P:za8->Prop} {L:Nat} (hP:∀ r,TOk n L r.t->P (cpR r)) (f:za0):f.okA n L->∀ ps,(∀ r ∈ ps,P r)->∀ r ∈ f.gath ps,P r :=
 za0.ind (P:=fun f=>f.okA n L->∀ ps,(∀ r ∈ ps,P r)->∀ r ∈ f.gath ps,P r) (fun k r ks ih hf ps hps=>by
  obtain ⟨h1,h2⟩:=(za0.okA_eq _ _ _).1 hf
  rw [za0.gath_eq]
  split
  ·rename_i e
   intro q hq
   rcases b9.1 hq with hq | hq
   ·exact hps q hq
   ·rw [bU.1 hq];exact hP r (h1 e.1)
  ·have:∀ (xs:List za0),(∀ g ∈ xs,g ∈ ks)->∀ qs:List za8,(∀ r ∈ qs,P r)->∀ r ∈ xs.foldl (fun a g=>g.gath a) qs,P r:=fun xs=>by
    induction xs with
    | nil=>intro _ qs h;exact h
    | cons x xs ihx =>
     intro hx qs h
     rw [bK]
     exact ihx (fun g hg=>hx g (bV _ hg)) _ (ih x (hx x (bF ..)) (h2 x (hx x (bF ..))) qs h)
   exact this ks (fun g hg=>hg) ps hps) f
def zbh (ps:List za8) (cs:List za0):Nat->List za8
  | 0=>ps
  | j+1=>gathT (zbh ps cs j) ((zbs cs j).flat false)
theorem newA_ge (ps:List za8) (cs:List za0) (j:Nat):ps.length<=(zbh ps cs j).length:=by
 induction j with
 | zero=>exact bE _
 | succ j ih =>
  obtain ⟨l,e⟩:=gath_pre ((zbs cs j).flat false) ((zbh ps cs j).map cpR)
  show _<=(((zbs cs j).flat false).gath ((zbh ps cs j).map cpR)).length
  rw [e,bL,bC];omega
theorem newA_ok (hs:zcc 3 s) (hw:SysW s) (hps:zhz ps) {xs:List zdk} (cs:List Int) (hl:xs.length<=5) (hj:j<=(zag s ps xs cs).length):(∀ r ∈ zbh ps (zag s ps xs cs) j,TOk 40000000 (600+j) r.t)/\(zbh ps (zag s ps xs cs) j).length<=1000+j*5000000:=by
 have hn:=zet s ps xs cs
 induction j with
 | zero=>exact ⟨fun r hr=>(hps.2 r hr).mono (by decide) (by decide),by have:=hps.1;show ps.length<=_;omega⟩
 | succ j ih =>
  obtain ⟨h1,h2⟩:=ih (by omega)
  obtain ⟨c1,c2⟩:=zir hs hw hps cs hl (backF_mem hj)
  have c3:=ze3 (zbs (zag s ps xs cs) j)
  have c4:=ze0 (zbs (zag s ps xs cs) j) false
  refine ⟨?_,?_⟩
  ·refine gath_allG (P:=fun r=>TOk 40000000 (600+(j+1)) r.t) (n:=32400000) (L:=502) (fun r hr=>(hr.plain (by decide)).mono (by decide) (by omega)) _ (zhq (by decide) (by decide) _ c1 false) _ fun r hr=>?_
   obtain ⟨q,hq,rfl⟩:=bG.1 hr
   exact (h1 q hq).plain (by decide)
  ·have:=gath_len ((zbs (zag s ps xs cs) j).flat false) ((zbh ps (zag s ps xs cs) j).map cpR)
   rw [bC] at this
   show (((zbs (zag s ps xs cs) j).flat false).gath ((zbh ps (zag s ps xs cs) j).map cpR)).length<=_
   omega
def nwS (out:List za8) (r:za8):List za8:=if tgtB r=true then (if out.length<24 then out++[cpR r] else out) else out
theorem nwS_f {r:za8} (h:tgtB r=false):nwS out r=out:=by unfold nwS;rw [if_neg (by rw [h];exact Bool.noConfusion)]
theorem nwS_t {r:za8} (h:tgtB r=true) (k:out.length<24):nwS out r=out++[cpR r]:=by unfold nwS;rw [if_pos h,if_pos k]
theorem nwS_x {r:za8} (h:tgtB r=true) (k:¬ out.length<24):nwS out r=out:=by unfold nwS;rw [if_pos h,if_neg k]
def nwO (ps xs:List za8) (j:Nat):List za8:=(xs.take j).foldl nwS (ps.map cpR)
theorem nwO_at {xs:List za8} {r:za8} (h:xs[j]?=some r):nwO ps xs (j+1)=nwS (nwO ps xs j) r:=by
 unfold nwO;rw [List.take_add_one,h,List.foldl_append];rfl
theorem nwO_len (ps xs:List za8) (j:Nat):(nwO ps xs j).length<=ps.length+24:=by
 unfold nwO
 have:∀ (l:List za8) (a:List za8),a.length<=ps.length+24->(l.foldl nwS a).length<=ps.length+24:=fun l=>by
  induction l with
  | nil=>intro a h;exact h
  | cons x l ih =>
   intro a h
   rw [bK]
   refine ih _ ?_
   unfold nwS
   split
   ·split
    ·rw [bL,cM];omega
    ·exact h
   ·exact h
 exact this _ _ (by rw [bC];omega)
def zda (s:zaz) (ps:List za8) (p:zds):List za8:=nwO ps ((zbh ps (zag s ps p.states p.acts) (zag s ps p.states p.acts).length).drop ps.length) ((zbh ps (zag s ps p.states p.acts) (zag s ps p.states p.acts).length).drop ps.length).length
theorem LBackF (xs:List za0) :Fn Tryz.prog 47 [] [(vFs xs)] (.t (.c (.fn (.func 79) [] [.ptr 0 0]))) [(0,.box [cFs xs])]:=by
 refine fB Tryz.func47 rfl 4 fun w H B a h=>Jq 0 [] [(1,vp 0 0),(2,vW .nilFunc)] [(0,.box [cFs xs])] h fun a w h=>Jp 1 [(0,.g (Op.makeFs (d:=3) (fn:=.func 79) [(1,0,0)]))] [(2,.t (.c (.fn (.func 79) [] [.ptr 0 0])))] h fun a w h=>qV (rT (.c (.fn (.func 79) [] [.ptr 0 0])) h rfl ?_)
 rfl
theorem LcopiedO (ps:List za8) {L:Nat} (hps:∀ r ∈ ps,TOk n L r.t) (hn:n<=1000000000) (hL:L<=10000) (hl:ps.length<=1000000):Fn Tryz.prog 50 [] [(vRs ps)] (vO 0 (ps.map cpR).length) [(0,.row 32 4 ((ps.map cpR).map za8.d))]:=by
 refine fB Tryz.func50 rfl 23 fun w H B a h=>Jq 5 [] [(0,(vRs ps)),(2,vW zaj)] [] h fun a w h=>Jg 5 [] [] [(3,vW zaj)] [] [] h fun a w h=>qW (Jg 5 [(1,.len (za4 4 za8.d ps))] [0] [(6,(vRs ps)),(7,vN ps.length),(8,vI 0)] [] [] h fun a w h=>qZ ?_)
 replace h:=zeg 3 0 5 4 32 (vW zaj) h
 refine zc7 (ι:=(Nat)) (fun j=>j<=ps.length)
   [] (fun j=>[(3,vO 5 ((ps.take j).map cpR).length),(8,vN j)])
   [] (fun j=>[(5,.row 32 4 (((ps.take j).map cpR).map za8.d))])
   (fun j=>ps.length - j) 0 ?_ h ?_
 ·exact bJ _
 clear h;rintro j a w hI h;have lmj:((ps.take j).map cpR).length<=j:=by rw [bC,cC];omega
 refine Je 6 [] [] [(9,vb (decide ((j:Int)<(ps.length:Int))))] h fun a w h=>qW (zae ((j:Int)<(ps.length:Int)) h (fun hc1 hc1'=>?_) (fun hc2 hc2'=>?_))
 ·refine qU (za2 (qW (qZ ?_)));obtain ⟨x1,hx1⟩:=gl ps j;refine Jg 6 [(0,.g (xD 10 6 kc_3 (za7 hx1 (f:=za8.d)) (OV.tmp 8 _)))] [9] [(5,vp 6 0)] [] [(6,.box [cPs x1.t.parts,cB x1.t.k.neg,.d (nsl x1.t.k.abs),cB x1.eq])] h fun a w h=>Jh 7 [(3,.call (zdb x1.t (hps x1 (lM hx1)) hn (by omega))),(7,.g (bD 19 ([(za8.mk (za1 x1.t) x1.eq)].map za8.d) [(18,vG [cPs (za1 x1.t).parts,cB (za1 x1.t).k.neg,.d (nsl (za1 x1.t).k.abs),cB x1.eq])] kc_5 (.cons (i:=0) (OV.tmp 18 _) (.nil)) (by kernel_rfl) (by simp [za8.d]))),(8,.g (Op.appOD (d:=20) (t:=12) (u:=19) (n:=5) (n':=7) (len:=((ps.take j).map cpR).length) (len':=(((ps.take j).map cpR)++[(za8.mk (za1 x1.t) x1.eq)]).length) (rows:=((ps.take j).map cpR).map za8.d) (rows2:=[(za8.mk (za1 x1.t) x1.eq)].map za8.d) (rows':=(((ps.take j).map cpR)++[(za8.mk (za1 x1.t) x1.eq)]).map za8.d) lh8_3 (by first | exact (bC _).symm | simp) (by first | (rw [bL,bC];done) | (simp;done) | (simp;omega)) (by simp) (by simp [za8.d]) (by first | omega | (simp at *;done) | (simp at *;omega))))] [5] [(3,vO 7 (((ps.take j).map cpR)++[(za8.mk (za1 x1.t) x1.eq)]).length)] [5,6] [(7,.row 32 4 ((((ps.take j).map cpR)++[(za8.mk (za1 x1.t) x1.eq)]).map za8.d))] h fun a w h=>za6 (za2 (Jf 8 [(0,.j1 j)] [] [(8,vI ((j:Int)+1))] h fun a w h=>za2 ?_));rw [show ((((ps.take j).map cpR)++[(za8.mk (za1 x1.t) x1.eq)]):List za8)=((ps.take (j+1)).map cpR) from (zfh hx1)] at h;replace h:=zcz 7 5 h;refine zab (x:=j) (y:=j+1) h ?_ ?_
  ·have:=zac hx1;show j+1<=ps.length;omega
  show ps.length - (j+1)<ps.length - j;have:=zac hx1;omega
 refine exA (Jp 8 [] [(2,vO 5 ((ps.take j).map cpR).length)] h fun a w h=>qV ?_);rw [show (((ps.take j).map cpR):List za8)=(ps.map cpR) from (by rw [cD (by omega)])] at h;replace h:=zcz 5 0 h;refine rT (.c (.own 0 (ps.map cpR).length)) h rfl ?_;rfl
abbrev q1 (ps:List za8) (s:zaz) (p:zds):V:=vI (((zbh ps (zag s ps p.states p.acts) (zag s ps p.states p.acts).length).drop ps.length).length:Int)
theorem LNew (s:zaz) (ps:List za8) (p:zds) (hs:zcc 3 s) (hw:SysW s) (hps:zhz ps) (hpl:p.states.length<=5) (hpa:p.acts.length<=6) (hpx:∀ x ∈ p.states,x.locs.length<=8/\x.bits.length<=30):Fn Tryz.prog 21 [] [vG [.d (.sl 1 (s.vars.map zen)),.d (.sl 5 (s.bounds.map zan.d)),cI s.init.kind,cPs s.init.r.t.parts,cB s.init.r.t.k.neg,.d (nsl s.init.r.t.k.abs),cB s.init.r.eq,cFs s.init.kids,.d (.sl 3 (s.procs.map zbp.d)),.d (.sl 10 (s.acts.map zb9.d))],(vRs ps),vG [.d (.sl 2 (p.states.map zdk.d)),cIs p.acts]] (.tup [.c (cRs (zda s ps p)),.c (cB (decide (((zda s ps p).length:Int)>(ps.length:Int))))]) []:=by
 have lps:=hps.1;have lcn:(zag s ps p.states p.acts).length<=5:=by rw [zet];omega
 refine Fn.bodyR Tryz.func21 rfl 60 rfl fun w H B a h=>Jq 5 [] [(1,(vRs ps)),(3,vp 5 0),(5,vp 6 0),(6,vW zaj),(7,vb false)] [(5,.box [.d (.sl 1 (s.vars.map zen)),.d (.sl 5 (s.bounds.map zan.d)),cI s.init.kind,cPs s.init.r.t.parts,cB s.init.r.t.k.neg,.d (nsl s.init.r.t.k.abs),cB s.init.r.eq,cFs s.init.kids,.d (.sl 3 (s.procs.map zbp.d)),.d (.sl 10 (s.acts.map zb9.d))]),(6,.box [.d (.sl 2 (p.states.map zdk.d)),cIs p.acts])] h fun a w h=>Jg 7 [] [] [(8,vp 7 0)] [] [(7,.box [cRs ps])] h fun a w h=>qW (Jg 8 [(3,.call (LConditions s ps p hs hw hps hpl hpa hpx)),(4,.call (LBackF (zag s ps p.states p.acts)))] [3,5] [(19,.t (.c (.fn (.func 79) [] [.ptr 0 0])))] [5,6] [(0,.box [cFs (zag s ps p.states p.acts)])] h fun a w h=>?_)
 replace h:=cvM [] [] [] [(7,.box [cRs (zbh ps (zag s ps p.states p.acts) 0)])] (by kernel_rfl) h;refine rangeB (m:=(zag s ps p.states p.acts).length) (e:=fun j=>(vI (((zag s ps p.states p.acts).length - 1 - j:Nat):Int),vG [cI (zbs (zag s ps p.states p.acts) j).kind,cPs (zbs (zag s ps p.states p.acts) j).r.t.parts,cB (zbs (zag s ps p.states p.acts) j).r.t.k.neg,.d (nsl (zbs (zag s ps p.states p.acts) j).r.t.k.abs),cB (zbs (zag s ps p.states p.acts) j).r.eq,cFs (zbs (zag s ps p.states p.acts) j).kids])) [7] [(1,(vRs ps)),(6,vW zaj),(7,vb false),(8,vp 7 0)] (fun j=>[(7,.box [cRs (zbh ps (zag s ps p.states p.acts) j)])]) (fun j=>[(6,vW zaj),(7,vb false),(8,vp 7 0),(10,vp 8 0)]) (fun j=>[(7,.box [cRs (zbh ps (zag s ps p.states p.acts) j)]),(8,.box [cI (zbs (zag s ps p.states p.acts) j).kind,cPs (zbs (zag s ps p.states p.acts) j).r.t.parts,cB (zbs (zag s ps p.states p.acts) j).r.t.k.neg,.d (nsl (zbs (zag s ps p.states p.acts) j).r.t.k.abs),cB (zbs (zag s ps p.states p.acts) j).r.eq,cFs (zbs (zag s ps p.states p.acts) j).kids])]) h (back_forms (zag s ps p.states p.acts) (by omega)) nc2_6 rfl rfl (by decide) (by decide) (by decide) (by kernel_rfl) (by kernel_rfl) (by kernel_rfl) (by kernel_rfl) (by kernel_rfl) ?_ ?_ ?_
 ·clear h;intro H B l j a w hj h;refine rSX zci 8 [] [(6,vW zaj),(7,vb false),(8,vp 7 0),(10,vp 8 0)] [(7,.box [cRs (zbh ps (zag s ps p.states p.acts) j)]),(8,.box [cI (zbs (zag s ps p.states p.acts) j).kind,cPs (zbs (zag s ps p.states p.acts) j).r.t.parts,cB (zbs (zag s ps p.states p.acts) j).r.t.k.neg,.d (nsl (zbs (zag s ps p.states p.acts) j).r.t.k.abs),cB (zbs (zag s ps p.states p.acts) j).r.eq,cFs (zbs (zag s ps p.states p.acts) j).kids])] (by kernel_rfl) (by kernel_rfl) h fun a w h=>?_;exact ⟨rfl,atS h (by kernel_rfl) (by kernel_rfl)⟩
 ·clear h;intro H B l j a w hj h;have hcj:=zir hs hw hps p.acts hpl (backF_mem hj);have haj:=newA_ok hs hw hps p.acts hpl (Nat.le_of_lt hj);refine wpX_block (rSX zci 9 [(2,.call (LFlat (zbs (zag s ps p.states p.acts) j) (za0.okB_mono (by decide) (by decide) _ hcj.1) (by have:=ze3 (zbs (zag s ps p.states p.acts) j);have:=hcj.2;omega))),(3,.call (LGather (zbh ps (zag s ps p.states p.acts) j) (za0.flat (zbs (zag s ps p.states p.acts) j) false) (fun r hr=>(haj.1 r hr).mono (by decide) (by omega)) (za0.okA_mono (by decide) (by decide) _ (zhq (by decide) (by decide) _ hcj.1 false)) (by have:=ze0 (zbs (zag s ps p.states p.acts) j) false;have:=ze3 (zbs (zag s ps p.states p.acts) j);have:=hcj.2;have:=haj.2;omega)))] [(6,vW zaj),(7,vb false)] [(7,.box [cRs (gathT (zbh ps (zag s ps p.states p.acts) j) (za0.flat (zbs (zag s ps p.states p.acts) j) false))])] (by kernel_rfl) (by kernel_rfl) h fun a w h=>za6 ?_);replace h:=cvM [1,8,19] [] [0] [(7,.box [cRs (zbh ps (zag s ps p.states p.acts) (j+1))])] (by kernel_rfl) h;exact ⟨rfl,atS h (by kernel_rfl) (by kernel_rfl)⟩
 clear h;intro H Dd a w h;have hal9:=newA_ok hs hw hps p.acts hpl (bE _);have lal9:=newA_ge ps (zag s ps p.states p.acts) (zag s ps p.states p.acts).length;have ldr9:((zbh ps (zag s ps p.states p.acts) (zag s ps p.states p.acts).length).drop ps.length).length<=100000000:=by rw [List.length_drop];have:=hal9.2;omega
 refine rSeqX zci 9 [(1,.call (LcopiedO ps (fun r hr=>hps.2 r hr) (by decide) (by decide) (by omega)))] [(1,(vRs ps)),(6,vW zaj),(7,vb false),(8,vp 7 0),(11,vO 0 (ps.map cpR).length)] [(7,.box [cRs (zbh ps (zag s ps p.states p.acts) (zag s ps p.states p.acts).length)]),(0,.row 32 4 ((ps.map cpR).map za8.d))] (by kernel_rfl) (by kernel_rfl) h fun a w h=>wpX_seq (rSeqX zci 9 [(2,.len (za4 4 za8.d ps)),(3,.g (Op.sliceD (d:=31) (t:=28) (l:=ps.length) (h:=(zbh ps (zag s ps p.states p.acts) (zag s ps p.states p.acts).length).length) (rows:=(zbh ps (zag s ps p.states p.acts) (zag s ps p.states p.acts).length).map za8.d) (rows':=((zbh ps (zag s ps p.states p.acts) (zag s ps p.states p.acts).length).drop ps.length).map za8.d) kc_3 (BO.yes (k:=.i64) (i:=ps.length) _ (OV.tmp 30 _)) (by rw [bC];exact BO.no _) (by first | omega | (simp at *;omega)) (by first | omega | (simp only [bC];omega) | (simp at *;omega)) (by first | (simp [List.map_drop];done) | (rw [cD (by simp <;> omega)];simp [List.map_drop])))),(4,.len (za4 4 za8.d ((zbh ps (zag s ps p.states p.acts) (zag s ps p.states p.acts).length).drop ps.length)))] [(1,(vRs ps)),(6,vW zaj),(7,vb false),(11,vO 0 (ps.map cpR).length),(31,(vRs ((zbh ps (zag s ps p.states p.acts) (zag s ps p.states p.acts).length).drop ps.length))),(32,q1 ps s p),(33,vI 0)] [(0,.row 32 4 ((ps.map cpR).map za8.d))] (by kernel_rfl) (by kernel_rfl) h fun a w h=>wpX_block ?_);replace h:=cv (fun z_:List za8=>F.of [(1,(vRs ps)),(6,vW zaj),(7,vb false),(11,vO 0 z_.length),(31,(vRs ((zbh ps (zag s ps p.states p.acts) (zag s ps p.states p.acts).length).drop ps.length))),(32,q1 ps s p),(33,vI 0)] [(0,.row 32 4 (z_.map za8.d))]) (show ((ps.map cpR):List za8)=(nwO ps ((zbh ps (zag s ps p.states p.acts) (zag s ps p.states p.acts).length).drop ps.length) 0) from rfl) (h.conv (by kernel_rfl))
 refine loopX (ι:=(Nat)) (fun j=>j<=((zbh ps (zag s ps p.states p.acts) (zag s ps p.states p.acts).length).drop ps.length).length)
   (fun j=>[(1,(vRs ps)),(6,vW zaj),(7,vb false),(11,vO 0 (nwO ps ((zbh ps (zag s ps p.states p.acts) (zag s ps p.states p.acts).length).drop ps.length) j).length),(31,(vRs ((zbh ps (zag s ps p.states p.acts) (zag s ps p.states p.acts).length).drop ps.length))),(32,q1 ps s p),(33,vN j)])
   (fun j=>[(0,.row 32 4 ((nwO ps ((zbh ps (zag s ps p.states p.acts) (zag s ps p.states p.acts).length).drop ps.length) j).map za8.d))])
   (fun j=>((zbh ps (zag s ps p.states p.acts) (zag s ps p.states p.acts).length).drop ps.length).length - j) 0 ?_ h (by kernel_rfl) (by kernel_rfl) ?_
 ·exact bJ _
 clear h;rintro j a w hI h;have lnj:=nwO_len ps ((zbh ps (zag s ps p.states p.acts) (zag s ps p.states p.acts).length).drop ps.length) j;refine rSeqX zci 9 [] [(1,(vRs ps)),(6,vW zaj),(7,vb false),(11,vO 0 (nwO ps ((zbh ps (zag s ps p.states p.acts) (zag s ps p.states p.acts).length).drop ps.length) j).length),(31,(vRs ((zbh ps (zag s ps p.states p.acts) (zag s ps p.states p.acts).length).drop ps.length))),(32,q1 ps s p),(33,vN j),(34,vb (decide ((j:Int)<(((zbh ps (zag s ps p.states p.acts) (zag s ps p.states p.acts).length).drop ps.length).length:Int))))] [(0,.row 32 4 ((nwO ps ((zbh ps (zag s ps p.states p.acts) (zag s ps p.states p.acts).length).drop ps.length) j).map za8.d))] (by kernel_rfl) (by kernel_rfl) h fun a w h=>wpX_seq (condX (decide ((j:Int)<(((zbh ps (zag s ps p.states p.acts) (zag s ps p.states p.acts).length).drop ps.length).length:Int))) h rfl (fun hc1=>?_) (fun hc6=>?_))
 ·have hc1':=dT hc1;refine wpX_skip (dfS h) (za2 (wpX_seq (wpX_block ?_)));obtain ⟨x6,hx6⟩:=gl ((zbh ps (zag s ps p.states p.acts) (zag s ps p.states p.acts).length).drop ps.length) j;refine rSeqX zci 9 [(0,.g (xD 35 31 kc_3 (za7 hx6 (f:=za8.d)) (OV.tmp 33 _)))] [(1,(vRs ps)),(6,vW zaj),(7,vb false),(11,vO 0 (nwO ps ((zbh ps (zag s ps p.states p.acts) (zag s ps p.states p.acts).length).drop ps.length) j).length),(13,vp 9 0),(31,(vRs ((zbh ps (zag s ps p.states p.acts) (zag s ps p.states p.acts).length).drop ps.length))),(32,q1 ps s p),(33,vN j)] [(0,.row 32 4 ((nwO ps ((zbh ps (zag s ps p.states p.acts) (zag s ps p.states p.acts).length).drop ps.length) j).map za8.d)),(9,.box [cPs x6.t.parts,cB x6.t.k.neg,.d (nsl x6.t.k.abs),cB x6.eq])] (by kernel_rfl) (by kernel_rfl) h fun a w h=>?_
  rcases bN (tgtB x6) with hc2 | hc5
  ·refine rSeqX zci 10 [(1,.call (Fn.cast (LtightB x6 ((hal9.1 x6 (cF (lM hx6))).mono (by decide) (by omega))) (congrArg vb hc2)))] [(1,(vRs ps)),(6,vW zaj),(7,vb false),(11,vO 0 (nwO ps ((zbh ps (zag s ps p.states p.acts) (zag s ps p.states p.acts).length).drop ps.length) j).length),(13,vp 9 0),(31,(vRs ((zbh ps (zag s ps p.states p.acts) (zag s ps p.states p.acts).length).drop ps.length))),(32,q1 ps s p),(33,vN j),(43,vb (decide (((nwO ps ((zbh ps (zag s ps p.states p.acts) (zag s ps p.states p.acts).length).drop ps.length) j).length:Int)<24)))] [(0,.row 32 4 ((nwO ps ((zbh ps (zag s ps p.states p.acts) (zag s ps p.states p.acts).length).drop ps.length) j).map za8.d)),(9,.box [cPs x6.t.parts,cB x6.t.k.neg,.d (nsl x6.t.k.abs),cB x6.eq])] (by kernel_rfl) (by kernel_rfl) h fun a w h=>condX (decide (((nwO ps ((zbh ps (zag s ps p.states p.acts) (zag s ps p.states p.acts).length).drop ps.length) j).length:Int)<24)) h rfl (fun hc3=>?_) (fun hc4=>?_)
   ·have hc3':=dT hc3;refine rSX zci 10 [(3,.call (zdb x6.t (hal9.1 x6 (cF (lM hx6))) (by decide) (by omega))),(7,.g (bD 51 ([(za8.mk (za1 x6.t) x6.eq)].map za8.d) [(50,vG [cPs (za1 x6.t).parts,cB (za1 x6.t).k.neg,.d (nsl (za1 x6.t).k.abs),cB x6.eq])] kc_5 (.cons (i:=0) (OV.tmp 50 _) (.nil)) (by kernel_rfl) (by simp [za8.d]))),(8,.g (Op.appOD (d:=52) (t:=44) (u:=51) (n:=0) (n':=10) (len:=(nwO ps ((zbh ps (zag s ps p.states p.acts) (zag s ps p.states p.acts).length).drop ps.length) j).length) (len':=((nwO ps ((zbh ps (zag s ps p.states p.acts) (zag s ps p.states p.acts).length).drop ps.length) j)++[(za8.mk (za1 x6.t) x6.eq)]).length) (rows:=(nwO ps ((zbh ps (zag s ps p.states p.acts) (zag s ps p.states p.acts).length).drop ps.length) j).map za8.d) (rows2:=[(za8.mk (za1 x6.t) x6.eq)].map za8.d) (rows':=((nwO ps ((zbh ps (zag s ps p.states p.acts) (zag s ps p.states p.acts).length).drop ps.length) j)++[(za8.mk (za1 x6.t) x6.eq)]).map za8.d) lh8_3 (by first | exact (bC _).symm | simp) (by first | (rw [bL,bC];done) | (simp;done) | (simp;omega)) (by simp) (by simp [za8.d]) (by first | omega | (simp at *;done) | (simp at *;omega))))] [(1,(vRs ps)),(6,vW zaj),(7,vb false),(11,vO 10 ((nwO ps ((zbh ps (zag s ps p.states p.acts) (zag s ps p.states p.acts).length).drop ps.length) j)++[(za8.mk (za1 x6.t) x6.eq)]).length),(31,(vRs ((zbh ps (zag s ps p.states p.acts) (zag s ps p.states p.acts).length).drop ps.length))),(32,q1 ps s p),(33,vN j)] [(10,.row 32 4 (((nwO ps ((zbh ps (zag s ps p.states p.acts) (zag s ps p.states p.acts).length).drop ps.length) j)++[(za8.mk (za1 x6.t) x6.eq)]).map za8.d))] (by kernel_rfl) (by kernel_rfl) h fun a w h=>za6 (za2 (rSX zci 11 [(0,.j1 j)] [(1,(vRs ps)),(6,vW zaj),(7,vb false),(11,vO 10 ((nwO ps ((zbh ps (zag s ps p.states p.acts) (zag s ps p.states p.acts).length).drop ps.length) j)++[(za8.mk (za1 x6.t) x6.eq)]).length),(31,(vRs ((zbh ps (zag s ps p.states p.acts) (zag s ps p.states p.acts).length).drop ps.length))),(32,q1 ps s p),(33,vI ((j:Int)+1))] [(10,.row 32 4 (((nwO ps ((zbh ps (zag s ps p.states p.acts) (zag s ps p.states p.acts).length).drop ps.length) j)++[(za8.mk (za1 x6.t) x6.eq)]).map za8.d))] (by kernel_rfl) (by kernel_rfl) h fun a w h=>za2 ?_));rw [show (((nwO ps ((zbh ps (zag s ps p.states p.acts) (zag s ps p.states p.acts).length).drop ps.length) j)++[(za8.mk (za1 x6.t) x6.eq)]):List za8)=(nwO ps ((zbh ps (zag s ps p.states p.acts) (zag s ps p.states p.acts).length).drop ps.length) (j+1)) from ((nwO_at hx6).trans (nwS_t hc2 (by have:=dT hc3;omega))).symm] at h;replace h:=zcz 10 0 h;refine zab (x:=j) (y:=j+1) h ?_ ?_
    ·have:=zac hx6;show j+1<=((zbh ps (zag s ps p.states p.acts) (zag s ps p.states p.acts).length).drop ps.length).length;omega
    show ((zbh ps (zag s ps p.states p.acts) (zag s ps p.states p.acts).length).drop ps.length).length - (j+1)<((zbh ps (zag s ps p.states p.acts) (zag s ps p.states p.acts).length).drop ps.length).length - j;have:=zac hx6;omega
   have hc4':=dF hc4;refine wpX_skip (dfS h) (za6 (za2 (rSX zci 11 [(0,.j1 j)] [(1,(vRs ps)),(6,vW zaj),(7,vb false),(11,vO 0 (nwO ps ((zbh ps (zag s ps p.states p.acts) (zag s ps p.states p.acts).length).drop ps.length) j).length),(31,(vRs ((zbh ps (zag s ps p.states p.acts) (zag s ps p.states p.acts).length).drop ps.length))),(32,q1 ps s p),(33,vI ((j:Int)+1))] [(0,.row 32 4 ((nwO ps ((zbh ps (zag s ps p.states p.acts) (zag s ps p.states p.acts).length).drop ps.length) j).map za8.d))] (by kernel_rfl) (by kernel_rfl) h fun a w h=>za2 ?_)));replace h:=cv (fun z_:List za8=>F.of [(1,(vRs ps)),(6,vW zaj),(7,vb false),(11,vO 0 z_.length),(31,(vRs ((zbh ps (zag s ps p.states p.acts) (zag s ps p.states p.acts).length).drop ps.length))),(32,q1 ps s p),(33,vI ((j:Int)+1))] [(0,.row 32 4 (z_.map za8.d))]) (show ((nwO ps ((zbh ps (zag s ps p.states p.acts) (zag s ps p.states p.acts).length).drop ps.length) j):List za8)=(nwO ps ((zbh ps (zag s ps p.states p.acts) (zag s ps p.states p.acts).length).drop ps.length) (j+1)) from ((nwO_at hx6).trans (nwS_x hc2 (by have:=dF hc4;omega))).symm) (h.conv (by kernel_rfl));refine zab (x:=j) (y:=j+1) h ?_ ?_
   ·have:=zac hx6;show j+1<=((zbh ps (zag s ps p.states p.acts) (zag s ps p.states p.acts).length).drop ps.length).length;omega
   show ((zbh ps (zag s ps p.states p.acts) (zag s ps p.states p.acts).length).drop ps.length).length - (j+1)<((zbh ps (zag s ps p.states p.acts) (zag s ps p.states p.acts).length).drop ps.length).length - j;have:=zac hx6;omega
  refine rSeqX zci 11 [(1,.call (Fn.cast (LtightB x6 ((hal9.1 x6 (cF (lM hx6))).mono (by decide) (by omega))) (congrArg vb hc5)))] [(1,(vRs ps)),(6,vW zaj),(7,vb false),(11,vO 0 (nwO ps ((zbh ps (zag s ps p.states p.acts) (zag s ps p.states p.acts).length).drop ps.length) j).length),(13,vp 9 0),(31,(vRs ((zbh ps (zag s ps p.states p.acts) (zag s ps p.states p.acts).length).drop ps.length))),(32,q1 ps s p),(33,vN j),(43,vb false)] [(0,.row 32 4 ((nwO ps ((zbh ps (zag s ps p.states p.acts) (zag s ps p.states p.acts).length).drop ps.length) j).map za8.d)),(9,.box [cPs x6.t.parts,cB x6.t.k.neg,.d (nsl x6.t.k.abs),cB x6.eq])] (by kernel_rfl) (by kernel_rfl) h fun a w h=>condX false h rfl nofun (fun _=>wpX_skip (dfS h) (za6 (za2 (rSX zci 11 [(0,.j1 j)] [(1,(vRs ps)),(6,vW zaj),(7,vb false),(11,vO 0 (nwO ps ((zbh ps (zag s ps p.states p.acts) (zag s ps p.states p.acts).length).drop ps.length) j).length),(31,(vRs ((zbh ps (zag s ps p.states p.acts) (zag s ps p.states p.acts).length).drop ps.length))),(32,q1 ps s p),(33,vI ((j:Int)+1))] [(0,.row 32 4 ((nwO ps ((zbh ps (zag s ps p.states p.acts) (zag s ps p.states p.acts).length).drop ps.length) j).map za8.d))] (by kernel_rfl) (by kernel_rfl) h fun a w h=>za2 ?_))))
  replace h:=cv (fun z_:List za8=>F.of [(1,(vRs ps)),(6,vW zaj),(7,vb false),(11,vO 0 z_.length),(31,(vRs ((zbh ps (zag s ps p.states p.acts) (zag s ps p.states p.acts).length).drop ps.length))),(32,q1 ps s p),(33,vI ((j:Int)+1))] [(0,.row 32 4 (z_.map za8.d))]) (show ((nwO ps ((zbh ps (zag s ps p.states p.acts) (zag s ps p.states p.acts).length).drop ps.length) j):List za8)=(nwO ps ((zbh ps (zag s ps p.states p.acts) (zag s ps p.states p.acts).length).drop ps.length) (j+1)) from ((nwO_at hx6).trans (nwS_f hc5)).symm) (h.conv (by kernel_rfl));refine zab (x:=j) (y:=j+1) h ?_ ?_
  ·have:=zac hx6;show j+1<=((zbh ps (zag s ps p.states p.acts) (zag s ps p.states p.acts).length).drop ps.length).length;omega
  show ((zbh ps (zag s ps p.states p.acts) (zag s ps p.states p.acts).length).drop ps.length).length - (j+1)<((zbh ps (zag s ps p.states p.acts) (zag s ps p.states p.acts).length).drop ps.length).length - j;have:=zac hx6;omega
 have hc6':=dF hc6;refine wpX_exit (dfS h) (zc0 (zc0 (zat (za2 ?_))));replace h:=cv (fun z_:List za8=>F.of [(1,(vRs ps)),(6,vW zaj),(7,vb false),(11,vO 0 z_.length),(31,(vRs ((zbh ps (zag s ps p.states p.acts) (zag s ps p.states p.acts).length).drop ps.length))),(32,q1 ps s p),(33,vN j),(34,vb (decide ((j:Int)<(((zbh ps (zag s ps p.states p.acts) (zag s ps p.states p.acts).length).drop ps.length).length:Int))))] [(0,.row 32 4 (z_.map za8.d))]) (show ((nwO ps ((zbh ps (zag s ps p.states p.acts) (zag s ps p.states p.acts).length).drop ps.length) j):List za8)=(zda s ps p) from (by rw [show j=((zbh ps (zag s ps p.states p.acts) (zag s ps p.states p.acts).length).drop ps.length).length by have:=dF hc6;omega];rfl)) (h.conv (by kernel_rfl));refine rSeqX zci 11 [(4,.len (za4 4 za8.d ps))] [(6,vO 0 (zda s ps p).length),(7,vb (decide (((zda s ps p).length:Int)>(ps.length:Int))))] [(0,.row 32 4 ((zda s ps p).map za8.d))] (by kernel_rfl) (by kernel_rfl) h fun a w h=>wpX_ret (dfS h) ?_;replace h:=zia 0 4 32 ((zda s ps p).map za8.d) h [(zda s ps p).length] ⟨by first | exact (bC _).symm | (simp;done) | (simp;omega),trivial⟩;refine retX [.c (cRs (zda s ps p)),.c (cB (decide (((zda s ps p).length:Int)>(ps.length:Int))))] h Exit.ret (.inl rfl)  rfl ⟨RV.tmp _ _ rfl,RV.tmp _ _ rfl,trivial⟩ ?_ (by kernel_rfl) (by kernel_rfl);rfl
def fam1tb:Tb:=[(24,⟨1,false,[],[.d (.sl 3 (([]:List za3).map za3.d))],1⟩),(4,⟨1,false,[],[.d (.raw (.bool false))],3⟩),(26,⟨1,false,[],[.d (nsl [])],1⟩),(28,⟨2,true,[(0,1,false),(1,1,false)],[.d (.raw (.bool false)),.d (nsl [])],0⟩),(30,⟨3,true,[(0,1,false),(1,2,true)],[.d (.sl 3 (([]:List za3).map za3.d)),.d (.raw (.bool false)),.d (nsl [])],0⟩),(32,⟨4,true,[(0,3,true),(3,1,false)],[.d (.sl 3 (([]:List za3).map za3.d)),.d (.raw (.bool false)),.d (nsl []),.d (.raw (.bool false))],0⟩),(3,⟨1,false,[],[.d (.raw (.int .i64 0))],13⟩),(124,⟨3,true,[(0,1,false),(1,2,true)],[.d (.raw (.int .i64 0)),.d (.raw (.bool false)),.d (nsl [])],0⟩),(22,⟨1,false,[],[.d (.sl 1 (([]:List ByteArray).map zen))],1⟩),(23,⟨1,false,[],[.d (.sl 5 (([]:List zan).map zan.d))],1⟩),(33,⟨1,false,[],[.d (.sl 6 (([]:List za0).map za0.d))],1⟩),(35,⟨6,true,[(0,1,false),(1,4,true),(5,1,false)],[.d (.raw (.int .i64 0)),.d (.sl 3 (([]:List za3).map za3.d)),.d (.raw (.bool false)),.d (nsl []),.d (.raw (.bool false)),.d (.sl 6 (([]:List za0).map za0.d))],0⟩),(36,⟨1,false,[],[.d (.sl 3 (([]:List zbp).map zbp.d))],1⟩),(37,⟨1,false,[],[.d (.sl 10 (([]:List zb9).map zb9.d))],1⟩),(39,⟨10,true,[(0,1,false),(1,1,false),(2,6,true),(8,1,false),(9,1,false)],[.d (.sl 1 (([]:List ByteArray).map zen)),.d (.sl 5 (([]:List zan).map zan.d)),.d (.raw (.int .i64 0)),.d (.sl 3 (([]:List za3).map za3.d)),.d (.raw (.bool false)),.d (nsl []),.d (.raw (.bool false)),.d (.sl 6 (([]:List za0).map za0.d)),.d (.sl 3 (([]:List zbp).map zbp.d)),.d (.sl 10 (([]:List zb9).map zb9.d))],0⟩),(41,⟨1,false,[],[.d (.sl 2 (([]:List zdk).map zdk.d))],1⟩),(42,⟨1,false,[],[.d (.sl 1 (([]:List Int).map zb0))],1⟩),(44,⟨2,true,[(0,1,false),(1,1,false)],[.d (.sl 2 (([]:List zdk).map zdk.d)),.d (.sl 1 (([]:List Int).map zb0))],0⟩),(67,⟨1,false,[],[.d (.sl 1 (([]:List Bool).map zdr))],1⟩),(69,⟨2,true,[(0,1,false),(1,1,false)],[.d (.sl 1 (([]:List Int).map zb0)),.d (.sl 1 (([]:List Bool).map zdr))],0⟩),(40,⟨1,false,[],[.d (.sl 4 (([]:List za8).map za8.d))],1⟩),(71,⟨1,false,[],[.d (.sl 5 (([]:List zao).map zao.d))],1⟩),(73,⟨10,true,[(0,1,false),(1,1,false),(2,1,false),(3,6,true),(9,1,false)],[.d (.raw (.int .i64 0)),.d (.raw (.int .i64 0)),.d (.raw (.int .i64 0)),.d (.raw (.int .i64 0)),.d (.sl 3 (([]:List za3).map za3.d)),.d (.raw (.bool false)),.d (nsl []),.d (.raw (.bool false)),.d (.sl 6 (([]:List za0).map za0.d)),.d (.sl 5 (([]:List zao).map zao.d))],0⟩),(75,⟨5,true,[(0,1,false),(1,1,false),(2,3,true)],[.d (.raw (.int .i64 0)),.d (.raw (.bool false)),.d (.sl 3 (([]:List za3).map za3.d)),.d (.raw (.bool false)),.d (nsl [])],0⟩),(59,⟨1,false,[],[.d (.raw zaj)],1⟩),(61,⟨2,true,[(0,1,false),(1,1,false)],[.d (.raw zaj),.d (.raw zaj)],0⟩),(98,⟨2,true,[(0,1,false),(1,1,false)],[.d (.raw zaj),.d (.raw zaj)],0⟩),(45,⟨1,false,[],[.d (.raw zaj)],1⟩),(47,⟨3,true,[(0,1,false),(1,1,false),(2,1,false)],[.d (.raw zaj),.d (.raw zaj),.d (.raw zaj)],0⟩),(9,⟨1,false,[],[.d (.raw (.string ByteArray.empty))],2⟩),(100,⟨1,false,[],[.d (.sl 10 [])],1⟩),(102,⟨3,true,[(0,1,false),(1,1,false),(2,1,false)],[.d (.raw (.string ByteArray.empty)),.d (.sl 1 (([]:List ByteArray).map zen)),.d (.sl 10 [])],0⟩)]
theorem zba:zjc Tryz.prog fam1tb:=tbB_spec (by kernel_rfl)
def sm24 (s:zaz) (ps:List za8) (p:zds):Bool:=(zbo 1 s && (decide (s.acts.length<=6) && (zfz ps 30 1 && (decide (p.states.length<=5) && (decide (p.acts.length<=6) && p.states.all (fun x:zdk=>decide (x.locs.length<=8) && decide (x.bits.length<=30)))))))
theorem zgl (n:Int) (hn:-1000<=n/\n<=1000):Fn Tryz.prog 28 [] [vI n] (vG [cPs (zal n).t.parts,cB (zal n).t.k.neg,.d (nsl (zal n).t.k.abs),cB (zal n).eq]) []:=by
 refine fB Tryz.func28 rfl 11 fun w H B a h=>Jq (htb:=zba) 0 [] [(0,vI n),(2,vp 0 0)] [(0,.box [cPs ([]:List za3),cB false,.d (nsl []),cB false])] h fun a w h=>Jd (htb:=zba) 1 [(0,.call (SROf 1 ⟨by omega,by omega⟩)),(2,.g (bD 5 ([(za3.mk 0 (ZI.of 1))].map za3.d) [(4,vG [cI 0,cB (ZI.of 1).neg,.d (nsl (ZI.of 1).abs)])] tb_9 (.cons (i:=0) (OV.tmp 4 _) (.nil)) (by kernel_rfl) (by simp [za3.d]))),(4,.sub .i64 (m:=0) (n:=n) i6),(5,.call (SROf (0 - n) ⟨by omega,by omega⟩))] [0] [] [(0,.box [cPs [(za3.mk 0 (ZI.of 1))],cB (ZI.of (0 - n)).neg,.d (nsl (ZI.of (0 - n)).abs),cB false])] h fun a w h=>qV (rA 0 [cPs [(za3.mk 0 (ZI.of 1))],cB (ZI.of (0 - n)).neg,.d (nsl (ZI.of (0 - n)).abs),cB false] h zj5 rfl ?_)
 rfl
theorem Lsmall24 (s:zaz) (ps:List za8) (p:zds) (hr:SysRd s) (hpl:ps.length<=9223372036854775807) (hsl:p.states.length<=9223372036854775807) (hal:p.acts.length<=9223372036854775807) (hxl:∀ x ∈ p.states,x.locs.length<=9223372036854775807/\x.bits.length<=9223372036854775807):Fn Tryz.prog 8 [] [vG [.d (.sl 1 (s.vars.map zen)),.d (.sl 5 (s.bounds.map zan.d)),cI s.init.kind,cPs s.init.r.t.parts,cB s.init.r.t.k.neg,.d (nsl s.init.r.t.k.abs),cB s.init.r.eq,cFs s.init.kids,.d (.sl 3 (s.procs.map zbp.d)),.d (.sl 10 (s.acts.map zb9.d))],(vRs ps),vG [.d (.sl 2 (p.states.map zdk.d)),cIs p.acts]] (vb (sm24 s ps p)) []:=by
 have lac9:=hr.len;refine fB Tryz.func8 rfl 53 fun w H B a h=>Jq (htb:=zba) 0 [] [(1,(vRs ps)),(3,vp 0 0),(5,vp 1 0),(6,vb false)] [(0,.box [.d (.sl 1 (s.vars.map zen)),.d (.sl 5 (s.bounds.map zan.d)),cI s.init.kind,cPs s.init.r.t.parts,cB s.init.r.t.k.neg,.d (nsl s.init.r.t.k.abs),cB s.init.r.eq,cFs s.init.kids,.d (.sl 3 (s.procs.map zbp.d)),.d (.sl 10 (s.acts.map zb9.d))]),(1,.box [.d (.sl 2 (p.states.map zdk.d)),cIs p.acts])] h fun a w h=>qW ?_
 rcases bN (zbo 1 s) with hc1 | hc16
 ·rcases bN (decide ((s.acts.length:Int)>6)) with hc2 | hc3
  ·have hc2':=dT hc2;refine Jg (htb:=zba) 2 [(1,.call (Fn.cast (SFewSys s 1 hr) (congrArg vb hc1))),(6,.len (za4 10 zb9.d s.acts)),(7,.cmp (op:=.gtr) (m:=(s.acts.length:Int)) (n:=6) (b:=true) .i64 hc2)] [1,3] [(34,vb true)] [0] [] h fun a w h=>cS true h (fun _=>?_) nofun
   refine Je (htb:=zba) 2 [] [34] [] h fun a w h=>qV (za5 (rT (.c (cB false)) h rfl ?_));have hz:sm24 s ps p=(false):=by unfold sm24;rw [hc1,decide_eq_false (p:=s.acts.length<=6) (by have:=dT hc2;omega)];simp
   rw [hz];try rfl
  have hc3':=dF hc3
  rcases bN (zfz ps 30 1) with hc4 | hc15
  ·rcases bN (decide ((p.states.length:Int)>5)) with hc5 | hc6
   ·have hc5':=dT hc5;refine Jg (htb:=zba) 2 [(1,.call (Fn.cast (SFewSys s 1 hr) (congrArg vb hc1))),(6,.len (za4 10 zb9.d s.acts)),(7,.cmp (op:=.gtr) (m:=(s.acts.length:Int)) (n:=6) (b:=false) .i64 hc3),(11,.call (Fn.cast (LFewRs ps 30 1 hpl) (congrArg vb hc4))),(17,.len (za4 2 zdk.d p.states)),(18,.cmp (op:=.gtr) (m:=(p.states.length:Int)) (n:=5) (b:=true) .i64 hc5)] [1,3] [(34,vb true)] [0] [] h fun a w h=>cS true h (fun _=>?_) nofun
    refine Je (htb:=zba) 2 [] [34] [] h fun a w h=>qV (za5 (rT (.c (cB false)) h rfl ?_));have hz:sm24 s ps p=(false):=by unfold sm24;rw [hc1,decide_eq_true (p:=s.acts.length<=6) (by have:=dF hc3;omega),hc4,decide_eq_false (p:=p.states.length<=5) (by have:=dT hc5;omega)];simp
    rw [hz];try rfl
   have hc6':=dF hc6;refine Jg (htb:=zba) 2 [(1,.call (Fn.cast (SFewSys s 1 hr) (congrArg vb hc1))),(6,.len (za4 10 zb9.d s.acts)),(7,.cmp (op:=.gtr) (m:=(s.acts.length:Int)) (n:=6) (b:=false) .i64 hc3),(11,.call (Fn.cast (LFewRs ps 30 1 hpl) (congrArg vb hc4))),(17,.len (za4 2 zdk.d p.states)),(18,.cmp (op:=.gtr) (m:=(p.states.length:Int)) (n:=5) (b:=false) .i64 hc6),(23,.len (za4 1 zb0 p.acts))] [1,3] [(34,vb (decide ((p.acts.length:Int)>6)))] [0] [] h fun a w h=>zae ((p.acts.length:Int)>6) h (fun hc7 hc7'=>?_) (fun hc8 hc8'=>?_)
   ·refine Je (htb:=zba) 2 [] [34] [] h fun a w h=>qV (za5 (rT (.c (cB false)) h rfl ?_));have hz:sm24 s ps p=(false):=by unfold sm24;rw [hc1,decide_eq_true (p:=s.acts.length<=6) (by have:=dF hc3;omega),hc4,decide_eq_true (p:=p.states.length<=5) (by have:=dF hc6;omega),decide_eq_false (p:=p.acts.length<=6) (by have:=dT hc7;omega)];simp
    rw [hz];try rfl
   refine qU (za2 (qW (Jd (htb:=zba) 2 [(2,.len (za4 2 zdk.d p.states))] [5,34] [(36,vS 2 (p.states.map zdk.d)),(37,vN p.states.length),(38,vI 0)] [] h fun a w h=>qZ ?_)))
   refine zc7 (ι:=(Nat)) (fun j=>j<=p.states.length/\(p.states.take j).all (fun x:zdk=>decide (x.locs.length<=8) && decide (x.bits.length<=30))=true)
     [6] (fun j=>[(38,vN j)])
     [] (fun j=>[])
     (fun j=>p.states.length - j) 0 ?_ h ?_
   ·exact ⟨bJ _,rfl⟩
   clear h;rintro j a w hI h;obtain ⟨hI1,hI2⟩:=hI;refine Jg (htb:=zba) 2 [] [] [(39,vb (decide ((j:Int)<(p.states.length:Int))))] [] [] h fun a w h=>qW (zae ((j:Int)<(p.states.length:Int)) h (fun hc9 hc9'=>?_) (fun hc14 hc14'=>?_))
   ·refine qU (za2 (qW (qZ ?_)));obtain ⟨x12,hx12⟩:=gl p.states j;obtain ⟨lx1,lx2⟩:=hxl x12 (lM hx12);refine Jg (htb:=zba) 2 [(0,.g (xD 40 36 ln14_4 (za7 hx12 (f:=zdk.d)) (OV.tmp 38 _)))] [39] [(8,vp 2 0)] [] [(2,.box [cIs x12.locs,.d (.sl 1 (x12.bits.map zdr))])] h fun a w h=>?_
    rcases bN (decide ((x12.locs.length:Int)>8)) with hc10 | hc11
    ·have hc10':=dT hc10;refine Jg (htb:=zba) 3 [(2,.len (za4 1 zb0 x12.locs)),(3,.cmp (op:=.gtr) (m:=(x12.locs.length:Int)) (n:=8) (b:=true) .i64 hc10)] [8] [(51,vb true)] [2] [] h fun a w h=>cS true h (fun _=>?_) nofun
     refine Jg (htb:=zba) 3 [] [51] [(6,vb false)] [] [] h fun a w h=>qV (za9 (za5 (za5 (za9 (za5 (rT (.c (cB false)) h rfl ?_))))));have hz:sm24 s ps p=(false):=by unfold sm24;rw [hc1,decide_eq_true (p:=s.acts.length<=6) (by have:=dF hc3;omega),hc4,decide_eq_true (p:=p.states.length<=5) (by have:=dF hc6;omega),decide_eq_true (p:=p.acts.length<=6) (by have:=dF hc8;omega)];rw [zc4 (q:=(fun x:zdk=>decide (x.locs.length<=8) && decide (x.bits.length<=30))) hx12 (by rw [decide_eq_false (by have:=dT hc10;omega)];rfl)];rfl
     rw [hz];try rfl
    have hc11':=dF hc11;refine Jg (htb:=zba) 3 [(2,.len (za4 1 zb0 x12.locs)),(3,.cmp (op:=.gtr) (m:=(x12.locs.length:Int)) (n:=8) (b:=false) .i64 hc11),(7,.len (za4 1 zdr x12.bits))] [8] [(51,vb (decide ((x12.bits.length:Int)>30)))] [2] [] h fun a w h=>zae ((x12.bits.length:Int)>30) h (fun hc12 hc12'=>?_) (fun hc13 hc13'=>?_)
    ·refine Jg (htb:=zba) 3 [] [51] [(6,vb false)] [] [] h fun a w h=>qV (za9 (za5 (za5 (za9 (za5 (rT (.c (cB false)) h rfl ?_))))));have hz:sm24 s ps p=(false):=by unfold sm24;rw [hc1,decide_eq_true (p:=s.acts.length<=6) (by have:=dF hc3;omega),hc4,decide_eq_true (p:=p.states.length<=5) (by have:=dF hc6;omega),decide_eq_true (p:=p.acts.length<=6) (by have:=dF hc8;omega)];rw [zc4 (q:=(fun x:zdk=>decide (x.locs.length<=8) && decide (x.bits.length<=30))) hx12 (by rw [decide_eq_false (p:=x12.bits.length<=30) (by have:=dT hc12;omega),Bool.and_false])];rfl
     rw [hz];try rfl
    refine qU (za6 (za2 (Jh (htb:=zba) 3 [(0,.j1 j)] [51] [(38,vI ((j:Int)+1))] [] [] h fun a w h=>za2 (zab (x:=j) (y:=j+1) h ?_ ?_))))
    ·exact ⟨by have:=zac hx12;omega,zdy hx12 hI2 (by rw [decide_eq_true (by have:=dF hc11;omega),decide_eq_true (by have:=dF hc13;omega)];rfl)⟩
    show p.states.length - (j+1)<p.states.length - j;have:=zac hx12;omega
   refine exA (Jq (htb:=zba) 3 [] [(6,vb true)] [] h fun a w h=>qV (rT (.c (cB true)) h rfl ?_));have hz:sm24 s ps p=(true):=by unfold sm24;rw [hc1,decide_eq_true (p:=s.acts.length<=6) (by have:=dF hc3;omega),hc4,decide_eq_true (p:=p.states.length<=5) (by have:=dF hc6;omega),decide_eq_true (p:=p.acts.length<=6) (by have:=dF hc8;omega)];rw [zdt (q:=(fun x:zdk=>decide (x.locs.length<=8) && decide (x.bits.length<=30))) (dF hc14) hI2];rfl
   rw [hz];try rfl
  refine Jg (htb:=zba) 3 [(1,.call (Fn.cast (SFewSys s 1 hr) (congrArg vb hc1))),(6,.len (za4 10 zb9.d s.acts)),(7,.cmp (op:=.gtr) (m:=(s.acts.length:Int)) (n:=6) (b:=false) .i64 hc3),(11,.call (Fn.cast (LFewRs ps 30 1 hpl) (congrArg vb hc15)))] [1,3] [(34,vb true)] [0] [] h fun a w h=>cS true h (fun _=>?_) nofun
  refine Je (htb:=zba) 3 [] [34] [] h fun a w h=>qV (za5 (rT (.c (cB false)) h rfl ?_));have hz:sm24 s ps p=(false):=by unfold sm24;rw [hc1,decide_eq_true (p:=s.acts.length<=6) (by have:=dF hc3;omega),hc15];simp
  rw [hz];try rfl
 refine Jg (htb:=zba) 3 [(1,.call (Fn.cast (SFewSys s 1 hr) (congrArg vb hc16)))] [1,3] [(34,vb true)] [0] [] h fun a w h=>cS true h (fun _=>?_) nofun
 refine Je (htb:=zba) 3 [] [34] [] h fun a w h=>qV (za5 (rT (.c (cB false)) h rfl ?_));have hz:sm24 s ps p=(false):=by unfold sm24;rw [hc16];simp
 rw [hz];try rfl
theorem gcd_dvd {d a b:Int} (h1:d∣a) (h2:d∣b):d∣((Nat.gcd a.natAbs b.natAbs:Nat):Int) :=
 cG.1 (by rw [Int.natAbs_natCast];exact Nat.dvd_gcd (cG.2 h1) (cG.2 h2))
theorem con_great {d:Int} {ps:List za3} (h:∀ p ∈ ps,d∣p.c.val):d∣zbg ps:=by
 have key:∀ (ps:List za3) (g:Int),d∣g->(∀ p ∈ ps,d∣p.c.val)->d∣ps.foldl (fun g p=>(Nat.gcd g.natAbs p.c.val.natAbs:Int)) g:=by
  intro ps
  induction ps with
  | nil=>intro g hg _;exact hg
  | cons p ps ih =>
   intro g hg hp
   rw [bK]
   exact ih _ (gcd_dvd hg (hp p (bF ..))) fun q hq=>hp q (bV _ hq)
 exact key ps 0 (Int.dvd_zero d) h
theorem con_ge (ps:List za3):0<=zbg ps:=by
 have key:∀ (ps:List za3) (g:Int),0<=g->0<=ps.foldl (fun g p=>(Nat.gcd g.natAbs p.c.val.natAbs:Int)) g:=by
  intro ps
  induction ps with
  | nil=>intro g hg;exact hg
  | cons p ps ih=>intro g _;rw [bK];exact ih _ (Int.natCast_nonneg _)
 exact key ps 0 (Int.le_refl 0)
theorem con_one {ps:List za3} (h:zbg ps∣1):zbg ps=1:=by
 obtain ⟨c,hc⟩:=h
 have h0:=con_ge ps
 have h1:(zbg ps).natAbs*c.natAbs=1:=by rw [<- Int.natAbs_mul,<- hc];rfl
 have h2:=Nat.eq_one_of_mul_eq_one_right h1
 omega
def Tgt (r:za8):Prop:=r.t.parts.length≠0/\za1 r.t=r.t/\zbg r.t.parts=1/\(r.eq=true->zhs r.t=false)
theorem shr_tgt {t:zaf} (h:(za1 t).parts.length≠0):(zbt t).parts.length≠0/\za1 (zbt t)=zbt t/\zbg (zbt t).parts=1:=by
 have hg:=con_pos (t:=t) (by omega)
 have e:(zbt t).parts=(za1 t).parts.map (zgh (zbg (za1 t).parts)):=by unfold zbt;rw [if_neg (by omega)]
 refine ⟨by rw [e,bC];exact h,shr_plain t,con_one ?_⟩
 have h1:zbg (zbt t).parts*zbg (za1 t).parts∣zbg (za1 t).parts:=by
  refine con_great fun p hp=>?_
  obtain ⟨c,hc⟩:=zio _ p hp
  have h2:zbg (zbt t).parts∣(zgh (zbg (za1 t).parts) p).c.val:=zio _ _ (by rw [e];exact bG.2 ⟨p,hp,rfl⟩)
  have h3:(zgh (zbg (za1 t).parts) p).c.val=c:=by
   show (ZI.of (p.c.val.fdiv _)).val=c
   rw [ZI.val_of,hc,Int.mul_fdiv_cancel_left _ (by omega)]
  rw [h3] at h2
  obtain ⟨d,hd⟩:=h2
  exact ⟨d,by rw [hc,hd];ac_rfl⟩
 obtain ⟨c,hc⟩:=h1
 refine ⟨c,?_⟩
 have h4:zbg (za1 t).parts*1=zbg (za1 t).parts*(zbg (zbt t).parts*c):=by rw [Int.mul_one];rw (occs:=.pos [1]) [hc];ac_rfl
 exact Int.eq_of_mul_eq_mul_left (by omega) h4
theorem neg_parts {u:zaf} (h:za1 u=u):(neg1 u).parts=u.parts.map fun p=>za3.mk p.v (ZI.of (p.c.val*-1)):=by
 have hu:=zb8 u
 rw [h] at hu
 have e:neg1 u=⟨u.parts.map fun p=>za3.mk p.v (ZI.of (p.c.val*-1)),ZI.of (u.k.val*-1)⟩:=by
  unfold neg1 zb4
  refine plainT_eq ?_ (fun q hq=>?_) (fun v=>?_) ?_
  ·refine List.pairwise_map.2 ?_
   exact hu.1
  ·obtain ⟨p,hp,rfl⟩:=bG.1 hq
   obtain ⟨h0,_,h2⟩:=hu.2.1 p hp
   refine ⟨h0,by show ZI.of _=ZI.of (ZI.of _).val;rw [ZI.val_of],by show (ZI.of _).val≠0;rw [ZI.val_of];omega⟩
  ·show zai (u.parts.map fun p=>za3.mk p.v (ZI.of (p.c.val*(ZI.of (-1)).val))) v=_
   rw [ZI.val_of]
  ·show ZI.of _=ZI.of (ZI.of (u.k.val*(ZI.of (-1)).val)).val
   rw [ZI.val_of,ZI.val_of]
 rw [e]
theorem neg_tgt {u:zaf} (h0:u.parts.length≠0) (h:za1 u=u) (h1:zbg u.parts=1) (hf:zhs u=true):(neg1 u).parts.length≠0/\za1 (neg1 u)=neg1 u/\zbg (neg1 u).parts=1/\zhs (neg1 u)=false:=by
 have e:=neg_parts h
 refine ⟨by rw [e,bC];exact h0,by unfold neg1 zb4;exact zbk _,con_one ?_,?_⟩
 ·rw [<- h1]
  refine con_great fun p hp=>?_
  have h2:=zio (neg1 u).parts ⟨p.v,ZI.of (p.c.val*-1)⟩ (by rw [e];exact bG.2 ⟨p,hp,rfl⟩)
  rw [show (za3.mk p.v (ZI.of (p.c.val*-1))).c.val=p.c.val*-1 from ZI.val_of _] at h2
  have:=Int.dvd_neg.2 h2
  rw [show -(p.c.val*-1)=p.c.val by omega] at this
  exact this
 ·unfold zhs at hf ⊢
  rw [e]
  cases hp:u.parts with
  | nil=>rfl
  | cons p l =>
   rw [hp] at hf
   have h3:=of_decide_eq_true hf
   show decide (sgn (ZI.of (p.c.val*-1)).val<0)=false
   rw [ZI.val_of]
   refine decide_eq_false ?_
   unfold sgn at h3 ⊢
   split at h3
   ·omega
   ·split at h3
    ·split
     ·omega
     ·split <;> omega
    ·omega
theorem tight_tgt {r:za8} (h:(zam r).2=0):Tgt (zam r).1:=by
 unfold zam at h ⊢
 by_cases h1:(za1 r.t).parts.length=0
 ·rw [if_pos h1] at h;exfalso;revert h;show (if _ then (1:Int) else -1)=0->False;split <;> decide
 ·rw [if_neg h1] at h ⊢
  by_cases h2:r.eq=true/\r.t.k.val.fmod (zbg (za1 r.t).parts)≠0
  ·rw [if_pos h2] at h;cases h
  ·rw [if_neg h2]
   obtain ⟨g1,g2,g3⟩:=shr_tgt h1
   cases hf:(r.eq && zhs (zbt r.t)) with
   | true =>
    have hf:=(bP _ _ ▸ hf:_/\_)
    obtain ⟨k1,k2,k3,k4⟩:=neg_tgt g1 g2 g3 hf.2
    show Tgt ⟨if true=true then neg1 (zbt r.t) else zbt r.t,r.eq⟩
    rw [if_pos rfl]
    exact ⟨k1,k2,k3,fun _=>k4⟩
   | false =>
    show Tgt ⟨if false=true then neg1 (zbt r.t) else zbt r.t,r.eq⟩
    rw [if_neg Bool.noConfusion]
    exact ⟨g1,g2,g3,fun he=>by have he:r.eq=true:=he;rw [he] at hf;exact hf⟩
theorem tgt_tight {r:za8} (h:Tgt r):zam r=(r,0):=by
 obtain ⟨h1,h2,h3,h4⟩:=h
 have hp:=zb8 r.t
 rw [h2] at hp
 unfold zam
 rw [h2,if_neg h1,h3,if_neg (fun e=>e.2 (Int.fmod_one _))]
 have hs:zbt r.t=r.t:=by
  unfold zbt
  rw [h2,h3,if_neg (by decide)]
  have e1:r.t.parts.map (zgh 1)=r.t.parts:=by
   refine (List.map_congr_left fun p hp1=>?_).trans (List.map_id _)
   show za3.mk p.v (ZI.of (p.c.val.fdiv 1))=id p
   rw [Int.fdiv_one,<- (hp.2.1 p hp1).2.1];rfl
  have e2:ZI.of (r.t.k.val.fdiv 1)=r.t.k:=by
   rw [Int.fdiv_one]
   have:(za1 r.t).k=ZI.of r.t.k.val:=rfl
   rw [h2] at this;exact this.symm
  rw [e1,e2]
 rw [hs]
 cases he:r.eq with
 | true=>rw [h4 he];cases r;cases he;rfl
 | false=>cases r;cases he;rfl
theorem cmp_self9 (r:za8):zc3 r r=0:=by rw [<- cmpRl_cpl];exact cmpRl_cp r
theorem tgt_B {r:za8} (h:Tgt r):tgtB r=true:=by
 unfold tgtB;rw [tgt_tight h];show ((0:Int) == 0 && zc3 r r == 0)=true;rw [cmp_self9];rfl
theorem tgt_cp {r:za8} (h:Tgt r):cpR r=r:=by unfold cpR;rw [h.2.1]
def za0.tq (f:za0):Prop:=f.fold fun k r _ hs=>(k=2->Tgt r)/\∀ h ∈ hs,h
theorem za0.tq_eq (f:za0):f.tq ↔ (f.kind=2->Tgt f.r)/\∀ g ∈ f.kids,g.tq:=by
 have:=za0.fold_eq (fun k r _ (hs:List Prop)=>(k=2->Tgt r)/\∀ h ∈ hs,h) f
 unfold za0.tq
 rw [this]
 refine and_congr_right fun _=>⟨fun h g hg=>h _ (bG.2 ⟨g,hg,rfl⟩),fun h p hp=>?_⟩
 obtain ⟨g,hg,rfl⟩:=bG.1 hp
 exact h g hg
theorem tq_tru (b:Bool):(zck b).tq:=by rw [za0.tq_eq];exact ⟨fun e=>by cases b <;> exact absurd e (by decide),fun g hg=>by cases hg⟩
theorem tq_tight (r:za8):(zb2 r).tq:=by
 unfold zb2;split
 ·rename_i h;rw [za0.tq_eq];exact ⟨fun _=>tight_tgt h,fun g hg=>by cases hg⟩
 ·exact tq_tru _
theorem zfr {k:Int} (hk:k=4\/k=5):∀ (fs out:List za0),(∀ g ∈ out,g.tq)->(∀ g ∈ fs,g.tq)->(zbx k fs out).tq
 | [],out,h,_=>by
  unfold zbx
  match out with
  | []=>exact tq_tru _
  | [g]=>exact h g (bF ..)
  | g :: q :: l=>rw [za0.tq_eq];exact ⟨fun e=>by exfalso;change k=2 at e;omega,h⟩
 | f :: fs,out,h,h2=>by
  rw [zbx]
  have hf:=h2 f (bF ..)
  have hfs:∀ g ∈ fs,g.tq:=fun g hg=>h2 g (bV _ hg)
  split
  ·exact hf
  ·split
   ·exact zfr hk fs out h hfs
   ·split
    ·exact zfr hk fs _ (fun g hg=>(b9.1 hg).elim (h g) fun hg=>((za0.tq_eq _).1 hf).2 g hg) hfs
    ·exact zfr hk fs _ (fun g hg=>(b9.1 hg).elim (h g) fun hg=>by rw [bU.1 hg];exact hf) hfs
theorem flat_tq (f:za0):∀ d,(f.flat d).tq :=
 za0.ind (P:=fun f=>∀ d,(f.flat d).tq) (fun k r ks ih d=>by
  rw [za0.flat_eq]
  show (flatK k r (ks.map za0.flat) d).tq
  unfold flatK
  split
  ·exact tq_tru _
  ·split
   ·split
    ·refine zfr (.inr rfl) _ [] (fun g hg=>by cases hg) fun g hg=>?_
     obtain ⟨q,hq,rfl⟩:=bG.1 hg
     exact tq_tight q
    ·exact tq_tight r
   ·split
    ·cases ks with
     | nil=>exact tq_tru _
     | cons g gs=>exact ih g (bF ..) (!d)
    ·split
     ·rename_i h4
      refine zfr (by cases d <;> simp <;> omega) _ [] (fun g hg=>by cases hg) fun g hg=>?_
      rw [List.map_map] at hg
      obtain ⟨q,hq,rfl⟩:=bG.1 hg
      exact ih q hq d
     ·exact tq_tru _) f
def Apt (n:Nat) (l:List za8):Prop:=∀ k r,n<=k->l[k]?=some r->Tgt r/\∀ i q,i<k->l[i]?=some q->zc3 q r≠0
theorem apt_cp {l:List za8} (h:Apt n l):Apt n (l.map cpR):=fun k r hk hr=>by
 rw [b6] at hr
 cases e:l[k]? with
 | none=>rw [e] at hr;cases hr
 | some r0 =>
  rw [e] at hr
  have hr:cpR r0=r:=by simpa using hr
  obtain ⟨h1,h2⟩:=h k r0 hk e
  rw [tgt_cp h1] at hr;subst hr
  refine ⟨h1,fun i q hi hq=>?_⟩
  rw [b6] at hq
  cases e2:l[i]? with
  | none=>rw [e2] at hq;cases hq
  | some q0 =>
   rw [e2] at hq
   have hq:cpR q0=q:=by simpa using hq
   rw [<- hq,cmpRl_cpl];exact h2 i q0 hi e2
theorem atR_no {r:za8} (h:atR ps r<0):∀ q ∈ ps,zc3 q r≠0:=fun q hq=>by
 unfold atR at h
 rcases zij (fun p=>zc3 p r == 0) ps 0 with ⟨_,h2⟩ | ⟨k,x,h1,_⟩
 ·have:=h2 q hq;simpa using this
 ·rw [h1] at h;omega
theorem gath_apt (f:za0):f.tq->∀ ps,n<=ps.length->Apt n ps->Apt n (f.gath ps) :=
 za0.ind (P:=fun f=>f.tq->∀ ps,n<=ps.length->Apt n ps->Apt n (f.gath ps)) (fun k r ks ih hf ps hn ha=>by
  obtain ⟨h1,h2⟩:=(za0.tq_eq _).1 hf
  change k=2->Tgt r at h1
  change ∀ g ∈ ks,_ at h2
  rw [za0.gath_eq]
  show Apt n (if k=2/\atR ps r<0 then ps++[cpR r] else ks.foldl (fun a g=>g.gath a) ps)
  split
  ·rename_i e
   intro m q hm hq
   rw [List.getElem?_append] at hq
   split at hq
   ·rename_i hlt
    obtain ⟨a1,a2⟩:=ha m q hm hq
    exact ⟨a1,fun i p hi hp=>a2 i p hi (by rw [cN (by omega)] at hp;exact hp)⟩
   ·rename_i hge
    have hm2:m=ps.length:=by
     rcases Nat.lt_or_ge ps.length m with h | h
     ·rw [List.getElem?_eq_none (by simp;omega)] at hq;cases hq
     ·omega
    subst hm2
    rw [Nat.sub_self] at hq
    have hq:cpR r=q:=by simpa using hq
    rw [tgt_cp (h1 e.1)] at hq;subst hq
    refine ⟨h1 e.1,fun i p hi hp=>?_⟩
    rw [cN hi] at hp
    exact atR_no e.2 p (b5 hp)
  ·have key:∀ (xs:List za0),(∀ g ∈ xs,g ∈ ks)->∀ qs:List za8,n<=qs.length->Apt n qs->Apt n (xs.foldl (fun a g=>g.gath a) qs):=fun xs=>by
    induction xs with
    | nil=>intro _ qs _ h;exact h
    | cons x xs ihx =>
     intro hx qs hq h
     rw [bK]
     refine ihx (fun g hg=>hx g (bV _ hg)) _ ?_ (ih x (hx x (bF ..)) (h2 x (hx x (bF ..))) qs hq h)
     obtain ⟨l,e⟩:=gath_pre x qs
     rw [e,bL];omega
   exact key ks (fun g hg=>hg) ps hn ha) f
theorem newA_apt (ps:List za8) (cs:List za0) (j:Nat):Apt ps.length (zbh ps cs j):=by
 induction j with
 | zero=>intro k r hk hr;have:=zac hr;exact absurd this (Nat.not_lt_of_le hk)
 | succ j ih=>exact gath_apt _ (flat_tq _ false) _ (by rw [bC];exact newA_ge ps cs j) (apt_cp ih)
theorem newA_old (ps:List za8) (cs:List za0) (j:Nat):((zbh ps cs j).map cpR).take ps.length=ps.map cpR:=by
 induction j with
 | zero=>show (ps.map cpR).take _=_;rw [cD (by rw [bC];exact bE _)]
 | succ j ih =>
  show ((((zbs cs j).flat false).gath ((zbh ps cs j).map cpR)).map cpR).take _=_
  obtain ⟨l,e⟩:=gath_pre ((zbs cs j).flat false) ((zbh ps cs j).map cpR)
  rw [e,List.map_append,List.take_append_of_le_length (by rw [bC,bC];exact newA_ge ps cs j),List.map_map,show (cpR ∘ cpR)=cpR from funext cpR_cpR,ih]
theorem newS_fold {xs:List za8} (h:∀ r ∈ xs,tgtB r=true):xs.foldl nwS out=out++(xs.take (24 - out.length)).map cpR:=by
 induction xs generalizing out with
 | nil=>simp
 | cons x xs ih =>
  rw [bK]
  have hx:=h x (bF ..)
  have hxs:∀ r ∈ xs,tgtB r=true:=fun r hr=>h r (bV _ hr)
  by_cases hl:out.length<24
  ·rw [nwS_t hx hl,ih hxs,bL,cM,List.append_assoc,show 24 - out.length=(24 - (out.length+1))+1 by omega,List.take_succ_cons,List.map_cons];rfl
  ·rw [nwS_x hx hl,ih hxs,show 24 - out.length=0 by omega];simp
theorem drop_tgt (ps:List za8) (cs:List za0) (j:Nat):∀ r ∈ (zbh ps cs j).drop ps.length,Tgt r:=fun r hr=>by
 obtain ⟨i,hi,rfl⟩:=List.mem_iff_getElem.1 hr
 rw [List.length_drop] at hi
 refine (newA_apt ps cs j (ps.length+i) _ (by omega) ?_).1
 rw [List.getElem_drop,cL (by omega)]
theorem newT_eq (s:zaz) (ps:List za8) (p:zds):zda s ps p=(((zbh ps (zag s ps p.states p.acts) (zag s ps p.states p.acts).length).map cpR).take (max 24 ps.length)):=by
 unfold zda nwO
 rw [List.take_length,newS_fold (fun r hr=>tgt_B (drop_tgt _ _ _ r hr)),bC]
 have h1:=newA_old ps (zag s ps p.states p.acts) (zag s ps p.states p.acts).length
 have h2:=newA_ge ps (zag s ps p.states p.acts) (zag s ps p.states p.acts).length
 rw [<- h1,<- cH,<- List.map_append,<- cH]
 congr 1
 have e:max 24 ps.length=ps.length+(24 - ps.length):=by omega
 rw [e,List.take_add]
theorem newT_len (s:zaz) (ps:List za8) (p:zds):ps.length<=(zda s ps p).length/\(zda s ps p).length<=max 24 ps.length:=by
 have:=newA_ge ps (zag s ps p.states p.acts) (zag s ps p.states p.acts).length
 rw [newT_eq,cC,bC];omega
theorem newT_old {i:Nat} {r q:za8} (hr:(zda s ps p)[i]?=some r) (hq:ps[i]?=some q):zc3 r q=0:=by
 have hi:=zac hq
 have h1:=newA_old ps (zag s ps p.states p.acts) (zag s ps p.states p.acts).length
 have h2:=congrArg (fun l=>l[i]?) h1
 simp only [bW,if_pos hi,b6,hq] at h2
 rw [newT_eq,bW,if_pos (by omega),b6,h2] at hr
 have hr:cpR q=r:=by simpa using hr
 rw [<- hr];exact cmpRl_cp q
theorem newT_apt (s:zaz) (ps:List za8) (p:zds):Apt ps.length (zda s ps p):=fun k r hk hr=>by
 have h:=apt_cp (newA_apt ps (zag s ps p.states p.acts) (zag s ps p.states p.acts).length)
 rw [newT_eq,bW] at hr
 split at hr
 ·rename_i hlt
  obtain ⟨h1,h2⟩:=h k r hk hr
  refine ⟨h1,fun i q hi hq=>h2 i q hi ?_⟩
  rw [newT_eq,bW,if_pos (by omega)] at hq;exact hq
 ·cases hr
def zj9:zaz:=⟨[⟨#[120]⟩],[],⟨2,⟨(zal 0).t,true⟩,[]⟩,[⟨⟨#[112]⟩,[⟨#[97]⟩],.sl 10 []⟩],[⟨0,0,0,⟨0,zR,[]⟩,[⟨0,false,⟨(zal 0).t.parts,ZI.of 1⟩⟩]⟩]⟩
theorem LR4SameS (r:za8) {L:Nat} (hr:TOk n L r.t) (hn:n<=1000000000):Fn Tryz.prog 26 [] [vG [cPs r.t.parts,cB r.t.k.neg,.d (nsl r.t.k.abs),cB r.eq],vG [cPs r.t.parts,cB r.t.k.neg,.d (nsl r.t.k.abs),cB r.eq]] (vb true) []:=by
 refine fB Tryz.func26 rfl 17 fun w H B a h=>Jq 0 [] [(2,vp 0 0),(3,vp 1 0),(4,vb false)] [(0,.box [cPs r.t.parts,cB r.t.k.neg,.d (nsl r.t.k.abs),cB r.eq]),(1,.box [cPs r.t.parts,cB r.t.k.neg,.d (nsl r.t.k.abs),cB r.eq])] h fun a w h=>Jq 2 [(4,.cmpb .eql (m:=r.eq) (n:=r.eq) (b:=true) (.inl ⟨rfl,(beq_self_eq_true _).symm⟩)),(10,.call (SRTSame r.t hr hn))] [(4,vb true)] [] h fun a w h=>qV (rT (.c (cB true)) h rfl ?_)
 rfl
theorem LSysR :Fn Tryz.prog 27 [] [] (vG [.d (.sl 1 (zj9.vars.map zen)),.d (.sl 5 (zj9.bounds.map zan.d)),cI zj9.init.kind,cPs zj9.init.r.t.parts,cB zj9.init.r.t.k.neg,.d (nsl zj9.init.r.t.k.abs),cB zj9.init.r.eq,cFs zj9.init.kids,.d (.sl 3 (zj9.procs.map zbp.d)),.d (.sl 10 (zj9.acts.map zb9.d))]) []:=by
 refine fB Tryz.func27 rfl 23 fun w H B a h=>Jq (htb:=zba) 0 [] [(0,vp 0 0)] [(0,.box [.d (.sl 1 (([]:List ByteArray).map zen)),.d (.sl 5 (([]:List zan).map zan.d)),cI 0,cPs ([]:List za3),cB false,.d (nsl []),cB false,cFs ([]:List za0),.d (.sl 3 (([]:List zbp).map zbp.d)),.d (.sl 10 (([]:List zb9).map zb9.d))])] h fun a w h=>Jg (htb:=zba) 1 [(0,.call (zgl 0 (by decide)))] [] [(1,vp 1 0)] [] [(1,.box [cI 2,cPs (zal 0).t.parts,cB (zal 0).t.k.neg,.d (nsl (zal 0).t.k.abs),cB true,cFs ([]:List za0)])] h fun a w h=>Jg (htb:=zba) 2 [(0,.call (zgl 0 (by decide))),(3,.call (SROf 1 ⟨by decide,by decide⟩))] [] [(2,vp 2 0)] [] [(2,.box [cPs (zal 0).t.parts,cB (ZI.of 1).neg,.d (nsl (ZI.of 1).abs)])] h fun a w h=>Jq (htb:=zba) 3 [(0,.g (Op.buildD (d:=12) (len:=1) (rows:=[(⟨#[120]⟩:ByteArray)].map zen) (rs:=[]) ty_16 (.cons (i:=0) (OV.const (.string (⟨#[120]⟩:ByteArray)) rfl) (.nil)) (by kernel_rfl) rfl (by simp [zen]) (by decide) (by decide))),(2,.g (Op.buildD (d:=14) (len:=1) (rows:=[(⟨#[97]⟩:ByteArray)].map zen) (rs:=[]) ty_16 (.cons (i:=0) (OV.const (.string (⟨#[97]⟩:ByteArray)) rfl) (.nil)) (by kernel_rfl) rfl (by simp [zen]) (by decide) (by decide))),(4,.g (bD 16 ([(zbp.mk (⟨#[112]⟩:ByteArray) [(⟨#[97]⟩:ByteArray)] (.sl 10 []))].map zbp.d) [(15,vG [.d (.raw (.string (⟨#[112]⟩:ByteArray))),.d (.sl 1 ([(⟨#[97]⟩:ByteArray)].map zen)),.d (.sl 10 [])])] kw_4 (.cons (i:=0) (OV.tmp 15 _) (.nil)) (by kernel_rfl) (by simp [zbp.d]))),(7,.g (bD 19 ([(zao.mk 0 false (zaf.mk (zal 0).t.parts (ZI.of 1)))].map zao.d) [(18,vG [cI 0,cB false,cPs (zal 0).t.parts,cB (ZI.of 1).neg,.d (nsl (ZI.of 1).abs)])] kw_5 (.cons (i:=0) (OV.tmp 18 _) (.nil)) (by kernel_rfl) (by simp [zao.d]))),(9,.g (bD 21 ([(zb9.mk 0 0 0 (za0.mk 0 (za8.mk (zaf.mk ([]:List za3) (ZI.mk false [])) false) ([]:List za0)) [(zao.mk 0 false (zaf.mk (zal 0).t.parts (ZI.of 1)))])].map zb9.d) [(20,vG [cI 0,cI 0,cI 0,cI 0,cPs ([]:List za3),cB false,.d (nsl []),cB false,cFs ([]:List za0),.d (.sl 5 ([(zao.mk 0 false (zaf.mk (zal 0).t.parts (ZI.of 1)))].map zao.d))])] kw_6 (.cons (i:=0) (OV.tmp 20 _) (.nil)) (by kernel_rfl) (by simp [zb9.d])))] [(0,vp 0 0)] [(0,.box [.d (.sl 1 ([(⟨#[120]⟩:ByteArray)].map zen)),.d (.sl 5 (([]:List zan).map zan.d)),cI 2,cPs (zal 0).t.parts,cB (zal 0).t.k.neg,.d (nsl (zal 0).t.k.abs),cB true,cFs ([]:List za0),.d (.sl 3 ([(zbp.mk (⟨#[112]⟩:ByteArray) [(⟨#[97]⟩:ByteArray)] (.sl 10 []))].map zbp.d)),.d (.sl 10 ([(zb9.mk 0 0 0 (za0.mk 0 (za8.mk (zaf.mk ([]:List za3) (ZI.mk false [])) false) ([]:List za0)) [(zao.mk 0 false (zaf.mk (zal 0).t.parts (ZI.of 1)))])].map zb9.d))])] h fun a w h=>qV (rA 0 [.d (.sl 1 ([(⟨#[120]⟩:ByteArray)].map zen)),.d (.sl 5 (([]:List zan).map zan.d)),cI 2,cPs (zal 0).t.parts,cB (zal 0).t.k.neg,.d (nsl (zal 0).t.k.abs),cB true,cFs ([]:List za0),.d (.sl 3 ([(zbp.mk (⟨#[112]⟩:ByteArray) [(⟨#[97]⟩:ByteArray)] (.sl 10 []))].map zbp.d)),.d (.sl 10 ([(zb9.mk 0 0 0 (za0.mk 0 (za8.mk (zaf.mk ([]:List za3) (ZI.mk false [])) false) ([]:List za0)) [(zao.mk 0 false (zaf.mk (zal 0).t.parts (ZI.of 1)))])].map zb9.d))] h kw_7 rfl ?_)
 kernel_rfl
theorem ni6_2:ElZ Tryz.prog 41 69 2:=ElZ.mk' Tryz.underlying41 _ _ rfl rfl (by kernel_rfl) (by kernel_rfl) (by kernel_rfl) (by decide)
theorem ok_mono9 {L M:Nat} (hL:L<=M) (f:za0):f.ok L->f.ok M :=
 za0.ind (P:=fun f=>f.ok L->f.ok M) (fun k r ks ih hf=>by
  obtain ⟨h1,h2⟩:=(za0.ok_eq L _).1 hf
  exact (za0.ok_eq M _).2 ⟨fun e=>(h1 e).mono (bE _) hL,fun g hg=>ih g (zby hg) (h2 g hg)⟩) f
theorem sys_mono9 {L M:Nat} (hL:L<=M) (h:zcc L s):zcc M s :=
 ⟨h.vars,h.bnds,h.procs,h.acts,fun b hb=>⟨⟨(h.bnd b hb).1.1,cJ (h.bnd b hb).1.2 hL⟩,(h.bnd b hb).2.1,cJ (h.bnd b hb).2.2 hL⟩,⟨h.init.1,ok_mono9 hL _ h.init.2⟩,fun c hc=>⟨⟨(h.act c hc).guard.1,ok_mono9 hL _ (h.act c hc).guard.2⟩,(h.act c hc).len,fun m hm=>((h.act c hc).mv m hm).mono (bE _) hL⟩⟩
theorem few_wid1 {f:za0} {n L:Int} (hn:0<=n) (hn2:n<=30) (h:zjw f n L=true):f.wid<=100:=by
 unfold zjw at h
 rw [bP] at h
 have h1:f.size n<=n:=by have:=h.1;simpa using this
 have hw:=size_wid f n hn h1
 omega
theorem few_w1 {L:Nat} (h:zbo L s=true):SysW s:=by
 unfold zbo at h
 simp only [bP,decide_eq_true_eq,bI] at h
 refine ⟨few_wid1 (by decide) (by decide) h.1.2,fun c hc=>?_⟩
 have:=h.2.2 c hc
 unfold fewA at this
 simp only [bP] at this
 exact few_wid1 (by decide) (by decide) this.1.1
theorem sm24_ok (h:sm24 s ps p=true) (hr:SysRd s) (hl:∀ r ∈ ps,TLb r.t):zcc 3 s/\SysW s/\zhz ps/\p.states.length<=5/\p.acts.length<=6/\∀ x ∈ p.states,x.locs.length<=8/\x.bits.length<=30:=by
 unfold sm24 at h
 simp only [bP,decide_eq_true_eq,bI] at h
 obtain ⟨h1,h2,h3,h4,h5,h6⟩:=h
 unfold zfz at h3
 rw [bP,decide_eq_true_eq,bI] at h3
 exact ⟨sys_mono9 (by decide) (few_sys h1 hr),few_w1 h1,⟨by omega,fun r hm=>(show TOk 20 1 r.t from fewR_ok (L:=1) (h3.2 r hm) (hl r hm)).mono (by decide) (by decide)⟩,h4,h5,h6⟩
theorem newT_ok (hs:zcc 3 s) (hw:SysW s) (hps:zhz ps) (hl:p.states.length<=5):∀ r ∈ zda s ps p,TOk 40000000 700 r.t:=fun r hr=>by
 rw [newT_eq] at hr
 obtain ⟨q,hq,rfl⟩:=bG.1 (cO hr)
 have hn:=zet s ps p.states p.acts
 exact (((newA_ok hs hw hps p.acts hl (bE _)).1 q hq).plain (by decide)).mono (bE _) (by omega)
def paE:zds:=⟨[⟨[0],[false]⟩,⟨[0],[false]⟩,⟨[0],[true]⟩],[0,0]⟩
def pbE:zds:=⟨[⟨[0],[true]⟩],[]⟩
def cE:List za0:=zag zj9 [zal 2] paE.states paE.acts
def nE:List za8:=zda zj9 [zal 2] paE
def n2E:List za8:=zda zj9 [zal 2] pbE
def c2E:za0:=cndF [zal 2] ⟨[0],[true]⟩ []
def c1E:za0:=cndF [zal 2] ⟨[0],[false]⟩ (zav zj9 [0] 0 c2E)
theorem at2E:cE[2]?=some c2E:=rfl
theorem at1E:cE[1]?=some c1E:=rfl
theorem len_cE:(cE.length:Int)=3:=rfl
theorem ev_c2E_2:c2E.holds [ZI.of 2]=true:=by kernel_rfl
theorem ev_c2E_1:c2E.holds [ZI.of 1]=false:=by kernel_rfl
theorem ev_c1E_1:c1E.holds [ZI.of 1]=true:=by kernel_rfl
theorem ev_c1E_2:c1E.holds [ZI.of 2]=false:=by kernel_rfl
theorem at0E:nE[0]?=some (zal 2):=by kernel_rfl
theorem len_nE:decide ((nE.length:Int)>=3)=true:=by kernel_rfl
theorem more_paE:decide (((zda zj9 [zal 2] paE).length:Int)>(([zal 2]:List za8).length:Int))=true:=by kernel_rfl
theorem more_pbE:decide (((zda zj9 [zal 2] pbE).length:Int)>(([zal 2]:List za8).length:Int))=false:=by kernel_rfl
theorem vok9_1:VOk 3 [ZI.of 1]:=vokE [1] (by decide) (by decide)
theorem vok9_2:VOk 3 [ZI.of 2]:=vokE [2] (by decide) (by decide)
theorem paE_x:∀ x ∈ paE.states,x.locs.length<=8/\x.bits.length<=30:=by decide
theorem pbE_x:∀ x ∈ pbE.states,x.locs.length<=8/\x.bits.length<=30:=by decide
theorem lb1E:Lb (ZI.of 1).abs/\(ZI.of 1).abs.length<=3:=⟨ZI.lb_of _,by decide⟩
theorem sysR_ok:zcc 3 zj9:=by
 have ht:∀ n:Int,-1000<=n/\n<=1000->TOk 20 3 (zal n).t:=lea_tok
 have h0:=ht 0 (by decide)
 refine ⟨by decide,by decide,by decide,by decide,fun b hb=>(by cases hb),⟨(za0.lb_eq _).2 ⟨⟨⟨h0.kb,fun p hp=>(h0.ps p hp).1⟩,bJ _⟩,fun g hg=>(by cases hg)⟩,(za0.ok_eq 3 _).2 ⟨fun _=>h0,fun g hg=>(by cases hg)⟩⟩,fun c hc=>?_⟩
 rw [bU.1 hc]
 refine ⟨act0_ok.guard,by decide,fun m hm=>?_⟩
 rw [bU.1 hm]
 exact ⟨h0.len,h0.ps,lb1E.1,lb1E.2⟩
theorem sysR_w:SysW zj9:=⟨cP (by kernel_rfl),fun c hc=>by rw [bU.1 hc];exact cP (by kernel_rfl)⟩
theorem ok_c2E:c2E.okB 1000000000 1000:=za0.okB_mono (by decide) (by decide) _ (zir sysR_ok sysR_w psE_ok paE.acts (by decide) (b5 at2E)).1
theorem ok_c1E:c1E.okB 1000000000 1000:=za0.okB_mono (by decide) (by decide) _ (zir sysR_ok sysR_w psE_ok paE.acts (by decide) (b5 at1E)).1
theorem LAlive24 :Fn Tryz.prog 7 [] [] (vb true) []:=by
 refine fB Tryz.func7 rfl 102 fun w H B a h=>Jq (htb:=zba) 0 [] [(0,vb false)] [] h fun a w h=>Jg (htb:=zba) 0 [(0,.g (Op.buildD (d:=11) (len:=1) (rows:=[0].map zb0) (rs:=[]) tb_0 (.cons (i:=0) (OV.const (.int .i64 0) rfl) (.nil)) (by kernel_rfl) rfl (by simp [zb0]) (by decide) (by decide))),(1,.g (Op.buildD (d:=12) (len:=1) (rows:=[false].map zdr) (rs:=[]) le5_3 (.cons (i:=0) (OV.const (.bool false) rfl) (.nil)) (by kernel_rfl) rfl (by simp [zdr]) (by decide) (by decide))),(3,.g (Op.buildD (d:=14) (len:=1) (rows:=[0].map zb0) (rs:=[]) tb_0 (.cons (i:=0) (OV.const (.int .i64 0) rfl) (.nil)) (by kernel_rfl) rfl (by simp [zb0]) (by decide) (by decide))),(4,.g (Op.buildD (d:=15) (len:=1) (rows:=[true].map zdr) (rs:=[]) le5_3 (.cons (i:=0) (OV.const (.bool true) rfl) (.nil)) (by kernel_rfl) rfl (by simp [zdr]) (by decide) (by decide)))] [] [(1,vp 0 0),(2,vp 1 0)] [] [(0,.box [cIs [0],.d (.sl 1 ([false].map zdr))]),(1,.box [cIs [0],.d (.sl 1 ([true].map zdr))])] h fun a w h=>Jg (htb:=zba) 2 [(3,.g (Op.buildD (d:=20) (len:=3) (rows:=[(zdk.mk [0] [false]),(zdk.mk [0] [false]),(zdk.mk [0] [true])].map zdk.d) (rs:=[(17,vG [cIs [0],.d (.sl 1 ([false].map zdr))]),(18,vG [cIs [0],.d (.sl 1 ([false].map zdr))]),(19,vG [cIs [0],.d (.sl 1 ([true].map zdr))])]) ni6_2 (.cons (i:=0) (OV.tmp 17 _) (.cons (i:=1) (OV.tmp 18 _) (.cons (i:=2) (OV.tmp 19 _) (.nil)))) (by kernel_rfl) rfl (by simp [zdk.d]) (by decide) (by decide))),(4,.g (Op.buildD (d:=21) (len:=2) (rows:=[0,0].map zb0) (rs:=[]) tb_0 (.cons (i:=0) (OV.const (.int .i64 0) rfl) (.cons (i:=1) (OV.const (.int .i64 0) rfl) (.nil))) (by kernel_rfl) rfl (by simp [zb0]) (by decide) (by decide)))] [1] [(3,vp 2 0)] [0] [(2,.box [.d (.sl 2 ([(zdk.mk [0] [false]),(zdk.mk [0] [false]),(zdk.mk [0] [true])].map zdk.d)),cIs [0,0]])] h fun a w h=>?_
 refine Je (htb:=zba) 3 [(0,.call (LSysR)),(1,.call (zgl 2 (by decide))),(2,.g (bD 25 ([(zal 2)].map za8.d) [(24,vG [cPs (zal 2).t.parts,cB (zal 2).t.k.neg,.d (nsl (zal 2).t.k.abs),cB (zal 2).eq])] kc_5 (.cons (i:=0) (OV.tmp 24 _) (.nil)) (by kernel_rfl) (by simp [za8.d]))),(4,.call (LConditions zj9 [zal 2] paE sysR_ok sysR_w psE_ok (by decide) (by decide) paE_x))] [] [(4,(vFs cE))] h fun a w h=>Jg (htb:=zba) 3 [(0,.call (LSysR)),(1,.call (zgl 2 (by decide))),(2,.g (bD 31 ([(zal 2)].map za8.d) [(30,vG [cPs (zal 2).t.parts,cB (zal 2).t.k.neg,.d (nsl (zal 2).t.k.abs),cB (zal 2).eq])] kc_5 (.cons (i:=0) (OV.tmp 30 _) (.nil)) (by kernel_rfl) (by simp [za8.d]))),(4,.call (Fn.cast (LNew zj9 [zal 2] paE sysR_ok sysR_w psE_ok (by decide) (by decide) paE_x) (show (.tup [.c (cRs (zda zj9 [zal 2] paE)),.c (cB (decide (((zda zj9 [zal 2] paE).length:Int)>(([zal 2]:List za8).length:Int))))]:V) = .tup [.c (cRs nE),.c (cB true)] from by rw [more_paE];rfl)))] [3] [(5,(vRs nE)),(6,vb true)] [2] [] h fun a w h=>Jg (htb:=zba) 3 [(0,.call (LSysR)),(1,.call (zgl 2 (by decide))),(2,.g (bD 39 ([(zal 2)].map za8.d) [(38,vG [cPs (zal 2).t.parts,cB (zal 2).t.k.neg,.d (nsl (zal 2).t.k.abs),cB (zal 2).eq])] kc_5 (.cons (i:=0) (OV.tmp 38 _) (.nil)) (by kernel_rfl) (by simp [za8.d]))),(4,.g (bD 41 ([(zdk.mk [0] [true])].map zdk.d) [(40,vG [cIs [0],.d (.sl 1 ([true].map zdr))])] ni6_2 (.cons (i:=0) (OV.tmp 40 _) (.nil)) (by kernel_rfl) (by simp [zdk.d]))),(6,.call (Fn.cast (LNew zj9 [zal 2] pbE sysR_ok sysR_w psE_ok (by decide) (by decide) pbE_x) (show (.tup [.c (cRs (zda zj9 [zal 2] pbE)),.c (cB (decide (((zda zj9 [zal 2] pbE).length:Int)>(([zal 2]:List za8).length:Int))))]:V) = .tup [.c (cRs n2E),.c (cB false)] from by rw [more_pbE];rfl)))] [2] [(8,vb false)] [1] [] h fun a w h=>Jg (htb:=zba) 3 [(0,.call (SROf 1 ⟨by decide,by decide⟩)),(1,.g (bD 47 ([(ZI.of 1)].map ziD) [(46,vz (ZI.of 1))] ty_5 (.cons (i:=0) (OV.tmp 46 _) (.nil)) (by kernel_rfl) (by simp [ziD]))),(2,.call (SROf 2 ⟨by decide,by decide⟩)),(3,.g (bD 49 ([(ZI.of 2)].map ziD) [(48,vz (ZI.of 2))] ty_5 (.cons (i:=0) (OV.tmp 48 _) (.nil)) (by kernel_rfl) (by simp [ziD])))] [] [(9,(vZs [(ZI.of 1)])),(10,(vZs [(ZI.of 2)]))] [] [] h fun a w h=>Jq (htb:=zba) 3 [(1,.len (za4 6 za0.d cE)),(2,.cmp (op:=.eql) (m:=(cE.length:Int)) (n:=3) (b:=true) .i64 (by rw [len_cE];rfl)),(5,.g (xD 55 54 zh5 ((za7 at2E (f:=za0.d)).trans (congrArg some (za0.d_eq c2E))) (OV.const (.int .i64 2) rfl))),(8,.call (Fn.cast (zi1 [ZI.of 2] (M:=3) (by decide) vok9_2 c2E ok_c2E) (congrArg vb ev_c2E_2))),(12,.g (xD 62 61 zh5 ((za7 at2E (f:=za0.d)).trans (congrArg some (za0.d_eq c2E))) (OV.const (.int .i64 2) rfl))),(15,.call (Fn.cast (zi1 [ZI.of 1] (M:=3) (by decide) vok9_1 c2E ok_c2E) (congrArg vb ev_c2E_1))),(20,.g (xD 70 69 zh5 ((za7 at1E (f:=za0.d)).trans (congrArg some (za0.d_eq c1E))) (OV.const (.int .i64 1) rfl))),(23,.call (Fn.cast (zi1 [ZI.of 1] (M:=3) (by decide) vok9_1 c1E ok_c1E) (congrArg vb ev_c1E_1))),(27,.g (xD 77 76 zh5 ((za7 at1E (f:=za0.d)).trans (congrArg some (za0.d_eq c1E))) (OV.const (.int .i64 1) rfl))),(30,.call (Fn.cast (zi1 [ZI.of 2] (M:=3) (by decide) vok9_2 c1E ok_c1E) (congrArg vb ev_c1E_2))),(38,.len (za4 4 za8.d nE)),(39,.cmp (op:=.geq) (m:=(nE.length:Int)) (n:=3) (b:=true) .i64 len_nE),(43,.g (xD 93 92 kc_3 (za7 at0E (f:=za8.d)) (OV.const (.int .i64 0) rfl))),(45,.call (zgl 2 (by decide))),(46,.call (LR4SameS (zal 2) le2 (by decide)))] [(0,vb true)] [] h fun a w h=>qV (rT (.c (cB true)) h rfl ?_);rfl
theorem LRefineTight (s:zaz) (ps:List za8) (p:zds) (hr:SysRd s) (hpl:ps.length<=9223372036854775807) (htl:∀ r ∈ ps,TLb r.t) (hsl:p.states.length<=9223372036854775807) (hal:p.acts.length<=9223372036854775807) (hxl:∀ x ∈ p.states,x.locs.length<=9223372036854775807/\x.bits.length<=9223372036854775807):Fn Tryz.prog 6 [] [vG [.d (.sl 1 (s.vars.map zen)),.d (.sl 5 (s.bounds.map zan.d)),cI s.init.kind,cPs s.init.r.t.parts,cB s.init.r.t.k.neg,.d (nsl s.init.r.t.k.abs),cB s.init.r.eq,cFs s.init.kids,.d (.sl 3 (s.procs.map zbp.d)),.d (.sl 10 (s.acts.map zb9.d))],(vRs ps),vG [.d (.sl 2 (p.states.map zdk.d)),cIs p.acts]] (vb true) []:=by
 refine fB Tryz.func6 rfl 79 fun w H B a h=>Jq 0 [] [(1,(vRs ps)),(3,vp 0 0),(5,vp 1 0),(6,vb false)] [(0,.box [.d (.sl 1 (s.vars.map zen)),.d (.sl 5 (s.bounds.map zan.d)),cI s.init.kind,cPs s.init.r.t.parts,cB s.init.r.t.k.neg,.d (nsl s.init.r.t.k.abs),cB s.init.r.eq,cFs s.init.kids,.d (.sl 3 (s.procs.map zbp.d)),.d (.sl 10 (s.acts.map zb9.d))]),(1,.box [.d (.sl 2 (p.states.map zdk.d)),cIs p.acts])] h fun a w h=>qW (Je 2 [(0,.call (LAlive24))] [] [(16,vb false)] h fun a w h=>zas h (qU (za2 (qW (Je 2 [(3,.call (Lsmall24 s ps p hr hpl hsl hal hxl))] [16] [(21,vb (!(sm24 s ps p)))] h fun a w h=>cS (!(sm24 s ps p)) h (fun hc1=>?_) (fun hc2=>?_))))))
 ·refine Je 2 [] [21] [(6,vb true)] h fun a w h=>qV (za5 (rT (.c (cB true)) h rfl ?_));rfl
 have hsm9:sm24 s ps p=true:=by have:=hc2;simpa using this
 obtain ⟨hs3,hw9,hps,hsl9,hal9,hpx⟩:=sm24_ok hsm9 hr htl;have hcs9:∀ f ∈ (zag s ps p.states p.acts),f.okB 32400000 490/\f.nodes<=1536000:=fun f hf=>zir hs3 hw9 hps p.acts hsl9 hf
 have hcl9:(zag s ps p.states p.acts).length<=5:=by rw [zet];omega
 have hnl9:=newT_len s ps p;have lps9:=hps.1;have hnk9:=newT_ok hs3 hw9 hps hsl9;refine qU (za2 (Jg 2 [(3,.call (LNew s ps p hs3 hw9 hps hsl9 hal9 hpx))] [3,5,21] [(7,(vRs (zda s ps p)))] [0,1] [] h fun a w h=>qW (Jg 2 [(1,.len (za4 4 za8.d (zda s ps p))),(3,.len (za4 4 za8.d ps)),(4,.cmp (op:=.lss) (m:=((zda s ps p).length:Int)) (n:=(ps.length:Int)) (b:=false) .i64 (decide_eq_false (by have:=hnl9.1;omega)))] [] [(33,vb false)] [] [] h fun a w h=>zas h (qU (za2 (qW (Jg 2 [(1,.len (za4 4 za8.d (zda s ps p)))] [33] [(34,(vRs (zda s ps p))),(35,vI ((zda s ps p).length:Int)),(36,vI 0)] [] [] h fun a w h=>qZ ?_)))))))
 refine zc7 (ι:=(Nat)) (fun j=>j<=(zda s ps p).length)
   [6] (fun j=>[(36,vN j)])
   [] (fun j=>[])
   (fun j=>(zda s ps p).length - j) 0 ?_ h ?_
 ·exact bJ _
 clear h;rintro j a w hI h;refine Jg 2 [] [] [(37,vb (decide ((j:Int)<((zda s ps p).length:Int))))] [] [] h fun a w h=>qW (zae ((j:Int)<((zda s ps p).length:Int)) h (fun hc3 hc3'=>?_) (fun hc8 hc8'=>?_))
 ·refine qU (za2 (qW (qZ ?_)));obtain ⟨x4,hx4⟩:=gl (zda s ps p) j;refine Jg 2 [(1,.g (xD 39 34 kc_3 (za7 hx4 (f:=za8.d)) (OV.tmp 36 _)))] [37] [(9,vN j),(10,vp 2 0)] [] [(2,.box [cPs x4.t.parts,cB x4.t.k.neg,.d (nsl x4.t.k.abs),cB x4.eq])] h fun a w h=>qW (Je 3 [(2,.len (za4 4 za8.d ps))] [] [(44,vb (decide ((j:Int)<(ps.length:Int))))] h fun a w h=>zae ((j:Int)<(ps.length:Int)) h (fun hc4 hc4'=>?_) (fun hc5 hc5'=>?_))
  ·refine qW ?_;obtain ⟨x5,hx5⟩:=gl ps j;refine Je 3 [(3,.g (xD 48 46 kc_3 (za7 hx5 (f:=za8.d)) (OV.tmp 47 _))),(5,.call (Fn.cast (LR4Cmp x4 x5 ((hnk9 x4 (lM hx4)).mono (by decide) (by decide)) ((hps.2 x5 (lM hx5)).mono (by decide) (by decide))) (congrArg (vi .i64) (newT_old hx4 hx5)))),(6,.cmp (op:=.neq) (m:=0) (n:=0) (b:=false) .i64 rfl)] [44] [(51,vb false)] h fun a w h=>zas h (qU (za2 (wp_exit (zc0 (zat (za2 (Jh 3 [(0,.j1 j)] [9,10,51] [(36,vI ((j:Int)+1))] [2] [] h fun a w h=>za2 (zab (x:=j) (y:=j+1) h ?_ ?_))))))))
   ·have:=zac hx4;show j+1<=(zda s ps p).length;omega
   show (zda s ps p).length - (j+1)<(zda s ps p).length - j;have:=zac hx4;omega
  refine qU (za2 ?_);have ht9:Tgt x4:=(newT_apt s ps p j x4 (by have:=dF hc5;omega) hx4).1;refine Jg 3 [(1,.call (Fn.cast (LR4Tight x4 ((hnk9 x4 (lM hx4)).mono (by decide) (by decide))) (show (.tup [.agg [cPs (zam x4).1.t.parts,cB (zam x4).1.t.k.neg,.d (nsl (zam x4).1.t.k.abs),cB (zam x4).1.eq],.c (cI (zam x4).2)]:V) = .tup [.agg [cPs x4.t.parts,cB x4.t.k.neg,.d (nsl x4.t.k.abs),cB x4.eq],.c (cI 0)] from by rw [tgt_tight ht9])))] [44] [(11,vp 3 0),(12,vI 0)] [] [(3,.box [cPs x4.t.parts,cB x4.t.k.neg,.d (nsl x4.t.k.abs),cB x4.eq])] h fun a w h=>qW (Jg 4 [(1,.cmp (op:=.neq) (m:=0) (n:=0) (b:=false) .i64 rfl),(5,.call (LR4SameS x4 (hnk9 x4 (lM hx4)) (by decide)))] [11,12] [(64,vb false)] [3] [] h fun a w h=>zas h (qU (za2 (Je 4 [(2,.g (Op.sliceD (d:=67) (t:=65) (l:=0) (h:=j) (rows:=(zda s ps p).map za8.d) (rows':=((zda s ps p).take j).map za8.d) kc_3 (BO.no _) (BO.yes (k:=.i64) (i:=j) _ (OV.tmp 66 _)) (by first | omega | (simp at *;omega)) (by first | omega | (simp only [bC];omega) | (simp at *;omega)) (by simp [cH]))),(3,.len (za4 4 za8.d ((zda s ps p).take j)))] [9,64] [(67,(vRs ((zda s ps p).take j))),(68,vI (((zda s ps p).take j).length:Int)),(69,vI 0)] h fun a w h=>qZ ?_))))
  refine zc7 (ι:=(Nat)) (fun i=>i<=((zda s ps p).take j).length)
    [] (fun i=>[(69,vN i)])
    [] (fun i=>[])
    (fun i=>((zda s ps p).take j).length - i) 0 ?_ h ?_
  ·exact bJ _
  clear h;rintro i a w hI h;have ltj9:((zda s ps p).take j).length=j:=by rw [cC];omega
  refine Je 4 [] [] [(70,vb (decide ((i:Int)<(((zda s ps p).take j).length:Int))))] h fun a w h=>qW (zae ((i:Int)<(((zda s ps p).take j).length:Int)) h (fun hc6 hc6'=>?_) (fun hc7 hc7'=>?_))
  ·refine qU (za2 (qW (qZ ?_)));obtain ⟨x9,hx9⟩:=gl ((zda s ps p).take j) i;refine Jg 4 [(0,.g (xD 71 67 kc_3 (za7 hx9 (f:=za8.d)) (OV.tmp 69 _)))] [70] [(14,vp 4 0)] [] [(4,.box [cPs x9.t.parts,cB x9.t.k.neg,.d (nsl x9.t.k.abs),cB x9.eq])] h fun a w h=>Jg 5 [(2,.call (LR4Cmp x9 x4 ((hnk9 x9 (cO (lM hx9))).mono (by decide) (by decide)) ((hnk9 x4 (lM hx4)).mono (by decide) (by decide)))),(3,.cmp (op:=.eql) (m:=(zc3 x9 x4)) (n:=0) (b:=false) .i64 (beq_eq_false_iff_ne.2 ((newT_apt s ps p j x4 (by have:=dF hc5;omega) hx4).2 i x9 (by have:=zac hx9;omega) (by have:=hx9;rw [bW,if_pos (by have:=zac hx9;omega)] at this;exact this))))] [14] [(76,vb false)] [4] [] h fun a w h=>?_;refine zas h (qU (za6 (za2 (Jf 5 [(0,.j1 i)] [76] [(69,vI ((i:Int)+1))] h fun a w h=>za2 (zab (x:=i) (y:=i+1) h ?_ ?_)))))
   ·have:=zac hx9;show i+1<=((zda s ps p).take j).length;omega
   show ((zda s ps p).take j).length - (i+1)<((zda s ps p).take j).length - i;have:=zac hx9;omega
  refine wp_exit (zc0 (zc0 (zat (za6 (za2 (Jh 5 [(0,.j1 j)] [10,67,68,69,70] [(36,vI ((j:Int)+1))] [2] [] h fun a w h=>za2 (zab (x:=j) (y:=j+1) h ?_ ?_)))))))
  ·have:=zac hx4;show j+1<=(zda s ps p).length;omega
  show (zda s ps p).length - (j+1)<(zda s ps p).length - j;have:=zac hx4;omega
 refine exA (Jq 5 [] [(6,vb true)] [] h fun a w h=>qV (rT (.c (cB true)) h rfl ?_));rfl
section
variable {w:World} {n:Nat}
theorem rep_Abs:zek w n 69 zdk.d (fun a=>a.locs.length<=maxLen/\a.bits.length<=maxLen) :=
 ((zbj (n:=n) Tryz.underlying69 (by kernel_rfl) (.cons (k0:=1) rfl (by kernel_rfl) rep_ints (.cons (k0:=1) rfl (by kernel_rfl) rep_bools .nil))).map (fun p=>⟨p.1,p.2.1⟩) (fun _=>rfl) fun _ h=>⟨h.1.1,h.2.1.1⟩).mono (Nat.le_succ n)
end
section
variable {w:World} {n:Nat}
theorem rep_AbsS:zek w n 41 (slD 2 zdk.d) (fun xs=>xs.length<=maxLen/\∀ x ∈ xs,x.locs.length<=maxLen/\x.bits.length<=maxLen) :=
 zc6 (k:=2) Tryz.underlying41 (by kernel_rfl) (by decide) (fun _=>rfl) rep_Abs
theorem rep_Path:zek w n 44 zds.d (fun p=>(p.states.length<=maxLen/\∀ x ∈ p.states,x.locs.length<=maxLen/\x.bits.length<=maxLen)/\p.acts.length<=maxLen) :=
 ((zbj (n:=n) Tryz.underlying44 (by kernel_rfl) (.cons (k0:=1) rfl (by kernel_rfl) rep_AbsS (.cons (k0:=1) rfl (by kernel_rfl) rep_ints .nil))).map (fun p=>⟨p.1,p.2.1⟩) (fun _=>rfl) fun _ h=>⟨h.1,h.2.1.1⟩).mono (Nat.le_succ n)
end
theorem max_le9 {a:Nat} (h:a<=maxLen):a<=9223372036854775807:=cJ h (by decide)
theorem SRefineTightW (s:zaz) (ps:List za8) (p:zds) (hs:SysRd s) (hq:ps.length<=maxLen/\∀ r ∈ ps,TLb r.t) (hp:(p.states.length<=maxLen/\∀ x ∈ p.states,x.locs.length<=maxLen/\x.bits.length<=maxLen)/\p.acts.length<=maxLen):Fn Tryz.prog 6 [] [vd (zaz.d s),(vRs ps),vd (zds.d p)] (vb true) [] :=
 LRefineTight s ps p hs (max_le9 hq.1) hq.2 (max_le9 hp.1.1) (max_le9 hp.2) fun x hx=>⟨max_le9 (hp.1.2 x hx).1,max_le9 (hp.1.2 x hx).2⟩
end S
end Go.Proofs.YtlcijejaplagbaaGreat
section
namespace Go.Proofs.YtlcijejaplagbaaGreat.refineTightDone
open Go.ChangeShapes Go.WideShapes Go.ChangeAt Go.RowKit
open Go.ChangeMaps (open_string shut_string)
open Go.Proofs.YtlcijejaplagbaaGreat.S

theorem own:ownKnob Tryz.prog.godebug=none:=by kernel_rfl
theorem laidOut:laidOutB Tryz.prog=true:=by kernel_rfl

theorem lifted (os:Os) (started:os.Started) (H:Type) (enc:TypeId × Value->H) :
  ReturnsInHanded {} Tryz.checked os 6 .any (Rows.refineTightSpec.pre6 enc Tryz.prog Tryz.f6 Rows.refineTightRow.domain false) (Rows.refineTightSpec.post enc Tryz.prog Tryz.f6 false true false false):=by
 refine returnsInHanded_of_change (C:=Tryz.checked) own started (by kernel_rfl) Tryz.func6
  (ChangeSpec.witness6 (enc:=enc) (C:=Tryz.checked) false ⟨#[],#[.agg #[.slice none 0 0,.slice none 0 0,.int .i64 0,.slice none 0 0,.bool false,.slice none 0 0,.bool false,.slice none 0 0,.slice none 0 0,.slice none 0 0],.slice none 0 0,.agg #[.slice none 0 0,.slice none 0 0]],[]⟩ 12 (by kernel_rfl) (by kernel_rfl) (by kernel_rfl) (by kernel_rfl)) ?_
 intro W base args ds gs before hval0 hW hcnd _
 have hval:∀ (j:Nat) t v,Tryz.f6.params[j]?=some t->args[j]?=some v->Value.okWide Tryz.prog W .any base t v:=hval0
 have hW':=hW
 obtain ⟨p,q,hA0,hV,rfl,hfz,hnd⟩:=hW
 have hA:DataW.TrodAll enc Tryz.prog W 0 (fun _=>true) true Tryz.f6.params.toList args.toList ds p:=hA0
 rw [Tryz.params6] at hA hval
 obtain ⟨v0,vs0,d0,ds0,p0,q0,hargs,rfl,rfl,h0,r0⟩:=trodAll_cons hA
 obtain ⟨v1,vs1,d1,ds1,p1,q1,rfl,rfl,rfl,h1,r1⟩:=trodAll_cons r0
 obtain ⟨v2,vs2,d2,ds2,p2,q2,rfl,rfl,rfl,h2,r2⟩:=trodAll_cons r1
 obtain ⟨rfl,rfl,rfl⟩:=trodAll_nil r2
 obtain rfl:args=#[v0,v1,v2]:=by cases args;simp_all
 obtain ⟨rfl,rfl⟩:=trodVars_none hV
 have k0:=h0
 have lt0:∀ x ∈ p0,x.block<W.heap.size:=by obtain ⟨m,hm⟩:=k0;exact DataW.trod_lt m _ _ _ hm
 obtain ⟨a0,cs0,g0,rfl,dr0⟩:=rep_agg Tryz.underlying39 (fun _=>rep_Sys) (hval 0 39 v0 rfl rfl) h0
 have k1:=h1
 have lt1:∀ x ∈ p1,x.block<W.heap.size:=by obtain ⟨m,hm⟩:=k1;exact DataW.trod_lt m _ _ _ hm
 obtain ⟨a1,ao1,len1,cap1,g1,rfl,dr1⟩:=rep_one Tryz.underlying40 (fun _=>rep_RelsL) (hval 1 40 v1 rfl rfl) h1
 have k2:=h2
 have lt2:∀ x ∈ p2,x.block<W.heap.size:=by obtain ⟨m,hm⟩:=k2;exact DataW.trod_lt m _ _ _ hm
 obtain ⟨a2,cs2,g2,rfl,dr2⟩:=rep_agg Tryz.underlying44 (fun _=>rep_Path) (hval 2 44 v2 rfl rfl) h2
 clear hA0 hval0
 refine ((SRefineTightW a0 a1 a2 g0 g1 g2).calls (w:=W) (vals:=[.agg ⟨cs0⟩,.slice ao1 len1 cap1,.agg ⟨cs2⟩]) fun B=>⟨dr_vd dr0 B,dr1,dr_vd dr2 B,trivial⟩).mono fun e W' ⟨he,bel⟩=>?_
 subst he
 exact ⟨_,rfl,_,_,_,[],_,[],hW', trodAll_mk1 (shut_bool Tryz.underlying4 _),(trodAll_cons_mk (Below.trod laidOut (by kernel_rfl) (of_decide_eq_true (by kernel_rfl)) k0 bel lt0) (trodAll_cons_mk (Below.trod laidOut (by kernel_rfl) (of_decide_eq_true (by kernel_rfl)) k1 bel lt1) (trodAll_cons_mk (Below.trod laidOut (by kernel_rfl) (of_decide_eq_true (by kernel_rfl)) k2 bel lt2) trodAll_mk0))),rfl,bel.below.frame _,fun h=>by cases h⟩

theorem over:Rows.refineTightRow.holds Tryz.pinned (OpenSpec.ofChange Rows.refineTightSpec) :=
 OpenClaim.holds_of_wide 6 Tryz.f6 rfl rfl rfl rfl rfl rfl rfl ⟨rfl,rfl,rfl,rfl,rfl⟩ rfl rfl rfl rfl rfl (by kernel_rfl) Tryz.func6 (by kernel_rfl)
  (of_decide_eq_true (by kernel_rfl)) (by unfold Func.isWrapper;first | (rw [if_pos (by decide +kernel)];kernel_rfl) | (rw [if_neg (by decide +kernel)];exact ⟨rfl,rfl⟩))
  (fun os started H enc _=>lifted os started H enc)

theorem proved:Rows.RefineTightSaid:=over
end Go.Proofs.YtlcijejaplagbaaGreat.refineTightDone
end
