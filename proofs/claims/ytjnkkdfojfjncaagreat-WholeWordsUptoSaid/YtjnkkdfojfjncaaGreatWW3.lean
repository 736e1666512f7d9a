/-
  Part 3 of the proof of the statement WholeWords. It holds for every input.
-/
import Derived.Test.YtjnkkdfojfjncaaGreatWW2
import Derived.ScopeJumps
import Derived.RangeFuncBound
import Derived.Shelf.Abstract
import Derived.Shelf.RegionOpen
import Derived.OwnWalkIn
import Derived.TacticsInMore
import Derived.LoopNIn
import Derived.LoopIn
set_option maxRecDepth 100000
set_option maxHeartbeats 20000000
open Go.RowKit
open List renaming range->bA,length_map->bB,getElem?_eq_some_iff->bC,range_succ->bF,getElem?_eq_getElem->bH,all_eq_true->bI,getElem?_map->bK,getElem?_append_left->bN,mem_map->bO,map_cons->bP,length_append->bQ,mem_singleton->bR,map_nil->bS,mem_of_getElem?->bT,mem_flatMap->bV,map_append->bW,mem_append->bX,getElem?_range->bY,mem_cons_self->cA,mem_cons_of_mem->cC,mem_cons->cD,append_assoc->cE,mem_range->cF,mem_filter->cH,getElem_mem->cJ,filter_cons_of_pos->cK,getElem?_eq_none->cL,getElem?_concat_length->cM,length_nil->cN,length_drop->cP,take_of_length_le->cR,mem_flatten->cT,flatten_cons->cU,flatten_nil->cV,append_nil->cW,length_replicate->cX,mem_append_left->cY,getElem?_append_right->cZ,contains_iff_mem->c7,filter_cons_of_neg->c8
open Nat renaming zero_le->bE,le_refl->bG,mod_eq_of_lt->bZ,sub_zero->cG,not_lt_zero->cO,add_comm->cQ
open Bool renaming and_eq_true->bJ,eq_false_or_eq_true->bM,or_eq_true->bU
open Int renaming toNat_natCast->bL,le_refl->b7,toNat_of_nonneg->b8
open Array renaming getElem?_eq_some_iff->b9
open Option renaming map_eq_some_iff->dA,isSome_iff_exists->dB
open Go.Proofs.Tryz renaming prog->dC
open Go.Proofs.YtjnkkdfojfjncaaGreat.S.OV renaming tmp->dD
namespace Go.Proofs.YtjnkkdfojfjncaaGreat
namespace S
variable {n i j x es t o m:Nat} {ks:List Int} {k:Int} {ns:List za4} {σ:Sq9} {α ι:Type} {p:PF} {xs out:List Bool} {b:Bool} {al:List PF} {e:E} {f:F} {H H0:Im} {a:Act} {w w0:World} {ty xt el:TypeId} {rows:List (List C)} {rs sl:List (Nat × V)} {tl:Nat->Option L} {K:List Nat} {lc qs:List (Nat × L)} {P:Program} {y:Operand} {wd:zaf} {B0:Bl} {rest:Code} {Q:Exit->Act->World->Prop} {ds:List Deferred} {fn:Func} {res:V} {G:Nat->Bool->Bool}
section
variable {n:Nat} {hit:Nat->Nat->Prop} {at_:Nat->Nat}
structure Cnt (n:Nat) (hit:Nat->Nat->Prop) (at_:Nat->Nat):Prop where
  z:at_ 0=0
  yes:∀ x,0<n->hit (at_ x) x->at_ (x+1)=(at_ x+1) % n
  no:∀ x,¬ (0<n/\hit (at_ x) x)->at_ (x+1)=at_ x
theorem Cnt.lt (h:Cnt n hit at_) (hn:0<n):∀ x,at_ x<n
 | 0=>by rw [h.z];exact hn
 | x+1=>by
  by_cases hx:hit (at_ x) x
  ·rw [h.yes x hn hx];exact Nat.mod_lt _ hn
  ·rw [h.no x (fun q=>hx q.2)];exact h.lt hn x
theorem Cnt.first (h:Cnt n hit at_):∀ (d i:Nat),hit (at_ i) (i+d)->∃ j,i<=j/\at_ j=at_ i/\hit (at_ i) j
 | 0,i,hd=>⟨i,bG _,rfl,hd⟩
 | d+1,i,hd=>by
  by_cases hx:hit (at_ i) i
  ·exact ⟨i,bG _,rfl,hx⟩
  ·have e:=h.no i (fun q=>hx q.2)
   obtain ⟨j,a,b,c⟩:=h.first d (i+1) (by rw [e,show i+1+d=i+(d+1) by omega];exact hd)
   exact ⟨j,by omega,by rw [b,e],by rw [<- e];exact c⟩
theorem cnt_to (h:Cnt n hit at_) (hg:∀ i,∃ j,i<=j/\at_ j=0/\(0<n->hit 0 j)):∀ m,m<n->∀ i,∃ j,i<=j/\at_ j=m/\hit m j
 | 0,hm,i=>by obtain ⟨j,a,b,c⟩:=hg i;exact ⟨j,a,b,c hm⟩
 | m+1,hm,i=>by
  obtain ⟨j,a,b,c⟩:=cnt_to h hg m (by omega) i
  have e:at_ (j+1)=m+1:=by rw [h.yes j (by omega) (by rw [b];exact c),b,bZ hm]
  obtain ⟨j2,a2,b2,_⟩:=hg (j+1)
  refine Classical.byContradiction fun h0=>?_
  have stay:∀ d,at_ (j+1+d)=m+1:=by
   intro d
   induction d with
   | zero=>exact e
   | succ d ih =>
    rw [<- Nat.add_assoc,h.no _ (fun q=>h0 ⟨j+1+d,by omega,ih,by rw [ih] at q;exact q.2⟩),ih]
  have:=stay (j2 - (j+1))
  rw [show j+1+(j2 - (j+1))=j2 by omega,b2] at this
  omega
theorem cnt_of (h:Cnt n hit at_) (hg:∀ m,m<n->∀ i,∃ j,i<=j/\hit m j) (i:Nat):∃ j,i<=j/\at_ j=0/\(0<n->hit 0 j):=by
 by_cases hn:0<n
 ·have fst:∀ i,∃ j,i<=j/\at_ j=at_ i/\hit (at_ i) j:=fun i=>by
   obtain ⟨j,a,b⟩:=hg _ (h.lt hn i) i
   exact h.first (j - i) i (by rw [show i+(j - i)=j by omega];exact b)
  have go:∀ d i,n - at_ i<=d->∃ j,i<=j/\at_ j=0:=by
   intro d
   induction d with
   | zero=>intro i hd;have:=h.lt hn i;omega
   | succ d ih =>
    intro i hd
    obtain ⟨j,a,b,c⟩:=fst i
    have e:=h.yes j hn (by rw [b];exact c)
    by_cases hm:at_ i+1=n
    ·exact ⟨j+1,by omega,by rw [e,b,hm,Nat.mod_self]⟩
    ·have hl:=h.lt hn i
     rw [b,bZ (by omega)] at e
     obtain ⟨k,a2,b2⟩:=ih (j+1) (by rw [e];omega)
     exact ⟨k,by omega,b2⟩
  obtain ⟨j,a,b⟩:=go n i (by omega)
  obtain ⟨k,a2,b2,c2⟩:=fst j
  exact ⟨k,by omega,by rw [b2,b],fun _=>by rw [<- b];exact c2⟩
 ·have:∀ x,at_ x=0:=by
   intro x
   induction x with
   | zero=>exact h.z
   | succ x ih=>rw [h.no x (fun q=>hn q.1),ih]
  exact ⟨i,bG _,this i,fun q=>absurd q hn⟩
end
def zac (n:Nat) (ks:List Int):List Int:=ks.foldl (fun out i=>if (decide (0<=i) && decide (i<(n:Int)) && !out.contains i)=true then out++[i] else out) []
theorem zc6 {x:Int}:x ∈ zac n ks ↔ x ∈ ks/\0<=x/\x<(n:Int):=by
 have key:∀ (ks out:List Int),x ∈ ks.foldl (fun out i=>if (decide (0<=i) && decide (i<(n:Int)) && !out.contains i)=true then out++[i] else out) out ↔ x ∈ out\/(x ∈ ks/\0<=x/\x<(n:Int)):=by
  intro ks
  induction ks with
  | nil=>intro out;simp
  | cons k ks ih =>
   intro out
   rw [List.foldl_cons,ih]
   by_cases h:(decide (0<=k) && decide (k<(n:Int)) && !out.contains k)=true
   ·rw [if_pos h]
    simp only [bJ,decide_eq_true_eq] at h
    constructor
    ·rintro (hx | hx)
     ·rcases bX.1 hx with hx | hx
      ·exact .inl hx
      ·rw [bR.1 hx];exact .inr ⟨cA,h.1.1,h.1.2⟩
     ·exact .inr ⟨cC _ hx.1,hx.2⟩
    ·rintro (hx | ⟨hx,h2⟩)
     ·exact .inl (cY _ hx)
     ·rcases cD.1 hx with rfl | hx
      ·exact .inl (by simp)
      ·exact .inr ⟨hx,h2⟩
   ·rw [if_neg h]
    constructor
    ·rintro (hx | hx)
     ·exact .inl hx
     ·exact .inr ⟨cC _ hx.1,hx.2⟩
    ·rintro (hx | ⟨hx,h2⟩)
     ·exact .inl hx
     ·rcases cD.1 hx with rfl | hx
      ·refine .inl (Classical.byContradiction fun h3=>h ?_)
       simp [h2,h3]
      ·exact .inr ⟨hx,h2⟩
 unfold zac
 rw [key]
 simp
def zbr (al:List PrD) (p:PrD):List PrD × Int:=if zbf (fun q=>decide (q=p)) al 0<0 then (al++[p],(al.length:Int)) else (al,zbf (fun q=>decide (q=p)) al 0)
def zaq (al:List PrD) (ps:List PrD):List PrD × List Int:=ps.foldl (fun s p=>((zbr s.1 p).1,s.2++[(zbr s.1 p).2])) (al,[])
def setI (g:GbD) (m:Int):List Int:=(g.sets[m.toNat]?).getD []
def zcb (g:GbD) (p:PrD):Int:=if (decide (0<g.sets.length) && (setI g p.nd).contains p.st)=true then (p.nd+1) % (g.sets.length:Int) else p.nd
def zen (g:GbD) (p:PrD):Bool:=decide (p.nd=0) && (decide (g.sets.length=0) || (setI g 0).contains p.st)
def gnd (g:GbD) (k:Int):za4:=(ndI g.nodes k).getD ⟨[],[],[]⟩
def zbk (g:GbD) (p:PrD):List PrD:=(zac g.nodes.length (gnd g p.st).next).map fun k=>⟨k,zcb g p⟩
structure OfS where
  al:List PrD
  nodes:List za4
def zf7 (g:GbD) (s:OfS) (p:PrD):OfS:=⟨(zaq s.al (zbk g p)).1,s.nodes++[⟨(gnd g p.st).must,(gnd g p.st).never,(zaq s.al (zbk g p)).2⟩]⟩
def runO (g:GbD):Nat->OfS->Option OfS
  | 0,_=>none
  | n+1,s=>match s.al[s.nodes.length]? with
    | none=>some s
    | some p=>if s.al.length>4096 then none else runO g n (zf7 g s p)
def zc9 (g:GbD):List PrD × List Int:=zaq [] ((zac g.nodes.length g.first).map fun k=>⟨k,0⟩)
def autO (g:GbD) (s:OfS):zca:=⟨s.nodes,(zc9 g).2,s.al.map (zen g)⟩
theorem numP_spec {al:List PrD} {p:PrD} (hn:al.Nodup):∃ ext,(zbr al p).1=al++ext/\(al++ext).Nodup/\(∀ q ∈ ext,q=p)/\∃ k:Nat,(zbr al p).2=(k:Int)/\(al++ext)[k]?=some p:=by
 unfold zbr
 rcases zc2 (fun q=>decide (q=p)) al 0 with ⟨h1,h2⟩ | ⟨k,x,h1,h2,h3,_⟩
 ·rw [h1,if_pos (by decide)]
  refine ⟨[p],rfl,?_,fun q hq=>bR.1 hq,al.length,rfl,by simp⟩
  refine List.nodup_append.2 ⟨hn,by simp,fun a ha b hb e=>?_⟩
  rw [bR.1 hb] at e
  have:=h2 a ha
  rw [decide_eq_false_iff_not] at this
  exact this e
 ·rw [h1,if_neg (by omega)]
  have h3:x=p:=of_decide_eq_true h3
  subst h3
  exact ⟨[],by simp,by simpa using hn,fun q hq=>(by cases hq),k,by simp,by simpa using h2⟩
theorem zg8:∀ (ps:List PrD) (al:List PrD) (ns:List Int),al.Nodup->∃ ext nums,ps.foldl (fun s p=>((zbr s.1 p).1,s.2++[(zbr s.1 p).2])) (al,ns)=(al++ext,ns++nums)/\(al++ext).Nodup/\(∀ q ∈ ext,q ∈ ps)/\(∀ x ∈ nums,∃ (k:Nat) (p:PrD),x=(k:Int)/\p ∈ ps/\(al++ext)[k]?=some p)/\∀ p ∈ ps,∃ k:Nat,(k:Int) ∈ nums/\(al++ext)[k]?=some p
 | [],al,ns,hn=>⟨[],[],by simp,by simpa using hn,fun q hq=>(by cases hq),fun x hx=>(by cases hx),fun p hp=>(by cases hp)⟩
 | p :: ps,al,ns,hn=>by
  obtain ⟨e1,a1,a2,a3,k,a4,a5⟩:=numP_spec (p:=p) hn
  obtain ⟨e2,nums,b1,b2,b3,b4,b5⟩:=zg8 ps (al++e1) (ns++[(k:Int)]) a2
  have hk:(al++(e1++e2))[k]?=some p:=by
   rw [<- cE,bN (bC.1 a5).1];exact a5
  refine ⟨e1++e2,(k:Int) :: nums,?_,?_,fun q hq=>?_,fun x hx=>?_,fun q hq=>?_⟩
  ·rw [List.foldl_cons]
   show List.foldl _ ((zbr al p).1,ns++[(zbr al p).2]) ps=_
   rw [a1,a4,b1];simp
  ·rw [<- cE];exact b2
  ·rcases bX.1 hq with hq | hq
   ·rw [a3 q hq];exact cA
   ·exact cC _ (b3 q hq)
  ·rcases cD.1 hx with rfl | hx
   ·exact ⟨k,p,rfl,cA,hk⟩
   ·obtain ⟨j,q,c1,c2,c3⟩:=b4 x hx
    exact ⟨j,q,c1,cC _ c2,by rw [<- cE];exact c3⟩
  ·rcases cD.1 hq with rfl | hq
   ·exact ⟨k,cA,hk⟩
   ·obtain ⟨j,c1,c2⟩:=b5 q hq
    exact ⟨j,cC _ c1,by rw [<- cE];exact c2⟩
def PrOk (g:GbD) (p:PrD):Prop:=(0<=p.st/\p.st<(g.nodes.length:Int))/\0<=p.nd/\(p.nd=0\/p.nd<(g.sets.length:Int))
structure OInv (g:GbD) (s:OfS):Prop where
  nd:s.al.Nodup
  ok:∀ p ∈ s.al,PrOk g p
  len:s.nodes.length<=s.al.length
  fst:(∀ x ∈ (zc9 g).2,∃ (k:Nat) (p:PrD),x=(k:Int)/\(p.st ∈ g.first/\p.nd=0)/\s.al[k]?=some p)/\∀ k ∈ g.first,0<=k->k<(g.nodes.length:Int)->∃ j:Nat,(j:Int) ∈ (zc9 g).2/\s.al[j]?=some ⟨k,0⟩
  node:∀ (i:Nat) (p:PrD) (m:za4),s.al[i]?=some p->s.nodes[i]?=some m->m.must=(gnd g p.st).must/\m.never=(gnd g p.st).never/\(∀ x ∈ m.next,∃ (k:Nat) (q:PrD),x=(k:Int)/\q ∈ zbk g p/\s.al[k]?=some q)/\∀ q ∈ zbk g p,∃ k:Nat,(k:Int) ∈ m.next/\s.al[k]?=some q
theorem beh_ok {g:GbD} {p:PrD} (h:PrOk g p):0<=zcb g p/\(zcb g p=0\/zcb g p<(g.sets.length:Int)):=by
 unfold zcb
 split
 ·rename_i hh
  rw [bJ,decide_eq_true_eq] at hh
  have:(0:Int)<(g.sets.length:Int):=by omega
  exact ⟨Int.emod_nonneg _ (by omega),.inr (Int.emod_lt_of_pos _ this)⟩
 ·exact h.2
theorem aft_ok {g:GbD} {p q:PrD} (h:PrOk g p) (hq:q ∈ zbk g p):PrOk g q:=by
 unfold zbk at hq
 obtain ⟨k,hk,rfl⟩:=bO.1 hq
 exact ⟨(zc6.1 hk).2,beh_ok h⟩
theorem beg_inv (g:GbD):OInv g ⟨(zc9 g).1,[]⟩:=by
 obtain ⟨ext,nums,a1,a2,a3,a4,a5⟩:=zg8 ((zac g.nodes.length g.first).map fun k=>(⟨k,0⟩:PrD)) [] [] List.nodup_nil
 have e:zc9 g=(ext,nums):=by unfold zc9 zaq;rw [a1];simp
 rw [List.nil_append] at a2 a4 a5
 have hp:∀ p ∈ ext,PrOk g p:=fun p hp=>by
  obtain ⟨k,hk,rfl⟩:=bO.1 (a3 p hp)
  exact ⟨(zc6.1 hk).2,b7 _,.inl rfl⟩
 refine ⟨by rw [e];exact a2,by rw [e];exact hp,bE _,?_,fun i p m _ h=>by simp at h⟩
 rw [e]
 refine ⟨fun x hx=>?_,fun k hk h0 h1=>?_⟩
 ·obtain ⟨j,p,b1,b2,b3⟩:=a4 x hx
  obtain ⟨k,hk,rfl⟩:=bO.1 b2
  exact ⟨j,_,b1,⟨(zc6.1 hk).1,rfl⟩,b3⟩
 ·exact a5 _ (bO.2 ⟨k,zc6.2 ⟨hk,h0,h1⟩,rfl⟩)
theorem stp_inv {g:GbD} {s:OfS} {p:PrD} (h:OInv g s) (hp:s.al[s.nodes.length]?=some p):OInv g (zf7 g s p):=by
 obtain ⟨ext,nums,a1,a2,a3,a4,a5⟩:=zg8 (zbk g p) s.al [] h.nd
 have e:zaq s.al (zbk g p)=(s.al++ext,nums):=by unfold zaq;rw [a1];simp
 have hpk:=h.ok p (bT hp)
 have up:∀ (k:Nat) (q:PrD),s.al[k]?=some q->(s.al++ext)[k]?=some q:=fun k q hq=>by
  rw [bN (bC.1 hq).1];exact hq
 unfold zf7
 rw [e]
 refine ⟨a2,fun q hq=>?_,?_,⟨fun x hx=>?_,fun k hk h0 h1=>?_⟩,fun i q m hi hm=>?_⟩
 ·rcases bX.1 hq with hq | hq
  ·exact h.ok q hq
  ·exact aft_ok hpk (a3 q hq)
 ·have:=(bC.1 hp).1
  simp;omega
 ·obtain ⟨k,q,b1,b2,b3⟩:=h.fst.1 x hx;exact ⟨k,q,b1,b2,up k q b3⟩
 ·obtain ⟨j,b1,b2⟩:=h.fst.2 k hk h0 h1;exact ⟨j,b1,up _ _ b2⟩
 ·have hm:(s.nodes++[(⟨(gnd g p.st).must,(gnd g p.st).never,nums⟩:za4)])[i]?=some m:=hm
  by_cases hin:i<s.nodes.length
  ·rw [bN hin] at hm
   have hi2:s.al[i]?=some q:=by
    have hl:=h.len
    rw [show (OfS.al ⟨s.al++ext,_⟩)[i]?=(s.al++ext)[i]? from rfl,bN (by omega)] at hi
    exact hi
   obtain ⟨c1,c2,c3,c4⟩:=h.node i q m hi2 hm
   exact ⟨c1,c2,fun x hx=>by obtain ⟨k,r,d1,d2,d3⟩:=c3 x hx;exact ⟨k,r,d1,d2,up k r d3⟩,fun r hr=>by obtain ⟨k,d1,d2⟩:=c4 r hr;exact ⟨k,d1,up _ _ d2⟩⟩
  ·have:i=s.nodes.length:=by
    have:=(bC.1 hm).1
    simp at this;omega
   subst this
   have hq:q=p:=by
    rw [show (OfS.al ⟨s.al++ext,_⟩)[s.nodes.length]?=(s.al++ext)[s.nodes.length]? from rfl,up _ _ hp] at hi
    exact (Option.some.inj hi).symm
   subst hq
   rw [cZ (bG _),Nat.sub_self] at hm
   have hm:=Option.some.inj hm
   subst hm
   exact ⟨rfl,rfl,fun x hx=>by obtain ⟨k,r,d1,d2,d3⟩:=a4 x hx;exact ⟨k,r,d1,d2,d3⟩,a5⟩
theorem runO_inv {g:GbD}:∀ (n:Nat) (s t:OfS),OInv g s->runO g n s=some t->OInv g t/\t.nodes.length=t.al.length
 | 0,s,t,_,h=>by cases h
 | n+1,s,t,hs,h=>by
  unfold runO at h
  split at h
  ·rename_i e
   injection h with h
   subst h
   refine ⟨hs,?_⟩
   have:=List.getElem?_eq_none_iff.1 e
   have:=hs.len
   omega
  ·rename_i p e
   split at h
   ·cases h
   ·exact runO_inv n _ t (stp_inv hs e) h
def zgk (a:zca):GbD:=⟨a.nodes,a.first,[((bA a.nodes.length).filter fun i=>(a.good[i]?).getD false).map fun i:Nat=>(i:Int)]⟩
theorem ze3 {a:zca} {x:Int}:x ∈ (((bA a.nodes.length).filter fun i=>(a.good[i]?).getD false).map fun i:Nat=>(i:Int)) ↔ ∃ k:Nat,x=(k:Int)/\k<a.nodes.length/\a.good[k]?=some true:=by
 simp only [bO,cH,cF]
 constructor
 ·rintro ⟨k,⟨h1,h2⟩,rfl⟩
  refine ⟨k,rfl,h1,?_⟩
  cases e:a.good[k]? with
  | none=>rw [e] at h2;cases h2
  | some b=>rw [e] at h2;cases b;cases h2;rfl
 ·rintro ⟨k,rfl,h1,h2⟩
  exact ⟨k,⟨h1,by rw [h2];rfl⟩,rfl⟩
theorem gnd_some {g:GbD} (h0:0<=k) (h1:k<(g.nodes.length:Int)):ndI g.nodes k=some (gnd g k):=by
 unfold gnd ndI
 rw [if_pos h0,bH (by omega)];rfl
theorem nd_bd {n:za4} (h:ndI ns k=some n):0<=k/\k<(ns.length:Int)/\ns[k.toNat]?=some n:=by
 unfold ndI at h
 split at h
 ·have:=(bC.1 h).1
  exact ⟨by assumption,by omega,h⟩
 ·cases h
theorem of_acc {g:GbD} {t:OfS} (h:runO g n ⟨(zc9 g).1,[]⟩=some t):AccG (zgk (autO g t)) σ ↔ AccG g σ:=by
 obtain ⟨hI,hL⟩:=runO_inv n _ t (beg_inv g) h
 have hit0:∀ (p:PrD),PrOk g p->(zcb g p).toNat=(if 0<g.sets.length/\p.st ∈ setI g p.nd then (p.nd.toNat+1) % g.sets.length else p.nd.toNat):=fun p hp=>by
  unfold zcb
  by_cases hc:0<g.sets.length/\p.st ∈ setI g p.nd
  ·rw [if_pos (by simp [hc]),if_pos hc]
   have:p.nd=(p.nd.toNat:Int):=(b8 hp.2.1).symm
   rw [this,show ((p.nd.toNat:Nat):Int)+1=((p.nd.toNat+1:Nat):Int) by omega,<- Int.natCast_emod,bL,bL]
  ·rw [if_neg (by simpa using hc),if_neg hc]
 constructor
 ·rintro ⟨ρ,h0,h1,h2⟩
  -- the pairs of the run
  have hpr:∀ i,∃ (k:Nat) (p:PrD) (m:za4),ρ i=(k:Int)/\t.al[k]?=some p/\t.nodes[k]?=some m/\fitL m (σ i)/\ρ (i+1) ∈ m.next:=fun i=>by
   obtain ⟨m,a,b,c⟩:=h1 i
   obtain ⟨d1,d2,d3⟩:=nd_bd a
   have d2:ρ i<(t.nodes.length:Int):=d2
   have d3:t.nodes[(ρ i).toNat]?=some m:=d3
   refine ⟨(ρ i).toNat,_,m,by omega,bH (by omega),d3,b,c⟩
  let κ:Nat->Nat:=fun i=>(hpr i).choose
  let π:Nat->PrD:=fun i=>(hpr i).choose_spec.choose
  have hκ:∀ i,ρ i=(κ i:Int):=fun i=>(hpr i).choose_spec.choose_spec.choose_spec.1
  have hπ:∀ i,t.al[κ i]?=some (π i):=fun i=>(hpr i).choose_spec.choose_spec.choose_spec.2.1
  have hok:∀ i,PrOk g (π i):=fun i=>hI.ok _ (bT (hπ i))
  have hst:∀ i,fitL (gnd g (π i).st) (σ i)/\π (i+1) ∈ zbk g (π i):=fun i=>by
   obtain ⟨m,b1,b2,b3,b4⟩:=(hpr i).choose_spec.choose_spec
   obtain ⟨c1,c2,c3,c4⟩:=hI.node _ _ _ (hπ i) b3
   refine ⟨by unfold fitL at *;rw [<- c1,<- c2];exact b4.1,?_⟩
   obtain ⟨k,q,d1,d2,d3⟩:=c3 _ b4.2
   have:k=κ (i+1):=by have:=hκ (i+1);omega
   subst this
   rw [hπ (i+1)] at d3
   rw [Option.some.inj d3];exact d2
  have hz:(π 0).st ∈ g.first/\(π 0).nd=0:=by
   obtain ⟨k,q,d1,d2,d3⟩:=hI.fst.1 _ h0
   have:k=κ 0:=by have:=hκ 0;omega
   subst this
   rw [hπ 0] at d3
   rw [Option.some.inj d3];exact d2
  have hnx:∀ i,(π (i+1)).st ∈ (gnd g (π i).st).next/\(π (i+1)).nd=zcb g (π i):=fun i=>by
   have:=(hst i).2
   unfold zbk at this
   obtain ⟨k,hk,e⟩:=bO.1 this
   rw [<- e];exact ⟨(zc6.1 hk).1,rfl⟩
  have cn:Cnt g.sets.length (fun m x=>(π x).st ∈ setI g (m:Int)) (fun x=>(π x).nd.toNat):=by
   refine ⟨by show (π 0).nd.toNat=0;rw [hz.2];rfl,fun x hn hx=>?_,fun x hx=>?_⟩
   ·show (π (x+1)).nd.toNat=_
    rw [(hnx x).2,hit0 _ (hok x),if_pos ⟨hn,by rw [b8 (hok x).2.1] at hx;exact hx⟩]
   ·show (π (x+1)).nd.toNat=_
    rw [(hnx x).2,hit0 _ (hok x),if_neg (fun q=>hx ⟨q.1,by show _ ∈ setI g (((π x).nd.toNat:Nat):Int);rw [b8 (hok x).2.1];exact q.2⟩)]
  refine ⟨fun i=>(π i).st,hz.1,fun i=>⟨_,gnd_some (hok i).1.1 (hok i).1.2,(hst i).1,(hnx i).1⟩,fun s hs i=>?_⟩
  obtain ⟨m,hm⟩:=List.mem_iff_getElem?.1 hs
  have hml:=(bC.1 hm).1
  obtain ⟨j,a,b,c⟩:=cnt_to cn (fun i=>by
   obtain ⟨j,a,b⟩:=h2 _ (bR.2 rfl) i
   obtain ⟨k,e1,e2,e3⟩:=(ze3 (a:=autO g t)).1 b
   have:k=κ j:=by have:=hκ j;omega
   subst this
   have e3:(t.al.map (zen g))[κ j]?=some true:=e3
   rw [bK,hπ j] at e3
   have e3:zen g (π j)=true:=by simpa using e3
   unfold zen at e3
   rw [bJ,decide_eq_true_eq,bU,decide_eq_true_eq] at e3
   refine ⟨j,a,by show (π j).nd.toNat=0;rw [e3.1];rfl,fun hn=>?_⟩
   rcases e3.2 with e4 | e4
   ·omega
   ·exact c7.1 e4) m hml i
  refine ⟨j,a,?_⟩
  have c:(π j).st ∈ setI g (m:Int):=c
  unfold setI at c
  rw [bL,hm] at c
  exact c
 ·rintro ⟨ρ,h0,h1,h2⟩
  let at_:Nat->Int:=fun x=>Nat.rec 0 (fun x c=>zcb g ⟨ρ x,c⟩) x
  have hb:∀ i,0<=ρ i/\ρ i<(g.nodes.length:Int):=fun i=>by
   obtain ⟨n,a,_⟩:=h1 i;have:=nd_bd a;exact ⟨this.1,this.2.1⟩
  have hs:∀ i,at_ (i+1)=zcb g ⟨ρ i,at_ i⟩:=fun i=>rfl
  have hok:∀ i,PrOk g ⟨ρ i,at_ i⟩:=by
   intro i
   induction i with
   | zero=>exact ⟨hb 0,b7 _,.inl rfl⟩
   | succ i ih=>exact ⟨hb (i+1),beh_ok ih⟩
  have hnd:∀ i,ndI g.nodes (ρ i)=some (gnd g (ρ i)):=fun i=>gnd_some (hb i).1 (hb i).2
  have haft:∀ i,(⟨ρ (i+1),at_ (i+1)⟩:PrD) ∈ zbk g ⟨ρ i,at_ i⟩:=fun i=>by
   unfold zbk
   refine bO.2 ⟨ρ (i+1),zc6.2 ⟨?_,hb (i+1)⟩,by rw [hs]⟩
   obtain ⟨n,a,_,c⟩:=h1 i
   rw [hnd i] at a;injection a with a;rw [a];exact c
  -- numbers
  obtain ⟨j0,f1,f2⟩:=hI.fst.2 _ h0 (hb 0).1 (hb 0).2
  have hnode:∀ (x:Nat) (i:Nat),t.al[x]?=some ⟨ρ i,at_ i⟩->∃ m,t.nodes[x]?=some m:=fun x i hx=>by
   have:=(bC.1 hx).1
   exact ⟨_,bH (by omega)⟩
  obtain ⟨κ,e0,hκ⟩:=choose_on (P:=fun (i:Nat) (x:Nat)=>t.al[x]?=some ⟨ρ i,at_ i⟩) (R:=fun x y=>∃ m,t.nodes[x]?=some m/\(y:Int) ∈ m.next) (a0:=j0) f2 fun i x hx=>by
   obtain ⟨m,hm⟩:=hnode x i hx
   obtain ⟨_,_,_,c4⟩:=hI.node x _ m hx hm
   obtain ⟨y,d1,d2⟩:=c4 _ (haft i)
   exact ⟨y,d2,m,hm,d1⟩
  have cn:Cnt g.sets.length (fun m x=>ρ x ∈ setI g (m:Int)) (fun x=>(at_ x).toNat):=by
   refine ⟨rfl,fun x hn hx=>?_,fun x hx=>?_⟩
   ·show (at_ (x+1)).toNat=_
    rw [hs,hit0 _ (hok x),if_pos ⟨hn,by rw [b8 (hok x).2.1] at hx;exact hx⟩]
   ·show (at_ (x+1)).toNat=_
    rw [hs,hit0 _ (hok x),if_neg (fun q=>hx ⟨q.1,by show _ ∈ setI g (((at_ x).toNat:Nat):Int);rw [b8 (hok x).2.1];exact q.2⟩)]
  refine ⟨fun i=>(κ i:Int),by show ((κ 0:Nat):Int) ∈ _;rw [e0];exact f1,fun i=>?_,fun s hs2 i=>?_⟩
  ·obtain ⟨m,hm,hy⟩:=(hκ i).2
   obtain ⟨c1,c2,_,_⟩:=hI.node _ _ m (hκ i).1 hm
   refine ⟨m,?_,?_,hy⟩
   ·show ndI t.nodes (κ i:Int)=some m
    unfold ndI;rw [if_pos (by omega),bL];exact hm
   ·obtain ⟨n,a,b,_⟩:=h1 i
    rw [hnd i] at a;injection a with a;subst a
    unfold fitL at *;rw [c1,c2];exact b
  ·rw [bR.1 hs2]
   obtain ⟨j,a,b,c⟩:=cnt_of cn (fun m hm i=>h2 _ (by unfold setI;rw [bL,bH hm];exact cJ _) i) i
   refine ⟨j,a,(ze3 (a:=autO g t)).2 ⟨κ j,rfl,?_,?_⟩⟩
   ·show κ j<t.nodes.length
    have:=(bC.1 (hκ j).1).1;omega
   ·show (t.al.map (zen g))[κ j]?=some true
    rw [bK,(hκ j).1]
    have hz:at_ j=0:=by have:=(hok j).2.1;have b:(at_ j).toNat=0:=b;have:0<=at_ j:=this;omega
    have:zen g ⟨ρ j,at_ j⟩=true:=by
     rw [show (⟨ρ j,at_ j⟩:PrD)=⟨ρ j,0⟩ by rw [hz]]
     unfold zen
     show (decide ((0:Int)=0) && (decide (g.sets.length=0) || (setI g 0).contains (ρ j)))=true
     by_cases hn:0<g.sets.length
     ·have:=c hn
      simp;exact .inr this
     ·simp;exact .inl (by simpa using hn)
    show some (zen g ⟨ρ j,at_ j⟩)=some true
    rw [this]
section
theorem fltAt9 {p:α->Bool}:∀ {xs:List α} {j:Nat} {x:α}, xs[j]?=some x->p x=true->(xs.filter p)[((xs.take j).filter p).length]?=some x
 | [],j,x,h,_=>by cases h
 | y :: ys,0,x,h,hp=>by
  have h:y=x:=by simpa using h
  subst h
  rw [cK hp];rfl
 | y :: ys,j+1,x,h,hp=>by
  have ih:=fltAt9 (xs:=ys) (j:=j) (x:=x) (by simpa using h) hp
  rw [List.take_succ_cons]
  cases hy:p y with
  | true=>rw [cK hy,cK hy,List.length_cons,List.getElem?_cons_succ];exact ih
  | false=>rw [c8 (by rw [hy];exact Bool.noConfusion),c8 (by rw [hy];exact Bool.noConfusion)];exact ih
def edgA (ns:List za4) (i j:Nat):Prop:=∃ m,ns[i]?=some m/\(j:Int) ∈ m.next/\j<ns.length
def frmA (ns:List za4) (ks:List Int) (j:Nat):Prop:=(j:Int) ∈ ks/\j<ns.length
open Classical in
noncomputable def rchT (ns:List za4) (ks:List Int):List Bool:=(bA ns.length).map fun i=>decide (Rch (edgA ns) (frmA ns ks) i)
def zd7 (a:zca) (i:Nat):Bool:=(a.good[i]?).getD false
noncomputable def goaT (a:zca):List Int:=((bA a.nodes.length).filter fun i=>zd7 a i && ((rchT a.nodes ((a.nodes[i]?).map za4.next |>.getD []))[i]?).getD false).map fun i:Nat=>(i:Int)
def zfn (ns:List za4):List za4:=(bA ns.length).map fun k=>⟨[],[],((bA ns.length).filter fun i=>((ns[i]?).map za4.next |>.getD []).contains ((k:Nat):Int)).map fun i:Nat=>(i:Int)⟩
noncomputable def kepB (a:zca) (i:Nat):Bool:=((rchT a.nodes a.first)[i]?).getD false && ((rchT (zfn a.nodes) (goaT a))[i]?).getD false
noncomputable def aneT (a:zca):List Int:=(bA a.nodes.length).map fun i=>if kepB a i=true then ((((bA i).filter (kepB a)).length:Nat):Int) else -1
def zdg (an:List Int) (ks:List Int):List Int:=ks.filterMap fun i=>if 0<=i/\i<(an.length:Int)/\0<=(an[i.toNat]?).getD (-1) then some ((an[i.toNat]?).getD (-1)) else none
noncomputable def kepL (a:zca):List Nat:=(bA a.nodes.length).filter (kepB a)
noncomputable def tnd (a:zca) (i:Nat):za4:=⟨((a.nodes[i]?).getD ⟨[],[],[]⟩).must,((a.nodes[i]?).getD ⟨[],[],[]⟩).never,zad (zdg (aneT a) ((a.nodes[i]?).getD ⟨[],[],[]⟩).next)⟩
noncomputable def trmT (a:zca):zca:=⟨(kepL a).map (tnd a),zad (zdg (aneT a) a.first),(kepL a).map (zd7 a)⟩
theorem rch_at (hi:i<ns.length):((rchT ns ks)[i]?).getD false=true ↔ Rch (edgA ns) (frmA ns ks) i:=by
 unfold rchT
 rw [bK,bY hi]
 simp
theorem zfz (ns:List za4):(zfn ns).length=ns.length:=by unfold zfn;simp
theorem trn_edge (h:edgA ns i j):edgA (zfn ns) j i:=by
 obtain ⟨m,h1,h2,h3⟩:=h
 have hi:=(bC.1 h1).1
 refine ⟨⟨[],[],((bA ns.length).filter fun i=>((ns[i]?).map za4.next |>.getD []).contains ((j:Nat):Int)).map fun i:Nat=>(i:Int)⟩,?_,?_,by rw [zfz];exact hi⟩
 ·unfold zfn;rw [bK,bY h3];rfl
 ·refine bO.2 ⟨i,cH.2 ⟨cF.2 hi,?_⟩,rfl⟩
  rw [h1];exact c7.2 h2
section
variable {a:zca} {σ:Sq9}
theorem kep_rank (hi:i<a.nodes.length) (h:kepB a i=true):(kepL a)[((bA i).filter (kepB a)).length]?=some i:=by
 have:=fltAt9 (p:=kepB a) (xs:=bA a.nodes.length) (j:=i) (x:=i) (bY hi) h
 rwa [List.take_range,Nat.min_eq_left (Nat.le_of_lt hi)] at this
theorem kep_nodup (a:zca):(kepL a).Nodup:=List.Pairwise.filter _ List.nodup_range
theorem kep_mem {r:Nat} (h:(kepL a)[r]?=some i):i<a.nodes.length/\kepB a i=true:=by
 have:=cH.1 (bT h)
 exact ⟨cF.1 this.1,this.2⟩
theorem ane_at (hi:i<a.nodes.length):((aneT a)[i]?).getD (-1)=if kepB a i=true then ((((bA i).filter (kepB a)).length:Nat):Int) else -1:=by
 unfold aneT;rw [bK,bY hi];rfl
theorem zgm (a:zca):(aneT a).length=a.nodes.length:=by unfold aneT;simp
theorem rank_of {r:Nat} (h:(kepL a)[r]?=some i):((bA i).filter (kepB a)).length=r:=by
 obtain ⟨h1,h2⟩:=kep_mem h
 have h3:=kep_rank h1 h2
 have hr:=(bC.1 h).1
 exact (List.getElem?_inj (by exact (bC.1 h3).1) (kep_nodup a)).1 (h3.trans h.symm)
theorem mem_kpt {r:Nat}:((r:Nat):Int) ∈ zad (zdg (aneT a) ks) ↔ ∃ i:Nat,(kepL a)[r]?=some i/\(i:Int) ∈ ks:=by
 rw [zb4]
 unfold zdg
 rw [List.mem_filterMap]
 constructor
 ·rintro ⟨x,hx,h⟩
  split at h
  ·rename_i hc
   rw [zgm] at hc
   injection h with h
   have hi:x.toNat<a.nodes.length:=by omega
   rw [ane_at hi] at h hc
   split at h
   ·rename_i hk
    refine ⟨x.toNat,?_,by rw [b8 hc.1];exact hx⟩
    have:=kep_rank hi hk
    rwa [show ((bA x.toNat).filter (kepB a)).length=r by omega] at this
   ·omega
  ·cases h
 ·rintro ⟨i,h1,h2⟩
  obtain ⟨hi,hk⟩:=kep_mem h1
  refine ⟨(i:Int),h2,?_⟩
  rw [zgm,bL,ane_at hi,if_pos hk,rank_of h1,if_pos (by omega)]
theorem tnd_at {r:Nat} (h:(kepL a)[r]?=some i):ndI (trmT a).nodes (r:Int)=some (tnd a i):=by
 unfold ndI trmT
 rw [if_pos (by omega),bL]
 show ((kepL a).map (tnd a))[r]?=_
 rw [bK,h];rfl
theorem and_at (h:i<a.nodes.length):ndI a.nodes (i:Int)=some ((a.nodes[i]?).getD ⟨[],[],[]⟩):=by
 unfold ndI;rw [if_pos (by omega),bL,bH h];rfl
theorem trim_acc:AccG (zgk (trmT a)) σ ↔ AccG (zgk a) σ:=by
 constructor
 ·rintro ⟨ρ,h0,h1,h2⟩
  have hk:∀ i,∃ (r k:Nat),ρ i=(r:Int)/\(kepL a)[r]?=some k:=fun i=>by
   obtain ⟨n,e,_⟩:=h1 i
   obtain ⟨b1,b2,b3⟩:=nd_bd e
   have b2:ρ i<(((kepL a).map (tnd a)).length:Int):=b2
   rw [bB] at b2
   exact ⟨(ρ i).toNat,_,by omega,bH (by omega)⟩
  let κ:Nat->Nat:=fun i=>(hk i).choose_spec.choose
  have hρ:∀ i,∃ r:Nat,ρ i=(r:Int)/\(kepL a)[r]?=some (κ i):=fun i=>⟨_,(hk i).choose_spec.choose_spec⟩
  have back:∀ (i:Nat) (ks:List Int),ρ i ∈ zad (zdg (aneT a) ks)->((κ i:Nat):Int) ∈ ks:=fun i ks h=>by
   obtain ⟨r,e,hr⟩:=hρ i
   rw [e] at h
   obtain ⟨k,h3,h4⟩:=mem_kpt.1 h
   rw [hr] at h3;injection h3 with h3;rw [h3];exact h4
  have hn:∀ i n,ndI (zgk (trmT a)).nodes (ρ i)=some n->n=tnd a (κ i):=fun i n h=>by
   obtain ⟨r,e,hr⟩:=hρ i
   have h:ndI (trmT a).nodes (ρ i)=some n:=h
   rw [e,tnd_at hr] at h;exact (Option.some.inj h).symm
  refine ⟨fun i=>((κ i:Nat):Int),back 0 _ h0,fun i=>?_,fun s hs i=>?_⟩
  ·obtain ⟨r,e,hr⟩:=hρ i
   obtain ⟨n,a1,a2,a3⟩:=h1 i
   have:=hn i n a1
   subst this
   exact ⟨_,and_at (kep_mem hr).1,a2,back (i+1) _ a3⟩
  ·rw [bR.1 hs]
   obtain ⟨j,a1,a2⟩:=h2 _ (bR.2 rfl) i
   obtain ⟨k,e,_,e2⟩:=(ze3 (a:=trmT a)).1 a2
   obtain ⟨r,e3,hr⟩:=hρ j
   have:k=r:=by omega
   subst this
   have e2:((kepL a).map (zd7 a))[k]?=some true:=e2
   rw [bK,hr] at e2
   have e2:zd7 a (κ j)=true:=by simpa using e2
   refine ⟨j,a1,ze3.2 ⟨κ j,rfl,(kep_mem hr).1,?_⟩⟩
   unfold zd7 at e2
   cases q:a.good[κ j]? with
   | none=>rw [q] at e2;cases e2
   | some b=>rw [q] at e2;cases b;cases e2;rfl
 ·rintro ⟨ρ,h0,h1,h2⟩
  have hb:∀ i,∃ k:Nat,ρ i=(k:Int)/\k<a.nodes.length:=fun i=>by
   obtain ⟨n,e,_⟩:=h1 i
   obtain ⟨b1,b2,_⟩:=nd_bd e
   have b2:ρ i<(a.nodes.length:Int):=b2
   exact ⟨(ρ i).toNat,by omega,by omega⟩
  let κ:Nat->Nat:=fun i=>(hb i).choose
  have hκ:∀ i,ρ i=((κ i:Nat):Int):=fun i=>(hb i).choose_spec.1
  have hlt:∀ i,κ i<a.nodes.length:=fun i=>(hb i).choose_spec.2
  have hnd:∀ i n,ndI (zgk a).nodes (ρ i)=some n->a.nodes[κ i]?=some n:=fun i n h=>by
   obtain ⟨_,_,h3⟩:=nd_bd h
   rw [hκ i,bL] at h3;exact h3
  have hed:∀ i,edgA a.nodes (κ i) (κ (i+1)):=fun i=>by
   obtain ⟨n,e,_,h3⟩:=h1 i
   exact ⟨n,hnd i n e,by rw [<- hκ];exact h3,hlt _⟩
  have hfr:frmA a.nodes a.first (κ 0):=⟨by rw [<- hκ];exact h0,hlt 0⟩
  have hgood:∀ i,∃ j,i<=j/\zd7 a (κ j)=true:=fun i=>by
   obtain ⟨j,a1,a2⟩:=h2 _ (bR.2 rfl) i
   obtain ⟨k,e,_,e2⟩:=ze3.1 a2
   refine ⟨j,a1,?_⟩
   have:k=κ j:=by have:=hκ j;omega
   subst this
   unfold zd7;rw [e2];rfl
  -- a good node that comes again and again
  let γ:Nat->Nat:=fun i=>(hgood i).choose
  have hγ:∀ i,i<=γ i/\zd7 a (κ (γ i))=true:=fun i=>(hgood i).choose_spec
  obtain ⟨v,hv⟩:=inf_often a.nodes.length (fun i=>κ (γ i)) fun i=>hlt _
  have hgv:∀ i,∃ j,i<=j/\κ j=v/\zd7 a v=true:=fun i=>by
   obtain ⟨j,b1,b2⟩:=hv i
   have b2:κ (γ j)=v:=b2
   exact ⟨γ j,Nat.le_trans b1 (hγ j).1,b2,by rw [<- b2];exact (hγ j).2⟩
  have hgoal:((v:Nat):Int) ∈ goaT a:=by
   obtain ⟨j1,_,e1,g1⟩:=hgv 0
   obtain ⟨j2,b2,e2,_⟩:=hgv (j1+1)
   have hvl:v<a.nodes.length:=by rw [<- e1];exact hlt _
   refine bO.2 ⟨v,cH.2 ⟨cF.2 hvl,?_⟩,rfl⟩
   rw [g1,Bool.true_and,rch_at hvl]
   have:=zfp (r:=κ) hed (show j1<j2 by omega)
   rw [e1,e2] at this
   have hI:∀ j,edgA a.nodes v j->frmA a.nodes ((a.nodes[v]?).map za4.next |>.getD []) j:=fun j ⟨m,c1,c2,c3⟩=>⟨by rw [c1];exact c2,c3⟩
   have mono:∀ x,Rch (edgA a.nodes) (edgA a.nodes v) x->Rch (edgA a.nodes) (frmA a.nodes ((a.nodes[v]?).map za4.next |>.getD [])) x:=fun x hx=>by
    induction hx with
    | base h=>exact .base (hI _ h)
    | step _ h ih=>exact .step ih h
   exact mono v this
  have hkeep:∀ i,kepB a (κ i)=true:=fun i=>by
   unfold kepB
   rw [bJ,rch_at (hlt i),rch_at (by rw [zfz];exact hlt i)]
   refine ⟨rch_run hfr hed i,?_⟩
   obtain ⟨j,b1,b2,_⟩:=hgv i
   have go:∀ d,d<=j->Rch (edgA (zfn a.nodes)) (frmA (zfn a.nodes) (goaT a)) (κ (j - d)):=by
    intro d
    induction d with
    | zero=>intro _;exact .base ⟨by rw [cG,b2];exact hgoal,by rw [zfz];exact hlt _⟩
    | succ d ih =>
     intro hd
     have:=trn_edge (hed (j - (d+1)))
     rw [show j - (d+1)+1=j - d by omega] at this
     exact .step (ih (by omega)) this
   have:=go (j - i) (by omega)
   rwa [show j - (j - i)=i by omega] at this
  let rk:Nat->Nat:=fun i=>((bA (κ i)).filter (kepB a)).length
  have hrk:∀ i,(kepL a)[rk i]?=some (κ i):=fun i=>kep_rank (hlt i) (hkeep i)
  refine ⟨fun i=>((rk i:Nat):Int),mem_kpt.2 ⟨κ 0,hrk 0,by rw [<- hκ];exact h0⟩,fun i=>⟨tnd a (κ i),tnd_at (hrk i),?_,?_⟩,fun s hs i=>?_⟩
  ·obtain ⟨n,e,h3,_⟩:=h1 i
   have e:=hnd i n e
   unfold fitL tnd at *
   rw [e];exact h3
  ·obtain ⟨n,e,_,h4⟩:=h1 i
   have e:=hnd i n e
   refine mem_kpt.2 ⟨κ (i+1),hrk (i+1),?_⟩
   rw [e,<- hκ];exact h4
  ·rw [bR.1 hs]
   obtain ⟨j,b1,b2⟩:=hgood i
   refine ⟨j,b1,(ze3 (a:=trmT a)).2 ⟨rk j,rfl,?_,?_⟩⟩
   ·show rk j<((kepL a).map (tnd a)).length
    rw [bB];exact (bC.1 (hrk j)).1
   ·show ((kepL a).map (zd7 a))[rk j]?=some true
    rw [bK,hrk j,<- b2];rfl
end
end
section
inductive za2 where
  | mk (kind prop:Int) (kids:List za2)
def za2.kind:za2->Int | ⟨k,_,_⟩=>k
def za2.prop:za2->Int | ⟨_,p,_⟩=>p
def za2.kids:za2->List za2 | ⟨_,_,ks⟩=>ks
theorem za2.ind {P:za2->Prop} (h:∀ k p ks,(∀ g ∈ ks,P g)->P ⟨k,p,ks⟩) (f:za2):P f :=
 za2.rec (motive_1:=P) (motive_2:=fun ks=>∀ g ∈ ks,P g) h (fun g hg=>(by cases hg)) (fun a l ha has g hg=>(cD.1 hg).elim (fun e=>e ▸ ha) (has g)) f
def za2.fold {α:Type} (g:Int->Int->List za2->List α->α):za2->α
  | ⟨k,p,ks⟩=>g k p ks (ks.attach.map fun x=>za2.fold g x.1)
  termination_by f=>SizeOf.sizeOf f
  decreasing_by have:=List.sizeOf_lt_of_mem x.2;simp;omega
theorem za2.fold_mk (g:Int->Int->List za2->List α->α) (k p:Int) (ks:List za2):za2.fold g ⟨k,p,ks⟩=g k p ks (ks.map (za2.fold g)):=by
 rw [za2.fold,List.attach_map_val]
theorem za2.fold_eq (g:Int->Int->List za2->List α->α) (f:za2):za2.fold g f=g f.kind f.prop f.kids (f.kids.map (za2.fold g)):=by cases f;exact za2.fold_mk g _ _ _
def arT (k:Int):Nat:=if k=3\/k=8\/k=9\/k=10 then 1 else if k=4\/k=5\/k=7\/k=11\/k=12 then 2 else 0
def ffL:za2:=⟨1,0,[]⟩
def za8 (f:za2) (i:Nat):za2:=(f.kids[i]?).getD ffL
def fldP (k p:Int) (ps:List PF):PF :=
  if k=0 then .tt else if k=2 then .pa p else if k=3 then ((ps[0]?).getD PF.ff).neg
  else if k=4 then .and ((ps[0]?).getD .ff) ((ps[1]?).getD .ff) else if k=5 then .or ((ps[0]?).getD .ff) ((ps[1]?).getD .ff)
  else if k=7 then .or ((ps[0]?).getD PF.ff).neg ((ps[1]?).getD .ff) else if k=8 then .nx ((ps[0]?).getD .ff)
  else if k=9 then .fr .ff ((ps[0]?).getD .ff) else if k=10 then .un .tt ((ps[0]?).getD .ff)
  else if k=11 then .un ((ps[0]?).getD .ff) ((ps[1]?).getD .ff) else if k=12 then .fr ((ps[0]?).getD .ff) ((ps[1]?).getD .ff) else .ff
def za2.pf (f:za2):PF:=f.fold fun k p _ ps=>fldP k p ps
theorem zhc (f:za2):f.pf=fldP f.kind f.prop (f.kids.map za2.pf):=za2.fold_eq _ f
theorem pf_ff:ffL.pf = .ff:=by rw [zhc];rfl
theorem pf_kid (f:za2) (i:Nat):((f.kids.map za2.pf)[i]?).getD .ff=(za8 f i).pf:=by
 unfold za8
 rw [bK]
 cases f.kids[i]? with
 | none=>exact pf_ff.symm
 | some g=>rfl
theorem zct (f:za2):f.pf=if f.kind=0 then .tt else if f.kind=2 then .pa f.prop else if f.kind=3 then (za8 f 0).pf.neg
 else if f.kind=4 then .and (za8 f 0).pf (za8 f 1).pf else if f.kind=5 then .or (za8 f 0).pf (za8 f 1).pf
 else if f.kind=7 then .or (za8 f 0).pf.neg (za8 f 1).pf else if f.kind=8 then .nx (za8 f 0).pf
 else if f.kind=9 then .fr .ff (za8 f 0).pf else if f.kind=10 then .un .tt (za8 f 0).pf
 else if f.kind=11 then .un (za8 f 0).pf (za8 f 1).pf else if f.kind=12 then .fr (za8 f 0).pf (za8 f 1).pf else .ff:=by
 rw [zhc];unfold fldP;rw [pf_kid,pf_kid]
def za2.pfD (f:za2) (deny:Bool):PF:=if deny=true then f.pf.neg else f.pf
def PF.l:PF->za2
  | .tt=>⟨0,0,[]⟩
  | .ff=>⟨1,0,[]⟩
  | .pa p=>⟨2,p,[]⟩
  | .na p=>⟨3,0,[⟨2,p,[]⟩]⟩
  | .and p q=>⟨4,0,[p.l,q.l]⟩
  | .or p q=>⟨5,0,[p.l,q.l]⟩
  | .nx p=>⟨8,0,[p.l]⟩
  | .un p q=>⟨11,0,[p.l,q.l]⟩
  | .fr p q=>⟨12,0,[p.l,q.l]⟩
theorem pf_l:∀ p:PF,p.l.pf=p
 | .tt=>by rw [zhc];rfl
 | .ff=>by rw [zhc];rfl
 | .pa p=>by rw [zhc];rfl
 | .na p=>by
  rw [zhc]
  show fldP 3 0 ([⟨2,p,[]⟩].map za2.pf)=_
  have:(⟨2,p,[]⟩:za2).pf = .pa p:=by rw [zhc];rfl
  simp only [bP,bS,this];rfl
 | .and p q=>by rw [zhc];show fldP 4 0 ([p.l,q.l].map za2.pf)=_;simp only [bP,bS,pf_l p,pf_l q];rfl
 | .or p q=>by rw [zhc];show fldP 5 0 ([p.l,q.l].map za2.pf)=_;simp only [bP,bS,pf_l p,pf_l q];rfl
 | .nx p=>by rw [zhc];show fldP 8 0 ([p.l].map za2.pf)=_;simp only [bP,bS,pf_l p];rfl
 | .un p q=>by rw [zhc];show fldP 11 0 ([p.l,q.l].map za2.pf)=_;simp only [bP,bS,pf_l p,pf_l q];rfl
 | .fr p q=>by rw [zhc];show fldP 12 0 ([p.l,q.l].map za2.pf)=_;simp only [bP,bS,pf_l p,pf_l q];rfl
open Classical in
noncomputable def truT (w:zaf) (p:PF):List Bool:=(bA (wN w)).map fun x=>decide (ps (sg w) p x)
theorem zb6 (w:zaf) (p:PF):(truT w p).length=wN w:=by unfold truT;simp
theorem zbu {w:zaf} (h:x<wN w):((truT w p)[x]?).getD false=true ↔ ps (sg w) p x:=by
 unfold truT;rw [bK,bY h];simp
theorem tru_ext {w:zaf} (hl:xs.length=wN w) (h:∀ x,x<wN w->((xs[x]?).getD false=true ↔ ps (sg w) p x)):xs=truT w p:=by
 refine List.ext_getElem? fun i=>?_
 by_cases hi:i<wN w
 ·have h3:(xs[i]?).getD false=((truT w p)[i]?).getD false:=Bool.eq_iff_iff.2 ((h i hi).trans (zbu hi).symm)
  have e1:xs[i]?=some (xs[i]'(by omega)):=bH (by omega)
  have e2:(truT w p)[i]?=some ((truT w p)[i]'(by rw [zb6];exact hi)):=bH (by rw [zb6];exact hi)
  rw [e1,e2] at h3 ⊢
  exact congrArg some h3
 ·rw [cL (by omega),cL (by rw [zb6];omega)]
def zao (w:zaf) (is:Nat->Bool):List Bool:=(bA (wN w)).map is
theorem each_at {w:zaf} {is:Nat->Bool} (h:x<wN w):((zao w is)[x]?).getD false=is x:=by
 unfold zao;rw [bK,bY h];rfl
theorem zeg {w:zaf} {is:Nat->Bool} (h:∀ x,x<wN w->(is x=true ↔ ps (sg w) p x)):zao w is=truT w p :=
 tru_ext (by unfold zao;simp) fun x hx=>by rw [each_at hx];exact h x hx
def zag (xs:List Bool) (i:Nat):Bool:=(xs[i]?).getD false
section
variable {w:zaf} {p q:PF}
theorem t_tt:zao w (fun _=>true)=truT w .tt:=zeg fun x _=>by simp [ps]
theorem t_ff:List.replicate (wN w) false=truT w .ff:=tru_ext (by simp) fun x hx=>by simp [ps,hx]
theorem t_pa (hc:0<w.cycle.length) (n:Int):zao w (fun x=>hdB (zc4 w x) n)=truT w (.pa n):=by have _:=hc;exact zeg fun x _=>Iff.rfl
theorem t_not:zao w (fun x=>!zag (truT w p) x)=truT w p.neg:=zeg fun x hx=>by
 rw [zeh,<- zbu hx];show (!((truT w p)[x]?).getD false)=true ↔ _;cases ((truT w p)[x]?).getD false <;> simp
theorem t_and:zao w (fun x=>zag (truT w p) x && zag (truT w q) x)=truT w (.and p q):=zeg fun x hx=>by
 show _ ↔ ps (sg w) p x/\ps (sg w) q x
 rw [<- zbu hx,<- zbu hx];show (((truT w p)[x]?).getD false && ((truT w q)[x]?).getD false)=true ↔ _;rw [bJ]
theorem t_or:zao w (fun x=>zag (truT w p) x || zag (truT w q) x)=truT w (.or p q):=zeg fun x hx=>by
 show _ ↔ ps (sg w) p x\/ps (sg w) q x
 rw [<- zbu hx,<- zbu hx];show (((truT w p)[x]?).getD false || ((truT w q)[x]?).getD false)=true ↔ _;rw [bU]
theorem t_imp:zao w (fun x=>!zag (truT w p) x || zag (truT w q) x)=truT w (.or p.neg q):=zeg fun x hx=>by
 show _ ↔ ps (sg w) p.neg x\/ps (sg w) q x
 rw [zeh,<- zbu hx,<- zbu hx];show (!((truT w p)[x]?).getD false || ((truT w q)[x]?).getD false)=true ↔ _
 cases ((truT w p)[x]?).getD false <;> simp
theorem t_nx (hc:0<w.cycle.length):zao w (fun x=>zag (truT w p) (nxW w x))=truT w (.nx p):=zeg fun x hx=>by
 show _ ↔ ps (sg w) p (x+1)
 rw [ps_nx hc p hx,<- zbu (zd2 hc hx)];rfl
structure UnI (w:zaf) (p q:PF) (out:List Bool):Prop where
  len:out.length=wN w
  snd:∀ x,x<wN w->zag out x=true->ps (sg w) (.un p q) x
  pst:∀ x,x<wN w->zag out x=true->(zag (truT w q) x || zag (truT w p) x && zag out (nxW w x))=true
theorem zf2 {y:Nat} (h:x<out.length):zag (out.set x b) y=if x=y then b else zag out y:=by
 unfold zag
 by_cases e:x=y
 ·subst e;rw [List.getElem?_set_self h,if_pos rfl];rfl
 ·rw [List.getElem?_set_ne e,if_neg e]
theorem un_next (hc:0<w.cycle.length) (hx:x<wN w):ps (sg w) (.un p q) x ↔ (zag (truT w q) x=true\/(zag (truT w p) x=true/\ps (sg w) (.un p q) (nxW w x))):=by
 rw [ps_un,ps_nx hc _ hx,<- zbu (p:=q) hx,<- zbu (p:=p) hx];rfl
theorem fr_next (hc:0<w.cycle.length) (hx:x<wN w):ps (sg w) (.fr p q) x ↔ (zag (truT w q) x=true/\(zag (truT w p) x=true\/ps (sg w) (.fr p q) (nxW w x))):=by
 rw [ps_fr,ps_nx hc _ hx,<- zbu (p:=q) hx,<- zbu (p:=p) hx];rfl
theorem UnI.beg:UnI w p q (List.replicate (wN w) false):=⟨by simp,fun x hx h=>by simp [zag,hx] at h,fun x hx h=>by simp [zag,hx] at h⟩
theorem UnI.step (hc:0<w.cycle.length) (h:UnI w p q out) (hx:x<wN w) (hd:(zag (truT w q) x || zag (truT w p) x && zag out (nxW w x))≠zag out x):UnI w p q (out.set x (zag (truT w q) x || zag (truT w p) x && zag out (nxW w x)))/\zag out x=false/\(zag (truT w q) x || zag (truT w p) x && zag out (nxW w x))=true:=by
 have hf:zag out x=false:=by
  cases e:zag out x with
  | false=>rfl
  | true=>exact absurd ((h.pst x hx e).trans e.symm) hd
 have ht:(zag (truT w q) x || zag (truT w p) x && zag out (nxW w x))=true:=by
  rw [hf] at hd
  cases e:(zag (truT w q) x || zag (truT w p) x && zag out (nxW w x)) with
  | true=>rfl
  | false=>exact absurd e hd
 rw [ht]
 have hxl:x<out.length:=by rw [h.len];exact hx
 have sx:ps (sg w) (.un p q) x:=(un_next hc hx).2 (by
  rw [bU,bJ] at ht
  exact ht.imp id fun h2=>⟨h2.1,h.snd _ (zd2 hc hx) h2.2⟩)
 refine ⟨⟨by rw [List.length_set];exact h.len,fun y hy hg=>?_,fun y hy hg=>?_⟩,hf,rfl⟩
 ·rw [zf2 hxl] at hg
  split at hg
  ·rename_i e;subst e;exact sx
  ·exact h.snd y hy hg
 ·have up:zag out (nxW w y)=true->zag (out.set x true) (nxW w y)=true:=fun e=>by
   rw [zf2 hxl];split <;> simp [e]
  rw [zf2 hxl] at hg
  have base:(zag (truT w q) y || zag (truT w p) y && zag out (nxW w y))=true:=by
   split at hg
   ·rename_i e;subst e;exact ht
   ·exact h.pst y hy hg
  rw [bU,bJ] at base ⊢
  exact base.imp id fun h2=>⟨h2.1,up h2.2⟩
theorem UnI.done (hc:0<w.cycle.length) (h:UnI w p q out) (hd:∀ x,x<wN w->(zag (truT w q) x || zag (truT w p) x && zag out (nxW w x))=zag out x):out=truT w (.un p q):=by
 refine tru_ext h.len fun x hx=>⟨h.snd x hx,?_⟩
 have key:∀ k x,x<wN w->ps (sg w) q (x+k)->(∀ j,j<k->ps (sg w) p (x+j))->zag out x=true:=by
  intro k
  induction k with
  | zero=>intro x hx h1 _;rw [<- hd x hx,bU];exact .inl ((zbu hx).2 h1)
  | succ k ih =>
   intro x hx h1 h2
   have hn:=zd2 hc hx
   have e:∀ j (r:PF),ps (sg w) r (x+1+j) ↔ ps (sg w) r (nxW w x+j):=fun j r=>zc1 (a:=x+1) (b:=nxW w x) (fun k=>by rw [sg_tail hc (x+1),zde hc,plW_id hx]) r j
   rw [<- hd x hx,bU,bJ]
   refine .inr ⟨(zbu hx).2 (h2 0 (by omega)),ih (nxW w x) hn ((e k q).1 (by rw [show x+1+k=x+(k+1) by omega];exact h1)) fun j hj=>(e j p).1 (by rw [show x+1+j=x+(j+1) by omega];exact h2 (j+1) (by omega))⟩
 rintro ⟨k,h1,h2⟩
 exact key k x hx h1 h2
structure FrI (w:zaf) (p q:PF) (out:List Bool):Prop where
  len:out.length=wN w
  snd:∀ x,x<wN w->ps (sg w) (.fr p q) x->zag out x=true
  pst:∀ x,x<wN w->(zag (truT w q) x && (zag (truT w p) x || zag out (nxW w x)))=true->zag out x=true
theorem FrI.beg:FrI w p q (List.replicate (wN w) true):=⟨by simp,fun x hx _=>by simp [zag,hx],fun x hx _=>by simp [zag,hx]⟩
theorem FrI.step (hc:0<w.cycle.length) (h:FrI w p q out) (hx:x<wN w) (hd:(zag (truT w q) x && (zag (truT w p) x || zag out (nxW w x)))≠zag out x):FrI w p q (out.set x (zag (truT w q) x && (zag (truT w p) x || zag out (nxW w x))))/\zag out x=true/\(zag (truT w q) x && (zag (truT w p) x || zag out (nxW w x)))=false:=by
 have hf:(zag (truT w q) x && (zag (truT w p) x || zag out (nxW w x)))=false:=by
  cases e:(zag (truT w q) x && (zag (truT w p) x || zag out (nxW w x))) with
  | false=>rfl
  | true=>exact absurd (e.trans (h.pst x hx e).symm) hd
 have ht:zag out x=true:=by
  rw [hf] at hd
  cases e:zag out x with
  | true=>rfl
  | false=>exact absurd e.symm hd
 have hxl:x<out.length:=by rw [h.len];exact hx
 rw [hf]
 have sx:¬ ps (sg w) (.fr p q) x:=fun hp=>by
  obtain ⟨h1,h2⟩:=(fr_next hc hx).1 hp
  rw [h1,Bool.true_and,Bool.or_eq_false_iff] at hf
  rcases h2 with h2 | h2
  ·rw [h2] at hf;cases hf.1
  ·rw [h.snd _ (zd2 hc hx) h2] at hf;cases hf.2
 refine ⟨⟨by rw [List.length_set];exact h.len,fun y hy hp=>?_,fun y hy hg=>?_⟩,ht,rfl⟩
 ·rw [zf2 hxl]
  split
  ·rename_i e;subst e;exact absurd hp sx
  ·exact h.snd y hy hp
 ·have dn:zag (out.set x false) (nxW w y)=true->zag out (nxW w y)=true:=fun e=>by
   rw [zf2 hxl] at e;split at e
   ·cases e
   ·exact e
  have base:(zag (truT w q) y && (zag (truT w p) y || zag out (nxW w y)))=true:=by
   rw [bJ,bU] at hg ⊢
   exact ⟨hg.1,hg.2.imp id dn⟩
  rw [zf2 hxl]
  split
  ·rename_i e;subst e;rw [hf] at base;cases base
  ·exact h.pst y hy base
theorem FrI.done (hc:0<w.cycle.length) (h:FrI w p q out) (hd:∀ x,x<wN w->(zag (truT w q) x && (zag (truT w p) x || zag out (nxW w x)))=zag out x):out=truT w (.fr p q):=by
 refine tru_ext h.len fun x hx=>⟨fun hg=>?_,h.snd x hx⟩
 have key:∀ k x,x<wN w->zag out x=true->ps (sg w) q (x+k)\/∃ j,j<k/\ps (sg w) p (x+j):=by
  intro k
  induction k with
  | zero =>
   intro x hx hg
   rw [<- hd x hx,bJ] at hg
   exact .inl ((zbu hx).1 hg.1)
  | succ k ih =>
   intro x hx hg
   have hn:=zd2 hc hx
   have e:∀ j (r:PF),ps (sg w) r (x+1+j) ↔ ps (sg w) r (nxW w x+j):=fun j r=>zc1 (a:=x+1) (b:=nxW w x) (fun k=>by rw [sg_tail hc (x+1),zde hc,plW_id hx]) r j
   rw [<- hd x hx,bJ,bU] at hg
   rcases hg.2 with h2 | h2
   ·exact .inr ⟨0,by omega,(zbu hx).1 h2⟩
   ·rcases ih _ hn h2 with h3 | ⟨j,hj,h3⟩
    ·exact .inl (by rw [show x+(k+1)=x+1+k by omega];exact (e k q).2 h3)
    ·exact .inr ⟨j+1,by omega,by rw [show x+(j+1)=x+1+j by omega];exact (e j p).2 h3⟩
 exact fun k=>key k x hx hg
end
end
section
structure zdo where
  al:List PF
  kids:List (Int × Int)
def zeq (ks:List (Int × Int)) (i:Nat) (k:Nat) (n:Int):List (Int × Int):=ks.modify i fun x=>if k=0 then (n,x.2) else (x.1,n)
def psh (s:zdo) (f:PF):zdo:=⟨s.al++[f],s.kids++[(0,0)]⟩
def ze9 (s:zdo) (f:PF):Int:=zbf (fun g=>PF.beq f g) s.al 0
def zb0:PF->zdo->zdo × Int
  | .tt,s=>if 0<=ze9 s .tt then (s,ze9 s .tt) else (psh s .tt,s.al.length)
  | .ff,s=>if 0<=ze9 s .ff then (s,ze9 s .ff) else (psh s .ff,s.al.length)
  | .pa p,s=>if 0<=ze9 s (.pa p) then (s,ze9 s (.pa p)) else (psh s (.pa p),s.al.length)
  | .na p,s=>if 0<=ze9 s (.na p) then (s,ze9 s (.na p)) else
    let s1:=psh s (.na p)
    let r:=if 0<=ze9 s1 (.pa p) then (s1,ze9 s1 (.pa p)) else (psh s1 (.pa p),(s1.al.length:Int))
    (⟨r.1.al,zeq r.1.kids s.al.length 0 r.2⟩,s.al.length)
  | .and p q,s=>if 0<=ze9 s (.and p q) then (s,ze9 s (.and p q)) else
    let r:=zb0 p (psh s (.and p q));let t:=zb0 q ⟨r.1.al,zeq r.1.kids s.al.length 0 r.2⟩
    (⟨t.1.al,zeq t.1.kids s.al.length 1 t.2⟩,s.al.length)
  | .or p q,s=>if 0<=ze9 s (.or p q) then (s,ze9 s (.or p q)) else
    let r:=zb0 p (psh s (.or p q));let t:=zb0 q ⟨r.1.al,zeq r.1.kids s.al.length 0 r.2⟩
    (⟨t.1.al,zeq t.1.kids s.al.length 1 t.2⟩,s.al.length)
  | .nx p,s=>if 0<=ze9 s (.nx p) then (s,ze9 s (.nx p)) else
    let r:=zb0 p (psh s (.nx p))
    (⟨r.1.al,zeq r.1.kids s.al.length 0 r.2⟩,s.al.length)
  | .un p q,s=>if 0<=ze9 s (.un p q) then (s,ze9 s (.un p q)) else
    let r:=zb0 p (psh s (.un p q));let t:=zb0 q ⟨r.1.al,zeq r.1.kids s.al.length 0 r.2⟩
    (⟨t.1.al,zeq t.1.kids s.al.length 1 t.2⟩,s.al.length)
  | .fr p q,s=>if 0<=ze9 s (.fr p q) then (s,ze9 s (.fr p q)) else
    let r:=zb0 p (psh s (.fr p q));let t:=zb0 q ⟨r.1.al,zeq r.1.kids s.al.length 0 r.2⟩
    (⟨t.1.al,zeq t.1.kids s.al.length 1 t.2⟩,s.al.length)
def AtP (al:List PF) (k:Int) (p:PF):Prop:=0<=k/\al[k.toNat]?=some p
theorem AtP.mono (h:AtP al k p) (ext:List PF):AtP (al++ext) k p:=⟨h.1,by rw [bN (bC.1 h.2).1];exact h.2⟩
theorem AtP.at (h:AtP al k p):zcp al k=p:=by unfold zcp;rw [if_pos h.1,h.2];rfl
def TabP (al:List PF) (ks:Int × Int) (f:PF):Prop:=match f with
  | .and p q=>AtP al ks.1 p/\AtP al ks.2 q
  | .or p q=>AtP al ks.1 p/\AtP al ks.2 q
  | .un p q=>AtP al ks.1 p/\AtP al ks.2 q
  | .fr p q=>AtP al ks.1 p/\AtP al ks.2 q
  | .nx p=>AtP al ks.1 p
  | _=>True
theorem TabP.mono {ks:Int × Int} {f:PF} (h:TabP al ks f) (ext:List PF):TabP (al++ext) ks f:=by
 cases f with
 | and p q=>exact ⟨h.1.mono ext,h.2.mono ext⟩
 | or p q=>exact ⟨h.1.mono ext,h.2.mono ext⟩
 | un p q=>exact ⟨h.1.mono ext,h.2.mono ext⟩
 | fr p q=>exact ⟨h.1.mono ext,h.2.mono ext⟩
 | nx p=>exact AtP.mono h ext
 | _=>trivial
structure NumR (s t:zdo) (n:Int) (f:PF):Prop where
  ext:∃ e,t.al=s.al++e
  len:t.kids.length=t.al.length
  old:∀ j,j<s.al.length->t.kids[j]?=s.kids[j]?
  at_:AtP t.al n f
  new:∀ j f k,s.al.length<=j->t.al[j]?=some f->t.kids[j]?=some k->TabP t.al k f
variable {s:zdo}
theorem zfe {f:PF} (h:0<=ze9 s f) (hl:s.kids.length=s.al.length):NumR s s (ze9 s f) f:=by
 refine ⟨⟨[],by simp⟩,hl,fun j _=>rfl,⟨h,?_⟩,fun j f k h1 h2 _=>?_⟩
 ·unfold ze9 at h ⊢
  rcases zc2 (fun g=>PF.beq f g) s.al 0 with ⟨h1,_⟩ | ⟨k,x,h1,h2,h3,_⟩
  ·rw [h1] at h;omega
  ·rw [h1,bL,Nat.zero_add,h2,PF.beq_eq h3]
 ·have:=(bC.1 h2).1;omega
theorem zhl {f:PF} (hl:s.kids.length=s.al.length) (hf:∀ al k,TabP al k f):NumR s (psh s f) s.al.length f:=by
 refine ⟨⟨[f],rfl⟩,by simp [psh,hl],fun j hj=>by simp only [psh];rw [bN (by omega)],⟨by omega,by simp [psh]⟩,fun j g k h1 h2 _=>?_⟩
 have:=(bC.1 h2).1
 simp only [psh,bQ,List.length_singleton] at this
 have e:j=s.al.length:=by omega
 subst e
 simp only [psh] at h2
 rw [cM] at h2
 injection h2 with h2
 subst h2
 exact hf _ _
theorem zes {ks:List (Int × Int)} {k:Nat} {n:Int}:(zeq ks i k n)[j]?=if i=j then (ks[j]?).map (fun x=>if k=0 then (n,x.2) else (x.1,n)) else ks[j]?:=by
 unfold zeq;rw [List.getElem?_modify];split <;> simp
theorem zdr {ks:List (Int × Int)} {k:Nat} {n:Int}:(zeq ks i k n).length=ks.length:=by unfold zeq;simp
theorem num_one {f:PF} {t:zdo} {n:Int} (hl:s.kids.length=s.al.length) (h:NumR (psh s f) t n p) (hf:∀ al k,AtP al k.1 p->TabP al k f):NumR s ⟨t.al,zeq t.kids s.al.length 0 n⟩ s.al.length f:=by
 obtain ⟨e,he⟩:=h.ext
 have he:t.al=s.al++[f]++e:=he
 have hk:t.kids[s.al.length]?=some (0,0):=by
  rw [h.old _ (by simp [psh])];simp only [psh];rw [<- hl,cM]
 refine ⟨⟨[f]++e,by rw [he,cE]⟩,by rw [zdr];exact h.len,fun j hj=>?_,⟨by omega,by show t.al[_]?=_;rw [he];simp⟩,fun j g k h1 h2 h3=>?_⟩
 ·show (zeq t.kids s.al.length 0 n)[j]?=_
  rw [zes,if_neg (by omega),h.old j (by simp [psh];omega)];simp only [psh];rw [bN (by omega)]
 ·have h2:t.al[j]?=some g:=h2
  have h3:(zeq t.kids s.al.length 0 n)[j]?=some k:=h3
  rw [zes] at h3
  show TabP t.al k g
  by_cases ej:s.al.length=j
  ·subst ej
   rw [if_pos rfl,hk] at h3
   injection h3 with h3
   subst h3
   have:g=f:=by rw [he] at h2;simpa using h2.symm
   subst this
   exact hf _ _ h.at_
  ·rw [if_neg ej] at h3
   exact h.new j g k (by simp [psh];omega) h2 h3
theorem num_two {f q:PF} {t u:zdo} {n m:Int} (hl:s.kids.length=s.al.length) (h:NumR (psh s f) t n p) (g:NumR ⟨t.al,zeq t.kids s.al.length 0 n⟩ u m q) (hf:∀ al k,AtP al k.1 p->AtP al k.2 q->TabP al k f):NumR s ⟨u.al,zeq u.kids s.al.length 1 m⟩ s.al.length f:=by
 obtain ⟨e,he⟩:=h.ext
 obtain ⟨e2,he2⟩:=g.ext
 have he:t.al=s.al++[f]++e:=he
 have he2:u.al=t.al++e2:=he2
 have hlt:s.al.length<t.al.length:=by rw [he];simp
 have hk:t.kids[s.al.length]?=some (0,0):=by
  rw [h.old _ (by simp [psh])];simp only [psh];rw [<- hl,cM]
 have hu:u.kids[s.al.length]?=some (n,0):=by
  rw [g.old _ hlt];show (zeq t.kids s.al.length 0 n)[s.al.length]?=_;rw [zes,if_pos rfl,hk];rfl
 refine ⟨⟨[f]++e++e2,by rw [he2,he];simp⟩,by rw [zdr];exact g.len,fun j hj=>?_,⟨by omega,by show u.al[_]?=_;rw [he2,he];simp⟩,fun j x k h1 h2 h3=>?_⟩
 ·show (zeq u.kids s.al.length 1 m)[j]?=_
  rw [zes,if_neg (by omega),g.old j (by show j<t.al.length;omega)]
  show (zeq t.kids s.al.length 0 n)[j]?=_
  rw [zes,if_neg (by omega),h.old j (by simp [psh];omega)];simp only [psh];rw [bN (by omega)]
 ·have h2:u.al[j]?=some x:=h2
  have h3:(zeq u.kids s.al.length 1 m)[j]?=some k:=h3
  rw [zes] at h3
  show TabP u.al k x
  by_cases ej:s.al.length=j
  ·subst ej
   rw [if_pos rfl,hu] at h3
   injection h3 with h3
   subst h3
   have:x=f:=by rw [he2,he] at h2;simpa using h2.symm
   subst this
   exact hf _ _ (by rw [he2];exact h.at_.mono e2) g.at_
  ·rw [if_neg ej] at h3
   by_cases hj:j<t.al.length
   ·have h4:t.al[j]?=some x:=by rw [he2,bN hj] at h2;exact h2
    have h5:t.kids[j]?=some k:=by
     rw [g.old j hj] at h3
     have h3:(zeq t.kids s.al.length 0 n)[j]?=some k:=h3
     rw [zes,if_neg ej] at h3;exact h3
    rw [he2]
    exact (h.new j x k (by simp [psh];omega) h4 h5).mono e2
   ·exact g.new j x k (by show t.al.length<=j;omega) h2 h3
theorem zbq:∀ (f:PF) (s:zdo),s.kids.length=s.al.length->NumR s (zb0 f s).1 (zb0 f s).2 f
 | .tt,s,hl=>by unfold zb0;split;exact zfe (by assumption) hl;exact zhl hl fun _ _=>trivial
 | .ff,s,hl=>by unfold zb0;split;exact zfe (by assumption) hl;exact zhl hl fun _ _=>trivial
 | .pa p,s,hl=>by unfold zb0;split;exact zfe (by assumption) hl;exact zhl hl fun _ _=>trivial
 | .na p,s,hl=>by
  unfold zb0;split;exact zfe (by assumption) hl
  have hl1:(psh s (.na p)).kids.length=(psh s (.na p)).al.length:=by simp [psh,hl]
  simp only
  by_cases h:0<=ze9 (psh s (.na p)) (.pa p)
  ·rw [if_pos h];exact num_one hl (zfe h hl1) fun _ _ _=>trivial
  ·rw [if_neg h];exact num_one (p:=.pa p) hl (zhl hl1 fun _ _=>trivial) fun _ _ _=>trivial
 | .nx p,s,hl=>by
  unfold zb0;split;exact zfe (by assumption) hl
  exact num_one hl (zbq p _ (by simp [psh,hl])) fun _ _ h=>h
 | .and p q,s,hl=>by
  unfold zb0;split;exact zfe (by assumption) hl
  have h1:=zbq p (psh s (.and p q)) (by simp [psh,hl])
  exact num_two hl h1 (zbq q ⟨_,zeq _ _ 0 _⟩ (by rw [zdr];exact h1.len)) fun _ _ a b=>⟨a,b⟩
 | .or p q,s,hl=>by
  unfold zb0;split;exact zfe (by assumption) hl
  have h1:=zbq p (psh s (.or p q)) (by simp [psh,hl])
  exact num_two hl h1 (zbq q ⟨_,zeq _ _ 0 _⟩ (by rw [zdr];exact h1.len)) fun _ _ a b=>⟨a,b⟩
 | .un p q,s,hl=>by
  unfold zb0;split;exact zfe (by assumption) hl
  have h1:=zbq p (psh s (.un p q)) (by simp [psh,hl])
  exact num_two hl h1 (zbq q ⟨_,zeq _ _ 0 _⟩ (by rw [zdr];exact h1.len)) fun _ _ a b=>⟨a,b⟩
 | .fr p q,s,hl=>by
  unfold zb0;split;exact zfe (by assumption) hl
  have h1:=zbq p (psh s (.fr p q)) (by simp [psh,hl])
  exact num_two hl h1 (zbq q ⟨_,zeq _ _ 0 _⟩ (by rw [zdr];exact h1.len)) fun _ _ a b=>⟨a,b⟩
def zb1 (f:PF):zdo:=(zb0 f ⟨[],[]⟩).1
def zbv (f:PF):Int:=(zb0 f ⟨[],[]⟩).2
theorem tab_ok (f:PF):TabOk (zb1 f).al (zb1 f).kids/\zcp (zb1 f).al (zbv f)=f:=by
 have h:=zbq f ⟨[],[]⟩ rfl
 refine ⟨fun i=>?_,h.at_.at⟩
 unfold TabK
 have key:∀ g,zcp (zb1 f).al i=g->g ≠ .ff->TabP (zb1 f).al (kdA (zb1 f).kids i) g:=fun g e hg=>by
  unfold zcp at e
  split at e
  ·cases q:(zb1 f).al[i.toNat]? with
   | none=>rw [q] at e;exact absurd e.symm hg
   | some x =>
    rw [q] at e
    have e:x=g:=e
    subst e
    have hlt:=(bC.1 q).1
    have hl:(zb1 f).kids.length=(zb1 f).al.length:=h.len
    have hk:(zb1 f).kids[i.toNat]?=some (kdA (zb1 f).kids i):=by unfold kdA;rw [bH (by omega)];rfl
    exact h.new i.toNat x _ (bE _) q hk
  ·exact absurd e.symm hg
 cases e:zcp (zb1 f).al i with
 | and p q=>have:=key _ e (by simp);exact ⟨this.1.at,this.2.at⟩
 | or p q=>have:=key _ e (by simp);exact ⟨this.1.at,this.2.at⟩
 | un p q=>have:=key _ e (by simp);exact ⟨this.1.at,this.2.at⟩
 | fr p q=>have:=key _ e (by simp);exact ⟨this.1.at,this.2.at⟩
 | nx p=>have:=key _ e (by simp);exact AtP.at this
 | _=>trivial
noncomputable def gbaF (f:PF):Option GbD:=(runT9 (zb1 f).al (zb1 f).kids 65536 ⟨[],[⟨[zbv f],[],[],-1⟩]⟩).map (gbT (zb1 f).al (zb1 f).kids)
noncomputable def forF (f:PF):Option zca:=(gbaF f).bind fun g=>(runO g 4098 ⟨(zc9 g).1,[]⟩).map fun t=>trmT (autO g t)
theorem gba_acc {f:PF} {g:GbD} (h:gbaF f=some g):AccG g σ ↔ ps σ f 0:=by
 unfold gbaF at h
 obtain ⟨pl,h1,h2⟩:=dA.1 h
 subst h2
 obtain ⟨hT,hf⟩:=tab_ok f
 rw [tab_acc hT (run_inv hT _ _ _ (start_inv _) h1),hf]
theorem for_acc {f:PF} {a:zca} (h:forF f=some a):AccG (zgk a) σ ↔ ps σ f 0:=by
 unfold forF at h
 obtain ⟨g,h1,h2⟩:=Option.bind_eq_some_iff.1 h
 obtain ⟨t,h3,h4⟩:=dA.1 h2
 subst h4
 rw [trim_acc,of_acc h3,gba_acc h1]
open Classical in
noncomputable def takB (g:GbD) (w:zaf):Bool:=if 0<w.cycle.length/\TakesP g w then true else false
theorem zg0 {a:zca} {f:PF} {w:zaf} (h:forF f=some a) (hc:0<w.cycle.length):takB (zgk a) w=true ↔ ps (sg w) f 0:=by
 have e:takB (zgk a) w=true ↔ (0<w.cycle.length/\TakesP (zgk a) w):=by unfold takB;split <;> simp_all
 rw [e,takes_iff hc,for_acc h]
 exact ⟨fun q=>q.2,fun q=>⟨hc,q⟩⟩
def shfT (w:zaf):zaf:=if w.stem.length=0 then ⟨[],w.cycle.drop (1 % w.cycle.length)++w.cycle.take (1 % w.cycle.length)⟩ else if 1<w.stem.length then ⟨w.stem.drop 1,w.cycle⟩ else ⟨[],w.cycle⟩
theorem shf_let {w:zaf} (hc:0<w.cycle.length) (i:Nat):zc4 (shfT w) i=zc4 w (i+1):=by
 unfold shfT
 by_cases h0:w.stem.length=0
 ·rw [if_pos h0]
  unfold zc4
  simp only [cN,cO,if_false,cG]
  rw [if_neg (by omega),h0,cG]
  have hl:(w.cycle.drop (1 % w.cycle.length)++w.cycle.take (1 % w.cycle.length)).length=w.cycle.length:=by simp;omega
  rw [hl]
  by_cases h1:w.cycle.length=1
  ·rw [h1];simp [Nat.mod_one]
  ·have h1m:1 % w.cycle.length=1:=bZ (by omega)
   rw [h1m]
   have hk:=Nat.mod_lt i hc
   rw [Nat.add_mod,h1m]
   generalize i % w.cycle.length=m at *
   by_cases hm:m+1=w.cycle.length
   ·rw [hm,Nat.mod_self,cZ (by simp;omega)]
    simp only [cP]
    rw [show m - (w.cycle.length - 1)=0 by omega,List.getElem?_take_of_lt (by omega)]
   ·rw [bZ (by omega),bN (by simp;omega),List.getElem?_drop,cQ]
 ·rw [if_neg h0]
  by_cases h1:1<w.stem.length
  ·rw [if_pos h1]
   unfold zc4
   simp only [cP]
   by_cases hi:i+1<w.stem.length
   ·rw [if_pos (by omega),if_pos hi,List.getElem?_drop,cQ]
   ·rw [if_neg (by omega),if_neg hi,show i - (w.stem.length - 1)=i+1 - w.stem.length by omega]
  ·rw [if_neg h1]
   unfold zc4
   simp only [cN,cO,if_false,cG]
   rw [if_neg (by omega),show i+1 - w.stem.length=i by omega]
theorem shf_cyc {w:zaf} (hc:0<w.cycle.length):0<(shfT w).cycle.length:=by
 unfold shfT
 split
 ·simp;omega
 ·split <;> exact hc
theorem shf_ps {w:zaf} (hc:0<w.cycle.length) (p:PF):ps (sg (shfT w)) p 0 ↔ ps (sg w) p 1 :=
 zc1 (a:=0) (b:=1) (fun k=>by unfold sg;rw [shf_let hc,Nat.zero_add,cQ]) p 0
theorem words {f:PF} {w:zaf} {a b p x:zca} (hc:0<w.cycle.length) (ha:forF f=some a) (hb:forF f.neg=some b) (hp:forF f=some p) (hx:forF (.nx f)=some x):(takB (zgk a) w=true ↔ ps (sg w) f 0)/\(takB (zgk b) w=true ↔ ¬ ps (sg w) f 0)/\(takB (zgk p) w=true ↔ ps (sg w) f 0)/\takB (zgk x) w=takB (zgk a) (shfT w):=by
 refine ⟨zg0 ha hc,(zg0 hb hc).trans (zeh _ _ _),zg0 hp hc,?_⟩
 rw [Bool.eq_iff_iff,zg0 hx hc,zg0 ha (shf_cyc hc),shf_ps hc]
 exact Iff.rfl
end
def psz:PF->Nat
  | .tt=>1
  | .ff=>1
  | .pa _=>1
  | .na _=>2
  | .and p q=>1+psz p+psz q
  | .or p q=>1+psz p+psz q
  | .nx p=>1+psz p
  | .un p q=>1+psz p+psz q
  | .fr p q=>1+psz p+psz q
def psw:PF->Nat
  | .pa _=>2
  | .na _=>2
  | .tt=>1
  | .ff=>1
  | .and p q=>1+psw p+psw q
  | .or p q=>1+psw p+psw q
  | .nx p=>1+psw p
  | .un p q=>1+psw p+psw q
  | .fr p q=>1+psw p+psw q
theorem zd9:∀ p:PF,psw p.neg=psw p
 | .tt=>rfl
 | .ff=>rfl
 | .pa _=>rfl
 | .na _=>rfl
 | .and p q=>by simp only [psw,PF.neg,zd9 p,zd9 q]
 | .or p q=>by simp only [psw,PF.neg,zd9 p,zd9 q]
 | .nx p=>by simp only [psw,PF.neg,zd9 p]
 | .un p q=>by simp only [psw,PF.neg,zd9 p,zd9 q]
 | .fr p q=>by simp only [psw,PF.neg,zd9 p,zd9 q]
def zem (f:za2):Int->Int:=f.fold fun k _ _ ss lim=>(bA (arT k)).foldl (fun n i=>if n<=lim then n+((ss[i]?).getD fun _=>1) (lim - n) else n) 1
def szL (f:za2):Nat:=f.fold fun k _ _ ss=>(bA (arT k)).foldl (fun n i=>n+(ss[i]?).getD 1) 1
theorem zhw (g:Int->Int->List za2->List α->α) (f:za2) (i:Nat) {d:α} (hd:ffL.fold g=d):((f.kids.map (za2.fold g))[i]?).getD d=(za8 f i).fold g:=by
 unfold za8
 rw [bK]
 cases f.kids[i]? with
 | none=>exact hd.symm
 | some x=>rfl
theorem sizF_eq (f:za2) (lim:Int):zem f lim=(bA (arT f.kind)).foldl (fun n i=>if n<=lim then n+zem (za8 f i) (lim - n) else n) 1:=by
 have h0:zem ffL=fun _=>1:=by unfold zem;rw [za2.fold_eq];rfl
 conv=>lhs;unfold zem
 rw [za2.fold_eq]
 have:∀ i,(((f.kids.map (za2.fold _))[i]?).getD fun _=>(1:Int))=zem (za8 f i):=fun i=>zhw _ f i h0
 simp only [this]
theorem szL_eq (f:za2):szL f=(bA (arT f.kind)).foldl (fun n i=>n+szL (za8 f i)) 1:=by
 have h0:szL ffL=1:=by unfold szL;rw [za2.fold_eq];rfl
 conv=>lhs;unfold szL
 rw [za2.fold_eq]
 have:∀ i,(((f.kids.map (za2.fold _))[i]?).getD 1)=szL (za8 f i):=fun i=>zhw _ f i h0
 simp only [this]
theorem za2.indK {Q:za2->Prop} (h:∀ f,(∀ i,i<arT f.kind->Q (za8 f i))->Q f) (f:za2):Q f:=by
 have h0:Q ffL:=h _ fun i hi=>absurd hi (cO _)
 refine za2.ind (P:=Q) (fun k p ks ih=>h _ fun i _=>?_) f
 unfold za8
 cases e:ks[i]? with
 | none=>show Q ((ks[i]?).getD ffL);rw [e];exact h0
 | some g=>show Q ((ks[i]?).getD ffL);rw [e];exact ih g (bT e)
theorem zbt (k:Int):arT k<=2:=by unfold arT;(repeat' split) <;> omega
theorem fold2 {β:Type} (g:β->Nat->β) (z:β) (hn:n<=2):(bA n).foldl g z=if n=0 then z else if n=1 then g z 0 else g (g z 0) 1:=by
 match n,hn with
 | 0,_=>rfl
 | 1,_=>rfl
 | 2,_=>rfl
theorem sizF_pos (f:za2):∀ lim,1<=zem f lim:=za2.indK (Q:=fun f=>∀ lim,1<=zem f lim) (fun f ih lim=>by
 rw [sizF_eq,fold2 _ _ (zbt _)]
 by_cases h0:arT f.kind=0
 ·rw [if_pos h0];exact b7 _
 ·rw [if_neg h0]
  have h1:=ih 0 (by omega) (lim - 1)
  by_cases hl:(1:Int)<=lim
  ·rw [if_pos hl]
   by_cases h2:arT f.kind=1
   ·rw [if_pos h2];omega
   ·rw [if_neg h2]
    have h3:=ih 1 (by have:=zbt f.kind;omega) (lim - (1+zem (za8 f 0) (lim - 1)))
    by_cases hl2:1+zem (za8 f 0) (lim - 1)<=lim
    ·rw [if_pos hl2];omega
    ·rw [if_neg hl2];omega
  ·rw [if_neg hl]
   by_cases h2:arT f.kind=1
   ·rw [if_pos h2];exact b7 _
   ·rw [if_neg h2,if_neg hl];exact b7 _) f
theorem sizF_is (f:za2):∀ lim,zem f lim<=lim->zem f lim=(szL f:Int):=za2.indK (Q:=fun f=>∀ lim,zem f lim<=lim->zem f lim=(szL f:Int)) (fun f ih lim h=>by
 rw [sizF_eq,fold2 _ _ (zbt _)] at h ⊢
 rw [szL_eq,fold2 _ _ (zbt _)]
 by_cases h0:arT f.kind=0
 ·rw [if_pos h0,if_pos h0];rfl
 ·rw [if_neg h0] at h;rw [if_neg h0,if_neg h0]
  have i0:=ih 0 (by omega) (lim - 1)
  have p0:=sizF_pos (za8 f 0) (lim - 1)
  by_cases h1:arT f.kind=1
  ·rw [if_pos h1] at h;rw [if_pos h1,if_pos h1]
   by_cases hl:(1:Int)<=lim
   ·rw [if_pos hl] at h ⊢
    have:=i0 (by omega)
    omega
   ·rw [if_neg hl] at h;omega
  ·rw [if_neg h1] at h;rw [if_neg h1,if_neg h1]
   have i1:=ih 1 (by have:=zbt f.kind;omega)
   by_cases hl:(1:Int)<=lim
   ·rw [if_pos hl] at h ⊢
    by_cases hl2:1+zem (za8 f 0) (lim - 1)<=lim
    ·rw [if_pos hl2] at h ⊢
     have a:=i0 (by omega)
     have b:=i1 (lim - (1+zem (za8 f 0) (lim - 1))) (by omega)
     omega
    ·rw [if_neg hl2] at h;omega
   ·rw [if_neg hl] at h
    rw [if_neg hl] at h;omega) f
theorem szL_pos (f:za2):1<=szL f:=by
 rw [szL_eq,fold2 _ _ (zbt _)]
 split
 ·exact bG _
 ·split <;> omega
theorem psw_pf (f:za2):psw f.pf<=2*szL f:=za2.indK (Q:=fun f=>psw f.pf<=2*szL f) (fun f ih=>by
 have k0:arT f.kind≠0->psw (za8 f 0).pf<=2*szL (za8 f 0):=fun h=>ih 0 (by omega)
 have k1:arT f.kind=2->psw (za8 f 1).pf<=2*szL (za8 f 1):=fun h=>ih 1 (by omega)
 rw [zct,szL_eq,fold2 _ _ (zbt _)]
 have hp:=szL_pos (za8 f 0)
 have one:∀ k,f.kind=k->(k=3\/k=8\/k=9\/k=10)->arT f.kind=1:=fun k e h=>by rw [e];unfold arT;rw [if_pos h]
 have two:∀ k,f.kind=k->(k=4\/k=5\/k=7\/k=11\/k=12)->arT f.kind=2:=fun k e h=>by rw [e];unfold arT;rw [if_neg (by omega),if_pos h]
 have out:∀ a,a=arT f.kind->2<=2*(if a=0 then 1 else if a=1 then 1+szL (za8 f 0) else 1+szL (za8 f 0)+szL (za8 f 1)):=fun a _=>by (repeat' split) <;> omega
 split
 ·have:=out _ rfl;simp only [psw];omega
 split
 ·have:=out _ rfl;simp only [psw];omega
 split
 ·rename_i e;have a:=one _ e (by omega);rw [if_neg (by omega),if_pos a,zd9];have:=k0 (by omega);omega
 split
 ·rename_i e;have a:=two _ e (by omega);rw [if_neg (by omega),if_neg (by omega)];have:=k0 (by omega);have:=k1 a;simp only [psw];omega
 split
 ·rename_i e;have a:=two _ e (by omega);rw [if_neg (by omega),if_neg (by omega)];have:=k0 (by omega);have:=k1 a;simp only [psw];omega
 split
 ·rename_i e;have a:=two _ e (by omega);rw [if_neg (by omega),if_neg (by omega)];have:=k0 (by omega);have:=k1 a;simp only [psw,zd9];omega
 split
 ·rename_i e;have a:=one _ e (by omega);rw [if_neg (by omega),if_pos a];have:=k0 (by omega);simp only [psw];omega
 split
 ·rename_i e;have a:=one _ e (by omega);rw [if_neg (by omega),if_pos a];have:=k0 (by omega);simp only [psw];omega
 split
 ·rename_i e;have a:=one _ e (by omega);rw [if_neg (by omega),if_pos a];have:=k0 (by omega);simp only [psw];omega
 split
 ·rename_i e;have a:=two _ e (by omega);rw [if_neg (by omega),if_neg (by omega)];have:=k0 (by omega);have:=k1 a;simp only [psw];omega
 split
 ·rename_i e;have a:=two _ e (by omega);rw [if_neg (by omega),if_neg (by omega)];have:=k0 (by omega);have:=k1 a;simp only [psw];omega
 ·have:=out _ rfl;simp only [psw];omega) f
def zds (k:Int):Int:=if 0<arT k\/k=0\/k=2 then k else 1
def zb3 (f:za2):za2->Bool:=f.fold fun k p _ ss g=>decide (zds k=zds g.kind) && !(decide (k=2) && decide (p≠g.prop)) && (bA (arT k)).all fun i=>((ss[i]?).getD fun g=>decide (1=zds g.kind)) (za8 g i)
theorem zcs (f g:za2):zb3 f g=(decide (zds f.kind=zds g.kind) && !(decide (f.kind=2) && decide (f.prop≠g.prop)) && (bA (arT f.kind)).all fun i=>zb3 (za8 f i) (za8 g i)):=by
 have h0:zb3 ffL=fun g=>decide (1=zds g.kind):=by
  unfold zb3;rw [za2.fold_eq];funext g
  show (decide (zds 1=zds g.kind) && !(decide ((1:Int)=2) && _) && _)=_
  have:zds 1=1:=rfl
  rw [this]
  have:arT (1:Int)=0:=rfl
  simp [ffL,za2.kind,this]
 conv=>lhs;unfold zb3
 rw [za2.fold_eq]
 have:∀ i,(((f.kids.map (za2.fold _))[i]?).getD fun g=>decide (1=zds g.kind))=zb3 (za8 f i):=fun i=>zhw _ f i h0
 simp only [this]
theorem same_pf:∀ p q:PF,zb3 p.l q.l=PF.beq p q:=by
 have r0:arT 0=0:=rfl
 have r1:arT 1=0:=rfl
 have r2:arT 2=0:=rfl
 have r3:arT 3=1:=rfl
 have r4:arT 4=2:=rfl
 have r5:arT 5=2:=rfl
 have r8:arT 8=1:=rfl
 have r11:arT 11=2:=rfl
 have r12:arT 12=2:=rfl
 have base:∀ a b:Int,zb3 ⟨2,a,[]⟩ ⟨2,b,[]⟩=(a == b):=fun a b=>by rw [zcs];simp [za2.kind,za2.prop,r2];by_cases h:a=b <;> simp [h]
 intro p
 induction p with
 | tt=>intro q;rw [zcs];cases q <;> simp [PF.l,za2.kind,za2.prop,za2.kids,zds,PF.beq,r0,r1,r2,r3,r4,r5,r8,r11,r12]
 | ff=>intro q;rw [zcs];cases q <;> simp [PF.l,za2.kind,za2.prop,za2.kids,zds,PF.beq,r0,r1,r2,r3,r4,r5,r8,r11,r12]
 | pa a=>intro q;cases q with
  | pa b=>exact base a b
  | _=>rw [zcs];simp [PF.l,za2.kind,za2.prop,za2.kids,zds,PF.beq,r0,r1,r2,r3,r4,r5,r8,r11,r12]
 | na a=>intro q;rw [zcs];cases q <;> simp [PF.l,za2.kind,za2.prop,za2.kids,zds,PF.beq,r0,r1,r2,r3,r4,r5,r8,r11,r12,bF,za8,base]
 | nx p ih=>intro q;rw [zcs];cases q <;> simp [PF.l,za2.kind,za2.prop,za2.kids,zds,PF.beq,r0,r1,r2,r3,r4,r5,r8,r11,r12,bF,za8,ih]
 | and p q ih1 ih2=>intro q;rw [zcs];cases q <;> simp [PF.l,za2.kind,za2.prop,za2.kids,zds,PF.beq,r0,r1,r2,r3,r4,r5,r8,r11,r12,bF,za8,ih1,ih2]
 | or p q ih1 ih2=>intro q;rw [zcs];cases q <;> simp [PF.l,za2.kind,za2.prop,za2.kids,zds,PF.beq,r0,r1,r2,r3,r4,r5,r8,r11,r12,bF,za8,ih1,ih2]
 | un p q ih1 ih2=>intro q;rw [zcs];cases q <;> simp [PF.l,za2.kind,za2.prop,za2.kids,zds,PF.beq,r0,r1,r2,r3,r4,r5,r8,r11,r12,bF,za8,ih1,ih2]
 | fr p q ih1 ih2=>intro q;rw [zcs];cases q <;> simp [PF.l,za2.kind,za2.prop,za2.kids,zds,PF.beq,r0,r1,r2,r3,r4,r5,r8,r11,r12,bF,za8,ih1,ih2]
abbrev RowAtC (H:Im) (B:Bl):=zh5 (CR H B)
section
variable {P:Program}
theorem Ok.rowc {B:Bl} (h:Ok e f H B a w) (hl:f.l n=some (.rowc ty es rows)) {b c:Nat} (hB:B n=some (b,c)) :
  ∃ arr:List Value,w.heap[b]?=some (.cells ⟨arr⟩ ty (0,0))/\arr.length=c*es/\rows.length<=c/\c<=maxLen/\(∀ r ∈ rows,r.length=es)/\RowAtC H B arr es rows:=by
 have h1:=h.loc n _ hl
 simp only [LR,hB] at h1
 obtain ⟨arr,h1,h2,h3,h4,h5,h6⟩:=h1
 exact ⟨arr,h1,h2,h3,h4,h5,(zbc h2 h3 h5).1 h6⟩
theorem Op.loadC_c {d fo:Nat} {r:List C} {x:C} {rty:TypeId} {pos af gd} (hs:Sz P xt m false) (ho:o=i*es+fo) (hr:rows[i]?=some r) (hx:r[fo]?=some x) :
  zar P ⟨some d,.load xt (.tmp t),ty,pos,af,gd⟩ { rs:=[(t,vp n o)],rl:=[(n,.rowc rty es rows)],ws:=[(d,some (.t (.c x)))] } :=
 zar.value d _ rfl rfl rfl fun e f H B a w hok hr2=>by
  obtain ⟨b,c,hb,hu⟩:=(hok.slot t _ (hr2.1 (t,vp n o) (by simp))).ptrI
  obtain ⟨arr,h1,h2,h3,h4,h5,h6⟩:=hok.rowc (hr2.2 (n,.rowc rty es rows) (by simp)) hb
  obtain ⟨u,g1,g2⟩:=h6 i r hr fo x hx
  rw [<- ho] at g1
  refine ⟨u,?_,g2⟩
  have h7:a.eval (.tmp t) = .pointer (some ⟨b,o,none⟩):=hu
  generalize a.eval=ρ at h7 ⊢
  have h8:=ze1 (P:=P) hs (zc8 h1 g1)
  simp only [execOp,h7,Instr.loadAt,Instr.sureAddr,Sem.run_bind,Sem.run_pure,Result.andThen_ok,h8]
theorem Op.buildOC {d len:Nat} {xs:List (Nat × Operand)} {vs:List (Nat × T)} {t:TypeId} {pos af gd} (hT:ElZ P t el es) (h:OPs xs vs rs) (hf:zfk (plS len 0 es) (List.replicate (len*es) .any) vs=some rows.flatten)
  (hlen:rows.length=len) (hes:∀ r ∈ rows,r.length=es) (hl0:0<len) (hsm:len*es<=16777216) (hn0:∀ x ∈ rows.flatten,n ∉ x.tags) :
  zar P ⟨some d,.buildSlice t len ⟨xs⟩,ty,pos,af,gd⟩ { rs:=rs,ws:=[(d,some (.t (.c (.own n len))))],wl:=[(n,some (.rowc el es rows))],nw:=[n] }:=by
 refine zar.news d n _ _ rfl rfl rfl (by simp) fun e f H B a w hok hr hn=>?_
 have hp:=h.eval hok hr.1
 obtain ⟨l,h1,h2⟩:=zf5 (P:=P) hT hl0 hsm hp hf w
 have hfl:rows.flatten.length=len*es:=by rw [zf4 hes,hlen]
 have hll:l.length=len*es:=by rw [<- h2.length,hfl]
 refine ⟨.slice (some ⟨w.heap.size,0,none⟩) len len,len,.cells ⟨l⟩ el,?_,?_,?_⟩
 ·have e1:((⟨xs⟩:Array (Nat × Operand)).map fun x=>(x.1,a.eval x.2))=⟨xs.map fun p=>(p.1,a.eval p.2)⟩:=by simp
  simp only [execOp,e1,Sem.run_bind,h1,Result.andThen_ok,Sem.run_pure]
 ·simp only [LR,if_true]
  refine ⟨l,heap_alloc_new w _,hll,by omega,?_,hes,?_⟩
  ·have:len*1<=len*es:=Nat.mul_le_mul_left _ hT.pos
   simp only [maxLen];omega
  ·rw [cR (by rw [hll,hlen];exact bG _)]
   exact zat.tagsMono h2 hn0
 ·simp [VR,TR,CR]
theorem Ok.ownC {B:Bl} (h:Ok e f H B a w) (hl:f.l n=some (.rowc el es rows)) {v:Value} (h1:CR H B (.own n rows.length) v):OwnR (CR H B) w el es rows v (B n):=by
 simp only [CR] at h1
 cases hB:B n with
 | none=>rw [hB] at h1;obtain ⟨h3,h4⟩:=h1;exact ⟨List.length_eq_zero_iff.1 h3,h4⟩
 | some q=>rw [hB] at h1;exact ⟨h1,h.rowc hl hB⟩
theorem Op.appOOC {d u n' sn len len2 len' bs:Nat} {rows2 rows':List (List C)} {pos af gd} (hT:ElT P xt el es bs) (hlen:len=rows.length) (hlen2:len2=rows2.length) (hlen':len'=len+rows2.length) (hrow:rows++rows2=rows')
  (hb:(len+rows2.length)*bs<=140737488355328) :
  zar P ⟨some d,.call { callee:=.builtin .append,args:=#[.tmp t,.tmp u],argTypes:=#[xt,xt] }, ty,pos,af,gd⟩
   { rs:=[(t,.t (.c (.own n len))),(u,.t (.c (.own sn len2)))],rl:=[(n,.rowc el es rows),(sn,.rowc el es rows2)],ws:=[(d,some (.t (.c (.own n' len'))))],wl:=[(n', some (.rowc el es rows')),(n,none)],nw:=[n'] }:=by
 subst hlen hlen2 hlen' hrow
 refine Op.appG (cA ..) fun e f H B a w hok hs hl hnew=>?_
 have hl1:=hl (n,.rowc el es rows) (by simp)
 have hl2:=hl (sn,.rowc el es rows2) (by simp)
 have h2:=hok.ownC hl2 (hok.slot u _ (hs (u,.t (.c (.own sn rows2.length))) (by simp)))
 obtain ⟨v,w', p,r1,r2,r⟩:=zgl (ty:=ty) hT (hok.ownC hl1 (hok.slot t _ (hs (t,.t (.c (.own n rows.length))) (by simp)))) h2.hes (h2.src fun _ _ h=>CR.flat h) hb
 refine ⟨v,w', p,r1,r2.cr (if_pos rfl) bQ,?_,r⟩
 simp only [LR,if_true]
 cases p with
 | none=>exact r2.1
 | some q =>
  obtain ⟨_,arr,g1,g2,g3,g4,g5,g6⟩:=r2
  refine ⟨arr,g1,g2,g3,g4,g5,(zbc g2 g3 g5).2 fun i r hri f x hx2=>?_⟩
  obtain ⟨u,j1,j2⟩:=g6 i r hri f x hx2
  refine ⟨u,j1,CR.mono (Le.refl H) (fun m hm=>if_neg (show ¬ m=n' from fun q=>?_)) j2⟩
  subst q
  rcases bX.1 (bT hri) with h' | h'
  ·exact hnew.2.2.2 n _ hl1 (by simp only [L.tags,bV];exact ⟨x,cT.2 ⟨r,h', bT hx2⟩,hm⟩)
  ·exact hnew.2.2.2 sn _ hl2 (by simp only [L.tags,bV];exact ⟨x,cT.2 ⟨r,h', bT hx2⟩,hm⟩)
end
def F.oft (sl:List (Nat × V)) (lc:List (Nat × L)) (tl:Nat->Option L):F:=⟨fun t=>sl.lookup t,fun n=>match lc.lookup n with | some l=>some l | none=>tl n⟩
structure Tl (tl:Nat->Option L) (low:Nat->Bool):Prop where
  z:∀ n,low n=true->tl n=none
  t:∀ n l,tl n=some l->∀ k ∈ l.tags,low k=false
def newT (low:Nat->Bool) (K:List Nat) (sl:List (Nat × V)) (lc:List (Nat × L)) (n:Nat):Bool:=low n && zhn K sl lc n
theorem newT_spec {low:Nat->Bool} (hT:Tl tl low) (h:newT low K sl lc n=true):New K (F.oft sl lc tl) n:=by
 unfold newT at h
 rw [bJ] at h
 obtain ⟨h1,h2,h3,h4⟩:=zb9 h.2
 have h2:lc.lookup n=none:=h2
 refine ⟨h1,?_,h3,fun m l hm=>?_⟩
 ·show (match lc.lookup n with | some l=>some l | none=>tl n)=none
  rw [h2];exact hT.z n h.1
 ·have hm:(match lc.lookup m with | some l=>some l | none=>tl m)=some l:=hm
  cases e:lc.lookup m with
  | some x=>rw [e] at hm;injection hm with hm;subst hm;exact h4 m x e
  | none=>rw [e] at hm;intro hn;have:=hT.t m l hm n hn;rw [h.1] at this;cases this
theorem le_ofT (h1:leS f sl=sl.map fun p=>some p.2) (h2:leN f lc=lc.map fun p=>some p.2) (h3:∀ n l,tl n=some l->lc.lookup n=none->f.l n=some l):f.le (F.oft sl lc tl) :=
 ⟨fun _ _ hv=>zam h1 _ (zae hv),fun n l hv=>by
  have hv:(match lc.lookup n with | some l=>some l | none=>tl n)=some l:=hv
  cases e:lc.lookup n with
  | some x=>rw [e] at hv;injection hv with hv;subst hv;exact zam h2 _ (zae e)
  | none=>rw [e] at hv;exact h3 n l hv e⟩
theorem oft_l (h:n ∉ lc.map (·.1)):(F.oft sl lc tl).l n=tl n:=by
 show (match lc.lookup n with | some l=>some l | none=>tl n)=_
 rw [zci h]
theorem oft_none (sl:List (Nat × V)) (lc:List (Nat × L)):F.oft sl lc (fun _=>none)=F.of sl lc:=by
 unfold F.oft F.of
 congr
 funext n
 cases lc.lookup n <;> rfl
theorem runF_out:∀ {is:List I} {f:F} {n:Nat}, n ∉ is.flatMap (fun i=>i.wl.map (·.1))->(zhb f is).l n=f.l n
 | [],_,_,_=>rfl
 | i :: is,f,n,h=>by
  simp only [List.flatMap_cons,bX,not_or] at h
  show (zhb (f.app i) is).l n=_
  rw [runF_out h.2,zfy h.1]
section
variable {P:Program} {Q:Exit->Act->World->Prop} {w0:World} {H0:Im} {B0:Bl} {K:List Nat} {N:Nat} {tl:Nat->Option L} {low:Nat->Bool}
theorem lowIn {ns:List Nat} (hT:Tl tl low) (h:ns.all low=true) {l:L} (hn:tl n=some l):n ∉ ns:=fun hm=>by
 have:=hT.z n (bI.1 h n hm)
 rw [hn] at this;cases this
theorem ze6 {x y:Code} (b:Bool) (h:St ⟨w0,H0,B0,K,N⟩ (F.oft sl lc tl) a w) (ht:(F.oft sl lc tl).s t=some (vb b)) (hx:b=true->x.wp P Q a w) (hy:b=false->y.wp P Q a w):(Code.cond (.tmp t) x y).wp P Q a w :=
 wp_cond_S b h ht hx hy
theorem atST {sl':List (Nat × V)} {lc':List (Nat × L)} (hT:Tl tl low) (h:St ⟨w0,H0,B0,K,N⟩ (F.oft sl lc tl) a w) (h0:(lc.map (·.1)).all low=true) (h1:leS (F.oft sl lc tl) sl'=sl'.map fun p=>some p.2) (h2:leN (F.oft sl lc tl) lc'=lc'.map fun p=>some p.2):St ⟨w0,H0,B0,K,N⟩ (F.oft sl' lc' tl) a w :=
 h.weaken (le_ofT h1 h2 fun n l hn _=>by rw [oft_l (lowIn hT h0 hn)];exact hn)
theorem loopST {c:Code} (I:ι->Prop) (sls:ι->List (Nat × V)) (lcs:ι->List (Nat × L)) (tls:ι->Nat->Option L) (μ:ι->Nat) (x:ι) (hI:I x) (hT:Tl (tls x) low) (h:St ⟨w0,H0,B0,K,N⟩ (F.oft sl lc (tls x)) a w) (h0:(lc.map (·.1)).all low=true)
  (h1:leS (F.oft sl lc (tls x)) (sls x)=(sls x).map fun p=>some p.2) (h2:leN (F.oft sl lc (tls x)) (lcs x)=(lcs x).map fun p=>some p.2)
  (round:∀ x a w,I x->St ⟨w0,H0,B0,K,N⟩ (F.oft (sls x) (lcs x) (tls x)) a w->c.wp P (Exit.then (fun a' w'=>∃ y,(I y/\μ y<μ x)/\St ⟨w0,H0,B0,K,N⟩ (F.oft (sls y) (lcs y) (tls y)) a' w') Q) a w):(Code.loop c).wp P Q a w:=by
 refine wp_loop_S (ι:={x // I x}) (fun x=>F.oft (sls x.1) (lcs x.1) (tls x.1)) (fun x=>μ x.1) ⟨x,hI⟩ (atST hT h h0 h1 h2) fun x a w hst=>wp_mono (round x.1 a w x.2 hst) fun en a w hq=>?_
 cases en with
 | normal=>obtain ⟨y,⟨hy,hlt⟩,hst⟩:=hq;exact ⟨⟨y,hy⟩,hlt,hst⟩
 | _=>exact hq
theorem zeb {I:ι->Prop} {sls:ι->List (Nat × V)} {lcs:ι->List (Nat × L)} {tls:ι->Nat->Option L} {μ:ι->Nat} {x:ι} (y:ι) (hT:Tl (tls y) low) (h:St ⟨w0,H0,B0,K,N⟩ (F.oft sl lc (tls y)) a w) (hy:I y) (hlt:μ y<μ x) (h0:(lc.map (·.1)).all low=true)
  (h1:leS (F.oft sl lc (tls y)) (sls y)=(sls y).map fun p=>some p.2) (h2:leN (F.oft sl lc (tls y)) (lcs y)=(lcs y).map fun p=>some p.2):∃ y,(I y/\μ y<μ x)/\St ⟨w0,H0,B0,K,N⟩ (F.oft (sls y) (lcs y) (tls y)) a w :=
 ⟨y,⟨hy,hlt⟩,atST hT h h0 h1 h2⟩
inductive Chn (P:Program) (ops:Array Oper) (e:E) (g:F):F->List Nat->Prop
  | nil {f:F} (h:f.le g):Chn P ops e g f []
  | cons {f:F} {k:Nat} {l:List Nat} {o:Oper} (i:I) (ho:ops[k]?=some o) (hd:Does P ops o i) (hb:FitsE e i) (hr:zfl f i) (hn:∀ n ∈ i.nw,New e.K f n) (h:Chn P ops e g (f.app i) l):Chn P ops e g f (k :: l)
theorem Chn.ops {ops:Array Oper} {g:F} (hQ:∀ a w,St e g a w->Q .normal a w):∀ (l:List Nat) (f:F) (a:Act) (w:World),Chn P ops e g f l->St e f a w->wpOps P ops Q l a w
 | [],f,a,w,hc,h=>by cases hc with | nil hg=>exact hQ a w (h.weaken hg)
 | k :: l,f,a,w,hc,h=>by
  rw [wpOps_cons]
  cases hc with
  | cons i ho hd hb hr hn h'=>exact wpOp_mono (fun a' w' h2=>Chn.ops hQ l _ a' w' h' h2) (Does.wpOp ho hd h hr hn hb)
theorem regionC {id:Nat} {ops:Array Oper} {g:F} (hc:Chn P ops e g f (bA ops.size)) (h:St e f a w) (hQ:∀ a w,St e g a w->Q .normal a w):(Code.region id ops false).wp P Q a w :=
 wp_region (Chn.ops hQ _ _ _ _ hc h)
end
theorem C.ren_id {c:C} (h:n ∉ c.tags):c.ren n m=c:=by
 have hA:∀ x:A,n ∉ x.tags->x.ren n m=x:=fun x hx=>by
  cases x with
  | d x=>rfl
  | ptr k o=>simp only [A.ren];rw [zck (fun e=>hx (by simp [A.tags,e]))];rfl
 cases c with
 | fn f fs cs =>
  simp only [C.tags,bX,bV,not_or,not_exists,not_and] at h
  simp only [C.ren];rw [zbd fun x hx=>hA x (h.1 x hx),zbd fun x hx=>hA x (h.2 x hx)]
 | own k l=>simp only [C.ren];rw [zck (fun e=>h (by simp [C.tags,e]))];rfl
 | ptr k o=>simp only [C.ren];rw [zck (fun e=>h (by simp [C.tags,e]))];rfl
 | sub k o l=>simp only [C.ren];rw [zck (fun e=>h (by simp [C.tags,e]))];rfl
 | mp k=>simp only [C.ren];rw [zck (fun e=>h (by simp [C.tags,e]))];rfl
 | d x=>rfl
 | el x=>rfl
 | any=>rfl
theorem T.ren_id {x:T} (h:n ∉ x.tags):x.ren n m=x:=by
 cases x with
 | c x=>simp only [T.ren];rw [C.ren_id h]
 | agg cs=>simp only [T.ren];rw [zbd fun c hc=>C.ren_id fun hn=>h (bV.2 ⟨c,hc,hn⟩)]
theorem V.ren_id {x:V} (h:n ∉ x.tags):x.ren n m=x:=by
 cases x with
 | t x=>simp only [V.ren];rw [T.ren_id h]
 | tup cs=>simp only [V.ren];rw [zbd fun c hc=>T.ren_id fun hn=>h (bV.2 ⟨c,hc,hn⟩)]
theorem L.ren_id {x:L} (h:n ∉ x.tags):x.ren n m=x:=by
 cases x with
 | box cs=>simp only [L.ren];rw [zbd fun c hc=>C.ren_id fun hn=>h (bV.2 ⟨c,hc,hn⟩)]
 | row _ _ _=>rfl
 | rowc _ _ r=>simp only [L.ren];rw [zbd fun r hr=>zbd fun c hc=>C.ren_id fun hn=>h (bV.2 ⟨c,cT.2 ⟨r,hr,hc⟩,hn⟩)]
 | mp _=>rfl
 | mpx _ _=>rfl
 | it k _ _ _=>simp only [L.ren];rw [zck (fun e=>h (by simp [L.tags,e]))];rfl
 | bld _ c rest =>
  simp only [L.tags,bX,not_or,bV,not_exists,not_and] at h
  simp only [L.ren];rw [C.ren_id h.1,zbd fun c hc=>C.ren_id fun hn=>h.2 c hc hn]
def lo9 (n:Nat):Bool:=Nat.blt n 999
def lo10 (n:Nat):Bool:=Nat.blt n 1000
def lowS (sl:List (Nat × V)):Bool:=sl.all fun p=>p.2.tags.all lo9
def lowL (lc:List (Nat × L)):Bool:=lc.all fun p=>lo9 p.1 && p.2.tags.all lo9
theorem zd3 (h:lo9 n=true):n<999:=by simpa [lo9,Nat.blt_eq] using h
theorem lowS_lt (h:lowS sl=true) {v:V} (hv:sl.lookup t=some v) (hn:n ∈ v.tags):n<999:=zd3 (bI.1 (bI.1 h _ (zae hv)) n hn)
theorem lowL_lt (h:lowL lc=true) {l:L} (hv:lc.lookup m=some l):m<999/\∀ n ∈ l.tags,n<999:=by
 have:=bI.1 h _ (zae hv)
 rw [bJ] at this
 exact ⟨zd3 this.1,fun n hn=>zd3 (bI.1 this.2 n hn)⟩
def lowS9 (sl:List (Nat × V)):Bool:=sl.all fun p=>p.2.tags.all lo10
theorem zhp (h:lowS9 sl=true) {v:V} (hv:sl.lookup t=some v) (hn:n ∈ v.tags):n<1000:=by
 have:=bI.1 (bI.1 h _ (zae hv)) n hn
 simpa [lo10,Nat.blt_eq] using this
theorem lowL_none (h:lowL lc=true) (hn:999<=n):lc.lookup n=none:=by
 cases e:lc.lookup n with
 | none=>rfl
 | some l=>have:=(lowL_lt h e).1;omega
section
variable (hty ty:TypeId) (es:Nat)
def nm0 (j:Nat):Nat:=j+1000
def nmU (nm:Nat->Nat) (i p:Nat):Nat->Nat:=fun j=>if j=i then p else nm j
end
section
variable {hty ty:TypeId} {es:Nat}
variable {w0:World} {H0:Im} {B0:Bl} {N:Nat} {a:Act} {w:World} {sl:List (Nat × V)} {lc:List (Nat × L)} {M:List (List (List D))}
theorem zaz {l:L} (h:(F.oft sl lc tl).l n=some l):lc.lookup n=some l\/(lc.lookup n=none/\tl n=some l):=by
 have h:(match lc.lookup n with | some l=>some l | none=>tl n)=some l:=h
 cases e:lc.lookup n with
 | some x=>rw [e] at h;exact .inl h
 | none=>rw [e] at h;exact .inr ⟨rfl,h⟩
theorem zbn {l:L} (h:lc.lookup n=some l):(F.oft sl lc tl).l n=some l:=by
 show (match lc.lookup n with | some l=>some l | none=>tl n)=_
 rw [h]
theorem zba (h:lc.lookup n=none):(F.oft sl lc tl).l n=tl n:=by
 show (match lc.lookup n with | some l=>some l | none=>tl n)=_
 rw [h]
theorem lk_map {β:Type} (g:α->β) (t:Nat) (v:β):∀ l:List (Nat × α),(l.map fun p=>(p.1,g p.2)).lookup t=some v->(l.lookup t).map g=some v
 | [],h=>by cases h
 | p :: l,h=>by
  rw [bP,List.lookup_cons] at h
  rw [List.lookup_cons]
  cases e:(t == p.1) with
  | true=>rw [e] at h;exact h
  | false=>rw [e] at h;exact lk_map g t v l h
theorem zhj:∀ {l:List α} {i:Nat} {x:α}, l[i]?=some x->l.set i x=l
 | [],_,_,h=>by cases h
 | _ :: _,0,x,h=>by simp at h;rw [List.set_cons_zero,h]
 | _ :: l,i+1,x,h=>by rw [List.set_cons_succ,zhj (by simpa using h)]
theorem rd {i:I} (h1:i.rs.map (fun p=>f.s p.1)=i.rs.map fun p=>some p.2) (h2:i.rl.map (fun p=>f.l p.1)=i.rl.map fun p=>some p.2):zfl f i:=⟨fun p hp=>zam h1 p hp,fun p hp=>zam h2 p hp⟩
theorem zfw {i:I} (h1:i.ws.all (fun p=>Nat.blt p.1 e.n)=true) (h2:i.k0=false):FitsE e i:=⟨fun p hp=>by have:=bI.1 h1 p hp;simpa [Nat.blt_eq] using this,fun h=>by rw [h2] at h;cases h⟩
theorem New.app1 {j:I} (h:New K f n) (hm:zcm j.wtags n=false):New K (f.app j) n:=New.app (i:={ nw:=[n] }) h (by unfold ment ze7;simp only [List.all_cons,List.all_nil,hm];rfl) (by simp)
end
theorem zha:SlT dC 22 24 3:=SlT.mk' Tryz.underlying22 (by kernel_rfl)
theorem zdy:Sz dC 24 3 true:=Sz.mk' (by kernel_rfl) Tryz.underlying24 _ rfl
theorem va1_4:ElZ dC 22 24 3:=ElZ.mk' Tryz.underlying22 _ _ rfl rfl
def za2.d (f:za2):List D:=f.fold fun k p _ ds=>[.raw (.int .i64 k),.raw (.int .i64 p),.sl 3 ds]
theorem za2.d_eq (f:za2):f.d=[.raw (.int .i64 f.kind),.raw (.int .i64 f.prop),.sl 3 (f.kids.map za2.d)]:=za2.fold_eq _ f
theorem za2.d_len (f:za2):f.d.length=3:=by rw [za2.d_eq];rfl
def zcf (k:Int):Int:=if k=0 then 1 else if k=1 then 0 else if k=4 then 5 else if k=5 then 4 else if k=11 then 12 else if k=12 then 11 else k
def zan (k:Int) (d:Bool):Int:=if d=true then zcf k else k
theorem kid_at {f:za2} {x:za2} (h:f.kids[i]?=some x):za8 f i=x:=by unfold za8;rw [h];rfl
theorem kid_no {f:za2} (h:f.kids.length<=i):za8 f i=ffL:=by unfold za8;rw [cL h];rfl
theorem zgo (k:Int) :Fn dC 40 [] [vI k] (vI ((arT k:Nat):Int)) []:=by
 refine fB Tryz.func40 rfl 15 fun w H B a h=>Jq 0 [] [(0,vI k),(2,vI 0)] [] h fun a w h=>qW (Jg 0 [] [0] [(3,vI k)] [] [] h fun a w h=>qZ (qW (Jg 0 [] [] [(4,vb (k == 3))] [] [] h fun a w h=>cS (k == 3) h (fun hc1=>?_) (fun hc2=>?_))))
 ·refine qU (za1 (cS (k == 3) h (fun hc=>?_) (fun hc=>?_)))
  ·clear hc;refine Jq 0 [] [(2,vI 1)] [] h fun a w h=>qV (zaa (za5 (rT (.c (cI 1)) h rfl ?_)));have hz:(((arT k:Nat):Int):Int)=1:=by unfold arT;(repeat' split) <;> first | rfl | omega | (simp_all;done)
   rw [hz];try rfl
  rw [hc1] at hc;cases hc
 refine Jg 0 [] [] [(4,vb (k == 8))] [] [] h fun a w h=>cS (k == 8) h (fun hc3=>?_) (fun hc4=>?_)
 ·refine qU (za1 (cS (k == 8) h (fun hc=>?_) (fun hc=>?_)))
  ·clear hc;refine Jq 0 [] [(2,vI 1)] [] h fun a w h=>qV (zaa (za5 (rT (.c (cI 1)) h rfl ?_)));have hz:(((arT k:Nat):Int):Int)=1:=by unfold arT;(repeat' split) <;> first | rfl | omega | (simp_all;done)
   rw [hz];try rfl
  rw [hc3] at hc;cases hc
 refine Jg 0 [] [] [(4,vb (k == 9))] [] [] h fun a w h=>cS (k == 9) h (fun hc5=>?_) (fun hc6=>?_)
 ·refine qU (za1 (cS (k == 9) h (fun hc=>?_) (fun hc=>?_)))
  ·clear hc;refine Jq 0 [] [(2,vI 1)] [] h fun a w h=>qV (zaa (za5 (rT (.c (cI 1)) h rfl ?_)));have hz:(((arT k:Nat):Int):Int)=1:=by unfold arT;(repeat' split) <;> first | rfl | omega | (simp_all;done)
   rw [hz];try rfl
  rw [hc5] at hc;cases hc
 refine Jh 0 [] [] [(4,vb (k == 10))] [] [] h fun a w h=>za1 (cS (k == 10) h (fun hc7=>?_) (fun hc8=>?_))
 ·refine Jq 0 [] [(2,vI 1)] [] h fun a w h=>qV (zaa (za5 (rT (.c (cI 1)) h rfl ?_)));have hz:(((arT k:Nat):Int):Int)=1:=by unfold arT;(repeat' split) <;> first | rfl | omega | (simp_all;done)
  rw [hz];try rfl
 refine qW (Jg 0 [] [4] [(9,vb (k == 4))] [] [] h fun a w h=>cS (k == 4) h (fun hc9=>?_) (fun hc10=>?_))
 ·refine qU (za1 (cS (k == 4) h (fun hc=>?_) (fun hc=>?_)))
  ·clear hc;refine Jq 0 [] [(2,vI 2)] [] h fun a w h=>qV (zaa (za5 (rT (.c (cI 2)) h rfl ?_)));have hz:(((arT k:Nat):Int):Int)=2:=by unfold arT;(repeat' split) <;> first | rfl | omega | (simp_all;done)
   rw [hz];try rfl
  rw [hc9] at hc;cases hc
 refine Jg 0 [] [] [(9,vb (k == 5))] [] [] h fun a w h=>cS (k == 5) h (fun hc11=>?_) (fun hc12=>?_)
 ·refine qU (za1 (cS (k == 5) h (fun hc=>?_) (fun hc=>?_)))
  ·clear hc;refine Jq 0 [] [(2,vI 2)] [] h fun a w h=>qV (zaa (za5 (rT (.c (cI 2)) h rfl ?_)));have hz:(((arT k:Nat):Int):Int)=2:=by unfold arT;(repeat' split) <;> first | rfl | omega | (simp_all;done)
   rw [hz];try rfl
  rw [hc11] at hc;cases hc
 refine Jg 0 [] [] [(9,vb (k == 7))] [] [] h fun a w h=>cS (k == 7) h (fun hc13=>?_) (fun hc14=>?_)
 ·refine qU (za1 (cS (k == 7) h (fun hc=>?_) (fun hc=>?_)))
  ·clear hc;refine Jq 0 [] [(2,vI 2)] [] h fun a w h=>qV (zaa (za5 (rT (.c (cI 2)) h rfl ?_)));have hz:(((arT k:Nat):Int):Int)=2:=by unfold arT;(repeat' split) <;> first | rfl | omega | (simp_all;done)
   rw [hz];try rfl
  rw [hc13] at hc;cases hc
 refine Jg 0 [] [] [(9,vb (k == 11))] [] [] h fun a w h=>cS (k == 11) h (fun hc15=>?_) (fun hc16=>?_)
 ·refine qU (za1 (cS (k == 11) h (fun hc=>?_) (fun hc=>?_)))
  ·clear hc;refine Jq 0 [] [(2,vI 2)] [] h fun a w h=>qV (zaa (za5 (rT (.c (cI 2)) h rfl ?_)));have hz:(((arT k:Nat):Int):Int)=2:=by unfold arT;(repeat' split) <;> first | rfl | omega | (simp_all;done)
   rw [hz];try rfl
  rw [hc15] at hc;cases hc
 refine Jh 0 [] [3] [(9,vb (k == 12))] [] [] h fun a w h=>za1 (cS (k == 12) h (fun hc17=>?_) (fun hc18=>?_))
 ·refine Jq 0 [] [(2,vI 2)] [] h fun a w h=>qV (zaa (za5 (rT (.c (cI 2)) h rfl ?_)));have hz:(((arT k:Nat):Int):Int)=2:=by unfold arT;(repeat' split) <;> first | rfl | omega | (simp_all;done)
  rw [hz];try rfl
 refine qU (za7 (za1 (Jg 0 [] [9] [] [] [] h fun a w h=>qV (rT (.c (cI 0)) h rfl ?_))));have hz:(((arT k:Nat):Int):Int)=0:=by unfold arT;(repeat' split) <;> first | rfl | omega | (simp_all;done)
 rw [hz];try rfl
theorem SWRArity (k:Int) :Fn dC 13 [] [vI k] (vI ((arT k:Nat):Int)) []:=by
 refine fB Tryz.func13 rfl 15 fun w H B a h=>Jq 0 [] [(0,vI k),(2,vI 0)] [] h fun a w h=>qW (Jg 0 [] [0] [(3,vI k)] [] [] h fun a w h=>qZ (qW (Jg 0 [] [] [(4,vb (k == 3))] [] [] h fun a w h=>cS (k == 3) h (fun hc1=>?_) (fun hc2=>?_))))
 ·refine qU (za1 (cS (k == 3) h (fun hc=>?_) (fun hc=>?_)))
  ·clear hc;refine Jq 0 [] [(2,vI 1)] [] h fun a w h=>qV (zaa (za5 (rT (.c (cI 1)) h rfl ?_)));have hz:(((arT k:Nat):Int):Int)=1:=by unfold arT;(repeat' split) <;> first | rfl | omega | (simp_all;done)
   rw [hz];try rfl
  rw [hc1] at hc;cases hc
 refine Jg 0 [] [] [(4,vb (k == 8))] [] [] h fun a w h=>cS (k == 8) h (fun hc3=>?_) (fun hc4=>?_)
 ·refine qU (za1 (cS (k == 8) h (fun hc=>?_) (fun hc=>?_)))
  ·clear hc;refine Jq 0 [] [(2,vI 1)] [] h fun a w h=>qV (zaa (za5 (rT (.c (cI 1)) h rfl ?_)));have hz:(((arT k:Nat):Int):Int)=1:=by unfold arT;(repeat' split) <;> first | rfl | omega | (simp_all;done)
   rw [hz];try rfl
  rw [hc3] at hc;cases hc
 refine Jg 0 [] [] [(4,vb (k == 9))] [] [] h fun a w h=>cS (k == 9) h (fun hc5=>?_) (fun hc6=>?_)
 ·refine qU (za1 (cS (k == 9) h (fun hc=>?_) (fun hc=>?_)))
  ·clear hc;refine Jq 0 [] [(2,vI 1)] [] h fun a w h=>qV (zaa (za5 (rT (.c (cI 1)) h rfl ?_)));have hz:(((arT k:Nat):Int):Int)=1:=by unfold arT;(repeat' split) <;> first | rfl | omega | (simp_all;done)
   rw [hz];try rfl
  rw [hc5] at hc;cases hc
 refine Jh 0 [] [] [(4,vb (k == 10))] [] [] h fun a w h=>za1 (cS (k == 10) h (fun hc7=>?_) (fun hc8=>?_))
 ·refine Jq 0 [] [(2,vI 1)] [] h fun a w h=>qV (zaa (za5 (rT (.c (cI 1)) h rfl ?_)));have hz:(((arT k:Nat):Int):Int)=1:=by unfold arT;(repeat' split) <;> first | rfl | omega | (simp_all;done)
  rw [hz];try rfl
 refine qW (Jg 0 [] [4] [(9,vb (k == 4))] [] [] h fun a w h=>cS (k == 4) h (fun hc9=>?_) (fun hc10=>?_))
 ·refine qU (za1 (cS (k == 4) h (fun hc=>?_) (fun hc=>?_)))
  ·clear hc;refine Jq 0 [] [(2,vI 2)] [] h fun a w h=>qV (zaa (za5 (rT (.c (cI 2)) h rfl ?_)));have hz:(((arT k:Nat):Int):Int)=2:=by unfold arT;(repeat' split) <;> first | rfl | omega | (simp_all;done)
   rw [hz];try rfl
  rw [hc9] at hc;cases hc
 refine Jg 0 [] [] [(9,vb (k == 5))] [] [] h fun a w h=>cS (k == 5) h (fun hc11=>?_) (fun hc12=>?_)
 ·refine qU (za1 (cS (k == 5) h (fun hc=>?_) (fun hc=>?_)))
  ·clear hc;refine Jq 0 [] [(2,vI 2)] [] h fun a w h=>qV (zaa (za5 (rT (.c (cI 2)) h rfl ?_)));have hz:(((arT k:Nat):Int):Int)=2:=by unfold arT;(repeat' split) <;> first | rfl | omega | (simp_all;done)
   rw [hz];try rfl
  rw [hc11] at hc;cases hc
 refine Jg 0 [] [] [(9,vb (k == 7))] [] [] h fun a w h=>cS (k == 7) h (fun hc13=>?_) (fun hc14=>?_)
 ·refine qU (za1 (cS (k == 7) h (fun hc=>?_) (fun hc=>?_)))
  ·clear hc;refine Jq 0 [] [(2,vI 2)] [] h fun a w h=>qV (zaa (za5 (rT (.c (cI 2)) h rfl ?_)));have hz:(((arT k:Nat):Int):Int)=2:=by unfold arT;(repeat' split) <;> first | rfl | omega | (simp_all;done)
   rw [hz];try rfl
  rw [hc13] at hc;cases hc
 refine Jg 0 [] [] [(9,vb (k == 11))] [] [] h fun a w h=>cS (k == 11) h (fun hc15=>?_) (fun hc16=>?_)
 ·refine qU (za1 (cS (k == 11) h (fun hc=>?_) (fun hc=>?_)))
  ·clear hc;refine Jq 0 [] [(2,vI 2)] [] h fun a w h=>qV (zaa (za5 (rT (.c (cI 2)) h rfl ?_)));have hz:(((arT k:Nat):Int):Int)=2:=by unfold arT;(repeat' split) <;> first | rfl | omega | (simp_all;done)
   rw [hz];try rfl
  rw [hc15] at hc;cases hc
 refine Jh 0 [] [3] [(9,vb (k == 12))] [] [] h fun a w h=>za1 (cS (k == 12) h (fun hc17=>?_) (fun hc18=>?_))
 ·refine Jq 0 [] [(2,vI 2)] [] h fun a w h=>qV (zaa (za5 (rT (.c (cI 2)) h rfl ?_)));have hz:(((arT k:Nat):Int):Int)=2:=by unfold arT;(repeat' split) <;> first | rfl | omega | (simp_all;done)
  rw [hz];try rfl
 refine qU (za7 (za1 (Jg 0 [] [9] [] [] [] h fun a w h=>qV (rT (.c (cI 0)) h rfl ?_))));have hz:(((arT k:Nat):Int):Int)=0:=by unfold arT;(repeat' split) <;> first | rfl | omega | (simp_all;done)
 rw [hz];try rfl
theorem SWkid (f:za2) (i:Nat) (hi:i<=2):Fn dC 18 [] [vG [cI f.kind,cI f.prop,.d (.sl 3 (f.kids.map za2.d))],vN i] (vG [cI (za8 f i).kind,cI (za8 f i).prop,.d (.sl 3 ((za8 f i).kids.map za2.d))]) []:=by
 refine fB Tryz.func18 rfl 16 fun w H B a h=>Jq 0 [] [(1,vN i),(2,vp 0 0),(4,vp 1 0)] [(0,.box [cI f.kind,cI f.prop,.d (.sl 3 (f.kids.map za2.d))]),(1,.box [cI 0,cI 0,nCl])] h fun a w h=>qW (Je 2 [(3,.len (za9 3 za2.d f.kids))] [] [(9,vb (decide ((i:Int)<(f.kids.length:Int))))] h fun a w h=>zav ((i:Int)<(f.kids.length:Int)) h (fun hc1 hc1'=>?_) (fun hc2 hc2'=>?_))
 ·obtain ⟨x1,hx1⟩:=gl f.kids i;refine Jq 2 [(3,.g (xD 13 11 zha ((zab hx1 (f:=za2.d)).trans (congrArg some (za2.d_eq x1))) (dD 12 _)))] [(4,vp 1 0)] [(1,.box [cI x1.kind,cI x1.prop,.d (.sl 3 (x1.kids.map za2.d))])] h fun a w h=>qV (za5 (rA 1 [cI x1.kind,cI x1.prop,.d (.sl 3 (x1.kids.map za2.d))] h zdy rfl ?_));have hz:=kid_at hx1;rw [hz];try rfl
 refine qU (za1 (Jq 2 [] [(4,vp 1 0)] [(1,.box [cI 1,cI 0,nCl])] h fun a w h=>qV ?_));replace h:=zdm 1 2 3 [cI 1,cI 0,nCl] h;refine rA 1 [cI 1,cI 0,.d (.sl 3 ([].map za2.d))] h zdy rfl ?_;have hz:za8 f i=ffL:=kid_no (by have:=hc2;simp at this;omega);rw [hz];try rfl
theorem SWRKid (f:za2) (i:Nat) (hi:i<=2):Fn dC 14 [] [vG [cI f.kind,cI f.prop,.d (.sl 3 (f.kids.map za2.d))],vN i] (vG [cI (za8 f i).kind,cI (za8 f i).prop,.d (.sl 3 ((za8 f i).kids.map za2.d))]) []:=by
 refine fB Tryz.func14 rfl 16 fun w H B a h=>Jq 0 [] [(1,vN i),(2,vp 0 0),(4,vp 1 0)] [(0,.box [cI f.kind,cI f.prop,.d (.sl 3 (f.kids.map za2.d))]),(1,.box [cI 0,cI 0,nCl])] h fun a w h=>qW (Je 2 [(3,.len (za9 3 za2.d f.kids))] [] [(9,vb (decide ((i:Int)>=(f.kids.length:Int))))] h fun a w h=>zav ((i:Int)>=(f.kids.length:Int)) h (fun hc1 hc1'=>?_) (fun hc2 hc2'=>?_))
 ·refine Jg 2 [] [9] [] [] [(1,.box [cI 1,cI 0,nCl])] h fun a w h=>qV (za5 ?_);replace h:=zdm 1 2 3 [cI 1,cI 0,nCl] h;refine rA 1 [cI 1,cI 0,.d (.sl 3 ([].map za2.d))] h zdy rfl ?_;have hz:za8 f i=ffL:=kid_no (by have:=hc1;simp at this;omega);rw [hz];try rfl
 refine qU (za1 ?_);obtain ⟨x1,hx1⟩:=gl f.kids i;refine Jq 2 [(3,.g (xD 14 12 zha ((zab hx1 (f:=za2.d)).trans (congrArg some (za2.d_eq x1))) (dD 13 _)))] [(4,vp 1 0)] [(1,.box [cI x1.kind,cI x1.prop,.d (.sl 3 (x1.kids.map za2.d))])] h fun a w h=>qV (rA 1 [cI x1.kind,cI x1.prop,.d (.sl 3 (x1.kids.map za2.d))] h zdy rfl ?_);have hz:=kid_at hx1;rw [hz];try rfl
theorem SWkind (f:za2) :Fn dC 77 [] [vG [cI f.kind,cI f.prop,.d (.sl 3 (f.kids.map za2.d))]] (vI (zds f.kind)) []:=by
 refine fB Tryz.func77 rfl 19 fun w H B a h=>Jq 0 [] [(1,vp 0 0),(2,vI 0)] [(0,.box [cI f.kind,cI f.prop,.d (.sl 3 (f.kids.map za2.d))])] h fun a w h=>qW ?_
 rcases bM (decide (((arT f.kind:Nat):Int)>0)) with hc1 | hc2
 ·have hc1':=dT hc1;refine Je 1 [(2,.call (zgo f.kind)),(3,.cmp (op:=.gtr) (m:=((arT f.kind:Nat):Int)) (n:=0) (b:=true) .i64 hc1)] [] [(16,vb true)] h fun a w h=>cS true h (fun _=>?_) nofun
  refine Jq 1 [] [(2,vI f.kind)] [] h fun a w h=>qV (za5 (rT (.c (cI f.kind)) h rfl ?_));have hz:(zds f.kind:Int)=f.kind:=by unfold zds;(repeat' split) <;> first | rfl | omega | (simp_all;done)
  rw [hz];try rfl
 have hc2':=dF hc2
 rcases bM (f.kind == 0) with hc3 | hc4
 ·refine Je 1 [(2,.call (zgo f.kind)),(3,.cmp (op:=.gtr) (m:=((arT f.kind:Nat):Int)) (n:=0) (b:=false) .i64 hc2),(7,.cmp (op:=.eql) (m:=f.kind) (n:=0) (b:=true) .i64 hc3)] [] [(16,vb true)] h fun a w h=>cS true h (fun _=>?_) nofun
  refine Jq 1 [] [(2,vI f.kind)] [] h fun a w h=>qV (za5 (rT (.c (cI f.kind)) h rfl ?_));have hz:(zds f.kind:Int)=f.kind:=by unfold zds;(repeat' split) <;> first | rfl | omega | (simp_all;done)
  rw [hz];try rfl
 refine Je 1 [(2,.call (zgo f.kind)),(3,.cmp (op:=.gtr) (m:=((arT f.kind:Nat):Int)) (n:=0) (b:=false) .i64 hc2),(7,.cmp (op:=.eql) (m:=f.kind) (n:=0) (b:=false) .i64 hc4)] [] [(16,vb (f.kind == 2))] h fun a w h=>cS (f.kind == 2) h (fun hc5=>?_) (fun hc6=>?_)
 ·refine Jq 1 [] [(2,vI f.kind)] [] h fun a w h=>qV (za5 (rT (.c (cI f.kind)) h rfl ?_));have hz:(zds f.kind:Int)=f.kind:=by unfold zds;(repeat' split) <;> first | rfl | omega | (simp_all;done)
  rw [hz];try rfl
 refine qU (za1 (Jq 1 [] [(2,vI 1)] [] h fun a w h=>qV (rT (.c (cI 1)) h rfl ?_)));have hz:(zds f.kind:Int)=1:=by unfold zds;(repeat' split) <;> first | rfl | omega | (simp_all;done)
 rw [hz];try rfl
theorem SWdual (k:Int) :Fn dC 39 [] [vI k] (vI (zcf k)) []:=by
 refine fB Tryz.func39 rfl 17 fun w H B a h=>Jq 0 [] [(0,vI k),(2,vI 0)] [] h fun a w h=>qW (Jg 0 [] [] [(3,vI k)] [] [] h fun a w h=>qZ (Jg 0 [] [] [(4,vb (k == 0))] [] [] h fun a w h=>cS (k == 0) h (fun hc1=>?_) (fun hc2=>?_)))
 ·refine Jd 0 [] [3,4] [(2,vI 1)] [] h fun a w h=>qV (zaa (za5 (rT (.c (cI 1)) h rfl ?_)));have hz:(zcf k:Int)=1:=by unfold zcf;(repeat' split) <;> first | rfl | omega | (simp_all;done)
  rw [hz];try rfl
 refine Jg 0 [] [4] [(6,vb (k == 1))] [] [] h fun a w h=>cS (k == 1) h (fun hc3=>?_) (fun hc4=>?_)
 ·refine Jg 0 [] [3,6] [] [] [] h fun a w h=>qV (zaa (za5 (rT (.c (cI 0)) h rfl ?_)));have hz:(zcf k:Int)=0:=by unfold zcf;(repeat' split) <;> first | rfl | omega | (simp_all;done)
  rw [hz];try rfl
 refine Jg 0 [] [6] [(8,vb (k == 4))] [] [] h fun a w h=>cS (k == 4) h (fun hc5=>?_) (fun hc6=>?_)
 ·refine Jd 0 [] [3,8] [(2,vI 5)] [] h fun a w h=>qV (zaa (za5 (rT (.c (cI 5)) h rfl ?_)));have hz:(zcf k:Int)=5:=by unfold zcf;(repeat' split) <;> first | rfl | omega | (simp_all;done)
  rw [hz];try rfl
 refine Jg 0 [] [8] [(10,vb (k == 5))] [] [] h fun a w h=>cS (k == 5) h (fun hc7=>?_) (fun hc8=>?_)
 ·refine Jd 0 [] [3,10] [(2,vI 4)] [] h fun a w h=>qV (zaa (za5 (rT (.c (cI 4)) h rfl ?_)));have hz:(zcf k:Int)=4:=by unfold zcf;(repeat' split) <;> first | rfl | omega | (simp_all;done)
  rw [hz];try rfl
 refine Jg 0 [] [10] [(12,vb (k == 11))] [] [] h fun a w h=>cS (k == 11) h (fun hc9=>?_) (fun hc10=>?_)
 ·refine Jd 0 [] [3,12] [(2,vI 12)] [] h fun a w h=>qV (zaa (za5 (rT (.c (cI 12)) h rfl ?_)));have hz:(zcf k:Int)=12:=by unfold zcf;(repeat' split) <;> first | rfl | omega | (simp_all;done)
  rw [hz];try rfl
 refine Jg 0 [] [3,12] [(14,vb (k == 12))] [] [] h fun a w h=>cS (k == 12) h (fun hc11=>?_) (fun hc12=>?_)
 ·refine Jg 0 [] [14] [(2,vI 11)] [] [] h fun a w h=>qV (zaa (za5 (rT (.c (cI 11)) h rfl ?_)));have hz:(zcf k:Int)=11:=by unfold zcf;(repeat' split) <;> first | rfl | omega | (simp_all;done)
  rw [hz];try rfl
 refine qU (za7 (za1 (Jq 0 [] [(2,vI k)] [] h fun a w h=>qV (rT (.c (cI k)) h rfl ?_))));have hz:(zcf k:Int)=k:=by unfold zcf;(repeat' split) <;> first | rfl | omega | (simp_all;done)
 rw [hz];try rfl
theorem zcy (k:Int) (d:Bool) :Fn dC 19 [] [vI k,vb d] (vI (zan k d)) []:=by
 refine fB Tryz.func19 rfl 9 fun w H B a h=>Jq 0 [] [(0,vI k),(1,vb d),(4,vI 0)] [] h fun a w h=>qW (Jg 0 [] [1] [(5,vb d)] [] [] h fun a w h=>cS d h (fun hc1=>?_) (fun hc2=>?_))
 ·refine Jg 0 [(1,.call (SWdual k))] [5] [(4,vI (zcf k))] [] [] h fun a w h=>qV (za5 (rT (.c (cI (zcf k))) h rfl ?_));have hz:zan k d=(zcf k):=by unfold zan;simp_all
  rw [hz];try rfl
 refine qU (za1 (Jq 0 [] [(4,vI k)] [] h fun a w h=>qV (rT (.c (cI k)) h rfl ?_)));have hz:zan k d=(k):=by unfold zan;simp_all
 rw [hz];try rfl
theorem SWtwo (k:Int) (p q:za2) :Fn dC 20 [] [vI k,vG [cI p.kind,cI p.prop,.d (.sl 3 (p.kids.map za2.d))],vG [cI q.kind,cI q.prop,.d (.sl 3 (q.kids.map za2.d))]] (vG [cI (za2.mk k 0 [p,q]).kind,cI (za2.mk k 0 [p,q]).prop,.d (.sl 3 ((za2.mk k 0 [p,q]).kids.map za2.d))]) []:=by
 refine fB Tryz.func20 rfl 12 fun w H B a h=>Jq 0 [] [(0,vI k),(4,vp 0 0),(5,vp 1 0),(6,vp 2 0)] [(0,.box [cI p.kind,cI p.prop,.d (.sl 3 (p.kids.map za2.d))]),(1,.box [cI q.kind,cI q.prop,.d (.sl 3 (q.kids.map za2.d))]),(2,.box [cI 0,cI 0,nCl])] h fun a w h=>Jq 3 [(3,.g (Op.buildD (d:=10) (len:=2) (rows:=[p,q].map za2.d) (rs:=[(8,vG [cI p.kind,cI p.prop,.d (.sl 3 (p.kids.map za2.d))]),(9,vG [cI q.kind,cI q.prop,.d (.sl 3 (q.kids.map za2.d))])]) va1_4 (.cons (i:=0) (dD 8 _) (.cons (i:=1) (dD 9 _) (.nil))) (by simp only [bP,bS,cU,cV,cW,za2.d_eq]; try kernel_rfl) rfl (by simp [za2.d_len]) (by decide) (by decide)))] [(6,vp 2 0)] [(2,.box [cI k,cI 0,.d (.sl 3 ([p,q].map za2.d))])] h fun a w h=>qV (rA 2 [cI k,cI 0,.d (.sl 3 ([p,q].map za2.d))] h zdy rfl ?_)
 rfl
theorem SWPlain0 (f:za2) (deny:Bool) (ih:∀ i,i<arT f.kind->∀ d:Bool,Fn dC 9 [] [vG [cI (za8 f i).kind,cI (za8 f i).prop,.d (.sl 3 ((za8 f i).kids.map za2.d))],vb d] (vG [cI (((za8 f i).pfD d).l).kind,cI (((za8 f i).pfD d).l).prop,.d (.sl 3 ((((za8 f i).pfD d).l).kids.map za2.d))]) []):Fn dC 9 [] [vG [cI f.kind,cI f.prop,.d (.sl 3 (f.kids.map za2.d))],vb deny] (vG [cI ((f.pfD deny).l).kind,cI ((f.pfD deny).l).prop,.d (.sl 3 (((f.pfD deny).l).kids.map za2.d))]) []:=by
 refine fB Tryz.func9 rfl 97 fun w H B a h=>?_
 refine Jq 0 [] [(1,vb deny),(2,vp 0 0),(4,vp 1 0)] [(0,.box [cI f.kind,cI f.prop,.d (.sl 3 (f.kids.map za2.d))]),(1,.box [cI 0,cI 0,nCl])] h fun a w h=>?_;refine Jg 2 [(1,.call (SWkid f 0 (by first | decide | omega))),(3,.call (SWkid f 1 (by first | decide | omega)))] [] [(5,vp 2 0),(6,vp 3 0)] [] [(2,.box [cI (za8 f 0).kind,cI (za8 f 0).prop,.d (.sl 3 ((za8 f 0).kids.map za2.d))]),(3,.box [cI (za8 f 1).kind,cI (za8 f 1).prop,.d (.sl 3 ((za8 f 1).kids.map za2.d))])] h fun a w h=>?_;refine qW (Je 4 [] [] [(13,vI f.kind)] h fun a w h=>?_);refine qZ (Je 4 [] [] [(14,vb (f.kind == 0))] h fun a w h=>?_);refine cS (f.kind == 0) h (fun hc1=>?_) (fun hc2=>?_)
 ·have hc1':=hc1;(try simp at hc1');refine Jd 4 [(3,.call (zcy f.kind deny))] [2,5,6,13,14] [] [(1,.box [cI (zan f.kind deny),cI 0,nCl])] h fun a w h=>?_;refine qV (zaa (za5 ?_));replace h:=zdm 1 2 3 [cI (zan f.kind deny),cI 0,nCl] h;refine rA 1 [cI (zan f.kind deny),cI 0,.d (.sl 3 ([].map za2.d))] h zdy rfl ?_
  have hz:(f.pfD deny).l=(za2.mk (zan f.kind deny) 0 []):=by
   have e0:f.kind=0:=(show f.kind=0 by have:=hc1;simpa using this);unfold za2.pfD;rw [zct,e0];cases deny <;> simp [PF.neg,PF.neg_neg9,PF.l,zan,zcf]
  rw [hz];try rfl
 have hc2':=hc2;(try simp at hc2');refine Je 4 [] [14] [(21,vb (f.kind == 2))] h fun a w h=>?_;refine cS (f.kind == 2) h (fun hc3=>?_) (fun hc6=>?_)
 ·have hc3':=hc3;(try simp at hc3');refine Jg 4 [] [2,5,6,13,21] [(7,vp 4 0)] [0,2,3] [(4,.box [cI 2,cI f.prop,nCl])] h fun a w h=>?_;refine qW (Je 5 [] [] [(26,vb deny)] h fun a w h=>?_);refine cS deny h (fun hc4=>?_) (fun hc5=>?_)
  ·replace h:=zdm 4 2 3 [cI 2,cI f.prop,nCl] h;refine Jg 5 [(1,.g (bD 28 ([(za2.mk 2 f.prop [])].map za2.d) [(27,vG [cI 2,cI f.prop,.d (.sl 3 ([].map za2.d))])] va1_4 (.cons (i:=0) (dD 27 _) (.nil)) (by simp only [bP,bS,cU,cV,cW,za2.d_eq]; try kernel_rfl) (by simp [za2.d_len])))] [26] [] [] [(1,.box [cI 3,cI 0,.d (.sl 3 ([(za2.mk 2 f.prop [])].map za2.d))])] h fun a w h=>?_;refine qV (za5 (zaa (za5 ?_)));refine rA 1 [cI 3,cI 0,.d (.sl 3 ([(za2.mk 2 f.prop [])].map za2.d))] h zdy rfl ?_
   have hz:(f.pfD deny).l=(za2.mk 3 0 [(za2.mk 2 f.prop [])]):=by
    have e0:f.kind=2:=(show f.kind=2 by have:=hc3;simpa using this);unfold za2.pfD;rw [zct,e0];rw [hc4];simp [PF.neg,PF.neg_neg9,PF.l,zan,zcf]
   rw [hz];try rfl
  refine qU (za1 (Jg 5 [] [7,26] [] [4] [(1,.box [cI 2,cI f.prop,nCl])] h fun a w h=>?_));refine qV (zaa (za5 ?_));replace h:=zdm 1 2 3 [cI 2,cI f.prop,nCl] h;refine rA 1 [cI 2,cI f.prop,.d (.sl 3 ([].map za2.d))] h zdy rfl ?_
  have hz:(f.pfD deny).l=(za2.mk 2 f.prop []):=by
   have e0:f.kind=2:=(show f.kind=2 by have:=hc3;simpa using this);unfold za2.pfD;rw [zct,e0];rw [hc5];simp [PF.neg,PF.neg_neg9,PF.l,zan,zcf]
  rw [hz];try rfl
 have hc6':=hc6;(try simp at hc6');refine Je 5 [] [21] [(31,vb (f.kind == 3))] h fun a w h=>?_;refine cS (f.kind == 3) h (fun hc7=>?_) (fun hc8=>?_)
 ·have hc7':=hc7;(try simp at hc7');refine Jd 5 [(3,.call (ih 0 (by rw [(show f.kind=3 by have:=hc7;simpa using this)];decide) (!deny)))] [2,5,6,13,31] [] [(1,.box [cI (((za8 f 0).pfD (!deny)).l).kind,cI (((za8 f 0).pfD (!deny)).l).prop,.d (.sl 3 ((((za8 f 0).pfD (!deny)).l).kids.map za2.d))])] h fun a w h=>?_;refine qV (zaa (za5 ?_));refine rA 1 [cI (((za8 f 0).pfD (!deny)).l).kind,cI (((za8 f 0).pfD (!deny)).l).prop,.d (.sl 3 ((((za8 f 0).pfD (!deny)).l).kids.map za2.d))] h zdy rfl ?_
  have hz:(f.pfD deny).l=(((za8 f 0).pfD (!deny)).l):=by
   have e0:f.kind=3:=(show f.kind=3 by have:=hc7;simpa using this);unfold za2.pfD;rw [zct,e0];cases deny <;> simp [PF.neg,PF.neg_neg9,PF.l,zan,zcf]
  rw [hz];try rfl
 have hc8':=hc8;(try simp at hc8');refine qW (Je 5 [] [31] [(37,vb (f.kind == 4))] h fun a w h=>?_);refine cS (f.kind == 4) h (fun hc9=>?_) (fun hc10=>?_)
 ·have hc9':=hc9;(try simp at hc9');refine qU (za1 ?_);refine cS (f.kind == 4) h (fun hc=>?_) (fun hc=>?_)
  ·clear hc;refine Jd 5 [(3,.call (zcy f.kind deny)),(6,.call (ih 0 (by rw [(show f.kind=4 by have:=hc9;simpa using this)];decide) deny)),(9,.call (ih 1 (by rw [(show f.kind=4 by have:=hc9;simpa using this)];decide) deny)),(10,.call (SWtwo (zan f.kind deny) (((za8 f 0).pfD deny).l) (((za8 f 1).pfD deny).l)))] [2,5,6,13,37] [] [(1,.box [cI (za2.mk (zan f.kind deny) 0 [(((za8 f 0).pfD deny).l),(((za8 f 1).pfD deny).l)]).kind,cI (za2.mk (zan f.kind deny) 0 [(((za8 f 0).pfD deny).l),(((za8 f 1).pfD deny).l)]).prop,.d (.sl 3 ((za2.mk (zan f.kind deny) 0 [(((za8 f 0).pfD deny).l),(((za8 f 1).pfD deny).l)]).kids.map za2.d))])] h fun a w h=>?_;refine qV (zaa (za5 ?_));refine rA 1 [cI (za2.mk (zan f.kind deny) 0 [(((za8 f 0).pfD deny).l),(((za8 f 1).pfD deny).l)]).kind,cI (za2.mk (zan f.kind deny) 0 [(((za8 f 0).pfD deny).l),(((za8 f 1).pfD deny).l)]).prop,.d (.sl 3 ((za2.mk (zan f.kind deny) 0 [(((za8 f 0).pfD deny).l),(((za8 f 1).pfD deny).l)]).kids.map za2.d))] h zdy rfl ?_
   have hz:(f.pfD deny).l=(za2.mk (zan f.kind deny) 0 [(((za8 f 0).pfD deny).l),(((za8 f 1).pfD deny).l)]):=by
    have e0:f.kind=4:=(show f.kind=4 by have:=hc9;simpa using this);unfold za2.pfD;rw [zct,e0];cases deny <;> simp [PF.neg,PF.neg_neg9,PF.l,zan,zcf]
   rw [hz];try rfl
  rw [hc9] at hc;cases hc
 have hc10':=hc10;(try simp at hc10');refine Je 5 [] [] [(37,vb (f.kind == 5))] h fun a w h=>?_;refine cS (f.kind == 5) h (fun hc11=>?_) (fun hc12=>?_)
 ·have hc11':=hc11;(try simp at hc11');refine qU (za1 ?_);refine cS (f.kind == 5) h (fun hc=>?_) (fun hc=>?_)
  ·clear hc;refine Jd 5 [(3,.call (zcy f.kind deny)),(6,.call (ih 0 (by rw [(show f.kind=5 by have:=hc11;simpa using this)];decide) deny)),(9,.call (ih 1 (by rw [(show f.kind=5 by have:=hc11;simpa using this)];decide) deny)),(10,.call (SWtwo (zan f.kind deny) (((za8 f 0).pfD deny).l) (((za8 f 1).pfD deny).l)))] [2,5,6,13,37] [] [(1,.box [cI (za2.mk (zan f.kind deny) 0 [(((za8 f 0).pfD deny).l),(((za8 f 1).pfD deny).l)]).kind,cI (za2.mk (zan f.kind deny) 0 [(((za8 f 0).pfD deny).l),(((za8 f 1).pfD deny).l)]).prop,.d (.sl 3 ((za2.mk (zan f.kind deny) 0 [(((za8 f 0).pfD deny).l),(((za8 f 1).pfD deny).l)]).kids.map za2.d))])] h fun a w h=>?_;refine qV (zaa (za5 ?_));refine rA 1 [cI (za2.mk (zan f.kind deny) 0 [(((za8 f 0).pfD deny).l),(((za8 f 1).pfD deny).l)]).kind,cI (za2.mk (zan f.kind deny) 0 [(((za8 f 0).pfD deny).l),(((za8 f 1).pfD deny).l)]).prop,.d (.sl 3 ((za2.mk (zan f.kind deny) 0 [(((za8 f 0).pfD deny).l),(((za8 f 1).pfD deny).l)]).kids.map za2.d))] h zdy rfl ?_
   have hz:(f.pfD deny).l=(za2.mk (zan f.kind deny) 0 [(((za8 f 0).pfD deny).l),(((za8 f 1).pfD deny).l)]):=by
    have e0:f.kind=5:=(show f.kind=5 by have:=hc11;simpa using this);unfold za2.pfD;rw [zct,e0];cases deny <;> simp [PF.neg,PF.neg_neg9,PF.l,zan,zcf]
   rw [hz];try rfl
  rw [hc11] at hc;cases hc
 have hc12':=hc12;(try simp at hc12');refine Je 5 [] [] [(37,vb (f.kind == 11))] h fun a w h=>?_;refine cS (f.kind == 11) h (fun hc13=>?_) (fun hc14=>?_)
 ·have hc13':=hc13;(try simp at hc13');refine qU (za1 ?_);refine cS (f.kind == 11) h (fun hc=>?_) (fun hc=>?_)
  ·clear hc;refine Jd 5 [(3,.call (zcy f.kind deny)),(6,.call (ih 0 (by rw [(show f.kind=11 by have:=hc13;simpa using this)];decide) deny)),(9,.call (ih 1 (by rw [(show f.kind=11 by have:=hc13;simpa using this)];decide) deny)),(10,.call (SWtwo (zan f.kind deny) (((za8 f 0).pfD deny).l) (((za8 f 1).pfD deny).l)))] [2,5,6,13,37] [] [(1,.box [cI (za2.mk (zan f.kind deny) 0 [(((za8 f 0).pfD deny).l),(((za8 f 1).pfD deny).l)]).kind,cI (za2.mk (zan f.kind deny) 0 [(((za8 f 0).pfD deny).l),(((za8 f 1).pfD deny).l)]).prop,.d (.sl 3 ((za2.mk (zan f.kind deny) 0 [(((za8 f 0).pfD deny).l),(((za8 f 1).pfD deny).l)]).kids.map za2.d))])] h fun a w h=>?_;refine qV (zaa (za5 ?_));refine rA 1 [cI (za2.mk (zan f.kind deny) 0 [(((za8 f 0).pfD deny).l),(((za8 f 1).pfD deny).l)]).kind,cI (za2.mk (zan f.kind deny) 0 [(((za8 f 0).pfD deny).l),(((za8 f 1).pfD deny).l)]).prop,.d (.sl 3 ((za2.mk (zan f.kind deny) 0 [(((za8 f 0).pfD deny).l),(((za8 f 1).pfD deny).l)]).kids.map za2.d))] h zdy rfl ?_
   have hz:(f.pfD deny).l=(za2.mk (zan f.kind deny) 0 [(((za8 f 0).pfD deny).l),(((za8 f 1).pfD deny).l)]):=by
    have e0:f.kind=11:=(show f.kind=11 by have:=hc13;simpa using this);unfold za2.pfD;rw [zct,e0];cases deny <;> simp [PF.neg,PF.neg_neg9,PF.l,zan,zcf]
   rw [hz];try rfl
  rw [hc13] at hc;cases hc
 have hc14':=hc14;(try simp at hc14');refine Jf 5 [] [] [(37,vb (f.kind == 12))] h fun a w h=>?_;refine za1 ?_;refine cS (f.kind == 12) h (fun hc15=>?_) (fun hc16=>?_)
 ·have hc15':=hc15;(try simp at hc15');refine Jd 5 [(3,.call (zcy f.kind deny)),(6,.call (ih 0 (by rw [(show f.kind=12 by have:=hc15;simpa using this)];decide) deny)),(9,.call (ih 1 (by rw [(show f.kind=12 by have:=hc15;simpa using this)];decide) deny)),(10,.call (SWtwo (zan f.kind deny) (((za8 f 0).pfD deny).l) (((za8 f 1).pfD deny).l)))] [2,5,6,13,37] [] [(1,.box [cI (za2.mk (zan f.kind deny) 0 [(((za8 f 0).pfD deny).l),(((za8 f 1).pfD deny).l)]).kind,cI (za2.mk (zan f.kind deny) 0 [(((za8 f 0).pfD deny).l),(((za8 f 1).pfD deny).l)]).prop,.d (.sl 3 ((za2.mk (zan f.kind deny) 0 [(((za8 f 0).pfD deny).l),(((za8 f 1).pfD deny).l)]).kids.map za2.d))])] h fun a w h=>?_;refine qV (zaa (za5 ?_));refine rA 1 [cI (za2.mk (zan f.kind deny) 0 [(((za8 f 0).pfD deny).l),(((za8 f 1).pfD deny).l)]).kind,cI (za2.mk (zan f.kind deny) 0 [(((za8 f 0).pfD deny).l),(((za8 f 1).pfD deny).l)]).prop,.d (.sl 3 ((za2.mk (zan f.kind deny) 0 [(((za8 f 0).pfD deny).l),(((za8 f 1).pfD deny).l)]).kids.map za2.d))] h zdy rfl ?_
  have hz:(f.pfD deny).l=(za2.mk (zan f.kind deny) 0 [(((za8 f 0).pfD deny).l),(((za8 f 1).pfD deny).l)]):=by
   have e0:f.kind=12:=(show f.kind=12 by have:=hc15;simpa using this);unfold za2.pfD;rw [zct,e0];cases deny <;> simp [PF.neg,PF.neg_neg9,PF.l,zan,zcf]
  rw [hz];try rfl
 have hc16':=hc16;(try simp at hc16');refine Jg 5 [] [2,37] [(53,vb (f.kind == 7))] [0] [] h fun a w h=>?_;refine cS (f.kind == 7) h (fun hc17=>?_) (fun hc18=>?_)
 ·have hc17':=hc17;(try simp at hc17');refine Jd 5 [(1,.call (zcy 5 deny)),(5,.call (ih 0 (by rw [(show f.kind=7 by have:=hc17;simpa using this)];decide) (!deny))),(8,.call (ih 1 (by rw [(show f.kind=7 by have:=hc17;simpa using this)];decide) deny)),(9,.call (SWtwo (zan 5 deny) (((za8 f 0).pfD (!deny)).l) (((za8 f 1).pfD deny).l)))] [5,6,13,53] [] [(1,.box [cI (za2.mk (zan 5 deny) 0 [(((za8 f 0).pfD (!deny)).l),(((za8 f 1).pfD deny).l)]).kind,cI (za2.mk (zan 5 deny) 0 [(((za8 f 0).pfD (!deny)).l),(((za8 f 1).pfD deny).l)]).prop,.d (.sl 3 ((za2.mk (zan 5 deny) 0 [(((za8 f 0).pfD (!deny)).l),(((za8 f 1).pfD deny).l)]).kids.map za2.d))])] h fun a w h=>?_;refine qV (zaa (za5 ?_));refine rA 1 [cI (za2.mk (zan 5 deny) 0 [(((za8 f 0).pfD (!deny)).l),(((za8 f 1).pfD deny).l)]).kind,cI (za2.mk (zan 5 deny) 0 [(((za8 f 0).pfD (!deny)).l),(((za8 f 1).pfD deny).l)]).prop,.d (.sl 3 ((za2.mk (zan 5 deny) 0 [(((za8 f 0).pfD (!deny)).l),(((za8 f 1).pfD deny).l)]).kids.map za2.d))] h zdy rfl ?_
  have hz:(f.pfD deny).l=(za2.mk (zan 5 deny) 0 [(((za8 f 0).pfD (!deny)).l),(((za8 f 1).pfD deny).l)]):=by
   have e0:f.kind=7:=(show f.kind=7 by have:=hc17;simpa using this);unfold za2.pfD;rw [zct,e0];cases deny <;> simp [PF.neg,PF.neg_neg9,PF.l,zan,zcf]
  rw [hz];try rfl
 have hc18':=hc18;(try simp at hc18');refine Jg 5 [] [6,53] [(65,vb (f.kind == 8))] [3] [] h fun a w h=>?_;refine cS (f.kind == 8) h (fun hc19=>?_) (fun hc20=>?_)
 ·have hc19':=hc19;(try simp at hc19');refine Jg 5 [(2,.call (ih 0 (by rw [(show f.kind=8 by have:=hc19;simpa using this)];decide) deny)),(3,.g (bD 70 ([(((za8 f 0).pfD deny).l)].map za2.d) [(69,vG [cI (((za8 f 0).pfD deny).l).kind,cI (((za8 f 0).pfD deny).l).prop,.d (.sl 3 ((((za8 f 0).pfD deny).l).kids.map za2.d))])] va1_4 (.cons (i:=0) (dD 69 _) (.nil)) (by simp only [bP,bS,cU,cV,cW,za2.d_eq]; try kernel_rfl) (by simp [za2.d_len])))] [5,13,65] [] [2] [(1,.box [cI 8,cI 0,.d (.sl 3 ([(((za8 f 0).pfD deny).l)].map za2.d))])] h fun a w h=>?_;refine qV (zaa (za5 ?_));refine rA 1 [cI 8,cI 0,.d (.sl 3 ([(((za8 f 0).pfD deny).l)].map za2.d))] h zdy rfl ?_
  have hz:(f.pfD deny).l=(za2.mk 8 0 [(((za8 f 0).pfD deny).l)]):=by
   have e0:f.kind=8:=(show f.kind=8 by have:=hc19;simpa using this);unfold za2.pfD;rw [zct,e0];cases deny <;> simp [PF.neg,PF.neg_neg9,PF.l,zan,zcf]
  rw [hz];try rfl
 have hc20':=hc20;(try simp at hc20');refine Je 5 [] [65] [(72,vb (f.kind == 9))] h fun a w h=>?_;refine cS (f.kind == 9) h (fun hc21=>?_) (fun hc22=>?_)
 ·have hc21':=hc21;(try simp at hc21');refine Jg 5 [(1,.call (zcy 12 deny)),(3,.call (zcy 1 deny)),(7,.call (ih 0 (by rw [(show f.kind=9 by have:=hc21;simpa using this)];decide) deny)),(8,.call (Fn.argw (SWtwo (zan 12 deny) (za2.mk (zan 1 deny) 0 []) (((za8 f 0).pfD deny).l)) (.cons _ _ _ _ (.refl _) (.cons _ _ _ _ (.agg _ _ (.same _ _ _ (.same _ _ _ (.d _ _ _ _ (.nil _) .nil)))) (.cons _ _ _ _ (.refl _) .nil)))))] [5,13,72] [] [2] [(1,.box [cI (za2.mk (zan 12 deny) 0 [(za2.mk (zan 1 deny) 0 []),(((za8 f 0).pfD deny).l)]).kind,cI (za2.mk (zan 12 deny) 0 [(za2.mk (zan 1 deny) 0 []),(((za8 f 0).pfD deny).l)]).prop,.d (.sl 3 ((za2.mk (zan 12 deny) 0 [(za2.mk (zan 1 deny) 0 []),(((za8 f 0).pfD deny).l)]).kids.map za2.d))])] h fun a w h=>?_;refine qV (zaa (za5 ?_));refine rA 1 [cI (za2.mk (zan 12 deny) 0 [(za2.mk (zan 1 deny) 0 []),(((za8 f 0).pfD deny).l)]).kind,cI (za2.mk (zan 12 deny) 0 [(za2.mk (zan 1 deny) 0 []),(((za8 f 0).pfD deny).l)]).prop,.d (.sl 3 ((za2.mk (zan 12 deny) 0 [(za2.mk (zan 1 deny) 0 []),(((za8 f 0).pfD deny).l)]).kids.map za2.d))] h zdy rfl ?_
  have hz:(f.pfD deny).l=(za2.mk (zan 12 deny) 0 [(za2.mk (zan 1 deny) 0 []),(((za8 f 0).pfD deny).l)]):=by
   have e0:f.kind=9:=(show f.kind=9 by have:=hc21;simpa using this);unfold za2.pfD;rw [zct,e0];cases deny <;> simp [PF.neg,PF.neg_neg9,PF.l,zan,zcf]
  rw [hz];try rfl
 have hc22':=hc22;(try simp at hc22');refine Je 5 [] [13,72] [(83,vb (f.kind == 10))] h fun a w h=>?_;refine cS (f.kind == 10) h (fun hc23=>?_) (fun hc24=>?_)
 ·have hc23':=hc23;(try simp at hc23');refine Jg 5 [(1,.call (zcy 11 deny)),(3,.call (zcy 0 deny)),(7,.call (ih 0 (by rw [(show f.kind=10 by have:=hc23;simpa using this)];decide) deny)),(8,.call (Fn.argw (SWtwo (zan 11 deny) (za2.mk (zan 0 deny) 0 []) (((za8 f 0).pfD deny).l)) (.cons _ _ _ _ (.refl _) (.cons _ _ _ _ (.agg _ _ (.same _ _ _ (.same _ _ _ (.d _ _ _ _ (.nil _) .nil)))) (.cons _ _ _ _ (.refl _) .nil)))))] [5,83] [] [2] [(1,.box [cI (za2.mk (zan 11 deny) 0 [(za2.mk (zan 0 deny) 0 []),(((za8 f 0).pfD deny).l)]).kind,cI (za2.mk (zan 11 deny) 0 [(za2.mk (zan 0 deny) 0 []),(((za8 f 0).pfD deny).l)]).prop,.d (.sl 3 ((za2.mk (zan 11 deny) 0 [(za2.mk (zan 0 deny) 0 []),(((za8 f 0).pfD deny).l)]).kids.map za2.d))])] h fun a w h=>?_;refine qV (zaa (za5 ?_));refine rA 1 [cI (za2.mk (zan 11 deny) 0 [(za2.mk (zan 0 deny) 0 []),(((za8 f 0).pfD deny).l)]).kind,cI (za2.mk (zan 11 deny) 0 [(za2.mk (zan 0 deny) 0 []),(((za8 f 0).pfD deny).l)]).prop,.d (.sl 3 ((za2.mk (zan 11 deny) 0 [(za2.mk (zan 0 deny) 0 []),(((za8 f 0).pfD deny).l)]).kids.map za2.d))] h zdy rfl ?_
  have hz:(f.pfD deny).l=(za2.mk (zan 11 deny) 0 [(za2.mk (zan 0 deny) 0 []),(((za8 f 0).pfD deny).l)]):=by
   have e0:f.kind=10:=(show f.kind=10 by have:=hc23;simpa using this);unfold za2.pfD;rw [zct,e0];cases deny <;> simp [PF.neg,PF.neg_neg9,PF.l,zan,zcf]
  rw [hz];try rfl
 have hc24':=hc24;(try simp at hc24');refine qU (za7 (za1 (Jq 5 [(1,.call (zcy 1 deny))] [(4,vp 1 0)] [(1,.box [cI (zan 1 deny),cI 0,nCl])] h fun a w h=>?_)));refine qV ?_;replace h:=zdm 1 2 3 [cI (zan 1 deny),cI 0,nCl] h;refine rA 1 [cI (zan 1 deny),cI 0,.d (.sl 3 ([].map za2.d))] h zdy rfl ?_
 have hz:(f.pfD deny).l=(za2.mk (zan 1 deny) 0 []):=by
  have e0:f.pf = .ff:=by rw [zct];(repeat' split) <;> first | rfl | omega
  unfold za2.pfD;rw [e0];cases deny <;> simp [PF.neg,PF.l,zan,zcf]
 rw [hz];try rfl
theorem SWPlain (f:za2):∀ deny:Bool,Fn dC 9 [] [vG [cI f.kind,cI f.prop,.d (.sl 3 (f.kids.map za2.d))],vb deny] (vG [cI ((f.pfD deny).l).kind,cI ((f.pfD deny).l).prop,.d (.sl 3 (((f.pfD deny).l).kids.map za2.d))]) [] :=
 za2.indK (Q:=fun f=>∀ deny:Bool,Fn dC 9 [] [vG [cI f.kind,cI f.prop,.d (.sl 3 (f.kids.map za2.d))],vb deny] (vG [cI ((f.pfD deny).l).kind,cI ((f.pfD deny).l).prop,.d (.sl 3 (((f.pfD deny).l).kids.map za2.d))]) []) (fun f ih deny=>SWPlain0 f deny ih) f
theorem rall_step {p:Nat->Bool} (h:(bA j).all p=true) (hp:p j=true):(bA (j+1)).all p=true:=by
 rw [bF,List.all_append,h];simp [hp]
theorem rall_stop {p:Nat->Bool} (hj:j<n) (hp:p j=false):(bA n).all p=false:=by
 rw [List.all_eq_false];exact ⟨j,cF.2 hj,by rw [hp];exact Bool.noConfusion⟩
theorem zdz (f g:za2):zb3 f g=(!(zds f.kind != zds g.kind) && !((f.kind == 2) && (f.prop != g.prop)) && (bA (arT f.kind)).all fun i=>zb3 (za8 f i) (za8 g i)):=by
 rw [zcs]
 have e1:(!(zds f.kind != zds g.kind))=decide (zds f.kind=zds g.kind):=by by_cases h:zds f.kind=zds g.kind <;> simp [h]
 have e2:(f.kind == 2)=decide (f.kind=2):=by by_cases h:f.kind=2 <;> simp [h]
 have e3:(f.prop != g.prop)=decide (f.prop≠g.prop):=by by_cases h:f.prop=g.prop <;> simp [h]
 rw [e1,e2,e3]
theorem sizF_bd (f:za2):∀ lim,0<=lim->zem f lim<=lim+1:=za2.indK (Q:=fun f=>∀ lim,0<=lim->zem f lim<=lim+1) (fun f ih lim hl0=>by
 rw [sizF_eq,fold2 _ _ (zbt _)]
 by_cases h0:arT f.kind=0
 ·rw [if_pos h0];omega
 ·rw [if_neg h0]
  by_cases hl:(1:Int)<=lim
  ·have h1:=ih 0 (by omega) (lim - 1) (by omega)
   rw [if_pos hl]
   by_cases h2:arT f.kind=1
   ·rw [if_pos h2];omega
   ·rw [if_neg h2]
    by_cases hl2:1+zem (za8 f 0) (lim - 1)<=lim
    ·have h3:=ih 1 (by have:=zbt f.kind;omega) (lim - (1+zem (za8 f 0) (lim - 1))) (by omega)
     rw [if_pos hl2];omega
    ·rw [if_neg hl2];omega
  ·rw [if_neg hl]
   by_cases h2:arT f.kind=1
   ·rw [if_pos h2];omega
   ·rw [if_neg h2,if_neg hl];omega) f
def sizJ (f:za2) (lim:Int) (j:Nat):Int:=(bA j).foldl (fun n i=>if n<=lim then n+zem (za8 f i) (lim - n) else n) 1
theorem sizJ_step {f:za2} {lim:Int} (h:sizJ f lim j<=lim):sizJ f lim (j+1)=sizJ f lim j+zem (za8 f j) (lim - sizJ f lim j):=by
 conv=>lhs;unfold sizJ
 rw [bF,List.foldl_append]
 show (if sizJ f lim j<=lim then _ else _)=_
 rw [if_pos h];rfl
theorem sizJ_stay {f:za2} {lim:Int} (h:¬ sizJ f lim j<=lim):∀ m,j<=m->sizJ f lim m=sizJ f lim j:=by
 intro m hm
 induction m with
 | zero=>rw [show j=0 by omega]
 | succ m ih =>
  by_cases e:j=m+1
  ·rw [e]
  ·have ih:=ih (by omega)
   conv=>lhs;unfold sizJ
   rw [bF,List.foldl_append]
   show (if sizJ f lim m<=lim then _ else _)=_
   rw [ih,if_neg h];exact ih
def zdv (f:za2):Int->Bool:=f.fold fun k _ _ ss m=>!decide (m<0) && (bA (arT k)).all fun i=>((ss[i]?).getD fun m=>!decide (m<0)) (m - 1)
theorem deepL_eq (f:za2) (m:Int):zdv f m=(!decide (m<0) && (bA (arT f.kind)).all fun i=>zdv (za8 f i) (m - 1)):=by
 have h0:zdv ffL=fun m=>!decide (m<0):=by
  unfold zdv;rw [za2.fold_eq];funext g
  show (_ && (bA (arT 1)).all _)=_
  have:arT (1:Int)=0:=rfl
  rw [this];simp
 conv=>lhs;unfold zdv
 rw [za2.fold_eq]
 have:∀ i,(((f.kids.map (za2.fold _))[i]?).getD fun m=>!decide (m<0))=zdv (za8 f i):=fun i=>zhw _ f i h0
 simp only [this]
def few9 (l:List Bool):Bool:=!decide ((l.length:Int)>100)
def fewW (w:zaf) (most:Int):Bool:=!decide (((w.stem.length:Int)+(w.cycle.length:Int))>most) && w.stem.all few9 && w.cycle.all few9
theorem SWSame0 (f g:za2) (ih:∀ i,i<arT f.kind->∀ g:za2,Fn dC 60 [] [vG [cI (za8 f i).kind,cI (za8 f i).prop,.d (.sl 3 ((za8 f i).kids.map za2.d))],vG [cI g.kind,cI g.prop,.d (.sl 3 (g.kids.map za2.d))]] (vb (zb3 (za8 f i) g)) []):Fn dC 60 [] [vG [cI f.kind,cI f.prop,.d (.sl 3 (f.kids.map za2.d))],vG [cI g.kind,cI g.prop,.d (.sl 3 (g.kids.map za2.d))]] (vb (zb3 f g)) []:=by
 have lk8:=zbt f.kind;refine fB Tryz.func60 rfl 38 fun w H B a h=>Jq 0 [] [(2,vp 0 0),(3,vp 1 0),(4,vb false)] [(0,.box [cI f.kind,cI f.prop,.d (.sl 3 (f.kids.map za2.d))]),(1,.box [cI g.kind,cI g.prop,.d (.sl 3 (g.kids.map za2.d))])] h fun a w h=>qW ?_
 rcases bM (zds f.kind != zds g.kind) with hc1 | hc2
 ·refine Je 2 [(1,.call (SWkind f)),(3,.call (SWkind g)),(4,.cmp (op:=.neq) (m:=(zds f.kind)) (n:=(zds g.kind)) (b:=true) .i64 hc1)] [] [(22,vb true)] h fun a w h=>cS true h (fun _=>?_) nofun
  refine Je 2 [] [22] [] h fun a w h=>qV (za5 (rT (.c (cB false)) h rfl ?_));have hz:zb3 f g=false:=by rw [zdz,hc1];simp
  rw [hz];try rfl
 rcases bM (f.kind == 2) with hc3 | hc10
 ·refine Je 2 [(1,.call (SWkind f)),(3,.call (SWkind g)),(4,.cmp (op:=.neq) (m:=(zds f.kind)) (n:=(zds g.kind)) (b:=false) .i64 hc2),(8,.cmp (op:=.eql) (m:=f.kind) (n:=2) (b:=true) .i64 hc3)] [] [(22,vb (f.prop != g.prop))] h fun a w h=>cS (f.prop != g.prop) h (fun hc4=>?_) (fun hc5=>?_)
  ·refine Je 2 [] [22] [] h fun a w h=>qV (za5 (rT (.c (cB false)) h rfl ?_));have hz:zb3 f g=false:=by rw [zdz,hc2,hc3,hc4];simp
   rw [hz];try rfl
  refine qU (za1 (qW (Je 2 [(2,.call (zgo f.kind))] [22] [(25,vI ((arT f.kind:Nat):Int)),(26,vI 0)] h fun a w h=>qZ ?_)))
  refine zdp (ι:=(Nat)) (fun j=>j<=arT f.kind/\(bA j).all (fun i=>zb3 (za8 f i) (za8 g i))=true)
    [4] (fun j=>[(26,vN j)])
    [] (fun j=>[])
    (fun j=>arT f.kind - j) 0 ?_ h ?_
  ·exact ⟨bE _,rfl⟩
  clear h;rintro j a w hI h;obtain ⟨hI1,hI2⟩:=hI;have lk9:=zbt f.kind;refine Je 2 [] [] [(27,vb (decide ((j:Int)<((arT f.kind:Nat):Int))))] h fun a w h=>qW (zav ((j:Int)<((arT f.kind:Nat):Int)) h (fun hc6 hc6'=>?_) (fun hc9 hc9'=>?_))
  ·refine qU (za1 (qW (qZ (Je 2 [] [27] [(5,vN j)] h fun a w h=>Je 2 [(2,.call (SWkid f j (by have:=dT hc6;have:=zbt f.kind;omega))),(5,.call (SWkid g j (by have:=dT hc6;have:=zbt f.kind;omega))),(6,.call (ih j (by have:=dT hc6;omega) (za8 g j)))] [5] [(36,vb (!(zb3 (za8 f j) (za8 g j))))] h fun a w h=>cS (!(zb3 (za8 f j) (za8 g j))) h (fun hc7=>?_) (fun hc8=>?_)))))
   ·refine Je 2 [] [36] [(4,vb false)] h fun a w h=>qV (zaa (za5 (za5 (zaa (za5 (rT (.c (cB false)) h rfl ?_))))));have hz:zb3 f g=false:=by have e9:(bA (arT f.kind)).all (fun i=>zb3 (za8 f i) (za8 g i))=false:=rall_stop (j:=j) (by have:=dT hc6;omega) (show (zb3 (za8 f j) (za8 g j))=false from by simpa using hc7);rw [zdz,hc2,hc3,hc5,e9];simp
    rw [hz];try rfl
   refine qU (za7 (za1 (Jf 2 [(0,.j1 j)] [36] [(26,vI ((j:Int)+1))] h fun a w h=>za1 (zaj (x:=j) (y:=j+1) h ?_ ?_))))
   ·have:=dT hc6;exact ⟨by omega,rall_step hI2 (show (zb3 (za8 f j) (za8 g j))=true from by simpa using hc8)⟩
   have:=dT hc6;show arT f.kind - (j+1)<arT f.kind - j;omega
  refine exA (Jq 2 [] [(4,vb true)] [] h fun a w h=>qV (rT (.c (cB true)) h rfl ?_));have hz:zb3 f g=true:=by have e9:(bA (arT f.kind)).all (fun i=>zb3 (za8 f i) (za8 g i))=true:=(by have:=dF hc9;rw [show arT f.kind=j by omega];exact hI2);rw [zdz,hc2,hc3,hc5,e9];simp
  rw [hz];try rfl
 refine Je 2 [(1,.call (SWkind f)),(3,.call (SWkind g)),(4,.cmp (op:=.neq) (m:=(zds f.kind)) (n:=(zds g.kind)) (b:=false) .i64 hc2),(8,.cmp (op:=.eql) (m:=f.kind) (n:=2) (b:=false) .i64 hc10)] [] [(22,vb false)] h fun a w h=>zd1 h (qU (za1 (qW (Je 2 [(2,.call (zgo f.kind))] [22] [(25,vI ((arT f.kind:Nat):Int)),(26,vI 0)] h fun a w h=>qZ ?_))))
 refine zdp (ι:=(Nat)) (fun j=>j<=arT f.kind/\(bA j).all (fun i=>zb3 (za8 f i) (za8 g i))=true)
   [4] (fun j=>[(26,vN j)])
   [] (fun j=>[])
   (fun j=>arT f.kind - j) 0 ?_ h ?_
 ·exact ⟨bE _,rfl⟩
 clear h;rintro j a w hI h;obtain ⟨hI1,hI2⟩:=hI;have lk9:=zbt f.kind;refine Je 2 [] [] [(27,vb (decide ((j:Int)<((arT f.kind:Nat):Int))))] h fun a w h=>qW (zav ((j:Int)<((arT f.kind:Nat):Int)) h (fun hc11 hc11'=>?_) (fun hc14 hc14'=>?_))
 ·refine qU (za1 (qW (qZ (Je 2 [] [27] [(5,vN j)] h fun a w h=>Je 2 [(2,.call (SWkid f j (by have:=dT hc11;have:=zbt f.kind;omega))),(5,.call (SWkid g j (by have:=dT hc11;have:=zbt f.kind;omega))),(6,.call (ih j (by have:=dT hc11;omega) (za8 g j)))] [5] [(36,vb (!(zb3 (za8 f j) (za8 g j))))] h fun a w h=>cS (!(zb3 (za8 f j) (za8 g j))) h (fun hc12=>?_) (fun hc13=>?_)))))
  ·refine Je 2 [] [36] [(4,vb false)] h fun a w h=>qV (zaa (za5 (za5 (zaa (za5 (rT (.c (cB false)) h rfl ?_))))));have hz:zb3 f g=false:=by have e9:(bA (arT f.kind)).all (fun i=>zb3 (za8 f i) (za8 g i))=false:=rall_stop (j:=j) (by have:=dT hc11;omega) (show (zb3 (za8 f j) (za8 g j))=false from by simpa using hc12);rw [zdz,hc2,hc10,e9];simp
   rw [hz];try rfl
  refine qU (za7 (za1 (Jf 2 [(0,.j1 j)] [36] [(26,vI ((j:Int)+1))] h fun a w h=>za1 (zaj (x:=j) (y:=j+1) h ?_ ?_))))
  ·have:=dT hc11;exact ⟨by omega,rall_step hI2 (show (zb3 (za8 f j) (za8 g j))=true from by simpa using hc13)⟩
  have:=dT hc11;show arT f.kind - (j+1)<arT f.kind - j;omega
 refine exA (Jq 2 [] [(4,vb true)] [] h fun a w h=>qV (rT (.c (cB true)) h rfl ?_));have hz:zb3 f g=true:=by have e9:(bA (arT f.kind)).all (fun i=>zb3 (za8 f i) (za8 g i))=true:=(by have:=dF hc14;rw [show arT f.kind=j by omega];exact hI2);rw [zdz,hc2,hc10,e9];simp
 rw [hz];try rfl
theorem SWSame (f:za2):∀ g:za2,Fn dC 60 [] [vG [cI f.kind,cI f.prop,.d (.sl 3 (f.kids.map za2.d))],vG [cI g.kind,cI g.prop,.d (.sl 3 (g.kids.map za2.d))]] (vb (zb3 f g)) [] :=
 za2.indK (Q:=fun f=>∀ g:za2,Fn dC 60 [] [vG [cI f.kind,cI f.prop,.d (.sl 3 (f.kids.map za2.d))],vG [cI g.kind,cI g.prop,.d (.sl 3 (g.kids.map za2.d))]] (vb (zb3 f g)) []) (fun f ih g=>SWSame0 f g ih) f
theorem SWRSize0 (f:za2) (lim:Int) (ih:∀ i,i<arT f.kind->∀ l:Int,0<=l->l<=1000->Fn dC 5 [] [vG [cI (za8 f i).kind,cI (za8 f i).prop,.d (.sl 3 ((za8 f i).kids.map za2.d))],vI l] (vI (zem (za8 f i) l)) []) (h0:0<=lim) (h1:lim<=1000):Fn dC 5 [] [vG [cI f.kind,cI f.prop,.d (.sl 3 (f.kids.map za2.d))],vI lim] (vI (zem f lim)) []:=by
 have lk8:=zbt f.kind;refine fB Tryz.func5 rfl 29 fun w H B a h=>Jq 0 [] [(1,vI lim),(2,vp 0 0),(4,vI 0)] [(0,.box [cI f.kind,cI f.prop,.d (.sl 3 (f.kids.map za2.d))])] h fun a w h=>Je 1 [] [] [(5,vI 1)] h fun a w h=>qW (Je 1 [] [] [(6,vI 0)] h fun a w h=>qZ ?_)
 refine zdp (ι:=(Nat) × (Int)) (fun (j,n)=>j<=arT f.kind/\n=sizJ f lim j/\1<=n/\n<=lim+1)
   [] (fun (j,n)=>[(5,vI n),(6,vN j)])
   [] (fun (j,n)=>[])
   (fun (j,n)=>arT f.kind - j) (0,1) ?_ h ?_
 ·exact ⟨bE _,rfl,by omega,by omega⟩
 clear h;rintro ⟨j,n⟩ a w hI h;dsimp only at h;obtain ⟨hI1,hI2,hI3,hI4⟩:=hI;have lk9:=zbt f.kind;refine qW ?_
 rcases bM (decide ((j:Int)<((arT f.kind:Nat):Int))) with hc1 | hc4
 ·have hc1':=dT hc1;refine Je 1 [(3,.call (SWRArity f.kind)),(4,.cmp (op:=.lss) (m:=(j:Int)) (n:=((arT f.kind:Nat):Int)) (b:=true) .i64 hc1)] [] [(16,vb (decide (n<=lim)))] h fun a w h=>zav (n<=lim) h (fun hc2 hc2'=>?_) (fun hc3 hc3'=>?_)
  ·refine qU (za1 (qW (qZ ?_)));have b1:=sizF_pos (za8 f j) (lim - n);have b2:=sizF_bd (za8 f j) (lim - n) (by have:=dT hc2;omega);refine Jf 1 [(3,.call (SWRKid f j (by have:=dT hc1;have:=zbt f.kind;omega))),(6,.sub .i64 (m:=lim) (n:=n) i6),(7,.call (ih j (by have:=dT hc1;omega) (lim - n) (by have:=dT hc2;omega) (by omega))),(8,.add .i64 (m:=n) (n:=(zem (za8 f j) (lim - n))) i6)] [16] [(5,vI (n+(zem (za8 f j) (lim - n))))] h fun a w h=>za7 (za1 (Jf 1 [(1,.j1 j)] [] [(6,vI ((j:Int)+1))] h fun a w h=>za1 (zaj (x:=(j,n)) (y:=((j+1),n+zem (za8 f j) (lim - n))) h ?_ ?_)))
   ·have:=dT hc1;have d9:=dT hc2;have b1:=sizF_pos (za8 f j) (lim - n);have b2:=sizF_bd (za8 f j) (lim - n) (by omega);exact ⟨by omega,by rw [sizJ_step (by rw [<- hI2];exact d9),<- hI2],by omega,by omega⟩
   have:=dT hc1;show arT f.kind - (j+1)<arT f.kind - j;omega
  refine exA (Jq 1 [] [(4,vI n)] [] h fun a w h=>qV (rT (.c (cI n)) h rfl ?_));have hz:zem f lim=n:=by rw [sizF_eq];show sizJ f lim (arT f.kind)=n;rw [hI2];exact sizJ_stay (by rw [<- hI2];exact dF hc3) _ hI1
  rw [hz];try rfl
 have hc4':=dF hc4;refine Je 1 [(3,.call (SWRArity f.kind)),(4,.cmp (op:=.lss) (m:=(j:Int)) (n:=((arT f.kind:Nat):Int)) (b:=false) .i64 hc4)] [] [(16,vb false)] h fun a w h=>zd1 h (exA (Jq 1 [] [(4,vI n)] [] h fun a w h=>qV (rT (.c (cI n)) h rfl ?_)));have hz:zem f lim=n:=by rw [sizF_eq];show sizJ f lim (arT f.kind)=n;rw [hI2,show arT f.kind=j by have:=dF hc4;omega]
 rw [hz];try rfl
theorem SWRSize (f:za2):∀ lim:Int,0<=lim->lim<=1000->Fn dC 5 [] [vG [cI f.kind,cI f.prop,.d (.sl 3 (f.kids.map za2.d))],vi .i64 lim] (vi .i64 (zem f lim)) [] :=
 za2.indK (Q:=fun f=>∀ lim:Int,0<=lim->lim<=1000->Fn dC 5 [] [vG [cI f.kind,cI f.prop,.d (.sl 3 (f.kids.map za2.d))],vi .i64 lim] (vi .i64 (zem f lim)) []) (fun f ih lim h0 h1=>SWRSize0 f lim ih h0 h1) f
theorem SWRDeep0 (f:za2) (m:Int) (ih:∀ i,i<arT f.kind->∀ l:Int,-1<=l->l<=1000->Fn dC 6 [] [vG [cI (za8 f i).kind,cI (za8 f i).prop,.d (.sl 3 ((za8 f i).kids.map za2.d))],vI l] (vb (zdv (za8 f i) l)) []) (h0:-1<=m) (h1:m<=1000):Fn dC 6 [] [vG [cI f.kind,cI f.prop,.d (.sl 3 (f.kids.map za2.d))],vI m] (vb (zdv f m)) []:=by
 have lk8:=zbt f.kind;refine fB Tryz.func6 rfl 22 fun w H B a h=>Jq 0 [] [(1,vI m),(2,vp 0 0),(4,vb false)] [(0,.box [cI f.kind,cI f.prop,.d (.sl 3 (f.kids.map za2.d))])] h fun a w h=>qW (Je 1 [] [] [(7,vb (decide (m<0)))] h fun a w h=>zav (m<0) h (fun hc1 hc1'=>?_) (fun hc2 hc2'=>?_))
 ·refine Je 1 [] [7] [] h fun a w h=>qV (za5 (rT (.c (cB false)) h rfl ?_));have hz:zdv f m=false:=by rw [deepL_eq,hc1];rfl
  rw [hz];try rfl
 refine qU (za1 (qW (Je 1 [] [7] [(5,vI 0)] h fun a w h=>qZ ?_)))
 refine zdp (ι:=(Nat)) (fun j=>j<=arT f.kind/\(bA j).all (fun i=>zdv (za8 f i) (m - 1))=true)
   [4] (fun j=>[(5,vN j)])
   [] (fun j=>[])
   (fun j=>arT f.kind - j) 0 ?_ h ?_
 ·exact ⟨bE _,rfl⟩
 clear h;rintro j a w hI h;obtain ⟨hI1,hI2⟩:=hI;have lk9:=zbt f.kind;refine qW (Je 1 [(3,.call (SWRArity f.kind))] [] [(12,vb (decide ((j:Int)<((arT f.kind:Nat):Int))))] h fun a w h=>zav ((j:Int)<((arT f.kind:Nat):Int)) h (fun hc3 hc3'=>?_) (fun hc6 hc6'=>?_))
 ·refine qU (za1 (qW (qZ (Je 1 [(2,.call (SWRKid f j (by have:=dT hc3;have:=zbt f.kind;omega))),(4,.sub .i64 (m:=m) (n:=1) i6),(5,.call (ih j (by have:=dT hc3;omega) (m - 1) (by have:=dF hc2;omega) (by omega)))] [12] [(21,vb (!(zdv (za8 f j) (m - 1))))] h fun a w h=>cS (!(zdv (za8 f j) (m - 1))) h (fun hc4=>?_) (fun hc5=>?_)))))
  ·refine Je 1 [] [21] [(4,vb false)] h fun a w h=>qV (zaa (za5 (za5 (zaa (za5 (rT (.c (cB false)) h rfl ?_))))));have hz:zdv f m=false:=by have e9:(bA (arT f.kind)).all (fun i=>zdv (za8 f i) (m - 1))=false:=rall_stop (j:=j) (by have:=dT hc3;omega) (show (zdv (za8 f j) (m - 1))=false from by simpa using hc4);rw [deepL_eq,hc2,e9];rfl
   rw [hz];try rfl
  refine qU (za7 (za1 (Jf 1 [(1,.j1 j)] [21] [(5,vI ((j:Int)+1))] h fun a w h=>za1 (zaj (x:=j) (y:=j+1) h ?_ ?_))))
  ·have:=dT hc3;exact ⟨by omega,rall_step hI2 (show (zdv (za8 f j) (m - 1))=true from by simpa using hc5)⟩
  have:=dT hc3;show arT f.kind - (j+1)<arT f.kind - j;omega
 refine exA (Jq 1 [] [(4,vb true)] [] h fun a w h=>qV (rT (.c (cB true)) h rfl ?_));have hz:zdv f m=true:=by have e9:(bA (arT f.kind)).all (fun i=>zdv (za8 f i) (m - 1))=true:=(by have:=dF hc6;rw [show arT f.kind=j by omega];exact hI2);rw [deepL_eq,hc2,e9];rfl
 rw [hz];try rfl
theorem SWRDeep (f:za2):∀ m:Int,-1<=m->m<=1000->Fn dC 6 [] [vG [cI f.kind,cI f.prop,.d (.sl 3 (f.kids.map za2.d))],vi .i64 m] (vb (zdv f m)) [] :=
 za2.indK (Q:=fun f=>∀ m:Int,-1<=m->m<=1000->Fn dC 6 [] [vG [cI f.kind,cI f.prop,.d (.sl 3 (f.kids.map za2.d))],vi .i64 m] (vb (zdv f m)) []) (fun f ih m h0 h1=>SWRDeep0 f m ih h0 h1) f
structure ArT (P:Program) (t el:TypeId) (len es:Nat):Prop where
  hu:P.underlying t=some (.array len el)
  hs:(P.info? el).map (·.size)=some es
theorem ArT.mk' {t:TypeId} {len:Nat} (hu:P.underlying t=some (.array len el)) (hs:(P.info? el).map (·.size)=some es):ArT P t el len es:=⟨hu,hs⟩
theorem zgw {t:TypeId} {len:Nat} (h:ArT P t el len es) {b:Nat} {k:IntKind} (hi:i<len) (w:World) :
  (Instr.indexAt t (.pointer (some ⟨b,o,none⟩)) (.int k i)).run P w = .ok (.pointer (some ⟨b,o+i*es,none⟩)) w:=by
 have h1:(0:Int)<=i/\(i:Int)<len:=⟨by omega,by omega⟩
 unfold Instr.indexAt
 simp only [asIntOf,Sem.run_bind,Sem.run_pure,Result.andThen_ok,run_underlying h.hu,Instr.sureAddr,h1,and_self,if_true,zhi h.hs,bL,Addr.add_mid]
section
variable {P:Program}
theorem Op.idxA {d len:Nat} {k:IntKind} {pos af gd} (hs:ArT P xt el len es) (hi:i<len) (o':Nat) (ho:o+i*es=o') (hy:OV y (vi k i) rs) :
  zar P ⟨some d,.indexAddr xt (.tmp t) y,ty,pos,af,gd⟩ { rs:=(t,vp n o) :: rs,ws:=[(d,some (vp n o'))] } :=
 zar.value d _ rfl rfl rfl fun e f H B a w hok hr2=>by
  obtain ⟨b,c,hb,hu⟩:=(hok.slot t _ (hr2.1 (t,vp n o) (by simp))).ptrI
  have h2:a.eval y = .int k i:=(hy.eval hok fun p hp=>hr2.1 p (by simp [hp])).rawI
  subst ho
  refine ⟨.pointer (some ⟨b,o+i*es,none⟩),?_,⟨b,c,hb,rfl⟩⟩
  have h5:a.eval (.tmp t) = .pointer (some ⟨b,o,none⟩):=hu
  generalize a.eval=ρ at h5 h2 ⊢
  simp only [execOp,h5,h2,Sem.run_bind,zgw hs hi,Result.andThen_ok,Sem.run_pure]
theorem Op.idxAE {d len:Nat} {xs:List D} {k:IntKind} {pos af gd} (hs:ArT P xt el len es) (hi:i<len) (hy:OV y (vi k i) rs) (ys:List D) (hys:xs.drop (i*es)=ys) :
  zar P ⟨some d,.indexAddr xt (.tmp t) y,ty,pos,af,gd⟩ { rs:=(t,.t (.c (.el xs))) :: rs,ws:=[(d,some (.t (.c (.el ys))))] } :=
 zar.value d _ rfl rfl rfl fun e f H B a w hok hr2=>by
  obtain ⟨b,o,arr,ty', fz,hb,hu,hx⟩:CR H B (.el xs) (a.eval (.tmp t)):=hok.slot t _ (hr2.1 (t,.t (.c (.el xs))) (by simp))
  have h2:a.eval y = .int k i:=(hy.eval hok fun p hp=>hr2.1 p (by simp [hp])).rawI
  subst hys
  refine ⟨.pointer (some ⟨b,o+i*es,none⟩),?_,b,o+i*es,arr,ty', fz,hb,rfl,fun j hj=>?_⟩
  ·generalize a.eval=ρ at hu h2 ⊢
   simp only [execOp,hu,h2,Sem.run_bind,zgw hs hi,Result.andThen_ok,Sem.run_pure]
  ·have hj':i*es+j<xs.length:=by rw [cP] at hj;omega
   obtain ⟨u,h1,h2⟩:=hx (i*es+j) hj'
   exact ⟨u,by rw [Nat.add_assoc];exact h1,by rw [List.getElem_drop];exact h2⟩
theorem Op.idxSub {d len:Nat} {k:IntKind} {pos af gd} (hs:SlT P xt el es) (hi:i<len) (o':Nat) (ho:o+i*es=o') (hy:OV y (vi k i) rs) :
  zar P ⟨some d,.indexAddr xt (.tmp t) y,ty,pos,af,gd⟩ { rs:=(t,.t (.c (.sub n o len))) :: rs,ws:=[(d,some (vp n o'))] } :=
 zar.value d _ rfl rfl rfl fun e f H B a w hok hr2=>by
  have h1:CR H B (.sub n o len) (a.eval (.tmp t)):=hok.slot t _ (hr2.1 (t,.t (.c (.sub n o len))) (by simp))
  have h2:a.eval y = .int k i:=(hy.eval hok fun p hp=>hr2.1 p (by simp [hp])).rawI
  obtain ⟨_,h3⟩:=h1
  obtain ⟨b,c,kk,hB,hv⟩:=h3 (by omega)
  subst ho
  refine ⟨.pointer (some ⟨b,o+i*es,none⟩),?_,b,c,hB,rfl⟩
  generalize a.eval=ρ at hv h2 ⊢
  simp only [execOp,hv,h2,Sem.run_bind,zfh hs hi,Result.andThen_ok,Sem.run_pure]
theorem Op.lenSub {d:Nat} {x:Operand} {t:TypeId} {pos af gd} (hu:P.underlying t=some (.slice el)) (h:OV x (.t (.c (.sub n o m))) rs) :
  zar P ⟨some d,.call { callee:=.builtin .len,args:=#[x],argTypes:=#[t] }, ty,pos,af,gd⟩ { rs:=rs,ws:=[(d,some (vi .i64 m))] } :=
 zar.value d _ rfl rfl rfl fun e f H B a w hok hr=>by
  have h1:CR H B (.sub n o m) (a.eval x):=h.eval hok hr.1
  obtain ⟨⟨ao,c,hv⟩,_⟩:=h1
  refine ⟨.int .i64 m,?_,DR.raw _ rfl⟩
  generalize a.eval=ρ at hv ⊢
  have e1:(Array.map ρ #[x])=#[.slice ao m c]:=by simp [hv]
  simp only [execOp,resolve,e1,Sem.run_bind,Sem.run_pure,Result.andThen_ok,invoke,builtin,Builtin.len_]
  simp [run_underlying hu,goInt]
theorem Op.storeA2 {c0 c1 x:D} {pos af gd} (hs:Sz P xt 1 false) (h:OV y (.t (.c (.d x))) rs) (hj:j<2) :
  zar P ⟨none,.store xt (.tmp t) y,ty,pos,af,gd⟩ { rs:=(t,vp n j) :: rs,rl:=[(n,.box [.d c0,.d c1])],wl:=[(n,some (.box [.d (if j=0 then x else c0),.d (if j=1 then x else c1)]))] }:=by
 rcases (show j=0\/j=1 by omega) with rfl | rfl
 ·exact Op.store hs h rfl rfl rfl
 ·exact Op.store hs h rfl rfl rfl
theorem Op.makeD {d L bs:Nat} {x:Operand} {rs':List (Nat × V)} {zs:List D} {rows:List (List D)} {pos af gd} (hT:ElT P xt el es bs) (hz0:Zero P el (zs.map C.d)) (hzl:zs.length=es) (hx:OV x (vi .i64 (L:Int)) rs) (hy:OV y (vi .i64 (L:Int)) rs') (hb:L*bs<=140737488355328) (hr0:List.replicate L zs=rows) :
  zar P ⟨some d,.makeSlice xt x y,ty,pos,af,gd⟩ { rs:=rs++rs', ws:=[(d,some (.t (.c (.d (.sl es rows)))))] }:=by
 subst hr0
 rintro e f a w Q ⟨H,B,hok⟩ hr hnw hb0
 have h1:a.eval x = .int .i64 (L:Int):=(hx.eval hok fun p hp=>hr.1 p (cY _ hp)).rawI
 have h2:a.eval y = .int .i64 (L:Int):=(hy.eval hok fun p hp=>hr.1 p (List.mem_append_right _ hp)).rawI
 obtain ⟨i,z,hi,hz,hsz,hby,hzs⟩:=hT.ex
 obtain ⟨z', l,g1,g2,g3⟩:=hz0.ex
 have hzz:z'=z:=by
  rw [hi] at g1
  have g1':i.zero=some z':=g1
  rw [hz] at g1';injection g1' with g1';exact g1'.symm
 subst hzz
 have hL:L<=140737488355328:=by
  have:L*1<=L*bs:=Nat.mul_le_mul_left _ hT.bpos
  omega
 have hbb:(bs:Int)*(L:Int)<=281474976710656:=by
  have:(bs:Int)*(L:Int)=((L*bs:Nat):Int):=by rw [Int.natCast_mul,Int.mul_comm]
  omega
 have hrun:=run_make (P:=P) w xt el i z' hT.hu hi hz .i64 .i64 (L:Int) (L:Int) (by omega) (b7 _) (by rw [hby];exact hbb) (by omega)
 rw [bL,hsz] at hrun
 obtain ⟨hok', hle⟩:=hok.newData (.cells ⟨(madeCells z'.cells (L*es)).toList⟩ el)
 have hall:∀ r ∈ List.replicate L zs,r.length=es:=fun r hr2=>by rw [(List.mem_replicate.1 hr2).2];exact hzl
 have hsize:(madeCells z'.cells (L*es)).toList.length=L*es:=by simp [madeCells]
 have hrow:DR (fun b=>if b=w.heap.size then some (.cells ⟨(madeCells z'.cells (L*es)).toList⟩ el (0,0)) else H b) (.sl es (List.replicate L zs)) (.slice (some ⟨w.heap.size,0,none⟩) L L):=by
  have:=zhk (H:=fun b=>if b=w.heap.size then some (.cells ⟨(madeCells z'.cells (L*es)).toList⟩ el (0,0)) else H b) (es:=es) (b:=w.heap.size) (c:=L) (arr:=(madeCells z'.cells (L*es)).toList) (ty:=el) (rows:=List.replicate L zs) (if_pos rfl) (by rw [cX];exact bG _) (by simp only [maxLen];omega) hall (fun k r hri f' x' hx2=>by
   obtain ⟨hk,hrk⟩:=bC.1 hri
   rw [cX] at hk
   rw [List.getElem_replicate] at hrk
   subst hrk
   have hf:=(bC.1 hx2).1
   rw [hzl] at hf
   obtain ⟨u,hu1,hu2⟩:=(g3 H B).get f' (by rw [bB,hzl];exact hf)
   have hx3:(zs.map C.d)[f']'(by rw [bB,hzl];exact hf)=C.d x':=by
    rw [List.getElem_map];congr 1
    rw [bH (by omega)] at hx2
    injection hx2
   rw [hx3] at hu2
   have hlt:k*es+f'<L*es:=by
    have:(k+1)*es<=L*es:=Nat.mul_le_mul_right _ hk
    rw [Nat.add_mul] at this;omega
   have hmod:(k*es+f') % z'.cells.size=f':=by rw [hzs,Nat.mul_comm,Nat.mul_add_mod];exact bZ hf
   refine ⟨u,?_,DR.mono hle hu2⟩
   simp only [madeCells,Array.toList_map,Array.toList_range,bK,bY hlt,Option.map_some,hmod]
   rw [g2]
   simp [hu1])
  rwa [cX] at this
 refine zdx (d:=d) rfl ?_ ⟨_,B,hok'.put (x:=some (.t (.c (.d (.sl es (List.replicate L zs)))))) (hb0.1 (d,some (.t (.c (.d (.sl es (List.replicate L zs)))))) (by simp)) (zek f d _ _ rfl) (app0_l f _ rfl) (fun y hy=>by injection hy with hy;subst hy;exact hrow)⟩
 generalize a.eval=ρ at h1 h2 ⊢
 simp only [execOp,h1,h2,Sem.run_bind,hrun,Result.andThen_ok,Sem.run_pure]
end
theorem allz_snoc {f:α->Bool} {xs:List α} {x:α} (h:xs[j]?=some x) (hx:f x=true) (hp:(xs.take j).all f=true):(xs.take (j+1)).all f=true:=by
 rw [List.take_add_one,h,List.all_append,hp];simp [hx]
theorem allz_bad {f:α->Bool} {xs:List α} {x:α} (h:xs[j]?=some x) (hx:f x=false):xs.all f=false:=by
 cases e:xs.all f with
 | false=>rfl
 | true=>have:=bI.1 e x (bT h);rw [hx] at this;cases this
theorem zby (wd:zaf):((wN wd:Nat):Int)=(wd.stem.length:Int)+(wd.cycle.length:Int):=by unfold wN;omega
theorem wLet_stem {l:List Bool} (h:wd.stem[i]?=some l):zc4 wd i=l:=by
 unfold zc4;rw [if_pos (bC.1 h).1,h];rfl
theorem wLet_cyc {l:List Bool} (hi:wd.stem.length<=i) (h:wd.cycle[i - wd.stem.length]?=some l):zc4 wd i=l:=by
 have:=(bC.1 h).1
 unfold zc4;rw [if_neg (by omega),bZ this,h];rfl
theorem SWRFew (wd:zaf) (most:Int) (hl:wd.stem.length+wd.cycle.length<=9223372036854775807):Fn dC 7 [] [vG [.d (.sl 1 (wd.stem.map (slD 1 za0))),.d (.sl 1 (wd.cycle.map (slD 1 za0)))],vI most] (vb (fewW wd most)) []:=by
 refine fB Tryz.func7 rfl 44 fun w H B a h=>Jq 0 [] [(1,vI most),(2,vp 0 0),(4,vb false)] [(0,.box [.d (.sl 1 (wd.stem.map (slD 1 za0))),.d (.sl 1 (wd.cycle.map (slD 1 za0)))])] h fun a w h=>qW (Je 1 [(2,.len (c:=(.d (.sl 1 (wd.stem.map (slD 1 za0))))) (n:=wd.stem.length) (za9 _ _ _)),(5,.len (c:=(.d (.sl 1 (wd.cycle.map (slD 1 za0))))) (n:=wd.cycle.length) (za9 _ _ _)),(6,.add .i64 (m:=(wd.stem.length:Int)) (n:=(wd.cycle.length:Int)) i6)] [1] [(15,vb (decide (((wd.stem.length:Int)+(wd.cycle.length:Int))>most)))] h fun a w h=>zav (((wd.stem.length:Int)+(wd.cycle.length:Int))>most) h (fun hc1 hc1'=>?_) (fun hc2 hc2'=>?_))
 ·refine Je 1 [] [15] [] h fun a w h=>qV (za5 (rT (.c (cB false)) h rfl ?_));have hz:fewW wd most=false:=by unfold fewW;rw [hc1];rfl
  rw [hz];try rfl
 refine qU (za1 (qW (Je 1 [] [15] [(5,vI 0)] h fun a w h=>qZ ?_)))
 refine zdp (ι:=(Nat)) (fun j=>j<=wd.stem.length/\(wd.stem.take j).all few9=true)
   [4] (fun j=>[(5,vN j)])
   [] (fun j=>[])
   (fun j=>wd.stem.length - j) 0 ?_ h ?_
 ·exact ⟨bE _,by rw [List.take_zero];rfl⟩
 clear h;rintro j a w hI h;obtain ⟨hI1,hI2⟩:=hI;refine qW (Je 1 [(3,.len (c:=(.d (.sl 1 (wd.stem.map (slD 1 za0))))) (n:=wd.stem.length) (za9 _ _ _))] [] [(20,vb (decide ((j:Int)<(wd.stem.length:Int))))] h fun a w h=>zav ((j:Int)<(wd.stem.length:Int)) h (fun hc3 hc3'=>?_) (fun hc6 hc6'=>?_))
 ·refine qU (za1 (qW (qZ ?_)));obtain ⟨x1,hx1⟩:=gl wd.stem j;refine Je 1 [(3,.g (xD 26 24 zhd (zab hx1 (f:=(slD 1 za0))) (dD 25 _))),(5,.len (za9 1 za0 x1))] [20] [(29,vb (decide ((x1.length:Int)>100)))] h fun a w h=>zav ((x1.length:Int)>100) h (fun hc4 hc4'=>?_) (fun hc5 hc5'=>?_)
  ·refine Je 1 [] [29] [(4,vb false)] h fun a w h=>qV (zaa (za5 (za5 (zaa (za5 (rT (.c (cB false)) h rfl ?_))))));have hz:fewW wd most=false:=by unfold fewW;rw [hc2,allz_bad (f:=few9) hx1 (show few9 x1=false by unfold few9;rw [hc4];rfl)];rfl
   rw [hz];try rfl
  refine qU (za7 (za1 (Jf 1 [(1,.j1 j)] [29] [(5,vI ((j:Int)+1))] h fun a w h=>za1 (zaj (x:=j) (y:=j+1) h ?_ ?_))))
  ·have:=zal hx1;exact ⟨by omega,allz_snoc hx1 (show few9 x1=true by unfold few9;rw [hc5];rfl) hI2⟩
  show wd.stem.length - (j+1)<wd.stem.length - j;have:=zal hx1;omega
 refine exA (qW ?_);have hst9:wd.stem.all few9=true:=by rw [show wd.stem.take j=wd.stem from cR (by have:=dF hc6;omega)] at hI2;exact hI2
 refine Jp 1 [] [(2,vp 0 0),(6,vI 0)] h fun a w h=>qZ ?_
 refine zdp (ι:=(Nat)) (fun j=>j<=wd.cycle.length/\(wd.cycle.take j).all few9=true)
   [] (fun j=>[(6,vN j)])
   [] (fun j=>[])
   (fun j=>wd.cycle.length - j) 0 ?_ h ?_
 ·exact ⟨bE _,by rw [List.take_zero];rfl⟩
 clear h;rintro j a w hI h;obtain ⟨hI1,hI2⟩:=hI;refine qW (Je 1 [(3,.len (c:=(.d (.sl 1 (wd.cycle.map (slD 1 za0))))) (n:=wd.cycle.length) (za9 _ _ _))] [] [(34,vb (decide ((j:Int)<(wd.cycle.length:Int))))] h fun a w h=>zav ((j:Int)<(wd.cycle.length:Int)) h (fun hc7 hc7'=>?_) (fun hc10 hc10'=>?_))
 ·refine qU (za1 (qW (qZ ?_)));obtain ⟨x2,hx2⟩:=gl wd.cycle j;refine Je 1 [(3,.g (xD 40 38 zhd (zab hx2 (f:=(slD 1 za0))) (dD 39 _))),(5,.len (za9 1 za0 x2))] [34] [(43,vb (decide ((x2.length:Int)>100)))] h fun a w h=>zav ((x2.length:Int)>100) h (fun hc8 hc8'=>?_) (fun hc9 hc9'=>?_)
  ·refine Je 1 [] [43] [(4,vb false)] h fun a w h=>qV (zaa (za5 (za5 (zaa (za5 (rT (.c (cB false)) h rfl ?_))))));have hz:fewW wd most=false:=by unfold fewW;rw [hc2,hst9,allz_bad (f:=few9) hx2 (show few9 x2=false by unfold few9;rw [hc8];rfl)];rfl
   rw [hz];try rfl
  refine qU (za7 (za1 (Jf 1 [(1,.j1 j)] [43] [(6,vI ((j:Int)+1))] h fun a w h=>za1 (zaj (x:=j) (y:=j+1) h ?_ ?_))))
  ·have:=zal hx2;exact ⟨by omega,allz_snoc hx2 (show few9 x2=true by unfold few9;rw [hc9];rfl) hI2⟩
  show wd.cycle.length - (j+1)<wd.cycle.length - j;have:=zal hx2;omega
 refine exA (Jq 1 [] [(4,vb true)] [] h fun a w h=>qV (rT (.c (cB true)) h rfl ?_));have hz:fewW wd most=true:=by unfold fewW;rw [show wd.cycle.take j=wd.cycle from cR (by have:=dF hc10;omega)] at hI2;rw [hc2,hst9,hI2];rfl
 rw [hz];try rfl
theorem zel (wd:zaf) (hl:wN wd<=1000000):Fn dC 52 [] [vG [.d (.sl 1 (wd.stem.map (slD 1 za0))),.d (.sl 1 (wd.cycle.map (slD 1 za0)))]] (vI ((wN wd:Nat):Int)) []:=by
 have hN9:=zby wd;refine fB Tryz.func52 rfl 10 fun w H B a h=>Jq 0 [] [(1,vp 0 0),(2,vI 0)] [(0,.box [.d (.sl 1 (wd.stem.map (slD 1 za0))),.d (.sl 1 (wd.cycle.map (slD 1 za0)))])] h fun a w h=>Jq 1 [(2,.len (c:=(.d (.sl 1 (wd.stem.map (slD 1 za0))))) (n:=wd.stem.length) (za9 _ _ _)),(5,.len (c:=(.d (.sl 1 (wd.cycle.map (slD 1 za0))))) (n:=wd.cycle.length) (za9 _ _ _)),(6,.add .i64 (m:=(wd.stem.length:Int)) (n:=(wd.cycle.length:Int)) i6)] [(2,vI ((wd.stem.length:Int)+(wd.cycle.length:Int)))] [] h fun a w h=>qV (rT (.c (cI ((wd.stem.length:Int)+(wd.cycle.length:Int)))) h rfl ?_)
 rw [hN9];try rfl
theorem SWnext (wd:zaf) (i:Nat) (hl:wN wd<=1000000) (hi:i<wN wd):Fn dC 50 [] [vG [.d (.sl 1 (wd.stem.map (slD 1 za0))),.d (.sl 1 (wd.cycle.map (slD 1 za0)))],vN i] (vI ((nxW wd i:Nat):Int)) []:=by
 have hN9:=zby wd;refine fB Tryz.func50 rfl 15 fun w H B a h=>Jq 0 [] [(1,vN i),(2,vp 0 0),(4,vI 0)] [(0,.box [.d (.sl 1 (wd.stem.map (slD 1 za0))),.d (.sl 1 (wd.cycle.map (slD 1 za0)))])] h fun a w h=>qW (Je 1 [(1,.j1 i),(3,.call (zel wd hl))] [] [(9,vb (((i:Int)+1) == ((wN wd:Nat):Int)))] h fun a w h=>cS (((i:Int)+1) == ((wN wd:Nat):Int)) h (fun hc1=>?_) (fun hc2=>?_))
 ·refine Jg 1 [(2,.len (c:=(.d (.sl 1 (wd.stem.map (slD 1 za0))))) (n:=wd.stem.length) (za9 _ _ _))] [2,9] [(4,vN wd.stem.length)] [0] [] h fun a w h=>qV (za5 (rT (.c (cI (wd.stem.length:Int))) h rfl ?_));have hz:((nxW wd i:Nat):Int)=(wd.stem.length:Int):=by unfold nxW;rw [if_pos (by have:=hc1;simp at this;omega)]
  rw [hz];try rfl
 refine qU (za1 (Jq 1 [(1,.j1 i)] [(4,vI ((i:Int)+1))] [] h fun a w h=>qV (rT (.c (cI ((i:Int)+1))) h rfl ?_)));have hz:((nxW wd i:Nat):Int)=(i:Int)+1:=by unfold nxW;rw [if_neg (by have:=hc2;simp at this;omega)];omega
 rw [hz];try rfl
theorem SWplace (wd:zaf) (k:Nat) (hl:wN wd<=1000000) (hc:0<wd.cycle.length) (hk:k<=1000000):Fn dC 22 [] [vG [.d (.sl 1 (wd.stem.map (slD 1 za0))),.d (.sl 1 (wd.cycle.map (slD 1 za0)))],vN k] (vI ((zbx wd k:Nat):Int)) []:=by
 have hN9:=zby wd;have hpm:=Nat.mod_lt (k - wd.stem.length) hc;refine fB Tryz.func22 rfl 24 fun w H B a h=>Jq 0 [] [(1,vN k),(2,vp 0 0),(4,vI 0)] [(0,.box [.d (.sl 1 (wd.stem.map (slD 1 za0))),.d (.sl 1 (wd.cycle.map (slD 1 za0)))])] h fun a w h=>Je 1 [(1,.g (Op.max2 (d:=7) (tys:=#[3,3]) (k:=.i64) (m:=(k:Int)) (n:=0) (r:=(k:Int)) (dD 6 _) (OV.const (.int .i64 0) rfl) (by omega)))] [] [] h fun a w h=>qW (Je 1 [(2,.len (c:=(.d (.sl 1 (wd.stem.map (slD 1 za0))))) (n:=wd.stem.length) (za9 _ _ _))] [] [(5,vN wd.stem.length)] h fun a w h=>Je 1 [] [] [(13,vb (decide ((k:Int)>=(wd.stem.length:Int))))] h fun a w h=>zav ((k:Int)>=(wd.stem.length:Int)) h (fun hc1 hc1'=>?_) (fun hc2 hc2'=>?_))
 ·refine Jg 1 [(3,.g (Op.arith (op:=.sub) (d:=17) (xt:=3) (yt:=3) (k:=.i64) (m:=(k:Int)) (n:=(wd.stem.length:Int)) (r:=((k - wd.stem.length:Nat):Int)) (dD 15 _) (dD 16 _) (.inr (.inl ⟨rfl,(by omega)⟩)) i6)),(6,.len (c:=(.d (.sl 1 (wd.cycle.map (slD 1 za0))))) (n:=wd.cycle.length) (za9 _ _ _)),(7,.g (Op.rem (d:=21) (xt:=3) (yt:=3) (k:=.i64) (m:=((k - wd.stem.length:Nat):Int)) (n:=(wd.cycle.length:Int)) (r:=(((k - wd.stem.length) % wd.cycle.length:Nat):Int)) (dD 17 _) (dD 20 _) (by omega) (by rfl))),(8,.add .i64 (m:=(wd.stem.length:Int)) (n:=(((k - wd.stem.length) % wd.cycle.length:Nat):Int)) i6)] [2,5,13] [(4,vI ((wd.stem.length:Int)+(((k - wd.stem.length) % wd.cycle.length:Nat):Int)))] [0] [] h fun a w h=>qV (za5 (rT (.c (cI ((wd.stem.length:Int)+(((k - wd.stem.length) % wd.cycle.length:Nat):Int)))) h rfl ?_));have hz:((zbx wd k:Nat):Int)=(wd.stem.length:Int)+(((k - wd.stem.length) % wd.cycle.length:Nat):Int):=by unfold zbx;rw [if_neg (by have:=dT hc1;omega)];omega
  rw [hz];try rfl
 refine qU (za1 (Jq 1 [] [(4,vN k)] [] h fun a w h=>qV (rT (.c (cI (k:Int))) h rfl ?_)));have hz:((zbx wd k:Nat):Int)=(k:Int):=by unfold zbx;rw [if_pos (by have:=dF hc2;omega)]
 rw [hz];try rfl
theorem SWletter (wd:zaf) (i:Nat) (hl:wN wd<=1000000) (hi:i<wN wd):Fn dC 44 [] [vG [.d (.sl 1 (wd.stem.map (slD 1 za0))),.d (.sl 1 (wd.cycle.map (slD 1 za0)))],vN i] (vS 1 ((zc4 wd i).map za0)) []:=by
 have hN9:=zby wd;refine fB Tryz.func44 rfl 24 fun w H B a h=>Jq 0 [] [(1,vN i),(2,vp 0 0),(4,vW za6)] [(0,.box [.d (.sl 1 (wd.stem.map (slD 1 za0))),.d (.sl 1 (wd.cycle.map (slD 1 za0)))])] h fun a w h=>qW (Je 1 [(2,.len (c:=(.d (.sl 1 (wd.stem.map (slD 1 za0))))) (n:=wd.stem.length) (za9 _ _ _))] [] [(5,vN wd.stem.length)] h fun a w h=>Je 1 [] [] [(11,vb (decide ((i:Int)>=(wd.stem.length:Int))))] h fun a w h=>zav ((i:Int)>=(wd.stem.length:Int)) h (fun hc1 hc1'=>?_) (fun hc2 hc2'=>?_))
 ·obtain ⟨x1,hx1⟩:=gl wd.cycle (i - wd.stem.length);refine Je 1 [(4,.g (Op.arith (op:=.sub) (d:=16) (xt:=3) (yt:=3) (k:=.i64) (m:=(i:Int)) (n:=(wd.stem.length:Int)) (r:=((i - wd.stem.length:Nat):Int)) (dD 14 _) (dD 15 _) (.inr (.inl ⟨rfl,(by omega)⟩)) i6)),(5,.g (xD 17 13 zhd (zab hx1 (f:=(slD 1 za0))) (dD 16 _)))] [5,11] [(4,vS 1 (x1.map za0))] h fun a w h=>qV (za5 (rT (.c (.d (.sl 1 (x1.map za0)))) h rfl ?_));have hz:zc4 wd i=x1:=wLet_cyc (by have:=dT hc1;omega) hx1;rw [hz];try rfl
 refine qU (za1 ?_);obtain ⟨x2,hx2⟩:=gl wd.stem i;refine Jq 1 [(3,.g (xD 22 20 zhd (zab hx2 (f:=(slD 1 za0))) (dD 21 _)))] [(4,vS 1 (x2.map za0))] [] h fun a w h=>qV (rT (.c (.d (.sl 1 (x2.map za0)))) h rfl ?_);have hz:zc4 wd i=x2:=wLet_stem hx2;rw [hz];try rfl
theorem va4_3:zax dC 42:=zax.mk' (by kernel_rfl)
theorem va4_6:zax dC 70:=zax.mk' (by kernel_rfl)
theorem va4_7:zax dC 43:=zax.mk' (by kernel_rfl)
theorem va4_8:zax dC 45:=zax.mk' (by kernel_rfl)
theorem va4_9:zax dC 46:=zax.mk' (by kernel_rfl)
theorem va4_10:zax dC 47:=zax.mk' (by kernel_rfl)
theorem va4_11:zax dC 48:=zax.mk' (by kernel_rfl)
theorem va4_12:zax dC 49:=zax.mk' (by kernel_rfl)
theorem zbp (h:i<xs.length):xs[i]?=some (zag xs i):=by unfold zag;rw [bH h];rfl
theorem zc7 (h:i<xs.length) (e:zag xs i=b):xs[i]?=some b:=by rw [zbp h,e]
theorem eachT_len (wd:zaf) (G:Nat->Bool):(zao wd G).length=wN wd:=by unfold zao;simp
theorem SWtr3 (i:Nat) (p:List Bool) (hp:i<p.length):Fn dC 45 [(1,.box [.d (.sl 1 (p.map za0))])] [vN i,vp 1 0] (vb (!zag p i)) [(1,.box [.d (.sl 1 (p.map za0))])]:=by
 refine fB Tryz.func45 rfl 9 fun w H B a h=>Jq 5 [] [(0,vN i),(1,vp 1 0),(3,vb false)] [(1,.box [.d (.sl 1 (p.map za0))])] h fun a w h=>Jp 5 [(2,.g (xD 6 4 zbo (zab (zbp hp) (f:=za0)) (dD 5 _)))] [(3,vb (!(zag p i)))] h fun a w h=>qV (rT (.c (cB (!(zag p i)))) h rfl ?_)
 have hz:(!zag p i)=(!(zag p i)):=by first | rfl | (simp [];done)
 rw [hz];try rfl
theorem SWtr4 (i:Nat) (p q:List Bool) (hp:i<p.length) (hq:i<q.length):Fn dC 46 [(1,.box [.d (.sl 1 (p.map za0))]),(2,.box [.d (.sl 1 (q.map za0))])] [vN i,vp 1 0,vp 2 0] (vb (zag p i && zag q i)) [(1,.box [.d (.sl 1 (p.map za0))]),(2,.box [.d (.sl 1 (q.map za0))])]:=by
 refine fB Tryz.func46 rfl 15 fun w H B a h=>Jq 5 [] [(0,vN i),(1,vp 1 0),(2,vp 2 0),(4,vb false)] [(1,.box [.d (.sl 1 (p.map za0))]),(2,.box [.d (.sl 1 (q.map za0))])] h fun a w h=>?_
 rcases bM (zag p i) with hc1 | hc2
 ·refine Jp 5 [(2,.g (xD 7 5 zbo (zab (zc7 hp hc1) (f:=za0)) (dD 6 _))),(7,.g (xD 12 10 zbo (zab (zbp hq) (f:=za0)) (dD 11 _)))] [(4,vb (zag q i))] h fun a w h=>qV (rT (.c (cB (zag q i))) h rfl ?_);have hz:(zag p i && zag q i)=((zag q i)):=by first | rfl | (simp [hc1];done)
  rw [hz];try rfl
 refine Jp 5 [(2,.g (xD 7 5 zbo (zab (zc7 hp hc2) (f:=za0)) (dD 6 _)))] [(4,vb false)] h fun a w h=>qV (rT (.c (cB false)) h rfl ?_);have hz:(zag p i && zag q i)=(false):=by first | rfl | (simp [hc2];done)
 rw [hz];try rfl
theorem SWtr5 (i:Nat) (p q:List Bool) (hp:i<p.length) (hq:i<q.length):Fn dC 47 [(1,.box [.d (.sl 1 (p.map za0))]),(2,.box [.d (.sl 1 (q.map za0))])] [vN i,vp 1 0,vp 2 0] (vb (zag p i || zag q i)) [(1,.box [.d (.sl 1 (p.map za0))]),(2,.box [.d (.sl 1 (q.map za0))])]:=by
 refine fB Tryz.func47 rfl 15 fun w H B a h=>Jq 5 [] [(0,vN i),(1,vp 1 0),(2,vp 2 0),(4,vb false)] [(1,.box [.d (.sl 1 (p.map za0))]),(2,.box [.d (.sl 1 (q.map za0))])] h fun a w h=>?_
 rcases bM (zag p i) with hc1 | hc2
 ·refine Jp 5 [(2,.g (xD 7 5 zbo (zab (zc7 hp hc1) (f:=za0)) (dD 6 _)))] [(4,vb true)] h fun a w h=>qV (rT (.c (cB true)) h rfl ?_);have hz:(zag p i || zag q i)=(true):=by first | rfl | (simp [hc1];done)
  rw [hz];try rfl
 refine Jp 5 [(2,.g (xD 7 5 zbo (zab (zc7 hp hc2) (f:=za0)) (dD 6 _))),(7,.g (xD 12 10 zbo (zab (zbp hq) (f:=za0)) (dD 11 _)))] [(4,vb (zag q i))] h fun a w h=>qV (rT (.c (cB (zag q i))) h rfl ?_);have hz:(zag p i || zag q i)=((zag q i)):=by first | rfl | (simp [hc2];done)
 rw [hz];try rfl
theorem SWtr6 (i:Nat) (p q:List Bool) (hp:i<p.length) (hq:i<q.length):Fn dC 48 [(1,.box [.d (.sl 1 (p.map za0))]),(2,.box [.d (.sl 1 (q.map za0))])] [vN i,vp 1 0,vp 2 0] (vb (!zag p i || zag q i)) [(1,.box [.d (.sl 1 (p.map za0))]),(2,.box [.d (.sl 1 (q.map za0))])]:=by
 refine fB Tryz.func48 rfl 16 fun w H B a h=>Jq 5 [] [(0,vN i),(1,vp 1 0),(2,vp 2 0),(4,vb false)] [(1,.box [.d (.sl 1 (p.map za0))]),(2,.box [.d (.sl 1 (q.map za0))])] h fun a w h=>?_
 rcases bM (zag p i) with hc1 | hc2
 ·refine Jp 5 [(2,.g (xD 7 5 zbo (zab (zc7 hp hc1) (f:=za0)) (dD 6 _))),(8,.g (xD 13 11 zbo (zab (zbp hq) (f:=za0)) (dD 12 _)))] [(4,vb (zag q i))] h fun a w h=>qV (rT (.c (cB (zag q i))) h rfl ?_);have hz:(!zag p i || zag q i)=((zag q i)):=by first | rfl | (simp [hc1];done)
  rw [hz];try rfl
 refine Jp 5 [(2,.g (xD 7 5 zbo (zab (zc7 hp hc2) (f:=za0)) (dD 6 _)))] [(4,vb true)] h fun a w h=>qV (rT (.c (cB true)) h rfl ?_);have hz:(!zag p i || zag q i)=(true):=by first | rfl | (simp [hc2];done)
 rw [hz];try rfl
theorem SWtr7 (i:Nat) (p:List Bool) (wd:zaf) (hp:nxW wd i<p.length) (hi:i<wN wd) (hl:wN wd<=1000000):Fn dC 49 [(1,.box [.d (.sl 1 (p.map za0))]),(2,.box [.d (.sl 1 (wd.stem.map (slD 1 za0))),.d (.sl 1 (wd.cycle.map (slD 1 za0)))])] [vN i,vp 1 0,vp 2 0] (vb (zag p (nxW wd i))) [(1,.box [.d (.sl 1 (p.map za0))]),(2,.box [.d (.sl 1 (wd.stem.map (slD 1 za0))),.d (.sl 1 (wd.cycle.map (slD 1 za0)))])]:=by
 refine fB Tryz.func49 rfl 11 fun w H B a h=>Jq 5 [] [(0,vN i),(1,vp 1 0),(2,vp 2 0),(4,vb false)] [(1,.box [.d (.sl 1 (p.map za0))]),(2,.box [.d (.sl 1 (wd.stem.map (slD 1 za0))),.d (.sl 1 (wd.cycle.map (slD 1 za0)))])] h fun a w h=>Jp 5 [(3,.call (SWnext wd i hl hi)),(4,.g (xD 9 5 zbo (zab (zbp hp) (f:=za0)) (dD 8 _)))] [(4,vb (zag p (nxW wd i)))] h fun a w h=>qV (rT (.c (cB (zag p (nxW wd i)))) h rfl ?_)
 have hz:(zag p (nxW wd i))=((zag p (nxW wd i))):=by first | rfl | (simp [];done)
 rw [hz];try rfl
theorem SWttA (i:Nat) :Fn dC 42 [] [vN i] (vb true) []:=by
 refine fB Tryz.func42 rfl 3 fun w H B a h=>Jq 0 [] [(2,vb false)] [] h fun a w h=>Jq 0 [] [(2,vb true)] [] h fun a w h=>qV (rT (.c (cB true)) h rfl ?_)
 rfl
theorem SWeachTA (wd:zaf) (G:Nat->Bool) (hF:∀ i,i<wN wd->Fn dC 42 [] [vN i] (vb (G i)) []) (hl:wN wd<=1000000):Fn dC 41 [] [vG [.d (.sl 1 (wd.stem.map (slD 1 za0))),.d (.sl 1 (wd.cycle.map (slD 1 za0)))],.t (.c (.fn (.func 42) [] []))] (vO 0 (zao wd G).length) [(0,.row 4 1 ((zao wd G).map za0))]:=by
 have hN9:=zby wd;refine fB Tryz.func41 rfl 20 fun w H B a h=>Jq 5 [] [(1,.t (.c (.fn (.func 42) [] []))),(2,vp 5 0),(4,vW za6)] [(5,.box [.d (.sl 1 (wd.stem.map (slD 1 za0))),.d (.sl 1 (wd.cycle.map (slD 1 za0)))])] h fun a w h=>Je 6 [] [] [(5,vW za6)] h fun a w h=>qW (Jg 6 [(1,.call (zel wd hl))] [2] [(8,vI ((wN wd:Nat):Int)),(9,vI 0)] [5] [] h fun a w h=>qZ ?_)
 replace h:=zdb 5 0 6 1 4 (vW za6) h;replace h:=zb7 6 0 h;replace h:=cvM [] [(5,vO 0 ((bA 0).map G).length)] [] [(0,.row 4 1 (((bA 0).map G).map za0))] (by kernel_rfl) h
 refine zdp (ι:=(Nat)) (fun j=>j<=wN wd)
   [] (fun j=>[(5,vO 0 ((bA j).map G).length),(9,vN j)])
   [] (fun j=>[(0,.row 4 1 (((bA j).map G).map za0))])
   (fun j=>wN wd - j) 0 ?_ h ?_
 ·exact bE _
 clear h;rintro j a w hI h;have lj9:((bA j).map G).length=j:=by simp
 refine Je 7 [] [] [(10,vb (decide ((j:Int)<((wN wd:Nat):Int))))] h fun a w h=>qW (zav ((j:Int)<((wN wd:Nat):Int)) h (fun hc1 hc1'=>?_) (fun hc2 hc2'=>?_))
 ·refine qU (za1 (qW (qZ (Je 7 [] [10] [(6,vN j)] h fun a w h=>Jh 7 [(3,.g (Op.callV (d:=15) (t:=13) (cap:=[]) (args:=[vN j]) (rs:=[(14,vN j)]) (tys:=#[3]) (hF j (by have:=dT hc1;omega)) va4_3 (OVs.cons (dD 14 _) (OVs.nil)))),(4,.g (bD 16 ([(G j)].map za0) [(15,vb (G j))] zgc (.cons (i:=0) (dD 15 _) (.nil)) (by kernel_rfl) (by simp [za0]))),(5,.g (Op.appOD (d:=17) (t:=12) (u:=16) (n:=0) (n':=7) (len:=((bA j).map G).length) (len':=(((bA j).map G)++[(G j)]).length) (rows:=((bA j).map G).map za0) (rows2:=[(G j)].map za0) (rows':=(((bA j).map G)++[(G j)]).map za0) zf9 (by first | exact (bB _).symm | simp) (by first | (rw [bQ,bB];done) | (simp;done) | (simp;omega)) (by simp) (by simp [za0]) (by first | omega | (simp at *;done) | (simp at *;omega))))] [6] [(5,vO 7 (((bA j).map G)++[(G j)]).length)] [0] [(7,.row 4 1 ((((bA j).map G)++[(G j)]).map za0))] h fun a w h=>za7 (za1 (Jf 8 [(0,.j1 j)] [] [(9,vI ((j:Int)+1))] h fun a w h=>za1 ?_))))));replace h:=zb7 7 0 h;rw [show ((((bA j).map G)++[(G j)]):List Bool)=((bA (j+1)).map G) from (by rw [bF,bW];rfl)] at h;refine zaj (x:=j) (y:=j+1) h ?_ ?_
  ·have:=dT hc1;show j+1<=wN wd;omega
  have:=dT hc1;show wN wd - (j+1)<wN wd - j;omega
 refine exA (Jp 8 [] [(4,vO 0 ((bA j).map G).length)] h fun a w h=>qV ?_);replace h:=cv (fun z_:List Bool=>F.of [(4,vO 0 z_.length)] [(0,.row 4 1 (z_.map za0))]) (show (((bA j).map G):List Bool)=(zao wd G) from (by unfold zao;rw [show j=wN wd by have:=dF hc2;omega])) (h.conv (by kernel_rfl));refine rT (.c (.own 0 (zao wd G).length)) h rfl ?_;rfl
theorem SWttB (i:Nat) :Fn dC 70 [] [vN i] (vb true) []:=by
 refine fB Tryz.func70 rfl 3 fun w H B a h=>Jq 0 [] [(2,vb false)] [] h fun a w h=>Jq 0 [] [(2,vb true)] [] h fun a w h=>qV (rT (.c (cB true)) h rfl ?_)
 rfl
theorem SWeachTB (wd:zaf) (G:Nat->Bool) (hF:∀ i,i<wN wd->Fn dC 70 [] [vN i] (vb (G i)) []) (hl:wN wd<=1000000):Fn dC 41 [] [vG [.d (.sl 1 (wd.stem.map (slD 1 za0))),.d (.sl 1 (wd.cycle.map (slD 1 za0)))],.t (.c (.fn (.func 70) [] []))] (vO 0 (zao wd G).length) [(0,.row 4 1 ((zao wd G).map za0))]:=by
 have hN9:=zby wd;refine fB Tryz.func41 rfl 20 fun w H B a h=>Jq 5 [] [(1,.t (.c (.fn (.func 70) [] []))),(2,vp 5 0),(4,vW za6)] [(5,.box [.d (.sl 1 (wd.stem.map (slD 1 za0))),.d (.sl 1 (wd.cycle.map (slD 1 za0)))])] h fun a w h=>Je 6 [] [] [(5,vW za6)] h fun a w h=>qW (Jg 6 [(1,.call (zel wd hl))] [2] [(8,vI ((wN wd:Nat):Int)),(9,vI 0)] [5] [] h fun a w h=>qZ ?_)
 replace h:=zdb 5 0 6 1 4 (vW za6) h;replace h:=zb7 6 0 h;replace h:=cvM [] [(5,vO 0 ((bA 0).map G).length)] [] [(0,.row 4 1 (((bA 0).map G).map za0))] (by kernel_rfl) h
 refine zdp (ι:=(Nat)) (fun j=>j<=wN wd)
   [] (fun j=>[(5,vO 0 ((bA j).map G).length),(9,vN j)])
   [] (fun j=>[(0,.row 4 1 (((bA j).map G).map za0))])
   (fun j=>wN wd - j) 0 ?_ h ?_
 ·exact bE _
 clear h;rintro j a w hI h;have lj9:((bA j).map G).length=j:=by simp
 refine Je 7 [] [] [(10,vb (decide ((j:Int)<((wN wd:Nat):Int))))] h fun a w h=>qW (zav ((j:Int)<((wN wd:Nat):Int)) h (fun hc1 hc1'=>?_) (fun hc2 hc2'=>?_))
 ·refine qU (za1 (qW (qZ (Je 7 [] [10] [(6,vN j)] h fun a w h=>Jh 7 [(3,.g (Op.callV (d:=15) (t:=13) (cap:=[]) (args:=[vN j]) (rs:=[(14,vN j)]) (tys:=#[3]) (hF j (by have:=dT hc1;omega)) va4_6 (OVs.cons (dD 14 _) (OVs.nil)))),(4,.g (bD 16 ([(G j)].map za0) [(15,vb (G j))] zgc (.cons (i:=0) (dD 15 _) (.nil)) (by kernel_rfl) (by simp [za0]))),(5,.g (Op.appOD (d:=17) (t:=12) (u:=16) (n:=0) (n':=7) (len:=((bA j).map G).length) (len':=(((bA j).map G)++[(G j)]).length) (rows:=((bA j).map G).map za0) (rows2:=[(G j)].map za0) (rows':=(((bA j).map G)++[(G j)]).map za0) zf9 (by first | exact (bB _).symm | simp) (by first | (rw [bQ,bB];done) | (simp;done) | (simp;omega)) (by simp) (by simp [za0]) (by first | omega | (simp at *;done) | (simp at *;omega))))] [6] [(5,vO 7 (((bA j).map G)++[(G j)]).length)] [0] [(7,.row 4 1 ((((bA j).map G)++[(G j)]).map za0))] h fun a w h=>za7 (za1 (Jf 8 [(0,.j1 j)] [] [(9,vI ((j:Int)+1))] h fun a w h=>za1 ?_))))));replace h:=zb7 7 0 h;rw [show ((((bA j).map G)++[(G j)]):List Bool)=((bA (j+1)).map G) from (by rw [bF,bW];rfl)] at h;refine zaj (x:=j) (y:=j+1) h ?_ ?_
  ·have:=dT hc1;show j+1<=wN wd;omega
  have:=dT hc1;show wN wd - (j+1)<wN wd - j;omega
 refine exA (Jp 8 [] [(4,vO 0 ((bA j).map G).length)] h fun a w h=>qV ?_);replace h:=cv (fun z_:List Bool=>F.of [(4,vO 0 z_.length)] [(0,.row 4 1 (z_.map za0))]) (show (((bA j).map G):List Bool)=(zao wd G) from (by unfold zao;rw [show j=wN wd by have:=dF hc2;omega])) (h.conv (by kernel_rfl));refine rT (.c (.own 0 (zao wd G).length)) h rfl ?_;rfl
theorem SWeach2 (wd:zaf) (G:Nat->Bool) (f:za2) (hF:∀ i,i<wN wd->Fn dC 43 [(1,.box [.d (.sl 1 (wd.stem.map (slD 1 za0))),.d (.sl 1 (wd.cycle.map (slD 1 za0)))]),(2,.box [cI f.kind,cI f.prop,.d (.sl 3 (f.kids.map za2.d))])] [vN i,vp 1 0,vp 2 0] (vb (G i)) [(1,.box [.d (.sl 1 (wd.stem.map (slD 1 za0))),.d (.sl 1 (wd.cycle.map (slD 1 za0)))]),(2,.box [cI f.kind,cI f.prop,.d (.sl 3 (f.kids.map za2.d))])]) (hl:wN wd<=1000000):Fn dC 41 [(1,.box [.d (.sl 1 (wd.stem.map (slD 1 za0))),.d (.sl 1 (wd.cycle.map (slD 1 za0)))]),(2,.box [cI f.kind,cI f.prop,.d (.sl 3 (f.kids.map za2.d))])] [vG [.d (.sl 1 (wd.stem.map (slD 1 za0))),.d (.sl 1 (wd.cycle.map (slD 1 za0)))],.t (.c (.fn (.func 43) [] [.ptr 1 0,.ptr 2 0]))] (vO 0 (zao wd G).length) [(1,.box [.d (.sl 1 (wd.stem.map (slD 1 za0))),.d (.sl 1 (wd.cycle.map (slD 1 za0)))]),(2,.box [cI f.kind,cI f.prop,.d (.sl 3 (f.kids.map za2.d))]),(0,.row 4 1 ((zao wd G).map za0))]:=by
 have hN9:=zby wd;refine fB Tryz.func41 rfl 20 fun w H B a h=>Jq 5 [] [(1,.t (.c (.fn (.func 43) [] [.ptr 1 0,.ptr 2 0]))),(2,vp 5 0),(4,vW za6)] [(1,.box [.d (.sl 1 (wd.stem.map (slD 1 za0))),.d (.sl 1 (wd.cycle.map (slD 1 za0)))]),(2,.box [cI f.kind,cI f.prop,.d (.sl 3 (f.kids.map za2.d))]),(5,.box [.d (.sl 1 (wd.stem.map (slD 1 za0))),.d (.sl 1 (wd.cycle.map (slD 1 za0)))])] h fun a w h=>Je 6 [] [] [(5,vW za6)] h fun a w h=>qW (Jg 6 [(1,.call (zel wd hl))] [2] [(8,vI ((wN wd:Nat):Int)),(9,vI 0)] [5] [] h fun a w h=>qZ ?_)
 replace h:=zdb 5 0 6 1 4 (vW za6) h;replace h:=zb7 6 0 h;replace h:=cvM [] [(5,vO 0 ((bA 0).map G).length)] [] [(0,.row 4 1 (((bA 0).map G).map za0))] (by kernel_rfl) h
 refine zdp (ι:=(Nat)) (fun j=>j<=wN wd)
   [] (fun j=>[(5,vO 0 ((bA j).map G).length),(9,vN j)])
   [] (fun j=>[(0,.row 4 1 (((bA j).map G).map za0))])
   (fun j=>wN wd - j) 0 ?_ h ?_
 ·exact bE _
 clear h;rintro j a w hI h;have lj9:((bA j).map G).length=j:=by simp
 refine Je 7 [] [] [(10,vb (decide ((j:Int)<((wN wd:Nat):Int))))] h fun a w h=>qW (zav ((j:Int)<((wN wd:Nat):Int)) h (fun hc1 hc1'=>?_) (fun hc2 hc2'=>?_))
 ·refine qU (za1 (qW (qZ (Je 7 [] [10] [(6,vN j)] h fun a w h=>Jh 7 [(3,.g (Op.callV (d:=15) (t:=13) (cap:=[.ptr 1 0,.ptr 2 0]) (args:=[vN j]) (rs:=[(14,vN j)]) (tys:=#[3]) (hF j (by have:=dT hc1;omega)) va4_7 (OVs.cons (dD 14 _) (OVs.nil)))),(4,.g (bD 16 ([(G j)].map za0) [(15,vb (G j))] zgc (.cons (i:=0) (dD 15 _) (.nil)) (by kernel_rfl) (by simp [za0]))),(5,.g (Op.appOD (d:=17) (t:=12) (u:=16) (n:=0) (n':=7) (len:=((bA j).map G).length) (len':=(((bA j).map G)++[(G j)]).length) (rows:=((bA j).map G).map za0) (rows2:=[(G j)].map za0) (rows':=(((bA j).map G)++[(G j)]).map za0) zf9 (by first | exact (bB _).symm | simp) (by first | (rw [bQ,bB];done) | (simp;done) | (simp;omega)) (by simp) (by simp [za0]) (by first | omega | (simp at *;done) | (simp at *;omega))))] [6] [(5,vO 7 (((bA j).map G)++[(G j)]).length)] [0] [(7,.row 4 1 ((((bA j).map G)++[(G j)]).map za0))] h fun a w h=>za7 (za1 (Jf 8 [(0,.j1 j)] [] [(9,vI ((j:Int)+1))] h fun a w h=>za1 ?_))))));replace h:=zb7 7 0 h;replace h:=cvM [] [(5,vO 0 ((bA (j+1)).map G).length)] [] [(0,.row 4 1 (((bA (j+1)).map G).map za0))] (by rw [<- show ((((bA j).map G)++[(G j)]):List Bool)=((bA (j+1)).map G) from (by rw [bF,bW];rfl)]; try kernel_rfl) h;refine zaj (x:=j) (y:=j+1) h ?_ ?_
  ·have:=dT hc1;show j+1<=wN wd;omega
  have:=dT hc1;show wN wd - (j+1)<wN wd - j;omega
 refine exA (Jp 8 [] [(4,vO 0 ((bA j).map G).length)] h fun a w h=>qV ?_);replace h:=cvM [] [(4,vO 0 (zao wd G).length)] [] [(0,.row 4 1 ((zao wd G).map za0))] (by rw [<- show (((bA j).map G):List Bool)=(zao wd G) from (by unfold zao;rw [show j=wN wd by have:=dF hc2;omega])]; try kernel_rfl) h;refine rT (.c (.own 0 (zao wd G).length)) h rfl ?_;rfl
theorem SWeach3 (wd:zaf) (G:Nat->Bool) (p:List Bool) (hF:∀ i,i<wN wd->Fn dC 45 [(1,.box [.d (.sl 1 (p.map za0))])] [vN i,vp 1 0] (vb (G i)) [(1,.box [.d (.sl 1 (p.map za0))])]) (hl:wN wd<=1000000):Fn dC 41 [(1,.box [.d (.sl 1 (p.map za0))])] [vG [.d (.sl 1 (wd.stem.map (slD 1 za0))),.d (.sl 1 (wd.cycle.map (slD 1 za0)))],.t (.c (.fn (.func 45) [] [.ptr 1 0]))] (vO 0 (zao wd G).length) [(1,.box [.d (.sl 1 (p.map za0))]),(0,.row 4 1 ((zao wd G).map za0))]:=by
 have hN9:=zby wd;refine fB Tryz.func41 rfl 20 fun w H B a h=>Jq 5 [] [(1,.t (.c (.fn (.func 45) [] [.ptr 1 0]))),(2,vp 5 0),(4,vW za6)] [(1,.box [.d (.sl 1 (p.map za0))]),(5,.box [.d (.sl 1 (wd.stem.map (slD 1 za0))),.d (.sl 1 (wd.cycle.map (slD 1 za0)))])] h fun a w h=>Je 6 [] [] [(5,vW za6)] h fun a w h=>qW (Jg 6 [(1,.call (zel wd hl))] [2] [(8,vI ((wN wd:Nat):Int)),(9,vI 0)] [5] [] h fun a w h=>qZ ?_)
 replace h:=zdb 5 0 6 1 4 (vW za6) h;replace h:=zb7 6 0 h;replace h:=cvM [] [(5,vO 0 ((bA 0).map G).length)] [] [(0,.row 4 1 (((bA 0).map G).map za0))] (by kernel_rfl) h
 refine zdp (ι:=(Nat)) (fun j=>j<=wN wd)
   [] (fun j=>[(5,vO 0 ((bA j).map G).length),(9,vN j)])
   [] (fun j=>[(0,.row 4 1 (((bA j).map G).map za0))])
   (fun j=>wN wd - j) 0 ?_ h ?_
 ·exact bE _
 clear h;rintro j a w hI h;have lj9:((bA j).map G).length=j:=by simp
 refine Je 7 [] [] [(10,vb (decide ((j:Int)<((wN wd:Nat):Int))))] h fun a w h=>qW (zav ((j:Int)<((wN wd:Nat):Int)) h (fun hc1 hc1'=>?_) (fun hc2 hc2'=>?_))
 ·refine qU (za1 (qW (qZ (Je 7 [] [10] [(6,vN j)] h fun a w h=>Jh 7 [(3,.g (Op.callV (d:=15) (t:=13) (cap:=[.ptr 1 0]) (args:=[vN j]) (rs:=[(14,vN j)]) (tys:=#[3]) (hF j (by have:=dT hc1;omega)) va4_8 (OVs.cons (dD 14 _) (OVs.nil)))),(4,.g (bD 16 ([(G j)].map za0) [(15,vb (G j))] zgc (.cons (i:=0) (dD 15 _) (.nil)) (by kernel_rfl) (by simp [za0]))),(5,.g (Op.appOD (d:=17) (t:=12) (u:=16) (n:=0) (n':=7) (len:=((bA j).map G).length) (len':=(((bA j).map G)++[(G j)]).length) (rows:=((bA j).map G).map za0) (rows2:=[(G j)].map za0) (rows':=(((bA j).map G)++[(G j)]).map za0) zf9 (by first | exact (bB _).symm | simp) (by first | (rw [bQ,bB];done) | (simp;done) | (simp;omega)) (by simp) (by simp [za0]) (by first | omega | (simp at *;done) | (simp at *;omega))))] [6] [(5,vO 7 (((bA j).map G)++[(G j)]).length)] [0] [(7,.row 4 1 ((((bA j).map G)++[(G j)]).map za0))] h fun a w h=>za7 (za1 (Jf 8 [(0,.j1 j)] [] [(9,vI ((j:Int)+1))] h fun a w h=>za1 ?_))))));replace h:=zb7 7 0 h;replace h:=cvM [] [(5,vO 0 ((bA (j+1)).map G).length)] [] [(0,.row 4 1 (((bA (j+1)).map G).map za0))] (by rw [<- show ((((bA j).map G)++[(G j)]):List Bool)=((bA (j+1)).map G) from (by rw [bF,bW];rfl)]; try kernel_rfl) h;refine zaj (x:=j) (y:=j+1) h ?_ ?_
  ·have:=dT hc1;show j+1<=wN wd;omega
  have:=dT hc1;show wN wd - (j+1)<wN wd - j;omega
 refine exA (Jp 8 [] [(4,vO 0 ((bA j).map G).length)] h fun a w h=>qV ?_);replace h:=cvM [] [(4,vO 0 (zao wd G).length)] [] [(0,.row 4 1 ((zao wd G).map za0))] (by rw [<- show (((bA j).map G):List Bool)=(zao wd G) from (by unfold zao;rw [show j=wN wd by have:=dF hc2;omega])]; try kernel_rfl) h;refine rT (.c (.own 0 (zao wd G).length)) h rfl ?_;rfl
theorem SWeach4 (wd:zaf) (G:Nat->Bool) (p q:List Bool) (hF:∀ i,i<wN wd->Fn dC 46 [(1,.box [.d (.sl 1 (p.map za0))]),(2,.box [.d (.sl 1 (q.map za0))])] [vN i,vp 1 0,vp 2 0] (vb (G i)) [(1,.box [.d (.sl 1 (p.map za0))]),(2,.box [.d (.sl 1 (q.map za0))])]) (hl:wN wd<=1000000):Fn dC 41 [(1,.box [.d (.sl 1 (p.map za0))]),(2,.box [.d (.sl 1 (q.map za0))])] [vG [.d (.sl 1 (wd.stem.map (slD 1 za0))),.d (.sl 1 (wd.cycle.map (slD 1 za0)))],.t (.c (.fn (.func 46) [] [.ptr 1 0,.ptr 2 0]))] (vO 0 (zao wd G).length) [(1,.box [.d (.sl 1 (p.map za0))]),(2,.box [.d (.sl 1 (q.map za0))]),(0,.row 4 1 ((zao wd G).map za0))]:=by
 have hN9:=zby wd;refine fB Tryz.func41 rfl 20 fun w H B a h=>Jq 5 [] [(1,.t (.c (.fn (.func 46) [] [.ptr 1 0,.ptr 2 0]))),(2,vp 5 0),(4,vW za6)] [(1,.box [.d (.sl 1 (p.map za0))]),(2,.box [.d (.sl 1 (q.map za0))]),(5,.box [.d (.sl 1 (wd.stem.map (slD 1 za0))),.d (.sl 1 (wd.cycle.map (slD 1 za0)))])] h fun a w h=>Je 6 [] [] [(5,vW za6)] h fun a w h=>qW (Jg 6 [(1,.call (zel wd hl))] [2] [(8,vI ((wN wd:Nat):Int)),(9,vI 0)] [5] [] h fun a w h=>qZ ?_)
 replace h:=zdb 5 0 6 1 4 (vW za6) h;replace h:=zb7 6 0 h;replace h:=cvM [] [(5,vO 0 ((bA 0).map G).length)] [] [(0,.row 4 1 (((bA 0).map G).map za0))] (by kernel_rfl) h
 refine zdp (ι:=(Nat)) (fun j=>j<=wN wd)
   [] (fun j=>[(5,vO 0 ((bA j).map G).length),(9,vN j)])
   [] (fun j=>[(0,.row 4 1 (((bA j).map G).map za0))])
   (fun j=>wN wd - j) 0 ?_ h ?_
 ·exact bE _
 clear h;rintro j a w hI h;have lj9:((bA j).map G).length=j:=by simp
 refine Je 7 [] [] [(10,vb (decide ((j:Int)<((wN wd:Nat):Int))))] h fun a w h=>qW (zav ((j:Int)<((wN wd:Nat):Int)) h (fun hc1 hc1'=>?_) (fun hc2 hc2'=>?_))
 ·refine qU (za1 (qW (qZ (Je 7 [] [10] [(6,vN j)] h fun a w h=>Jh 7 [(3,.g (Op.callV (d:=15) (t:=13) (cap:=[.ptr 1 0,.ptr 2 0]) (args:=[vN j]) (rs:=[(14,vN j)]) (tys:=#[3]) (hF j (by have:=dT hc1;omega)) va4_9 (OVs.cons (dD 14 _) (OVs.nil)))),(4,.g (bD 16 ([(G j)].map za0) [(15,vb (G j))] zgc (.cons (i:=0) (dD 15 _) (.nil)) (by kernel_rfl) (by simp [za0]))),(5,.g (Op.appOD (d:=17) (t:=12) (u:=16) (n:=0) (n':=7) (len:=((bA j).map G).length) (len':=(((bA j).map G)++[(G j)]).length) (rows:=((bA j).map G).map za0) (rows2:=[(G j)].map za0) (rows':=(((bA j).map G)++[(G j)]).map za0) zf9 (by first | exact (bB _).symm | simp) (by first | (rw [bQ,bB];done) | (simp;done) | (simp;omega)) (by simp) (by simp [za0]) (by first | omega | (simp at *;done) | (simp at *;omega))))] [6] [(5,vO 7 (((bA j).map G)++[(G j)]).length)] [0] [(7,.row 4 1 ((((bA j).map G)++[(G j)]).map za0))] h fun a w h=>za7 (za1 (Jf 8 [(0,.j1 j)] [] [(9,vI ((j:Int)+1))] h fun a w h=>za1 ?_))))));replace h:=zb7 7 0 h;replace h:=cvM [] [(5,vO 0 ((bA (j+1)).map G).length)] [] [(0,.row 4 1 (((bA (j+1)).map G).map za0))] (by rw [<- show ((((bA j).map G)++[(G j)]):List Bool)=((bA (j+1)).map G) from (by rw [bF,bW];rfl)]; try kernel_rfl) h;refine zaj (x:=j) (y:=j+1) h ?_ ?_
  ·have:=dT hc1;show j+1<=wN wd;omega
  have:=dT hc1;show wN wd - (j+1)<wN wd - j;omega
 refine exA (Jp 8 [] [(4,vO 0 ((bA j).map G).length)] h fun a w h=>qV ?_);replace h:=cvM [] [(4,vO 0 (zao wd G).length)] [] [(0,.row 4 1 ((zao wd G).map za0))] (by rw [<- show (((bA j).map G):List Bool)=(zao wd G) from (by unfold zao;rw [show j=wN wd by have:=dF hc2;omega])]; try kernel_rfl) h;refine rT (.c (.own 0 (zao wd G).length)) h rfl ?_;rfl
theorem SWeach5 (wd:zaf) (G:Nat->Bool) (p q:List Bool) (hF:∀ i,i<wN wd->Fn dC 47 [(1,.box [.d (.sl 1 (p.map za0))]),(2,.box [.d (.sl 1 (q.map za0))])] [vN i,vp 1 0,vp 2 0] (vb (G i)) [(1,.box [.d (.sl 1 (p.map za0))]),(2,.box [.d (.sl 1 (q.map za0))])]) (hl:wN wd<=1000000):Fn dC 41 [(1,.box [.d (.sl 1 (p.map za0))]),(2,.box [.d (.sl 1 (q.map za0))])] [vG [.d (.sl 1 (wd.stem.map (slD 1 za0))),.d (.sl 1 (wd.cycle.map (slD 1 za0)))],.t (.c (.fn (.func 47) [] [.ptr 1 0,.ptr 2 0]))] (vO 0 (zao wd G).length) [(1,.box [.d (.sl 1 (p.map za0))]),(2,.box [.d (.sl 1 (q.map za0))]),(0,.row 4 1 ((zao wd G).map za0))]:=by
 have hN9:=zby wd;refine fB Tryz.func41 rfl 20 fun w H B a h=>Jq 5 [] [(1,.t (.c (.fn (.func 47) [] [.ptr 1 0,.ptr 2 0]))),(2,vp 5 0),(4,vW za6)] [(1,.box [.d (.sl 1 (p.map za0))]),(2,.box [.d (.sl 1 (q.map za0))]),(5,.box [.d (.sl 1 (wd.stem.map (slD 1 za0))),.d (.sl 1 (wd.cycle.map (slD 1 za0)))])] h fun a w h=>Je 6 [] [] [(5,vW za6)] h fun a w h=>qW (Jg 6 [(1,.call (zel wd hl))] [2] [(8,vI ((wN wd:Nat):Int)),(9,vI 0)] [5] [] h fun a w h=>qZ ?_)
 replace h:=zdb 5 0 6 1 4 (vW za6) h;replace h:=zb7 6 0 h;replace h:=cvM [] [(5,vO 0 ((bA 0).map G).length)] [] [(0,.row 4 1 (((bA 0).map G).map za0))] (by kernel_rfl) h
 refine zdp (ι:=(Nat)) (fun j=>j<=wN wd)
   [] (fun j=>[(5,vO 0 ((bA j).map G).length),(9,vN j)])
   [] (fun j=>[(0,.row 4 1 (((bA j).map G).map za0))])
   (fun j=>wN wd - j) 0 ?_ h ?_
 ·exact bE _
 clear h;rintro j a w hI h;have lj9:((bA j).map G).length=j:=by simp
 refine Je 7 [] [] [(10,vb (decide ((j:Int)<((wN wd:Nat):Int))))] h fun a w h=>qW (zav ((j:Int)<((wN wd:Nat):Int)) h (fun hc1 hc1'=>?_) (fun hc2 hc2'=>?_))
 ·refine qU (za1 (qW (qZ (Je 7 [] [10] [(6,vN j)] h fun a w h=>Jh 7 [(3,.g (Op.callV (d:=15) (t:=13) (cap:=[.ptr 1 0,.ptr 2 0]) (args:=[vN j]) (rs:=[(14,vN j)]) (tys:=#[3]) (hF j (by have:=dT hc1;omega)) va4_10 (OVs.cons (dD 14 _) (OVs.nil)))),(4,.g (bD 16 ([(G j)].map za0) [(15,vb (G j))] zgc (.cons (i:=0) (dD 15 _) (.nil)) (by kernel_rfl) (by simp [za0]))),(5,.g (Op.appOD (d:=17) (t:=12) (u:=16) (n:=0) (n':=7) (len:=((bA j).map G).length) (len':=(((bA j).map G)++[(G j)]).length) (rows:=((bA j).map G).map za0) (rows2:=[(G j)].map za0) (rows':=(((bA j).map G)++[(G j)]).map za0) zf9 (by first | exact (bB _).symm | simp) (by first | (rw [bQ,bB];done) | (simp;done) | (simp;omega)) (by simp) (by simp [za0]) (by first | omega | (simp at *;done) | (simp at *;omega))))] [6] [(5,vO 7 (((bA j).map G)++[(G j)]).length)] [0] [(7,.row 4 1 ((((bA j).map G)++[(G j)]).map za0))] h fun a w h=>za7 (za1 (Jf 8 [(0,.j1 j)] [] [(9,vI ((j:Int)+1))] h fun a w h=>za1 ?_))))));replace h:=zb7 7 0 h;replace h:=cvM [] [(5,vO 0 ((bA (j+1)).map G).length)] [] [(0,.row 4 1 (((bA (j+1)).map G).map za0))] (by rw [<- show ((((bA j).map G)++[(G j)]):List Bool)=((bA (j+1)).map G) from (by rw [bF,bW];rfl)]; try kernel_rfl) h;refine zaj (x:=j) (y:=j+1) h ?_ ?_
  ·have:=dT hc1;show j+1<=wN wd;omega
  have:=dT hc1;show wN wd - (j+1)<wN wd - j;omega
 refine exA (Jp 8 [] [(4,vO 0 ((bA j).map G).length)] h fun a w h=>qV ?_);replace h:=cvM [] [(4,vO 0 (zao wd G).length)] [] [(0,.row 4 1 ((zao wd G).map za0))] (by rw [<- show (((bA j).map G):List Bool)=(zao wd G) from (by unfold zao;rw [show j=wN wd by have:=dF hc2;omega])]; try kernel_rfl) h;refine rT (.c (.own 0 (zao wd G).length)) h rfl ?_;rfl
theorem SWeach6 (wd:zaf) (G:Nat->Bool) (p q:List Bool) (hF:∀ i,i<wN wd->Fn dC 48 [(1,.box [.d (.sl 1 (p.map za0))]),(2,.box [.d (.sl 1 (q.map za0))])] [vN i,vp 1 0,vp 2 0] (vb (G i)) [(1,.box [.d (.sl 1 (p.map za0))]),(2,.box [.d (.sl 1 (q.map za0))])]) (hl:wN wd<=1000000):Fn dC 41 [(1,.box [.d (.sl 1 (p.map za0))]),(2,.box [.d (.sl 1 (q.map za0))])] [vG [.d (.sl 1 (wd.stem.map (slD 1 za0))),.d (.sl 1 (wd.cycle.map (slD 1 za0)))],.t (.c (.fn (.func 48) [] [.ptr 1 0,.ptr 2 0]))] (vO 0 (zao wd G).length) [(1,.box [.d (.sl 1 (p.map za0))]),(2,.box [.d (.sl 1 (q.map za0))]),(0,.row 4 1 ((zao wd G).map za0))]:=by
 have hN9:=zby wd;refine fB Tryz.func41 rfl 20 fun w H B a h=>Jq 5 [] [(1,.t (.c (.fn (.func 48) [] [.ptr 1 0,.ptr 2 0]))),(2,vp 5 0),(4,vW za6)] [(1,.box [.d (.sl 1 (p.map za0))]),(2,.box [.d (.sl 1 (q.map za0))]),(5,.box [.d (.sl 1 (wd.stem.map (slD 1 za0))),.d (.sl 1 (wd.cycle.map (slD 1 za0)))])] h fun a w h=>Je 6 [] [] [(5,vW za6)] h fun a w h=>qW (Jg 6 [(1,.call (zel wd hl))] [2] [(8,vI ((wN wd:Nat):Int)),(9,vI 0)] [5] [] h fun a w h=>qZ ?_)
 replace h:=zdb 5 0 6 1 4 (vW za6) h;replace h:=zb7 6 0 h;replace h:=cvM [] [(5,vO 0 ((bA 0).map G).length)] [] [(0,.row 4 1 (((bA 0).map G).map za0))] (by kernel_rfl) h
 refine zdp (ι:=(Nat)) (fun j=>j<=wN wd)
   [] (fun j=>[(5,vO 0 ((bA j).map G).length),(9,vN j)])
   [] (fun j=>[(0,.row 4 1 (((bA j).map G).map za0))])
   (fun j=>wN wd - j) 0 ?_ h ?_
 ·exact bE _
 clear h;rintro j a w hI h;have lj9:((bA j).map G).length=j:=by simp
 refine Je 7 [] [] [(10,vb (decide ((j:Int)<((wN wd:Nat):Int))))] h fun a w h=>qW (zav ((j:Int)<((wN wd:Nat):Int)) h (fun hc1 hc1'=>?_) (fun hc2 hc2'=>?_))
 ·refine qU (za1 (qW (qZ (Je 7 [] [10] [(6,vN j)] h fun a w h=>Jh 7 [(3,.g (Op.callV (d:=15) (t:=13) (cap:=[.ptr 1 0,.ptr 2 0]) (args:=[vN j]) (rs:=[(14,vN j)]) (tys:=#[3]) (hF j (by have:=dT hc1;omega)) va4_11 (OVs.cons (dD 14 _) (OVs.nil)))),(4,.g (bD 16 ([(G j)].map za0) [(15,vb (G j))] zgc (.cons (i:=0) (dD 15 _) (.nil)) (by kernel_rfl) (by simp [za0]))),(5,.g (Op.appOD (d:=17) (t:=12) (u:=16) (n:=0) (n':=7) (len:=((bA j).map G).length) (len':=(((bA j).map G)++[(G j)]).length) (rows:=((bA j).map G).map za0) (rows2:=[(G j)].map za0) (rows':=(((bA j).map G)++[(G j)]).map za0) zf9 (by first | exact (bB _).symm | simp) (by first | (rw [bQ,bB];done) | (simp;done) | (simp;omega)) (by simp) (by simp [za0]) (by first | omega | (simp at *;done) | (simp at *;omega))))] [6] [(5,vO 7 (((bA j).map G)++[(G j)]).length)] [0] [(7,.row 4 1 ((((bA j).map G)++[(G j)]).map za0))] h fun a w h=>za7 (za1 (Jf 8 [(0,.j1 j)] [] [(9,vI ((j:Int)+1))] h fun a w h=>za1 ?_))))));replace h:=zb7 7 0 h;replace h:=cvM [] [(5,vO 0 ((bA (j+1)).map G).length)] [] [(0,.row 4 1 (((bA (j+1)).map G).map za0))] (by rw [<- show ((((bA j).map G)++[(G j)]):List Bool)=((bA (j+1)).map G) from (by rw [bF,bW];rfl)]; try kernel_rfl) h;refine zaj (x:=j) (y:=j+1) h ?_ ?_
  ·have:=dT hc1;show j+1<=wN wd;omega
  have:=dT hc1;show wN wd - (j+1)<wN wd - j;omega
 refine exA (Jp 8 [] [(4,vO 0 ((bA j).map G).length)] h fun a w h=>qV ?_);replace h:=cvM [] [(4,vO 0 (zao wd G).length)] [] [(0,.row 4 1 ((zao wd G).map za0))] (by rw [<- show (((bA j).map G):List Bool)=(zao wd G) from (by unfold zao;rw [show j=wN wd by have:=dF hc2;omega])]; try kernel_rfl) h;refine rT (.c (.own 0 (zao wd G).length)) h rfl ?_;rfl
theorem SWeach7 (wd:zaf) (G:Nat->Bool) (p:List Bool) (hF:∀ i,i<wN wd->Fn dC 49 [(1,.box [.d (.sl 1 (p.map za0))]),(2,.box [.d (.sl 1 (wd.stem.map (slD 1 za0))),.d (.sl 1 (wd.cycle.map (slD 1 za0)))])] [vN i,vp 1 0,vp 2 0] (vb (G i)) [(1,.box [.d (.sl 1 (p.map za0))]),(2,.box [.d (.sl 1 (wd.stem.map (slD 1 za0))),.d (.sl 1 (wd.cycle.map (slD 1 za0)))])]) (hl:wN wd<=1000000):Fn dC 41 [(1,.box [.d (.sl 1 (p.map za0))]),(2,.box [.d (.sl 1 (wd.stem.map (slD 1 za0))),.d (.sl 1 (wd.cycle.map (slD 1 za0)))])] [vG [.d (.sl 1 (wd.stem.map (slD 1 za0))),.d (.sl 1 (wd.cycle.map (slD 1 za0)))],.t (.c (.fn (.func 49) [] [.ptr 1 0,.ptr 2 0]))] (vO 0 (zao wd G).length) [(1,.box [.d (.sl 1 (p.map za0))]),(2,.box [.d (.sl 1 (wd.stem.map (slD 1 za0))),.d (.sl 1 (wd.cycle.map (slD 1 za0)))]),(0,.row 4 1 ((zao wd G).map za0))]:=by
 have hN9:=zby wd;refine fB Tryz.func41 rfl 20 fun w H B a h=>Jq 5 [] [(1,.t (.c (.fn (.func 49) [] [.ptr 1 0,.ptr 2 0]))),(2,vp 5 0),(4,vW za6)] [(1,.box [.d (.sl 1 (p.map za0))]),(2,.box [.d (.sl 1 (wd.stem.map (slD 1 za0))),.d (.sl 1 (wd.cycle.map (slD 1 za0)))]),(5,.box [.d (.sl 1 (wd.stem.map (slD 1 za0))),.d (.sl 1 (wd.cycle.map (slD 1 za0)))])] h fun a w h=>Je 6 [] [] [(5,vW za6)] h fun a w h=>qW (Jg 6 [(1,.call (zel wd hl))] [2] [(8,vI ((wN wd:Nat):Int)),(9,vI 0)] [5] [] h fun a w h=>qZ ?_)
 replace h:=zdb 5 0 6 1 4 (vW za6) h;replace h:=zb7 6 0 h;replace h:=cvM [] [(5,vO 0 ((bA 0).map G).length)] [] [(0,.row 4 1 (((bA 0).map G).map za0))] (by kernel_rfl) h
 refine zdp (ι:=(Nat)) (fun j=>j<=wN wd)
   [] (fun j=>[(5,vO 0 ((bA j).map G).length),(9,vN j)])
   [] (fun j=>[(0,.row 4 1 (((bA j).map G).map za0))])
   (fun j=>wN wd - j) 0 ?_ h ?_
 ·exact bE _
 clear h;rintro j a w hI h;have lj9:((bA j).map G).length=j:=by simp
 refine Je 7 [] [] [(10,vb (decide ((j:Int)<((wN wd:Nat):Int))))] h fun a w h=>qW (zav ((j:Int)<((wN wd:Nat):Int)) h (fun hc1 hc1'=>?_) (fun hc2 hc2'=>?_))
 ·refine qU (za1 (qW (qZ (Je 7 [] [10] [(6,vN j)] h fun a w h=>Jh 7 [(3,.g (Op.callV (d:=15) (t:=13) (cap:=[.ptr 1 0,.ptr 2 0]) (args:=[vN j]) (rs:=[(14,vN j)]) (tys:=#[3]) (hF j (by have:=dT hc1;omega)) va4_12 (OVs.cons (dD 14 _) (OVs.nil)))),(4,.g (bD 16 ([(G j)].map za0) [(15,vb (G j))] zgc (.cons (i:=0) (dD 15 _) (.nil)) (by kernel_rfl) (by simp [za0]))),(5,.g (Op.appOD (d:=17) (t:=12) (u:=16) (n:=0) (n':=7) (len:=((bA j).map G).length) (len':=(((bA j).map G)++[(G j)]).length) (rows:=((bA j).map G).map za0) (rows2:=[(G j)].map za0) (rows':=(((bA j).map G)++[(G j)]).map za0) zf9 (by first | exact (bB _).symm | simp) (by first | (rw [bQ,bB];done) | (simp;done) | (simp;omega)) (by simp) (by simp [za0]) (by first | omega | (simp at *;done) | (simp at *;omega))))] [6] [(5,vO 7 (((bA j).map G)++[(G j)]).length)] [0] [(7,.row 4 1 ((((bA j).map G)++[(G j)]).map za0))] h fun a w h=>za7 (za1 (Jf 8 [(0,.j1 j)] [] [(9,vI ((j:Int)+1))] h fun a w h=>za1 ?_))))));replace h:=zb7 7 0 h;replace h:=cvM [] [(5,vO 0 ((bA (j+1)).map G).length)] [] [(0,.row 4 1 (((bA (j+1)).map G).map za0))] (by rw [<- show ((((bA j).map G)++[(G j)]):List Bool)=((bA (j+1)).map G) from (by rw [bF,bW];rfl)]; try kernel_rfl) h;refine zaj (x:=j) (y:=j+1) h ?_ ?_
  ·have:=dT hc1;show j+1<=wN wd;omega
  have:=dT hc1;show wN wd - (j+1)<wN wd - j;omega
 refine exA (Jp 8 [] [(4,vO 0 ((bA j).map G).length)] h fun a w h=>qV ?_);replace h:=cvM [] [(4,vO 0 (zao wd G).length)] [] [(0,.row 4 1 ((zao wd G).map za0))] (by rw [<- show (((bA j).map G):List Bool)=(zao wd G) from (by unfold zao;rw [show j=wN wd by have:=dF hc2;omega])]; try kernel_rfl) h;refine rT (.c (.own 0 (zao wd G).length)) h rfl ?_;rfl
section
def IterW (P:Program) (gf:Nat) (m:Nat) (e:Nat->V):Prop :=
  ∀ (Bs bo co:Nat),∃ ev:Nat->Value,(∀ H B j,j<m->VR H B (e j) (ev j)) /\
    ∀ (l:Nat) (J:Nat->World->Prop) (W:World),
      (∀ j W,J j W->(∃ ty,W.heap[Bs]?=some (.cells #[.slice (some ⟨bo,0,none⟩) m co] ty (0,0)))/\∃ arr ty,W.heap[bo]?=some (.cells ⟨arr⟩ ty (0,0))/\∀ k,k<m->∃ v,arr[k]?=some v/\flat v=true) ->
      (∀ j W1 v,J j W1->j<m->flat v=true->YieldAt Fence.wide 7 P l #[ev j,v] W1 fun en W'=>en = .returned (.bool true)/\J (j+1) W') ->
      J 0 W->CallsIn Fence.wide 8 P gf #[.func (.yield l) #[] #[],.pointer (some ⟨Bs,0,none⟩)] W fun en W'=>(∃ v,en = .returned v)/\J m W'
theorem St.fixO {N:Nat} {r:Nat} (Kn:List Nat) (h:St ⟨w0,H0,B0,K,N⟩ f a w) (hl:f.l n=some (.box [.own r m])) (hm:0<m) (hKn:∀ k ∈ K,k ∈ Kn) (hKl:∀ k ∈ K,(f.l k).isSome=true) (hnK:n ∉ K) :
  ∃ (H1:Im) (Bx:Bl) (Bs bo co:Nat) (ty:TypeId),Le H0 H1/\(∀ b,b<w0.heap.size->H1 b=H0 b)/\H1 Bs=some (.cells #[.slice (some ⟨bo,0,none⟩) m co] ty (0,0))/\Bx r=some (bo,co) /\
   (∀ t gf,f.s t=some (.t (.c (.fn (.func gf) [] [.ptr n 0])))->a.tmps.getD t undef = .func (.func gf) #[] #[.pointer (some ⟨Bs,0,none⟩)]) /\
   (∀ k l b c,f.l k=some l->Bx k=some (b,c)->(⟨w0,H0,B0,K,N⟩:E).may b\/w0.heap.size<=b)/\(∀ k ∈ K,Bx k=B0 k)/\(∀ t v,f.s t=some v->VR H1 Bx v (a.tmps.getD t undef)) /\
   Ok ⟨w0,H1,Bx,Kn,N⟩ ⟨f.s,fun k=>if k=n then none else f.l k⟩ H1 Bx a w:=by
 obtain ⟨H,B,h⟩:=h
 obtain ⟨Bs,c,arr,ty,hB,hc,hx⟩:=h.loc n _ hl
 match arr,hx with
 | [sv],hx =>
 have hx1:CR H B (.own r m) sv:=hx.1
 cases hBr:B r with
 | none=>simp only [CR,hBr] at hx1;omega
 | some pr =>
 obtain ⟨bo,co⟩:=pr
 have hsv:sv = .slice (some ⟨bo,0,none⟩) m co:=by simpa only [CR,hBr] using hx1
 subst hsv
 obtain ⟨p1,p2,p3⟩:=h.priv n _ Bs c hl hB
 have hmay:∀ b,(⟨w0,H0,B0,K,N⟩:E).may b->(⟨w0,H0,B,Kn,N⟩:E).may b:=fun b ⟨k,hk,c', h1⟩=>⟨k,hKn k hk,c', (h.keep k hk).trans h1⟩
 have p4:w0.heap.size<=Bs:=p3.resolve_left fun ⟨k,hk,c', h1⟩=>by
  obtain ⟨l,hl2⟩:=dB.1 (hKl k hk)
  have:=h.inj k n _ _ _ _ _ hl2 hl ((h.keep k hk).trans h1) hB
  subst this;exact hnK hk
 have hle:Le H (fun b=>if b=Bs then some (.cells #[.slice (some ⟨bo,0,none⟩) m co] ty (0,0)) else H b):=fun b o hb=>by
  by_cases e:b=Bs
  ·subst e;rw [p2] at hb;cases hb
  ·simp only [if_neg e];exact hb
 refine ⟨fun b=>if b=Bs then some (.cells #[.slice (some ⟨bo,0,none⟩) m co] ty (0,0)) else H b,B,Bs,bo,co,ty,h.le.trans hle,fun b hb=>?_,by simp,hBr,fun t gf ht=>?_,fun k l b c hm hb=>(h.priv k l b c hm hb).2.2,h.keep,fun t v hv=>VR.mono hle (fun _ _=>rfl) (h.slot t v hv),?_⟩
 ·have:b≠Bs:=by omega
  simp only [if_neg this]
  exact h.low b hb
 ·obtain ⟨vs,ws,hv,h1,h2⟩:=h.slot t _ ht
  match vs,ws,h1,h2 with
  | [],[u],_,h2 =>
  obtain ⟨b', c', hb', hu⟩:=h2.1
  rw [hB] at hb';cases hb'
  rw [hv,hu]
 ·refine ⟨h.df,h.n,⟨h.ext.os,h.ext.tape,h.ext.output,h.ext.size,fun b hb hnm=>h.ext.block b hb fun h2=>hnm (hmay b h2)⟩,?_,fun t v hv=>VR.mono hle (fun _ _=>rfl) (h.slot t v hv),?_,?_,?_,fun _ _=>rfl,Le.refl _,fun _ _=>rfl,(h.tab.mono h.le).mono hle⟩
  ·intro b o hb
   by_cases e:b=Bs
   ·subst e;simp only [if_true] at hb;cases hb;exact hc
   ·simp only [if_neg e] at hb;exact h.sat b o hb
  ·intro k l hm
   by_cases e:k=n
   ·simp [e] at hm
   ·simp only [if_neg e] at hm
    exact LR.mono hle rfl (fun _ _=>rfl) (fun _ _ _=>rfl) (h.loc k l hm)
  ·intro m l b c' hm hb
   by_cases e:m=n
   ·simp [e] at hm
   ·simp only [if_neg e] at hm
    obtain ⟨q1,q2,q3⟩:=h.priv m l b c' hm hb
    refine ⟨q1,?_,q3.imp (hmay b) id⟩
    have:b≠Bs:=fun e2=>by subst e2;exact e (h.inj m n _ _ b _ _ hm hl hb hB)
    simp only [if_neg this]
    exact q2
  ·intro m m' l l' b c1 c2 hm hm' hb hb'
   by_cases e:m=n
   ·simp [e] at hm
   by_cases e':m'=n
   ·simp [e'] at hm'
   simp only [if_neg e] at hm
   simp only [if_neg e'] at hm'
   exact h.inj m m' l l' b c1 c2 hm hm' hb hb'
theorem StC.openK {H1:Im} {Bx:Bl} {Kn:List Nat} {N:Nat} (hb:∀ n ∈ Kn,∀ b c,Bx n=some (b,c)->(⟨w0,H1,B0,K,N⟩:E).may b\/w0.heap.size<=b) (hk:∀ n ∈ K,n ∈ Kn/\Bx n=B0 n) (h:StC w0 H1 Bx Kn N f a w):St ⟨w0,H1,B0,K,N⟩ f a w:=by
 obtain ⟨H,B,h,_⟩:=h
 have hm:∀ b,(⟨w0,H1,Bx,Kn,N⟩:E).may b->(⟨w0,H1,B0,K,N⟩:E).may b\/w0.heap.size<=b:=fun b ⟨n,hn,c,h1⟩=>hb n hn b c h1
 refine ⟨H,B,h.df,h.n,⟨h.ext.os,h.ext.tape,h.ext.output,h.ext.size,fun b h1 hnm=>h.ext.block b h1 fun h2=>(hm b h2).elim hnm fun h3=>by have h1:b<w0.heap.size:=h1;omega⟩,h.sat,h.slot,h.loc,fun n l b c hn h1=>?_,h.inj,h.low,h.le,fun n hn=>(h.keep n (hk n hn).1).trans (hk n hn).2,h.tab⟩
 obtain ⟨p1,p2,p3⟩:=h.priv n l b c hn h1
 exact ⟨p1,p2,p3.elim (hm b) .inr⟩
theorem rangeO {p1 p2 id gf r:Nat} {assign body:Code} {N:Nat} {e:Nat->V}
  (ds:List Deferred) (Kn:List Nat) (sl':List (Nat × V)) (lcs:Nat->List (Nat × L)) (slA:Nat->List (Nat × V)) (lcA:Nat->List (Nat × L)) (h:St ⟨w0,H0,B0,K,N⟩ (F.of sl lc) a w) (it:IterW P gf m e) (hk:zax P gf)
  (hs:(F.of sl lc).s t=some (.t (.c (.fn (.func gf) [] [.ptr n 0])))) (hl:(F.of sl lc).l n=some (.box [.own r m])) (hm:0<m) (hKn:(K.all (zcm Kn))=true) (hKl:(K.all fun k=>((F.of sl lc).l k).isSome)=true) (hnK:(K.all fun k=>!(k == n))=true) (hrK:r ∈ Kn) (hrow:∀ j,j<=m->∃ ty rows,(F.of sl' (lcs j)).l r=some (.row ty 1 rows)/\m<=rows.length) (hp:p1≠p2) (hp1:p1<N) (hp2:p2<N)
  (h1:leS (F.of sl lc) sl'=sl'.map fun p=>some p.2) (h2:leN (F.of sl lc) (lcs 0)=(lcs 0).map fun p=>some p.2) (h3:((lcs 0).all fun p=>!(p.1 == n))=true) (hK:(sl'.all fun p=>p.2.tags.all (zcm Kn))=true) (hK2:(Kn.all fun k=>((F.of sl lc).l k).isSome)=true)
  (hassign:∀ (H:Im) (B:Bl) (l j:Nat) (a:Act) (w:World),j<m->St ⟨w0,H,B,Kn,N⟩ (F.of ((p1,e j) :: (p2,.t (.c .any)) :: sl') (lcs j)) a w->wpX (some l) [] P assign (fun ex a w=>ex = .normal/\St ⟨w0,H,B,Kn,N⟩ (F.of (slA j) (lcA j)) a w) a w)
  (hbody:∀ (H:Im) (B:Bl) (l j:Nat) (a:Act) (w:World),j<m->St ⟨w0,H,B,Kn,N⟩ (F.of (slA j) (lcA j)) a w->wpX (some l) [] P body (fun ex a w=>ex = .normal/\St ⟨w0,H,B,Kn,N⟩ (F.of [] (lcs (j+1))) a w) a w)
  (hrest:∀ (H:Im) (Dd:Nat) (a:Act) (w:World),Le H0 H->(∀ b,b<w0.heap.size->H b=H0 b)->w0.heap.size<=Dd->H0 Dd=none->H Dd=some (.deferred (some []))->St ⟨w0,H,B0,K,N⟩ (F.of sl' (lcs m)) a w->rest.wpIn Fence.wide 9 P Q { a with defers:={ target:=.collected Dd,args:=#[] } :: ds } w) :
  (Code.block id (.rangeFunc (.tmp t) #[p1,p2] assign body)).wpIn Fence.wide 9 P (Exit.then (fun a w=>rest.wpIn Fence.wide 9 P Q a w) Q) { a with defers:=ds } w:=by
 have hdf:a.defers=[]:=by obtain ⟨_,_,h⟩:=h;exact h.df
 have hKn1:∀ k ∈ K,k ∈ Kn:=fun k hk=>zb5.1 (bI.1 hKn k hk)
 obtain ⟨H1,Bx,Bs,bo,co,ty,hle,hlow,hBs,hbo,hfn,hbx,hkp,hslot,hok⟩:=St.fixO Kn h hl hm hKn1 (fun k hk=>bI.1 hKl k hk) (fun hk=>by have:=bI.1 hnK n hk;simp at this)
 obtain ⟨ev,hev,hit⟩:=it Bs bo co
 have hn0:a.tmps.size=N:=hok.n
 have hH1:∀ b o,H1 b=some o->b<w.heap.size:=fun b o hb=>(b9.1 (hok.sat b o hb)).1
 have hKb:∀ k ∈ Kn,∀ b c,Bx k=some (b,c)->(⟨w0,H1,B0,K,N⟩:E).may b\/w0.heap.size<=b:=fun k hk b c hb=>by
  obtain ⟨l,hl⟩:=dB.1 (bI.1 hK2 k hk)
  exact hbx k l b c hl hb
 have hsl:∀ t v,sl'.lookup t=some v->VR H1 Bx v (a.tmps.getD t undef):=fun t v hv=>hslot t v (zam h1 (t,v) (zae hv))
 have hws:w0.heap.size<=w.heap.size:=hok.ext.size
 have hfl:(⟨(F.of sl lc).s,fun m=>if m=n then none else (F.of sl lc).l m⟩:F).le (F.of sl' (lcs 0)):=by
  refine ⟨fun t v hv=>zam h1 (t,v) (zae hv),fun k l hk=>?_⟩
  have hm:=zae hk
  have hne:k≠n:=by have:=bI.1 h3 _ hm;simpa using this
  simp only [if_neg hne]
  exact zam h2 (k,l) hm
 have hst0:StC w0 H1 Bx Kn N (F.of sl' (lcs 0)) a w :=
  ⟨H1,Bx,⟨hok.df,hok.n,hok.ext,hok.sat,fun t v hv=>hok.slot t v (hfl.1 t v hv),fun k l hk=>hok.loc k l (hfl.2 k l hk),fun k l b c hk=>hok.priv k l b c (hfl.2 k l hk),fun k k' l l' b c c' hk hk'=>hok.inj k k' l l' b c c' (hfl.2 k l hk) (hfl.2 k' l' hk'),hok.low,hok.le,hok.keep,hok.tab⟩,fun b o hb => .inl hb⟩
 refine wpIn_block (wpIn_rangeFunc fun fnid _=>?_)
 obtain ⟨rec,hrec⟩:∃ rec:LoopState->Option Code->Loop,rec=fun st pe=>{ state:=st,pending:=pe,fn:=fnid,tmps:=a.tmps,params:=#[p1,p2],assign,body,defers:=w.heap.size }:=⟨_,rfl⟩
 obtain ⟨W1,hW1⟩:∃ W1,(w.alloc (.deferred (some []))).alloc (.loop (rec .ready none))=W1:=⟨_,rfl⟩
 have hL1:W1.heap[w.heap.size+1]?=some (.loop (rec .ready none)):=by
  rw [<- hW1];have:=World.alloc_heap_new (w.alloc (.deferred (some []))) (.loop (rec .ready none));rwa [World.size_alloc] at this
 have hK1:W1.heap[w.heap.size]?=some (.deferred (some [])):=by
  rw [<- hW1];exact (Below.heap_alloc _ _ _ (by simp)).trans (World.alloc_heap_new w _)
 have hbelow:Below w.heap.size w W1:=by rw [<- hW1];exact ((Below.refl _ w).alloc (bG _) _).alloc (by simp) _
 have hst1:StC w0 H1 Bx Kn N (F.of sl' (lcs 0)) a W1 :=
  hst0.turn (r:=W1.heap.size) (z:=w.heap.size) hbelow.os hbelow.tape hbelow.output hbelow.size (fun b hb _=>hbelow.block b hb) hws hbelow.size (fun o ho=>by have:=(b9.1 ho).1;have:=hbelow.size;omega) hH1
 -- a turn of the record keeps the state
 have hturn:∀ {K':List Nat} {B':Bl} {f:F} {a':Act} {W:World} (l:Nat) (o o':Obj),w.heap.size<=l->W.heap[l]?=some o->dat o=false->StC w0 H1 B' K' N f a' W->StC w0 H1 B' K' N f a' (W.putObj l o'):=fun l o o' hl ho hc hst =>
  hst.turn (r:=l) (z:=w.heap.size) rfl rfl rfl (by simp) (fun b _ hb=>World.putObj_heap_other hb) hws hl (fun o2 ho2=>by rw [ho] at ho2;cases ho2;exact hc) hH1
 have hfn1:({ a with defers:=ds }:Act).eval (.tmp t) = .func (.func gf) #[] #[.pointer (some ⟨Bs,0,none⟩)]:=hfn t gf hs
 refine ⟨w.heap.size+1,[{ target:=.collected w.heap.size,args:=#[] }],W1,{ target:=.fn (.func gf) #[.pointer (some ⟨Bs,0,none⟩)],args:=#[.func (.yield (w.heap.size+1)) #[] #[]] }, W1,gf,
  #[.func (.yield (w.heap.size+1)) #[] #[]]++#[.pointer (some ⟨Bs,0,none⟩)],W1,?_,?_,fun _ _=>trivial,?_,fun h=>(by cases h),?_⟩
 ·rw [<- hW1,hrec];exact run_enterLoop_outer _ _ _ _ _
 ·simp only [resolve,hfn1]
  simp [go_sem]
 ·simp [invoke,go_sem,zg3 hk]
 ·refine (hit (w.heap.size+1) (fun j W=>j<=m/\StC w0 H1 Bx Kn N (F.of sl' (lcs j)) a W/\W.heap[w.heap.size+1]?=some (.loop (rec .ready none))/\W.heap[w.heap.size]?=some (.deferred (some []))) W1 (fun j W hJ=>?_) ?_ ⟨bE _,hst1,hL1,hK1⟩).mono ?_
  ·obtain ⟨hjm,hst,-, -⟩:=hJ
   refine ⟨⟨ty,hst.sat _ _ hBs⟩,?_⟩
   obtain ⟨H', B', hk', -⟩:=hst
   obtain ⟨rty,rows,hr1,hr3⟩:=hrow j hjm
   have hB':B' r=some (bo,co):=(hk'.keep r hrK).trans hbo
   obtain ⟨arr,g1,g2,g3,g4,g5,g6⟩:=hk'.row hr1 hB'
   refine ⟨arr,rty,g1,fun k hk=>?_⟩
   have hkl:k<rows.length:=by omega
   have hr5:=g5 _ (cJ hkl)
   obtain ⟨u,q1,q2⟩:=g6 k _ (bH hkl) 0 _ (bH (by omega))
   exact ⟨u,by rw [Nat.mul_one,Nat.add_zero] at q1;exact q1,q2.flat⟩
  ·rintro j W v2 ⟨hjm,hst,hl,hd⟩ hj hfl2
   have hy:=run_yield (P:=P) (args:=#[ev j,v2]) hl (by rw [hrec];rfl)
   rw [hrec] at hy
   refine ⟨fnid,_,assign,body,hy,roundIn_of_wpIn trivial ?_⟩
   have hA:=hassign _ Bx (w.heap.size+1) j _ W hj (hst.params (x2:=.t (.c .any)) (v2:=v2) hp hp1 hp2 (fun B=>⟨hev _ B j hj,hfl2⟩)).jn
   refine wpIn_depth (n:=9) rfl (wpIn_mono hA ?_)
   rintro ex ⟨tm,dfs⟩ w1 ⟨hd1,rfl,hS⟩
   cases hd1
   have hl1:=hS.nc hst.sat hl rfl
   have hdd1:=hS.nc hst.sat hd rfl
   refine ⟨_,run_beginRound hl1 (by rw [hrec]),?_⟩
   obtain ⟨W2,hW2⟩:∃ W2,w1.putObj (w.heap.size+1) (.loop { rec .ready none with state:=.busy })=W2:=⟨_,rfl⟩
   rw [hW2]
   have hst2:=hturn (w.heap.size+1) _ (.loop { rec .ready none with state:=.busy }) (by omega) hl1 rfl hS.uncut
   rw [hW2] at hst2
   have hl2:W2.heap[w.heap.size+1]?=some (.loop { rec .ready none with state:=.busy }):=by rw [<- hW2];exact World.putObj_heap_same (b9.1 hl1).1
   have hdd2:W2.heap[w.heap.size]?=some (.deferred (some [])):=by rw [<- hW2];exact (World.putObj_heap_other (by omega)).trans hdd1
   have hB:=hbody _ Bx (w.heap.size+1) j _ W2 hj hst2.jn
   refine wpIn_depth (n:=9) rfl (wpIn_mono hB ?_)
   rintro ex ⟨tm3,dfs3⟩ w3 ⟨hd3,rfl,hS3⟩
   cases hd3
   have hl3:=hS3.nc hst2.sat hl2 rfl
   have hdd3:=hS3.nc hst2.sat hdd2 rfl
   have hend:=run_endRound (P:=P) none hl3
   refine ⟨_,_,hend,rfl,hj,?_,?_,?_⟩
   ·exact hturn (w.heap.size+1) _ _ (by omega) hl3 rfl (hS3.uncut.again hdf hn0 hsl hK)
   ·rw [World.putObj_heap_same (b9.1 hl3).1,hrec];rfl
   ·exact (World.putObj_heap_other (by omega)).trans hdd3
  ·rintro en W2 ⟨⟨v,rfl⟩,-, hst,hl,hd⟩
   have hend:=run_endLoop (P:=P) hl (by rw [hrec];simp)
   refine ⟨_,_,hend,?_⟩
   rw [hrec]
   have hstE:=hturn (w.heap.size+1) _ (.loop { rec .ready none with state:=.exhausted }) (by omega) hl rfl hst
   have hdE:(W2.putObj (w.heap.size+1) (.loop { rec .ready none with state:=.exhausted })).heap[w.heap.size]?=some (.deferred (some [])):=(World.putObj_heap_other (by omega)).trans hd
   rw [hrec] at hstE hdE
   refine hrest (zdq H1 (markH w.heap.size)) w.heap.size a _ (Le.trans hle (zhs _ _)) (fun b hb=>?_) hws ?_ ?_ (St.join (hstE.openK hKb fun k hk=>⟨hKn1 k hk,hkp k hk⟩) _ fun b o hb=>by
    unfold markH at hb
    split at hb
    ·rename_i e;subst e;cases hb;exact ⟨hdE,rfl⟩
    ·cases hb)
   ·have hb2:b≠w.heap.size:=by omega
    rw [<- hlow b hb];unfold zdq markH
    cases H1 b with
    | none=>simp [hb2]
    | some o=>rfl
   ·cases h0:H0 w.heap.size with
    | none=>rfl
    | some o=>have:=hH1 _ _ (hle _ _ h0);omega
   ·have hno:H1 w.heap.size=none:=by
     cases h0:H1 w.heap.size with
     | none=>rfl
     | some o=>have:=hH1 _ _ h0;omega
    unfold zdq markH;rw [hno];simp
theorem StC.turn1 {H1:Im} {N:Nat} (h:StC w0 H1 B0 K N f a w) {w':World} {r:Nat} (hos:w'.os=w.os) (htape:w'.tape=w.tape) (hout:w'.output=w.output) (hsize:w.heap.size<=w'.heap.size)
  (hblock:∀ b,b<w.heap.size->b≠r->w'.heap[b]?=w.heap[b]?) (hr:w0.heap.size<=r) (hro:∀ o,w.heap[r]?=some o->dat o=false) (h1:H1 r=none):StC w0 H1 B0 K N f a w':=by
 obtain ⟨H,B,h,hcl⟩:=h
 have hne:∀ b o,H b=some o->b≠r:=fun b o hb e=>by
  subst e
  rcases hcl b o hb with h2 | h2
  ·rw [h1] at h2;cases h2
  ·have:=hro o (h.sat b o hb);rw [h2] at this;cases this
 have hown:∀ n l b c,f.l n=some l->B n=some (b,c)->w'.heap[b]?=w.heap[b]?:=fun n l b c hn hb=>by
  obtain ⟨o', h3,h4⟩:=(h.loc n l hn).cells hb
  refine hblock b (h.priv n l b c hn hb).1 fun e=>?_
  subst e
  have:=hro _ h3
  rw [h4] at this
  cases this
 refine ⟨H,B,⟨h.df,h.n,⟨hos.trans h.ext.os,htape.trans h.ext.tape,hout.trans h.ext.output,Nat.le_trans h.ext.size hsize,fun b hb hm=>?_⟩,?_,h.slot,?_,?_,h.inj,h.low,h.le,h.keep,h.tab⟩,hcl⟩
 ·have hb:b<w0.heap.size:=hb
  exact (hblock b (Nat.lt_of_lt_of_le hb h.ext.size) (by omega)).trans (h.ext.block b hb hm)
 ·intro b o hb
  have hs:=h.sat b o hb
  exact (hblock b (b9.1 hs).1 (hne b o hb)).trans hs
 ·intro n l hn
  exact LR.mono (Le.refl _) rfl (fun _ _=>rfl) (fun b c hb=>hown n l b c hn hb) (h.loc n l hn)
 ·intro n l b c hn hb
  obtain ⟨p1,p2,p3⟩:=h.priv n l b c hn hb
  exact ⟨Nat.lt_of_lt_of_le p1 hsize,p2,p3⟩
def Mk (w0:World) (H:Im):List Deferred->Prop
  | []=>True
  | d :: ds=>(∃ D,d={ target:=.collected D,args:=#[] }/\w0.heap.size<=D/\H D=some (.deferred (some []))/\∀ d' ∈ ds,d'≠{ target:=.collected D,args:=#[] })/\Mk w0 H ds
theorem Mk.mono {H':Im} (hl:Le H H'):∀ {ds:List Deferred}, Mk w0 H ds->Mk w0 H' ds
 | [],_=>trivial
 | _ :: _,⟨⟨D,h1,h2,h3,h4⟩,h5⟩=>⟨⟨D,h1,h2,hl _ _ h3,h4⟩,Mk.mono hl h5⟩
theorem Mk.mem:∀ {ds:List Deferred}, Mk w0 H ds->∀ d ∈ ds,∃ D,d={ target:=.collected D,args:=#[] }/\w0.heap.size<=D/\H D=some (.deferred (some []))
 | _ :: _,⟨⟨D,h1,h2,h3,_⟩,h5⟩,d,hd=>by
  cases hd with
  | head=>exact ⟨D,h1,h2,h3⟩
  | tail _ hd=>exact Mk.mem h5 d hd
theorem Mk.cons {H':Im} {D:Nat} (hl:Le H H') (h:Mk w0 H ds) (h1:w0.heap.size<=D) (h2:H D=none) (h3:H' D=some (.deferred (some []))):Mk w0 H' ({ target:=.collected D,args:=#[] } :: ds) :=
 ⟨⟨D,rfl,h1,h3,fun d' hd e=>by obtain ⟨D', e', _,h4⟩:=h.mem d' hd;subst e';injection e with e1 _;injection e1 with e1;subst e1;rw [h2] at h4;cases h4⟩,h.mono hl⟩
open Classical in
theorem leave_marks {N:Nat} {ps:List (Nat × L)} (hH0:∀ b o,H0 b=some o->b<w0.heap.size) (hle:Le H0 H) (hlow:∀ b,b<w0.heap.size->H b=H0 b) (hm:Mk w0 H ds) {ex:Exit}
  (h:RetX P fn ⟨w0,H,B0,ps.map (·.1),N⟩ res qs ex a w):bodyPostM Fence.wide 9 P fn (RetQ ⟨w0,H0,B0,ps.map (·.1),N⟩ ps res qs) ex { a with defers:=ds } w:=by
 obtain ⟨hn,rs,f,xs,hf,hst,hx,hres,hq,ht⟩:=h
 obtain ⟨H1,hH1⟩:∃ H1:Im,H1=fun b=>if (∃ d ∈ ds,d={ target:=.collected b,args:=#[] }) then none else H b:=⟨_,rfl⟩
 have hle1:Le H1 H:=fun b o hb=>by
  rw [hH1] at hb;dsimp only at hb
  split at hb
  ·cases hb
  ·exact hb
 have hcut:∀ b o,H b=some o->H1 b=some o\/dat o=false:=fun b o hb=>by
  rw [hH1];dsimp only
  split
  ·rename_i hd
   obtain ⟨d,hd,e⟩:=hd
   obtain ⟨D,e', _,h3⟩:=hm.mem d hd
   rw [e] at e';injection e' with e1 _;injection e1 with e1;subst e1
   rw [hb] at h3;cases h3;exact .inr rfl
  ·exact .inl hb
 have hnm:∀ b,b<w0.heap.size->¬ ∃ d ∈ ds,d=({ target:=.collected b,args:=#[] }:Deferred):=fun b hb ⟨d,hd,e⟩=>by
  obtain ⟨D,e', h2,_⟩:=hm.mem d hd
  rw [e] at e';injection e' with e1 _;injection e1 with e1;subst e1;omega
 have hle0:Le H0 H1:=fun b o hb=>by rw [hH1];dsimp only;rw [if_neg (hnm b (hH0 b o hb))];exact hle b o hb
 have hlow0:∀ b,b<w0.heap.size->H1 b=H0 b:=fun b hb=>by rw [hH1];dsimp only;rw [if_neg (hnm b hb)];exact hlow b hb
 have hc:StC w0 H1 B0 (ps.map (·.1)) N f a w:=StC.of hst hle1 hcut
 have hw:∀ d ∈ ds,∃ D,d={ target:=.collected D,args:=#[] }/\w.heap[D]?=some (.deferred (some [])):=fun d hd=>by
  obtain ⟨D,e,_,h3⟩:=hm.mem d hd
  obtain ⟨H', B', hok⟩:=hst
  exact ⟨D,e,hok.sat _ _ (hok.le _ _ h3)⟩
 have hnone:∀ d ∈ ds,∀ D,d={ target:=.collected D,args:=#[] }->H1 D=none:=fun d hd D e=>by rw [hH1];dsimp only;rw [if_pos ⟨d,hd,e⟩]
 have key:∀ (ds:List Deferred) (w:World),Mk w0 H ds->(∀ d ∈ ds,∃ D,d={ target:=.collected D,args:=#[] }/\w.heap[D]?=some (.deferred (some [])))->(∀ d ∈ ds,∀ D,d={ target:=.collected D,args:=#[] }->H1 D=none)->StC w0 H1 B0 (ps.map (·.1)) N f a w->LeavesInM Fence.wide 9 P fn a.tmps (RetQ ⟨w0,H0,B0,ps.map (·.1),N⟩ ps res qs) ds .returning w:=by
  intro ds
  induction ds with
  | nil =>
   intro w _ _ _ hc
   have hb:=St.ret (P:=P) (ps:=ps) hc.st rfl hf hx hres hq ht .ret (.inl rfl)
   obtain ⟨_,v,hv,hr⟩:=hb
   exact ⟨v,hv,hr.low hle0 hlow0⟩
  | cons d ds ih =>
   intro w hm hw hno hc
   obtain ⟨⟨D,e,h2,h3,h4⟩,h5⟩:=hm
   obtain ⟨D', e', h6⟩:=hw d (by simp)
   subst e
   injection e' with e1 _;injection e1 with e1;subst e1
   refine ⟨by simp,.inl ⟨_,_,rfl,run_takeDeferred h6,ih _ h5 (fun d' hd=>?_) (fun d' hd=>hno d' (by simp [hd])) ?_⟩⟩
   ·obtain ⟨D2,e2,h7⟩:=hw d' (by simp [hd])
    refine ⟨D2,e2,?_⟩
    rw [World.putObj_heap_other (fun e3=>h4 d' hd (by rw [e2,e3]))];exact h7
   ·exact hc.turn1 (r:=D) rfl rfl rfl (by simp) (fun b _ hb=>World.putObj_heap_other hb) h2 (fun o ho=>by rw [h6] at ho;cases ho;rfl) (hno _ (by simp) D rfl)
 have hl:=key ds w hm hw hnone hc
 rcases hn with rfl | rfl
 ·exact hl
 ·exact hl
theorem wp_scope_ghost {c:Code} (l:Nat) (J:ι->Act->World->Prop) (m:ι->Nat) (hf:findLabel c l=some rest)
  (first:c.wp P (Exit.jump l (fun a w=>∃ x,J x a w) Q) a w)
  (pass:∀ x a w,J x a w->rest.wp P (Exit.jump l (fun a' w'=>∃ x', J x' a' w'/\m x'<m x) Q) a w):(Code.scope c).wp P Q a w:=by
 intro b k cs
 have hg:gotoIn l (.inScope c :: k)=some (.code rest :: .inScope c :: k):=by simp [gotoIn,hf]
 have key:∀ n x a w,m x=n->J x a w->∃ e a' w', Q e a' w'/\Arrives P (lone (b.at a (.code rest :: .inScope c :: k)) cs w) b k cs e a' w':=by
  intro n
  induction n using Nat.strongRecOn with
  | _ n ih =>
   intro x a w hn hJ
   obtain ⟨e,a₁,w₁,hq,harr⟩:=pass x a w hJ b (.inScope c :: k) cs
   cases e with
   | normal=>exact ⟨.normal,a₁,w₁,hq,Steps.trans harr (.one step_inScope)⟩
   | exit id=>exact ⟨.exit id,a₁,w₁,hq,fun k' hk=>harr k' (by simp [exitTo,hk])⟩
   | goto l' =>
    obtain ⟨rfl,x', hJ', hlt⟩:=hq
    obtain ⟨e₂,a₂,w₂,hq₂,harr₂⟩:=ih _ (by omega) x' a₁ w₁ rfl hJ'
    exact ⟨e₂,a₂,w₂,hq₂,.of_steps (harr _ hg) harr₂⟩
   | ret=>exact ⟨_,a₁,w₁,hq,harr⟩
   | panic ch=>exact ⟨_,a₁,w₁,hq,harr⟩
   | outgrown=>exact ⟨_,a₁,w₁,hq,harr⟩
 obtain ⟨e,a₁,w₁,hq,harr⟩:=first b (.inScope c :: k) cs
 cases e with
 | normal=>exact ⟨.normal,a₁,w₁,hq,.head step_scope (Steps.trans harr (.one step_inScope))⟩
 | exit id=>exact ⟨.exit id,a₁,w₁,hq,fun k' hk => .head step_scope (harr k' (by simp [exitTo,hk]))⟩
 | goto l' =>
  obtain ⟨rfl,x,hJ⟩:=hq
  obtain ⟨e₂,a₂,w₂,hq₂,harr₂⟩:=key _ x a₁ w₁ rfl hJ
  exact ⟨e₂,a₂,w₂,hq₂,.of_steps (.head step_scope (harr _ hg)) harr₂⟩
 | ret=>exact ⟨_,a₁,w₁,hq,.of_steps (.one step_scope) harr⟩
 | panic ch=>exact ⟨_,a₁,w₁,hq,.of_steps (.one step_scope) harr⟩
 | outgrown=>exact ⟨_,a₁,w₁,hq,.of_steps (.one step_scope) harr⟩
def JS {ι:Type} (w0:World) (H0:Im) (B0:Bl) (K:List Nat) (N:Nat) (fs:ι->F) (I:ι->Prop) (x:ι) (a:Act) (w:World):Prop :=
  ∃ ds H,Le H0 H/\(∀ b,b<w0.heap.size->H b=H0 b)/\Mk w0 H ds/\a.defers=ds/\I x/\St ⟨w0,H,B0,K,N⟩ (fs x) { a with defers:=[] } w
theorem scopeM {N:Nat} (l:Nat) (fs:ι->F) (I:ι->Prop) (m:ι->Nat) (x0:ι)
  (h:St ⟨w0,H0,B0,K,N⟩ (fs x0) a w) (hI:I x0)
  (pass:∀ (x:ι) (H:Im) (ds:List Deferred) (a:Act) (w:World),Le H0 H->(∀ b,b<w0.heap.size->H b=H0 b)->Mk w0 H ds->I x->St ⟨w0,H,B0,K,N⟩ (fs x) a w ->
   rest.wpIn Fence.wide 9 P (Exit.jump l (fun a' w'=>∃ x', JS w0 H0 B0 K N fs I x' a' w'/\m x'<m x) Q) { a with defers:=ds } w):(Code.scope ((Code.label l).seq rest)).wp P Q a w:=by
 have hd:a.defers=[]:=by obtain ⟨_,_,h⟩:=h;exact h.df
 refine wp_scope_ghost (rest:=Code.skip.seq rest) l (JS w0 H0 B0 K N fs I) m (by simp [findLabel]) ?_ ?_
 ·refine qW (wp_label ?_)
  have h1:=(wpIn_wide (n:=9)).1 (pass x0 H0 [] a w (Le.refl _) (fun _ _=>rfl) trivial hI h)
  have ea:({ a with defers:=[] }:Act)=a:=by cases a;cases hd;rfl
  rw [ea] at h1
  refine wp_mono h1 ?_
  intro e a' w' hq
  cases e with
  | goto l'=>obtain ⟨h1,x', h2,_⟩:=hq;exact ⟨h1,x', h2⟩
  | normal=>exact hq
  | exit _=>exact hq
  | ret=>exact hq
  | panic _=>exact hq
  | outgrown=>exact hq
 ·rintro x a w ⟨ds,H,h1,h2,h3,h4,h5,h6⟩
  have h7:=(wpIn_wide (n:=9)).1 (pass x H ds _ w h1 h2 h3 h5 h6)
  have ea:({ ({ a with defers:=[] }:Act) with defers:=ds }:Act)=a:=by cases a;cases h4;rfl
  rw [ea] at h7
  exact qW (qU h7)
theorem stepIn {N:Nat} {c y:Code} (_h:St ⟨w0,H0,B0,K,N⟩ f a w) (sl':List (Nat × V)) (lc':List (Nat × L)) (hx:wpX none ds P c (fun ex a w=>ex = .normal/\St ⟨w0,H0,B0,K,N⟩ (F.of sl' lc') a w) a w)
  (hy:∀ a w,St ⟨w0,H0,B0,K,N⟩ (F.of sl' lc') a w->y.wpIn Fence.wide 9 P Q { a with defers:=ds } w):(Code.seq c y).wpIn Fence.wide 9 P Q { a with defers:=ds } w:=by
 refine wpIn_seq (wpIn_mono (show c.wpIn Fence.wide 9 P _ { a with defers:=ds } w from hx) ?_)
 rintro ex a' w' ⟨hd,rfl,hS⟩
 have h:=hy _ _ hS
 have ea:({ ({ a' with defers:=[] }:Act) with defers:=ds }:Act)=a':=by cases a';cases hd;rfl
 rw [ea] at h
 exact h
theorem condIn {N:Nat} {x y:Code} (b:Bool) (h:St ⟨w0,H0,B0,K,N⟩ (F.of sl lc) a w) (ht:(F.of sl lc).s t=some (vb b))
  (hx:b=true->x.wpIn Fence.wide 9 P Q { a with defers:=ds } w) (hy:b=false->y.wpIn Fence.wide 9 P Q { a with defers:=ds } w):(Code.cond (.tmp t) x y).wpIn Fence.wide 9 P Q { a with defers:=ds } w:=by
 obtain ⟨H,B,hok⟩:=h
 have:=(hok.slot t _ ht).rawI
 exact wpIn_cond_split (t:=b) this hx hy
theorem gotoIn_ {N:Nat} {nxt:Act->World->Prop} {l:Nat} {sls:ι->List (Nat × V)} {lcs:ι->List (Nat × L)} {I:ι->Prop} {m:ι->Nat} {x:ι} (x':ι) (h1:Le H0 H) (h2:∀ b,b<w0.heap.size->H b=H0 b) (h3:Mk w0 H ds) (hI:I x') (hm:m x'<m x)
  (h:St ⟨w0,H,B0,K,N⟩ (F.of sl lc) a w) (c1:leS (F.of sl lc) (sls x')=(sls x').map fun p=>some p.2) (c2:leN (F.of sl lc) (lcs x')=(lcs x').map fun p=>some p.2) :
  (Code.goto l).wpIn Fence.wide 9 P (Exit.then nxt (Exit.jump l (fun a' w'=>∃ x', JS w0 H0 B0 K N (fun x=>F.of (sls x) (lcs x)) I x' a' w'/\m x'<m x) Q)) { a with defers:=ds } w:=by
 refine wpIn_goto ⟨rfl,x', ⟨ds,H,h1,h2,h3,rfl,hI,?_⟩,hm⟩
 have hd:a.defers=[]:=by obtain ⟨_,_,h⟩:=h;exact h.df
 have ea:({ ({ a with defers:=ds }:Act) with defers:=[] }:Act)=a:=by cases a;cases hd;rfl
 rw [ea]
 exact atS h c1 c2
theorem skipIn {nxt:Act->World->Prop} (h:nxt a w):Code.skip.wpIn Fence.wide 9 P (Exit.then nxt Q) a w:=wpIn_skip h
theorem endIn {N:Nat} {ps:List (Nat × L)} {l:Nat} {J:Act->World->Prop} {c:Code} (hH0:∀ b o,H0 b=some o->b<w0.heap.size) (h1:Le H0 H) (h2:∀ b,b<w0.heap.size->H b=H0 b) (h3:Mk w0 H ds)
  (h:wpX none ds P c (RetX P fn ⟨w0,H,B0,ps.map (·.1),N⟩ res qs) a w):c.wpIn Fence.wide 9 P (Exit.jump l J (bodyPostM Fence.wide 9 P fn (RetQ ⟨w0,H0,B0,ps.map (·.1),N⟩ ps res qs))) { a with defers:=ds } w:=by
 refine wpIn_mono (show c.wpIn Fence.wide 9 P _ { a with defers:=ds } w from h) ?_
 rintro ex a' w' ⟨hd,hr⟩
 have hl:=leave_marks hH0 h1 h2 h3 hr
 have ea:({ ({ a' with defers:=[] }:Act) with defers:=ds }:Act)=a':=by cases a';cases hd;rfl
 rw [ea] at hl
 rcases hr.1 with rfl | rfl
 ·exact hl
 ·exact hl
theorem Fn.bodyM {k:FuncId} {c:Code} {ps:List (Nat × L)} {args:List V} (hf:P.funcs[k]?=some fn) (hb:fn.body=some c) (N:Nat) (hN:args.length+(fn.ntmps - args.length)=N)
  (h:∀ (w:World) (H:Im) (B:Bl) (a:Act),(∀ b o,H b=some o->b<w.heap.size)->St ⟨w,H,B,ps.map (·.1),N⟩ (F.of (argS 0 args) ps) a w->c.wp P (bodyPostM Fence.wide 9 P fn (RetQ ⟨w,H,B,ps.map (·.1),N⟩ ps res qs)) a w):Fn P k ps args res qs:=by
 intro w H B vals pre
 have hfl:∀ n l,(F.of (argS 0 args) ps).l n=some l->(n,l) ∈ ps:=fun n l hl=>zae hl
 refine callsIn_wide.1 (callsIn_of_wp_marks (n:=9) hf hb trivial (wpIn_wide.2 (h w H B _ (fun b o hb=>(b9.1 (pre.sat b o hb)).1) ⟨H,B,rfl,?_,⟨rfl,rfl,rfl,bG _,fun _ _ _=>rfl⟩,pre.sat,?_,?_,?_,?_,fun _ _=>rfl,Le.refl _,fun _ _=>rfl,pre.tab⟩)))
 ·have:=pre.arg.length
  simp [<- hN,<- this]
 ·intro t v hv
  have h1:=(zhz args 0 t v hv).2
  rw [cG] at h1
  obtain ⟨ht,rfl⟩:=bC.1 h1
  obtain ⟨u,h2,h3⟩:=pre.arg.get t ht
  have htv:t<vals.length:=(bC.1 h2).1
  have:(((⟨vals⟩:Array Value)++Array.replicate (fn.ntmps - (⟨vals⟩:Array Value).size) undef).getD t undef)=u:=by
   rw [Array.getD_eq_getD_getElem?, Array.getElem?_append_left (by simpa using htv)]
   simp [h2]
  rw [this]
  exact h3
 ·intro n l hn;exact pre.loc _ (hfl n l hn)
 ·intro n l b c hn hb2
  obtain ⟨h1,h2⟩:=pre.priv _ (hfl n l hn) b c hb2
  exact ⟨h1,h2,.inl ⟨n,bO.2 ⟨_,hfl n l hn,rfl⟩,c,hb2⟩⟩
 ·intro n m l l' b c c' h1 h2 b1 b2
  exact pre.inj _ (hfl n l h1) _ (hfl m l' h2) b c c' b1 b2
end
attribute [local go_sem] Oper.semAt_some
theorem back_bools (m:Nat) (hz:m<=1000000):IterW dC 108 m (fun j=>vi .i64 ((m - 1 - j:Nat):Int)):=by
 intro Bs bo co
 refine ⟨fun j => .int .i64 ((m:Int) - 1 - j),fun H B j hj=>?_,fun l J W hJs hY h0=>?_⟩
 ·show VR H B (vi .i64 ((m - 1 - j:Nat):Int)) _
  rw [show ((m - 1 - j:Nat):Int)=(m:Int) - 1 - j by omega];exact .raw _ rfl
 have hcB:∀ j W,J j W->W.cell? ⟨Bs,0,none⟩=some (.slice (some ⟨bo,0,none⟩) m co):=fun j W hJ=>by
  obtain ⟨⟨ty,h1⟩,_⟩:=hJs j W hJ
  exact zc8 h1 rfl
 have hcE:∀ k,k<m->∀ j W,J j W->∃ v,W.cell? ⟨bo,k,none⟩=some v/\flat v=true:=fun k hk j W hJ=>by
  obtain ⟨_,arr,ty,h1,h2⟩:=hJs j W hJ
  obtain ⟨v,h3,h4⟩:=h2 k hk
  exact ⟨v,zc8 h1 h3,h4⟩
 have hc0:=hcB 0 W h0
 refine callsIn_of_wp Tryz.func108 rfl trivial ?_ rfl
 simp only [Tryz.ntmps108,List.size_toArray,List.length_cons,cN,Nat.reduceAdd,Nat.reduceSub,Array.replicate_succ,Array.replicate_zero,List.push_toArray,List.append_toArray,List.nil_append,List.cons_append]
 gi_wp2
 gi_loopw [3] (fun i wr=>∃ k:Nat,k<=m/\i = .int .i64 ((m:Int) - 1 - k)/\J k wr) (fun i _=>(intOf i+1).toNat)
 case atStart=>exact ⟨0,bE _,by simp,h0⟩
 case round =>
  obtain ⟨k,hk,rfl,hJk⟩:=hrel
  have hcw:=hcB k wr hJk
  by_cases hlt:k<m
  ·obtain ⟨v,hcell,hfl⟩:=hcE (m - 1 - k) (by omega) k wr hJk
   obtain ⟨fn,tmps,assign,body,hy,hR⟩:=hY k wr v hJk hlt hfl
   have e1:((m:Int) - 1 - k).toNat=m - 1 - k:=by omega
   have hge:decide ((m:Int) - 1 - k>=0)=true:=decide_eq_true (by omega)
   try dsimp only at hy
   gi_wp2
   refine hR.mono ?_
   rintro e W3 ⟨rfl,hJ3⟩
   gi_wp2
   go_roundw
   case rel=>exact ⟨k+1,by omega,by first | rfl | (simp;omega),hJ3⟩
   case measure=>simp [intOf];omega
  ·obtain rfl:k=m:=by omega
   gi_wp2
   go_end0
   exact ⟨⟨_,rfl⟩,hJk⟩
theorem va5_1:zax dC 108:=zax.mk' (by kernel_rfl)
theorem zh9:Sz dC 4 1 false:=Sz.mk' (by kernel_rfl) Tryz.underlying4 _ rfl
theorem va5_5:zax dC 73:=zax.mk' (by kernel_rfl)
theorem va5_6:zax dC 72:=zax.mk' (by kernel_rfl)
def swS (wd:zaf) (G:Nat->Bool->Bool) (z:List Bool × Bool) (x:Nat):List Bool × Bool:=if (G x (zag z.1 (nxW wd x)) != zag z.1 x)=true then (z.1.set x (G x (zag z.1 (nxW wd x))),true) else z
def swp (wd:zaf) (G:Nat->Bool->Bool) (out:List Bool):Nat->List Bool × Bool
  | 0=>(out,false)
  | j+1=>swS wd G (swp wd G out j) (wN wd - 1 - j)
theorem swS_len (wd:zaf) (G:Nat->Bool->Bool) (z:List Bool × Bool) (x:Nat):(swS wd G z x).1.length=z.1.length:=by unfold swS;split <;> simp
theorem swp_len (wd:zaf) (G:Nat->Bool->Bool) (out:List Bool):∀ j,(swp wd G out j).1.length=out.length
 | 0=>rfl
 | j+1=>by rw [swp,swS_len,swp_len wd G out j]
theorem swp_yes {n:Bool} (hx:x=wN wd - 1 - j) (hn:n=G x (zag (swp wd G out j).1 (nxW wd x))) (h:(n != zag (swp wd G out j).1 x)=true):swp wd G out (j+1)=((swp wd G out j).1.set x n,true):=by
 subst hn hx;rw [swp,swS,if_pos h]
theorem swp_no {n:Bool} (hx:x=wN wd - 1 - j) (hn:n=G x (zag (swp wd G out j).1 (nxW wd x))) (h:(n != zag (swp wd G out j).1 x)=false):swp wd G out (j+1)=swp wd G out j:=by
 subst hn hx;rw [swp,swS,if_neg (by rw [h];exact Bool.noConfusion)]
structure Stl (wd:zaf) (G:Nat->Bool->Bool) (Iv:List Bool->Prop) (ms:List Bool->Nat) (fin:List Bool):Prop where
  len:∀ out,Iv out->out.length=wN wd
  step:∀ out x,Iv out->x<wN wd->G x (zag out (nxW wd x))≠zag out x->Iv (out.set x (G x (zag out (nxW wd x))))/\ms (out.set x (G x (zag out (nxW wd x))))<ms out
  done:∀ out,Iv out->(∀ x,x<wN wd->G x (zag out (nxW wd x))=zag out x)->out=fin
theorem zg1 {Iv:List Bool->Prop} {ms:List Bool->Nat} {fin:List Bool} (hs:Stl wd G Iv ms fin) (hI:Iv out):∀ j,j<=wN wd ->
  Iv (swp wd G out j).1/\((swp wd G out j).2=true->ms (swp wd G out j).1<ms out)/\((swp wd G out j).2=false->(swp wd G out j).1=out/\∀ x,x<wN wd->wN wd - j<=x->G x (zag out (nxW wd x))=zag out x)
 | 0,_=>⟨hI,fun h=>(by cases h),fun _=>⟨rfl,fun x h1 h2=>by omega⟩⟩
 | j+1,hj=>by
  obtain ⟨h1,h2,h3⟩:=zg1 hs hI j (by omega)
  by_cases hc:(G (wN wd - 1 - j) (zag (swp wd G out j).1 (nxW wd (wN wd - 1 - j))) != zag (swp wd G out j).1 (wN wd - 1 - j))=true
  ·rw [swp_yes rfl rfl hc]
   obtain ⟨h4,h5⟩:=hs.step _ _ h1 (show wN wd - 1 - j<wN wd by omega) (by simpa using hc)
   refine ⟨h4,fun _=>?_,fun h=>(by cases h)⟩
   cases e:(swp wd G out j).2 with
   | true=>exact Nat.lt_trans h5 (h2 e)
   | false=>have:=(h3 e).1;rw [this] at h5 ⊢;exact h5
  ·have hc':(G (wN wd - 1 - j) (zag (swp wd G out j).1 (nxW wd (wN wd - 1 - j))) != zag (swp wd G out j).1 (wN wd - 1 - j))=false:=by simpa using hc
   rw [swp_no rfl rfl hc']
   refine ⟨h1,h2,fun h=>?_⟩
   obtain ⟨h4,h5⟩:=h3 h
   refine ⟨h4,fun x hx hle=>?_⟩
   by_cases e:x=wN wd - 1 - j
   ·subst e;rw [h4] at hc';simpa using hc'
   ·exact h5 x hx (by omega)
theorem swp_fin {Iv:List Bool->Prop} {ms:List Bool->Nat} {fin:List Bool} (hs:Stl wd G Iv ms fin) (hI:Iv out) (h:(swp wd G out (wN wd)).2=false):(swp wd G out (wN wd)).1=fin:=by
 obtain ⟨h1,_,h3⟩:=zg1 hs hI (wN wd) (bG _)
 obtain ⟨h4,h5⟩:=h3 h
 rw [h4]
 exact hs.done out hI fun x hx=>h5 x hx (by omega)
theorem SBackB (m:Nat) (xs:List Bool) :Fn dC 90 [(0,.row 4 1 (xs.map za0))] [vO 0 m] (.t (.c (.fn (.func 108) [] [.ptr 4 0]))) [(0,.row 4 1 (xs.map za0)),(4,.box [.own 0 m])]:=by
 refine fB Tryz.func90 rfl 4 fun w H B a h=>Jq 10 [] [(1,vp 10 0),(2,vW .nilFunc)] [(0,.row 4 1 (xs.map za0)),(10,.box [.own 0 m])] h fun a w h=>Jp 11 [(0,.g (Op.makeFs (d:=3) (fn:=.func 108) [(1,10,0)]))] [(2,.t (.c (.fn (.func 108) [] [.ptr 10 0])))] h fun a w h=>qV ?_
 replace h:=zb7 10 4 h;refine rT (.c (.fn (.func 108) [] [.ptr 4 0])) h rfl ?_;rfl
theorem SBackB8 (m:Nat) (xs:List Bool) :Fn dC 90 [(8,.row 4 1 (xs.map za0))] [vO 8 m] (.t (.c (.fn (.func 108) [] [.ptr 4 0]))) [(8,.row 4 1 (xs.map za0)),(4,.box [.own 8 m])]:=by
 refine fB Tryz.func90 rfl 4 fun w H B a h=>Jq 10 [] [(1,vp 10 0),(2,vW .nilFunc)] [(8,.row 4 1 (xs.map za0)),(10,.box [.own 8 m])] h fun a w h=>Jp 11 [(0,.g (Op.makeFs (d:=3) (fn:=.func 108) [(1,10,0)]))] [(2,.t (.c (.fn (.func 108) [] [.ptr 10 0])))] h fun a w h=>qV ?_
 replace h:=zb7 10 4 h;refine rT (.c (.fn (.func 108) [] [.ptr 4 0])) h rfl ?_;rfl
abbrev q1 (wd:zaf):L:=.box [.d (.sl 1 (wd.stem.map (slD 1 za0))),.d (.sl 1 (wd.cycle.map (slD 1 za0)))]
abbrev q2:L:=.box [.fn (.func 73) [] [.ptr 7 0,.ptr 6 0]]
abbrev q3 (p:List Bool):L:=.box [.d (.sl 1 (p.map za0))]
abbrev q4 (q:List Bool):L:=.box [.d (.sl 1 (q.map za0))]
theorem SWsettleU (wd:zaf) (G:Nat->Bool->Bool) (Iv:List Bool->Prop) (ms:List Bool->Nat) (out0 fin:List Bool) (p q:List Bool) (hF:∀ i b,i<wN wd->Fn dC 73 [(6,.box [.d (.sl 1 (p.map za0))]),(7,.box [.d (.sl 1 (q.map za0))])] [vN i,vb b,vp 7 0,vp 6 0] (vb (G i b)) [(6,.box [.d (.sl 1 (p.map za0))]),(7,.box [.d (.sl 1 (q.map za0))])]) (hs:Stl wd G Iv ms fin) (hI0:Iv out0) (hc0:0<wd.cycle.length) (hl:wN wd<=1000000):Fn dC 71 [(8,.row 4 1 (out0.map za0)),(6,.box [.d (.sl 1 (p.map za0))]),(7,.box [.d (.sl 1 (q.map za0))])] [vG [.d (.sl 1 (wd.stem.map (slD 1 za0))),.d (.sl 1 (wd.cycle.map (slD 1 za0)))],vO 8 (wN wd),.t (.c (.fn (.func 73) [] [.ptr 7 0,.ptr 6 0]))] (vO 8 (wN wd)) [(8,.row 4 1 (fin.map za0)),(6,.box [.d (.sl 1 (p.map za0))]),(7,.box [.d (.sl 1 (q.map za0))])]:=by
 have hN9:=zby wd;have h0N:0<wN wd:=by omega
 refine Fn.bodyM Tryz.func71 rfl 35 rfl fun w H B a hH0 h=>Jq 10 [] [(3,vp 10 0),(4,vp 11 0),(5,vp 12 0),(6,vW za6)] [(8,.row 4 1 (out0.map za0)),(6,q3 p),(7,q4 q),(10,q1 wd),(11,.box [.own 8 (wN wd)]),(12,q2)] h fun a w h=>scopeM 0 (fun out=>F.of [(3,vp 10 0),(4,vp 11 0),(5,vp 12 0),(6,vW za6)] [(8,.row 4 1 (out.map za0)),(6,q3 p),(7,q4 q),(10,q1 wd),(11,.box [.own 8 (wN wd)]),(12,q2)]) Iv ms out0 h hI0 ?_;clear h;intro out H ds a w hle hlow hmk hI h
 have h:St _ (F.of [(3,vp 10 0),(4,vp 11 0),(5,vp 12 0),(6,vW za6)] [(8,.row 4 1 (out.map za0)),(6,q3 p),(7,q4 q),(10,q1 wd),(11,.box [.own 8 (wN wd)]),(12,q2)]) a w:=h;have lo9:out.length=wN wd:=hs.len out hI;refine stepIn h [(3,vp 10 0),(4,vp 11 0),(5,vp 12 0),(6,vW za6),(7,vp 13 0)] [(8,.row 4 1 (out.map za0)),(6,q3 p),(7,q4 q),(10,q1 wd),(11,.box [.own 8 (wN wd)]),(12,q2),(13,.box [cB false])] ?_ (fun a w h=>?_)
 ·refine rSX zak 13 [] [(3,vp 10 0),(4,vp 11 0),(5,vp 12 0),(6,vW za6),(7,vp 13 0)] [(8,.row 4 1 (out.map za0)),(6,q3 p),(7,q4 q),(10,q1 wd),(11,.box [.own 8 (wN wd)]),(12,q2),(13,.box [cB false])] (by kernel_rfl) (by kernel_rfl) h fun a w h=>?_;exact ⟨rfl,atS h (by kernel_rfl) (by kernel_rfl)⟩
 refine wpIn_seq (stepIn h [(3,vp 10 0),(4,vp 11 0),(5,vp 12 0),(6,vW za6),(7,vp 13 0),(11,.t (.c (.fn (.func 108) [] [.ptr 4 0])))] [(8,.row 4 1 (out.map za0)),(6,q3 p),(7,q4 q),(10,q1 wd),(11,.box [.own 8 (wN wd)]),(12,q2),(13,.box [cB false]),(4,.box [.own 8 (wN wd)])] ?_ (fun a w h=>?_))
 ·refine rSX zak 14 [(1,.call (SBackB8 (wN wd) out))] [(3,vp 10 0),(4,vp 11 0),(5,vp 12 0),(6,vW za6),(7,vp 13 0),(11,.t (.c (.fn (.func 108) [] [.ptr 4 0])))] [(8,.row 4 1 (out.map za0)),(6,q3 p),(7,q4 q),(10,q1 wd),(11,.box [.own 8 (wN wd)]),(12,q2),(13,.box [cB false]),(4,.box [.own 8 (wN wd)])] (by kernel_rfl) (by kernel_rfl) h fun a w h=>?_;exact ⟨rfl,atS h (by kernel_rfl) (by kernel_rfl)⟩
 refine rangeO (m:=wN wd) (e:=fun j=>vI (((wN wd - 1 - j):Nat):Int)) ds [8,6,7,10,11,12,13] [(3,vp 10 0),(4,vp 11 0),(5,vp 12 0),(6,vW za6),(7,vp 13 0)] (fun j=>[(8,.row 4 1 ((swp wd G out j).1.map za0)),(6,q3 p),(7,q4 q),(10,q1 wd),(11,.box [.own 8 (wN wd)]),(12,q2),(13,.box [cB (swp wd G out j).2])]) (fun j=>[(3,vp 10 0),(4,vp 11 0),(5,vp 12 0),(6,vW za6),(7,vp 13 0),(8,vI (((wN wd - 1 - j):Nat):Int))]) (fun j=>[(8,.row 4 1 ((swp wd G out j).1.map za0)),(6,q3 p),(7,q4 q),(10,q1 wd),(11,.box [.own 8 (wN wd)]),(12,q2),(13,.box [cB (swp wd G out j).2])]) h (back_bools _ hl) va5_1 rfl rfl h0N (by kernel_rfl) (by kernel_rfl) (by kernel_rfl) (by decide) (fun j _=>⟨_,_,rfl,by rw [bB,swp_len,lo9];exact bG _⟩) (by decide) (by decide) (by decide) (by kernel_rfl) (by kernel_rfl) (by kernel_rfl) (by kernel_rfl) (by kernel_rfl) ?_ ?_ ?_
 ·clear h;intro H B l j a w hj h;refine rSX zak 14 [] [(3,vp 10 0),(4,vp 11 0),(5,vp 12 0),(6,vW za6),(7,vp 13 0),(8,vI (((wN wd - 1 - j):Nat):Int))] [(8,.row 4 1 ((swp wd G out j).1.map za0)),(6,q3 p),(7,q4 q),(10,q1 wd),(11,.box [.own 8 (wN wd)]),(12,q2),(13,.box [cB (swp wd G out j).2])] (by kernel_rfl) (by kernel_rfl) h fun a w h=>?_;exact ⟨rfl,atS h (by kernel_rfl) (by kernel_rfl)⟩
 ·clear h;intro H B l j a w hj h;have ls9:(swp wd G out j).1.length=wN wd:=(swp_len wd G out j).trans lo9;have hnx9:=zd2 hc0 (show (wN wd - 1 - j)<wN wd by omega);refine wpX_block (rSeqX zak 14 [(5,.call (SWnext wd (wN wd - 1 - j) hl (by omega))),(6,.g (xO 20 16 8 (wN wd) (nxW wd (wN wd - 1 - j)) zbo (dD 19 _))),(7,.g (Op.loadR_c (d:=21) (t:=20) (n:=8) (i:=(nxW wd (wN wd - 1 - j))) (fo:=0) (rty:=4) (es:=1) (x:=(.raw (.bool (zag (swp wd G out j).1 (nxW wd (wN wd - 1 - j)))))) zh9 rfl (zab (zbp (by first | omega | (rw [ls9];omega) | (rw [ls9];exact zd2 hc0 (by omega)))) (f:=za0)) rfl)),(8,.g (Op.callV (d:=22) (t:=14) (cap:=[.ptr 7 0,.ptr 6 0]) (args:=[vI (((wN wd - 1 - j):Nat):Int),vb (zag (swp wd G out j).1 (nxW wd (wN wd - 1 - j)))]) (rs:=[(15,vI (((wN wd - 1 - j):Nat):Int)),(21,vb (zag (swp wd G out j).1 (nxW wd (wN wd - 1 - j))))]) (tys:=#[3,4]) (hF (wN wd - 1 - j) (zag (swp wd G out j).1 (nxW wd (wN wd - 1 - j))) (by omega)) va5_5 (OVs.cons (dD 15 _) (OVs.cons (dD 21 _) (OVs.nil)))))] [(4,vp 11 0),(6,vW za6),(7,vp 13 0),(8,vI (((wN wd - 1 - j):Nat):Int)),(9,vb (G (wN wd - 1 - j) (zag (swp wd G out j).1 (nxW wd (wN wd - 1 - j)))))] [(8,.row 4 1 ((swp wd G out j).1.map za0)),(6,q3 p),(7,q4 q),(10,q1 wd),(11,.box [.own 8 (wN wd)]),(12,q2),(13,.box [cB (swp wd G out j).2])] (by kernel_rfl) (by kernel_rfl) h fun a w h=>rSeqX zak 14 [(3,.g (xO 26 24 8 (wN wd) (wN wd - 1 - j) zbo (dD 25 _))),(4,.g (Op.loadR_c (d:=27) (t:=26) (n:=8) (i:=(wN wd - 1 - j)) (fo:=0) (rty:=4) (es:=1) (x:=(.raw (.bool (zag (swp wd G out j).1 (wN wd - 1 - j))))) zh9 rfl (zab (zbp (by first | omega | (rw [ls9];omega) | (rw [ls9];exact zd2 hc0 (by omega)))) (f:=za0)) rfl))] [(4,vp 11 0),(6,vW za6),(7,vp 13 0),(8,vI (((wN wd - 1 - j):Nat):Int)),(9,vb (G (wN wd - 1 - j) (zag (swp wd G out j).1 (nxW wd (wN wd - 1 - j))))),(28,vb ((G (wN wd - 1 - j) (zag (swp wd G out j).1 (nxW wd (wN wd - 1 - j)))) != (zag (swp wd G out j).1 (wN wd - 1 - j))))] [(8,.row 4 1 ((swp wd G out j).1.map za0)),(6,q3 p),(7,q4 q),(10,q1 wd),(11,.box [.own 8 (wN wd)]),(12,q2),(13,.box [cB (swp wd G out j).2])] (by kernel_rfl) (by kernel_rfl) h fun a w h=>condX ((G (wN wd - 1 - j) (zag (swp wd G out j).1 (nxW wd (wN wd - 1 - j)))) != (zag (swp wd G out j).1 (wN wd - 1 - j))) h rfl (fun hc1=>?_) (fun hc2=>?_))
  ·refine rSeqX zak 14 [(3,.g (xO 32 29 8 (wN wd) (wN wd - 1 - j) zbo (dD 30 _))),(4,.g (Op.storeR (t:=32) (n:=8) (i:=(wN wd - 1 - j)) (fo:=0) (rty:=4) (es:=1) (r:=za0 (zag (swp wd G out j).1 (wN wd - 1 - j))) (ds:=[.raw (.bool (G (wN wd - 1 - j) (zag (swp wd G out j).1 (nxW wd (wN wd - 1 - j)))))]) (rs:=[(31,vb (G (wN wd - 1 - j) (zag (swp wd G out j).1 (nxW wd (wN wd - 1 - j)))))]) (rows:=(swp wd G out j).1.map za0) (rows':=((swp wd G out j).1.set (wN wd - 1 - j) (G (wN wd - 1 - j) (zag (swp wd G out j).1 (nxW wd (wN wd - 1 - j))))).map za0) zh9 (dD 31 _) rfl rfl rfl (zab (zbp (by first | omega | (rw [ls9];omega) | (rw [ls9];exact zd2 hc0 (by omega)))) (f:=za0)) (by simp [za0]) (zfg (xs:=(swp wd G out j).1) (F:=za0) (wN wd - 1 - j) _ _ rfl)))] [(6,vW za6),(7,vp 13 0)] [(8,.row 4 1 (((swp wd G out j).1.set (wN wd - 1 - j) (G (wN wd - 1 - j) (zag (swp wd G out j).1 (nxW wd (wN wd - 1 - j))))).map za0)),(6,q3 p),(7,q4 q),(10,q1 wd),(11,.box [.own 8 (wN wd)]),(12,q2),(13,.box [cB (swp wd G out j).2])] (by kernel_rfl) (by kernel_rfl) h fun a w h=>rSX zak 14 [] [(6,vW za6)] [(8,.row 4 1 (((swp wd G out j).1.set (wN wd - 1 - j) (G (wN wd - 1 - j) (zag (swp wd G out j).1 (nxW wd (wN wd - 1 - j))))).map za0)),(6,q3 p),(7,q4 q),(10,q1 wd),(11,.box [.own 8 (wN wd)]),(12,q2),(13,.box [cB true])] (by kernel_rfl) (by kernel_rfl) h fun a w h=>za7 ?_;replace h:=h.conv (f':=F.of [(6,vW za6)] [(8,.row 4 1 ((swp wd G out (j+1)).1.map za0)),(6,q3 p),(7,q4 q),(10,q1 wd),(11,.box [.own 8 (wN wd)]),(12,q2),(13,.box [cB (swp wd G out (j+1)).2])]) (by rw [(swp_yes (wd:=wd) (G:=G) (out:=out) (j:=j) rfl rfl hc1)]; try kernel_rfl);exact ⟨rfl,atS h (by kernel_rfl) (by kernel_rfl)⟩
  refine wpX_skip (dfS h) (za7 ?_);replace h:=h.conv (f':=F.of [(4,vp 11 0),(6,vW za6),(7,vp 13 0),(8,vI (((wN wd - 1 - j):Nat):Int)),(9,vb (G (wN wd - 1 - j) (zag (swp wd G out j).1 (nxW wd (wN wd - 1 - j))))),(28,vb ((G (wN wd - 1 - j) (zag (swp wd G out j).1 (nxW wd (wN wd - 1 - j)))) != (zag (swp wd G out j).1 (wN wd - 1 - j))))] [(8,.row 4 1 ((swp wd G out (j+1)).1.map za0)),(6,q3 p),(7,q4 q),(10,q1 wd),(11,.box [.own 8 (wN wd)]),(12,q2),(13,.box [cB (swp wd G out (j+1)).2])]) (by rw [(swp_no (wd:=wd) (G:=G) (out:=out) (j:=j) rfl rfl hc2)]; try kernel_rfl);exact ⟨rfl,atS h (by kernel_rfl) (by kernel_rfl)⟩
 clear h;intro H2 Dd a w hle2 hlow2 hDs hDn hDm h;have hmk2:=Mk.cons hle2 hmk hDs hDn hDm;have hle3:=Le.trans hle hle2;have hlow3:∀ b,b<_->H2 b=_:=fun b hb=>(hlow2 b hb).trans (hlow b hb)
 refine wpIn_seq (stepIn h [(3,vp 10 0),(4,vp 11 0),(5,vp 12 0),(6,vW za6),(33,vb (swp wd G out (wN wd)).2)] [(8,.row 4 1 ((swp wd G out (wN wd)).1.map za0)),(6,q3 p),(7,q4 q),(10,q1 wd),(11,.box [.own 8 (wN wd)]),(12,q2),(13,.box [cB (swp wd G out (wN wd)).2])] ?_ (fun a w h=>?_))
 ·refine rSX zak 14 [] [(3,vp 10 0),(4,vp 11 0),(5,vp 12 0),(6,vW za6),(33,vb (swp wd G out (wN wd)).2)] [(8,.row 4 1 ((swp wd G out (wN wd)).1.map za0)),(6,q3 p),(7,q4 q),(10,q1 wd),(11,.box [.own 8 (wN wd)]),(12,q2),(13,.box [cB (swp wd G out (wN wd)).2])] (by kernel_rfl) (by kernel_rfl) h fun a w h=>?_;exact ⟨rfl,atS h (by kernel_rfl) (by kernel_rfl)⟩
 refine condIn (swp wd G out (wN wd)).2 h rfl (fun hc=>?_) (fun hc=>?_)
 ·exact gotoIn_ (swp wd G out (wN wd)).1 hle3 hlow3 hmk2 (zg1 hs hI _ (bG _)).1 ((zg1 hs hI _ (bG _)).2.1 hc) h (by kernel_rfl) (by kernel_rfl)
 refine skipIn (endIn hH0 hle3 hlow3 hmk2 ?_);replace h:=cv (fun z_:List Bool=>F.of [(3,vp 10 0),(4,vp 11 0),(5,vp 12 0),(6,vW za6),(33,vb (swp wd G out (wN wd)).2)] [(8,.row 4 1 (z_.map za0)),(6,q3 p),(7,q4 q),(10,q1 wd),(11,.box [.own 8 (wN wd)]),(12,q2),(13,.box [cB (swp wd G out (wN wd)).2])]) (show ((swp wd G out (wN wd)).1:List Bool)=fin from (swp_fin hs hI hc)) (h.conv (by kernel_rfl));refine rSeqX zak 14 [] [(6,vO 8 (wN wd))] [(8,.row 4 1 (fin.map za0)),(6,q3 p),(7,q4 q),(10,q1 wd),(11,.box [.own 8 (wN wd)]),(12,q2),(13,.box [cB (swp wd G out (wN wd)).2])] (by kernel_rfl) (by kernel_rfl) h fun a w h=>wpX_ret (dfS h) (retX [.c (.own 8 (wN wd))] h Exit.ret (.inl rfl)  rfl ⟨vT9,trivial⟩ ?_ (by kernel_rfl) (by kernel_rfl));rfl
abbrev q5 (wd:zaf):L:=.box [.d (.sl 1 (wd.stem.map (slD 1 za0))),.d (.sl 1 (wd.cycle.map (slD 1 za0)))]
abbrev q6:L:=.box [.fn (.func 72) [] [.ptr 7 0,.ptr 6 0]]
abbrev q7 (p:List Bool):L:=.box [.d (.sl 1 (p.map za0))]
abbrev q8 (q:List Bool):L:=.box [.d (.sl 1 (q.map za0))]
theorem SWsettleF (wd:zaf) (G:Nat->Bool->Bool) (Iv:List Bool->Prop) (ms:List Bool->Nat) (out0 fin:List Bool) (p q:List Bool) (hF:∀ i b,i<wN wd->Fn dC 72 [(6,.box [.d (.sl 1 (p.map za0))]),(7,.box [.d (.sl 1 (q.map za0))])] [vN i,vb b,vp 7 0,vp 6 0] (vb (G i b)) [(6,.box [.d (.sl 1 (p.map za0))]),(7,.box [.d (.sl 1 (q.map za0))])]) (hs:Stl wd G Iv ms fin) (hI0:Iv out0) (hc0:0<wd.cycle.length) (hl:wN wd<=1000000):Fn dC 71 [(0,.row 4 1 (out0.map za0)),(6,.box [.d (.sl 1 (p.map za0))]),(7,.box [.d (.sl 1 (q.map za0))])] [vG [.d (.sl 1 (wd.stem.map (slD 1 za0))),.d (.sl 1 (wd.cycle.map (slD 1 za0)))],vO 0 (wN wd),.t (.c (.fn (.func 72) [] [.ptr 7 0,.ptr 6 0]))] (vO 0 (wN wd)) [(0,.row 4 1 (fin.map za0)),(6,.box [.d (.sl 1 (p.map za0))]),(7,.box [.d (.sl 1 (q.map za0))])]:=by
 have hN9:=zby wd;have h0N:0<wN wd:=by omega
 refine Fn.bodyM Tryz.func71 rfl 35 rfl fun w H B a hH0 h=>Jq 10 [] [(3,vp 10 0),(4,vp 11 0),(5,vp 12 0),(6,vW za6)] [(0,.row 4 1 (out0.map za0)),(6,q7 p),(7,q8 q),(10,q5 wd),(11,.box [.own 0 (wN wd)]),(12,q6)] h fun a w h=>scopeM 0 (fun out=>F.of [(3,vp 10 0),(4,vp 11 0),(5,vp 12 0),(6,vW za6)] [(0,.row 4 1 (out.map za0)),(6,q7 p),(7,q8 q),(10,q5 wd),(11,.box [.own 0 (wN wd)]),(12,q6)]) Iv ms out0 h hI0 ?_;clear h;intro out H ds a w hle hlow hmk hI h
 have h:St _ (F.of [(3,vp 10 0),(4,vp 11 0),(5,vp 12 0),(6,vW za6)] [(0,.row 4 1 (out.map za0)),(6,q7 p),(7,q8 q),(10,q5 wd),(11,.box [.own 0 (wN wd)]),(12,q6)]) a w:=h;have lo9:out.length=wN wd:=hs.len out hI;refine stepIn h [(3,vp 10 0),(4,vp 11 0),(5,vp 12 0),(6,vW za6),(7,vp 13 0)] [(0,.row 4 1 (out.map za0)),(6,q7 p),(7,q8 q),(10,q5 wd),(11,.box [.own 0 (wN wd)]),(12,q6),(13,.box [cB false])] ?_ (fun a w h=>?_)
 ·refine rSX zak 13 [] [(3,vp 10 0),(4,vp 11 0),(5,vp 12 0),(6,vW za6),(7,vp 13 0)] [(0,.row 4 1 (out.map za0)),(6,q7 p),(7,q8 q),(10,q5 wd),(11,.box [.own 0 (wN wd)]),(12,q6),(13,.box [cB false])] (by kernel_rfl) (by kernel_rfl) h fun a w h=>?_;exact ⟨rfl,atS h (by kernel_rfl) (by kernel_rfl)⟩
 refine wpIn_seq (stepIn h [(3,vp 10 0),(4,vp 11 0),(5,vp 12 0),(6,vW za6),(7,vp 13 0),(11,.t (.c (.fn (.func 108) [] [.ptr 4 0])))] [(0,.row 4 1 (out.map za0)),(6,q7 p),(7,q8 q),(10,q5 wd),(11,.box [.own 0 (wN wd)]),(12,q6),(13,.box [cB false]),(4,.box [.own 0 (wN wd)])] ?_ (fun a w h=>?_))
 ·refine rSX zak 14 [(1,.call (SBackB (wN wd) out))] [(3,vp 10 0),(4,vp 11 0),(5,vp 12 0),(6,vW za6),(7,vp 13 0),(11,.t (.c (.fn (.func 108) [] [.ptr 4 0])))] [(0,.row 4 1 (out.map za0)),(6,q7 p),(7,q8 q),(10,q5 wd),(11,.box [.own 0 (wN wd)]),(12,q6),(13,.box [cB false]),(4,.box [.own 0 (wN wd)])] (by kernel_rfl) (by kernel_rfl) h fun a w h=>?_;exact ⟨rfl,atS h (by kernel_rfl) (by kernel_rfl)⟩
 refine rangeO (m:=wN wd) (e:=fun j=>vI (((wN wd - 1 - j):Nat):Int)) ds [0,6,7,10,11,12,13] [(3,vp 10 0),(4,vp 11 0),(5,vp 12 0),(6,vW za6),(7,vp 13 0)] (fun j=>[(0,.row 4 1 ((swp wd G out j).1.map za0)),(6,q7 p),(7,q8 q),(10,q5 wd),(11,.box [.own 0 (wN wd)]),(12,q6),(13,.box [cB (swp wd G out j).2])]) (fun j=>[(3,vp 10 0),(4,vp 11 0),(5,vp 12 0),(6,vW za6),(7,vp 13 0),(8,vI (((wN wd - 1 - j):Nat):Int))]) (fun j=>[(0,.row 4 1 ((swp wd G out j).1.map za0)),(6,q7 p),(7,q8 q),(10,q5 wd),(11,.box [.own 0 (wN wd)]),(12,q6),(13,.box [cB (swp wd G out j).2])]) h (back_bools _ hl) va5_1 rfl rfl h0N (by kernel_rfl) (by kernel_rfl) (by kernel_rfl) (by decide) (fun j _=>⟨_,_,rfl,by rw [bB,swp_len,lo9];exact bG _⟩) (by decide) (by decide) (by decide) (by kernel_rfl) (by kernel_rfl) (by kernel_rfl) (by kernel_rfl) (by kernel_rfl) ?_ ?_ ?_
 ·clear h;intro H B l j a w hj h;refine rSX zak 14 [] [(3,vp 10 0),(4,vp 11 0),(5,vp 12 0),(6,vW za6),(7,vp 13 0),(8,vI (((wN wd - 1 - j):Nat):Int))] [(0,.row 4 1 ((swp wd G out j).1.map za0)),(6,q7 p),(7,q8 q),(10,q5 wd),(11,.box [.own 0 (wN wd)]),(12,q6),(13,.box [cB (swp wd G out j).2])] (by kernel_rfl) (by kernel_rfl) h fun a w h=>?_;exact ⟨rfl,atS h (by kernel_rfl) (by kernel_rfl)⟩
 ·clear h;intro H B l j a w hj h;have ls9:(swp wd G out j).1.length=wN wd:=(swp_len wd G out j).trans lo9;have hnx9:=zd2 hc0 (show (wN wd - 1 - j)<wN wd by omega);refine wpX_block (rSeqX zak 14 [(5,.call (SWnext wd (wN wd - 1 - j) hl (by omega))),(6,.g (xO 20 16 0 (wN wd) (nxW wd (wN wd - 1 - j)) zbo (dD 19 _))),(7,.g (Op.loadR_c (d:=21) (t:=20) (n:=0) (i:=(nxW wd (wN wd - 1 - j))) (fo:=0) (rty:=4) (es:=1) (x:=(.raw (.bool (zag (swp wd G out j).1 (nxW wd (wN wd - 1 - j)))))) zh9 rfl (zab (zbp (by first | omega | (rw [ls9];omega) | (rw [ls9];exact zd2 hc0 (by omega)))) (f:=za0)) rfl)),(8,.g (Op.callV (d:=22) (t:=14) (cap:=[.ptr 7 0,.ptr 6 0]) (args:=[vI (((wN wd - 1 - j):Nat):Int),vb (zag (swp wd G out j).1 (nxW wd (wN wd - 1 - j)))]) (rs:=[(15,vI (((wN wd - 1 - j):Nat):Int)),(21,vb (zag (swp wd G out j).1 (nxW wd (wN wd - 1 - j))))]) (tys:=#[3,4]) (hF (wN wd - 1 - j) (zag (swp wd G out j).1 (nxW wd (wN wd - 1 - j))) (by omega)) va5_6 (OVs.cons (dD 15 _) (OVs.cons (dD 21 _) (OVs.nil)))))] [(4,vp 11 0),(6,vW za6),(7,vp 13 0),(8,vI (((wN wd - 1 - j):Nat):Int)),(9,vb (G (wN wd - 1 - j) (zag (swp wd G out j).1 (nxW wd (wN wd - 1 - j)))))] [(0,.row 4 1 ((swp wd G out j).1.map za0)),(6,q7 p),(7,q8 q),(10,q5 wd),(11,.box [.own 0 (wN wd)]),(12,q6),(13,.box [cB (swp wd G out j).2])] (by kernel_rfl) (by kernel_rfl) h fun a w h=>rSeqX zak 14 [(3,.g (xO 26 24 0 (wN wd) (wN wd - 1 - j) zbo (dD 25 _))),(4,.g (Op.loadR_c (d:=27) (t:=26) (n:=0) (i:=(wN wd - 1 - j)) (fo:=0) (rty:=4) (es:=1) (x:=(.raw (.bool (zag (swp wd G out j).1 (wN wd - 1 - j))))) zh9 rfl (zab (zbp (by first | omega | (rw [ls9];omega) | (rw [ls9];exact zd2 hc0 (by omega)))) (f:=za0)) rfl))] [(4,vp 11 0),(6,vW za6),(7,vp 13 0),(8,vI (((wN wd - 1 - j):Nat):Int)),(9,vb (G (wN wd - 1 - j) (zag (swp wd G out j).1 (nxW wd (wN wd - 1 - j))))),(28,vb ((G (wN wd - 1 - j) (zag (swp wd G out j).1 (nxW wd (wN wd - 1 - j)))) != (zag (swp wd G out j).1 (wN wd - 1 - j))))] [(0,.row 4 1 ((swp wd G out j).1.map za0)),(6,q7 p),(7,q8 q),(10,q5 wd),(11,.box [.own 0 (wN wd)]),(12,q6),(13,.box [cB (swp wd G out j).2])] (by kernel_rfl) (by kernel_rfl) h fun a w h=>condX ((G (wN wd - 1 - j) (zag (swp wd G out j).1 (nxW wd (wN wd - 1 - j)))) != (zag (swp wd G out j).1 (wN wd - 1 - j))) h rfl (fun hc1=>?_) (fun hc2=>?_))
  ·refine rSeqX zak 14 [(3,.g (xO 32 29 0 (wN wd) (wN wd - 1 - j) zbo (dD 30 _))),(4,.g (Op.storeR (t:=32) (n:=0) (i:=(wN wd - 1 - j)) (fo:=0) (rty:=4) (es:=1) (r:=za0 (zag (swp wd G out j).1 (wN wd - 1 - j))) (ds:=[.raw (.bool (G (wN wd - 1 - j) (zag (swp wd G out j).1 (nxW wd (wN wd - 1 - j)))))]) (rs:=[(31,vb (G (wN wd - 1 - j) (zag (swp wd G out j).1 (nxW wd (wN wd - 1 - j)))))]) (rows:=(swp wd G out j).1.map za0) (rows':=((swp wd G out j).1.set (wN wd - 1 - j) (G (wN wd - 1 - j) (zag (swp wd G out j).1 (nxW wd (wN wd - 1 - j))))).map za0) zh9 (dD 31 _) rfl rfl rfl (zab (zbp (by first | omega | (rw [ls9];omega) | (rw [ls9];exact zd2 hc0 (by omega)))) (f:=za0)) (by simp [za0]) (zfg (xs:=(swp wd G out j).1) (F:=za0) (wN wd - 1 - j) _ _ rfl)))] [(6,vW za6),(7,vp 13 0)] [(0,.row 4 1 (((swp wd G out j).1.set (wN wd - 1 - j) (G (wN wd - 1 - j) (zag (swp wd G out j).1 (nxW wd (wN wd - 1 - j))))).map za0)),(6,q7 p),(7,q8 q),(10,q5 wd),(11,.box [.own 0 (wN wd)]),(12,q6),(13,.box [cB (swp wd G out j).2])] (by kernel_rfl) (by kernel_rfl) h fun a w h=>rSX zak 14 [] [(6,vW za6)] [(0,.row 4 1 (((swp wd G out j).1.set (wN wd - 1 - j) (G (wN wd - 1 - j) (zag (swp wd G out j).1 (nxW wd (wN wd - 1 - j))))).map za0)),(6,q7 p),(7,q8 q),(10,q5 wd),(11,.box [.own 0 (wN wd)]),(12,q6),(13,.box [cB true])] (by kernel_rfl) (by kernel_rfl) h fun a w h=>za7 ?_;replace h:=h.conv (f':=F.of [(6,vW za6)] [(0,.row 4 1 ((swp wd G out (j+1)).1.map za0)),(6,q7 p),(7,q8 q),(10,q5 wd),(11,.box [.own 0 (wN wd)]),(12,q6),(13,.box [cB (swp wd G out (j+1)).2])]) (by rw [(swp_yes (wd:=wd) (G:=G) (out:=out) (j:=j) rfl rfl hc1)]; try kernel_rfl);exact ⟨rfl,atS h (by kernel_rfl) (by kernel_rfl)⟩
  refine wpX_skip (dfS h) (za7 ?_);replace h:=h.conv (f':=F.of [(4,vp 11 0),(6,vW za6),(7,vp 13 0),(8,vI (((wN wd - 1 - j):Nat):Int)),(9,vb (G (wN wd - 1 - j) (zag (swp wd G out j).1 (nxW wd (wN wd - 1 - j))))),(28,vb ((G (wN wd - 1 - j) (zag (swp wd G out j).1 (nxW wd (wN wd - 1 - j)))) != (zag (swp wd G out j).1 (wN wd - 1 - j))))] [(0,.row 4 1 ((swp wd G out (j+1)).1.map za0)),(6,q7 p),(7,q8 q),(10,q5 wd),(11,.box [.own 0 (wN wd)]),(12,q6),(13,.box [cB (swp wd G out (j+1)).2])]) (by rw [(swp_no (wd:=wd) (G:=G) (out:=out) (j:=j) rfl rfl hc2)]; try kernel_rfl);exact ⟨rfl,atS h (by kernel_rfl) (by kernel_rfl)⟩
 clear h;intro H2 Dd a w hle2 hlow2 hDs hDn hDm h;have hmk2:=Mk.cons hle2 hmk hDs hDn hDm;have hle3:=Le.trans hle hle2;have hlow3:∀ b,b<_->H2 b=_:=fun b hb=>(hlow2 b hb).trans (hlow b hb)
 refine wpIn_seq (stepIn h [(3,vp 10 0),(4,vp 11 0),(5,vp 12 0),(6,vW za6),(33,vb (swp wd G out (wN wd)).2)] [(0,.row 4 1 ((swp wd G out (wN wd)).1.map za0)),(6,q7 p),(7,q8 q),(10,q5 wd),(11,.box [.own 0 (wN wd)]),(12,q6),(13,.box [cB (swp wd G out (wN wd)).2])] ?_ (fun a w h=>?_))
 ·refine rSX zak 14 [] [(3,vp 10 0),(4,vp 11 0),(5,vp 12 0),(6,vW za6),(33,vb (swp wd G out (wN wd)).2)] [(0,.row 4 1 ((swp wd G out (wN wd)).1.map za0)),(6,q7 p),(7,q8 q),(10,q5 wd),(11,.box [.own 0 (wN wd)]),(12,q6),(13,.box [cB (swp wd G out (wN wd)).2])] (by kernel_rfl) (by kernel_rfl) h fun a w h=>?_;exact ⟨rfl,atS h (by kernel_rfl) (by kernel_rfl)⟩
 refine condIn (swp wd G out (wN wd)).2 h rfl (fun hc=>?_) (fun hc=>?_)
 ·exact gotoIn_ (swp wd G out (wN wd)).1 hle3 hlow3 hmk2 (zg1 hs hI _ (bG _)).1 ((zg1 hs hI _ (bG _)).2.1 hc) h (by kernel_rfl) (by kernel_rfl)
 refine skipIn (endIn hH0 hle3 hlow3 hmk2 ?_);replace h:=cv (fun z_:List Bool=>F.of [(3,vp 10 0),(4,vp 11 0),(5,vp 12 0),(6,vW za6),(33,vb (swp wd G out (wN wd)).2)] [(0,.row 4 1 (z_.map za0)),(6,q7 p),(7,q8 q),(10,q5 wd),(11,.box [.own 0 (wN wd)]),(12,q6),(13,.box [cB (swp wd G out (wN wd)).2])]) (show ((swp wd G out (wN wd)).1:List Bool)=fin from (swp_fin hs hI hc)) (h.conv (by kernel_rfl));refine rSeqX zak 14 [] [(6,vO 0 (wN wd))] [(0,.row 4 1 (fin.map za0)),(6,q7 p),(7,q8 q),(10,q5 wd),(11,.box [.own 0 (wN wd)]),(12,q6),(13,.box [cB (swp wd G out (wN wd)).2])] (by kernel_rfl) (by kernel_rfl) h fun a w h=>wpX_ret (dfS h) (retX [.c (.own 0 (wN wd))] h Exit.ret (.inl rfl)  rfl ⟨vT9,trivial⟩ ?_ (by kernel_rfl) (by kernel_rfl));rfl
theorem va6_3:Zero dC 4 [.d (.raw (.bool false))]:=⟨(.bool false:Value),[.bool false],by kernel_rfl,rfl,(fun _ _=>⟨DR.raw _ rfl,trivial⟩)⟩
theorem cnt_drop {p:Bool->Bool} (hx:x<out.length) (h1:p (zag out x)=true) (h2:p b=false):(out.set x b).countP p<out.countP p:=by
 have e:zag out x=out[x]:=by unfold zag;rw [bH hx];rfl
 rw [e] at h1
 have hp:0<out.countP p:=List.countP_pos_iff.2 ⟨out[x],cJ hx,h1⟩
 rw [List.countP_set hx,if_pos h1,if_neg (by rw [h2];exact Bool.noConfusion)]
 omega
theorem stl_un (hc:0<wd.cycle.length) (P_ Q_:PF):Stl wd (fun i b=>zag (truT wd Q_) i || zag (truT wd P_) i && b) (UnI wd P_ Q_) (fun out=>out.countP (!·)) (truT wd (.un P_ Q_)) :=
 ⟨fun _ h=>h.len,fun out x h hx hd=>by
  obtain ⟨h1,h2,h3⟩:=UnI.step hc h hx hd
  exact ⟨h1,cnt_drop (by rw [h.len];exact hx) (by rw [h2];rfl) (by first | (rw [h3];rfl) | (dsimp only;rw [h3];rfl))⟩,fun out h hd=>UnI.done hc h hd⟩
theorem stl_fr (hc:0<wd.cycle.length) (P_ Q_:PF):Stl wd (fun i b=>zag (truT wd Q_) i && (zag (truT wd P_) i || b)) (FrI wd P_ Q_) (fun out=>out.countP id) (truT wd (.fr P_ Q_)) :=
 ⟨fun _ h=>h.len,fun out x h hx hd=>by
  obtain ⟨h1,h2,h3⟩:=FrI.step hc h hx hd
  exact ⟨h1,cnt_drop (by rw [h.len];exact hx) (by rw [h2];rfl) (by first | (rw [h3];rfl) | (dsimp only;rw [h3];rfl))⟩,fun out h hd=>FrI.done hc h hd⟩
theorem SCun (i:Nat) (b:Bool) (p q:List Bool) (hp:i<p.length) (hq:i<q.length):Fn dC 73 [(6,.box [.d (.sl 1 (p.map za0))]),(7,.box [.d (.sl 1 (q.map za0))])] [vN i,vb b,vp 7 0,vp 6 0] (vb (zag q i || zag p i && b)) [(6,.box [.d (.sl 1 (p.map za0))]),(7,.box [.d (.sl 1 (q.map za0))])]:=by
 refine fB Tryz.func73 rfl 20 fun w H B a h=>Jq 10 [] [(0,vN i),(1,vb b),(2,vp 7 0),(3,vp 6 0),(6,vb false)] [(6,.box [.d (.sl 1 (p.map za0))]),(7,.box [.d (.sl 1 (q.map za0))])] h fun a w h=>?_
 rcases bM (zag q i) with hc1 | hc2
 ·refine Jp 10 [(2,.g (xD 9 7 zbo (zab (zc7 hq hc1) (f:=za0)) (dD 8 _)))] [(6,vb true)] h fun a w h=>qV (rT (.c (cB true)) h rfl ?_);have hz:(zag q i || zag p i && b)=(true):=by first | rfl | (simp [hc1];done)
  rw [hz];try rfl
 rcases bM (zag p i) with hc3 | hc4
 ·refine Jp 10 [(2,.g (xD 9 7 zbo (zab (zc7 hq hc2) (f:=za0)) (dD 8 _))),(7,.g (xD 14 12 zbo (zab (zc7 hp hc3) (f:=za0)) (dD 13 _)))] [(6,vb b)] h fun a w h=>qV (rT (.c (cB b)) h rfl ?_);have hz:(zag q i || zag p i && b)=(b):=by first | rfl | (simp [hc2,hc3];done)
  rw [hz];try rfl
 refine Jp 10 [(2,.g (xD 9 7 zbo (zab (zc7 hq hc2) (f:=za0)) (dD 8 _))),(7,.g (xD 14 12 zbo (zab (zc7 hp hc4) (f:=za0)) (dD 13 _)))] [(6,vb false)] h fun a w h=>qV (rT (.c (cB false)) h rfl ?_);have hz:(zag q i || zag p i && b)=(false):=by first | rfl | (simp [hc2,hc4];done)
 rw [hz];try rfl
theorem SCfr (i:Nat) (b:Bool) (p q:List Bool) (hp:i<p.length) (hq:i<q.length):Fn dC 72 [(6,.box [.d (.sl 1 (p.map za0))]),(7,.box [.d (.sl 1 (q.map za0))])] [vN i,vb b,vp 7 0,vp 6 0] (vb (zag q i && (zag p i || b))) [(6,.box [.d (.sl 1 (p.map za0))]),(7,.box [.d (.sl 1 (q.map za0))])]:=by
 refine fB Tryz.func72 rfl 20 fun w H B a h=>Jq 10 [] [(0,vN i),(1,vb b),(2,vp 7 0),(3,vp 6 0),(6,vb false)] [(6,.box [.d (.sl 1 (p.map za0))]),(7,.box [.d (.sl 1 (q.map za0))])] h fun a w h=>?_
 rcases bM (zag q i) with hc1 | hc4
 ·rcases bM (zag p i) with hc2 | hc3
  ·refine Jp 10 [(2,.g (xD 9 7 zbo (zab (zc7 hq hc1) (f:=za0)) (dD 8 _))),(7,.g (xD 14 12 zbo (zab (zc7 hp hc2) (f:=za0)) (dD 13 _)))] [(6,vb true)] h fun a w h=>qV (rT (.c (cB true)) h rfl ?_);have hz:(zag q i && (zag p i || b))=(true):=by first | rfl | (simp [hc1,hc2];done)
   rw [hz];try rfl
  refine Jp 10 [(2,.g (xD 9 7 zbo (zab (zc7 hq hc1) (f:=za0)) (dD 8 _))),(7,.g (xD 14 12 zbo (zab (zc7 hp hc3) (f:=za0)) (dD 13 _)))] [(6,vb b)] h fun a w h=>qV (rT (.c (cB b)) h rfl ?_);have hz:(zag q i && (zag p i || b))=(b):=by first | rfl | (simp [hc1,hc3];done)
  rw [hz];try rfl
 refine Jp 10 [(2,.g (xD 9 7 zbo (zab (zc7 hq hc4) (f:=za0)) (dD 8 _)))] [(6,vb false)] h fun a w h=>qV (rT (.c (cB false)) h rfl ?_);have hz:(zag q i && (zag p i || b))=(false):=by first | rfl | (simp [hc4];done)
 rw [hz];try rfl
theorem SWuntil (wd:zaf) (P_ Q_:PF) (hc0:0<wd.cycle.length) (hl:wN wd<=1000000):Fn dC 53 [] [vG [.d (.sl 1 (wd.stem.map (slD 1 za0))),.d (.sl 1 (wd.cycle.map (slD 1 za0)))],vS 1 ((truT wd P_).map za0),vS 1 ((truT wd Q_).map za0)] (vS 1 ((truT wd (.un P_ Q_)).map za0)) []:=by
 have hN9:=zby wd;refine fB Tryz.func53 rfl 13 fun w H B a h=>Jq 5 [] [(3,vp 5 0),(4,vp 6 0),(5,vp 7 0),(6,vW za6)] [(5,.box [.d (.sl 1 (wd.stem.map (slD 1 za0))),.d (.sl 1 (wd.cycle.map (slD 1 za0)))]),(6,.box [.d (.sl 1 ((truT wd P_).map za0))]),(7,.box [.d (.sl 1 ((truT wd Q_).map za0))])] h fun a w h=>Jq 8 [(2,.call (zel wd hl)),(3,.g (Op.makeO' (d:=10) (n:=8) (L:=(wN wd)) (zs:=[.raw (.bool false)]) (rows:=(List.replicate (wN wd) false).map za0) zf9 va6_3 rfl (dD 9 _) (dD 9 _) (by omega) (by rw [List.map_replicate];rfl))),(4,.g (Op.makeFs (d:=11) (fn:=.func 73) [(5,7,0),(4,6,0)])),(5,.call (SWsettleU wd _ _ _ (List.replicate (wN wd) false) (truT wd (.un P_ Q_)) (truT wd P_) (truT wd Q_) (fun i b hi=>SCun i b (truT wd P_) (truT wd Q_) (by rw [zb6];exact hi) (by rw [zb6];exact hi)) (stl_un hc0 P_ Q_) UnI.beg hc0 hl))] [(6,vO 8 (wN wd))] [(8,.row 4 1 ((truT wd (.un P_ Q_)).map za0))] h fun a w h=>qV ?_
 have lf9:=zb6 wd (.un P_ Q_);replace h:=zg6 8 1 4 ((truT wd (.un P_ Q_)).map za0) h [wN wd] ⟨by first | exact (bB _).symm | (simp;done) | (simp;omega),trivial⟩;refine rT (.c (.d (.sl 1 ((truT wd (.un P_ Q_)).map za0)))) h rfl ?_;rfl
theorem eachT_true (wd:zaf):zao wd (fun _=>true)=List.replicate (wN wd) true:=by unfold zao;rw [List.map_const', List.length_range]
theorem SWfree (wd:zaf) (P_ Q_:PF) (hc0:0<wd.cycle.length) (hl:wN wd<=1000000):Fn dC 51 [] [vG [.d (.sl 1 (wd.stem.map (slD 1 za0))),.d (.sl 1 (wd.cycle.map (slD 1 za0)))],vS 1 ((truT wd P_).map za0),vS 1 ((truT wd Q_).map za0)] (vS 1 ((truT wd (.fr P_ Q_)).map za0)) []:=by
 have hN9:=zby wd;refine fB Tryz.func51 rfl 14 fun w H B a h=>Jq 5 [] [(3,vp 5 0),(4,vp 6 0),(5,vp 7 0),(6,vW za6)] [(5,.box [.d (.sl 1 (wd.stem.map (slD 1 za0))),.d (.sl 1 (wd.cycle.map (slD 1 za0)))]),(6,.box [.d (.sl 1 ((truT wd P_).map za0))]),(7,.box [.d (.sl 1 ((truT wd Q_).map za0))])] h fun a w h=>Jg 8 [(1,.call (SWeachTB wd (fun _=>true) (fun i _=>SWttB i) hl))] [] [(7,vO 0 (zao wd (fun _=>true)).length)] [] [(0,.row 4 1 ((zao wd (fun _=>true)).map za0))] h fun a w h=>?_
 replace h:=cvM [] [(7,vO 0 (wN wd))] [] [(0,.row 4 1 ((List.replicate (wN wd) true).map za0))] (by rw [eachT_len,eachT_true]; try kernel_rfl) h;refine Jq 8 [(2,.g (Op.makeFs (d:=12) (fn:=.func 72) [(5,7,0),(4,6,0)])),(3,.call (SWsettleF wd _ _ _ (List.replicate (wN wd) true) (truT wd (.fr P_ Q_)) (truT wd P_) (truT wd Q_) (fun i b hi=>SCfr i b (truT wd P_) (truT wd Q_) (by rw [zb6];exact hi) (by rw [zb6];exact hi)) (stl_fr hc0 P_ Q_) FrI.beg hc0 hl))] [(6,vO 0 (wN wd))] [(0,.row 4 1 ((truT wd (.fr P_ Q_)).map za0))] h fun a w h=>qV ?_;have lf9:=zb6 wd (.fr P_ Q_);replace h:=zg6 0 1 4 ((truT wd (.fr P_ Q_)).map za0) h [wN wd] ⟨by first | exact (bB _).symm | (simp;done) | (simp;omega),trivial⟩;refine rT (.c (.d (.sl 1 ((truT wd (.fr P_ Q_)).map za0)))) h rfl ?_;rfl
end S
end Go.Proofs.YtjnkkdfojfjncaaGreat
