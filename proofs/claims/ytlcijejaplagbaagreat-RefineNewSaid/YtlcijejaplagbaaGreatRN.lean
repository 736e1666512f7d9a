/-
  The proof of the statement RefineNew. It holds for every input.
-/
import Derived.Test.YtlcijejaplagbaaGreatRN5
import Derived.Test.YtlcijejaplagbaaGreatRN3
import Derived.OrdersIn
import Derived.RangeFuncFrom
import Derived.RangeFuncLeaves
import Derived.RangeFuncCalls
import Derived.Test.YtlcijejaplagbaaGreatRN4
import Derived.RangeFuncBound
import Derived.Shelf.Abstract
import Derived.Shelf.RegionOpen
import Derived.OwnWalkIn
import Derived.TacticsInMore
import Derived.LoopNIn
import Derived.LoopIn
import Derived.Test.YtlcijejaplagbaaGreatRows
import Derived.Test.YtlcijejaplagbaaGreatRN2
set_option maxRecDepth 100000
set_option maxHeartbeats 20000000
open Go.RowKit
open List renaming length_map->bC,mem_singleton->bE,mem_cons_self->bG,map_cons->bI,mem_map->bK,length_append->bL,foldl_cons->bP,length_cons->bS,all_eq_true->bU,mem_cons_of_mem->bV,map_nil->bW,sum_cons->bX,map_map->b5,mem_cons->b6,take_of_length_le->b7,mem_append->b8,append_nil->cF,getElem?_eq_getElem->cG,flatten_cons->cJ,flatten_nil->cK,sum_nil->cL,length_nil->cM,length_replicate->cP,mem_of_getElem?->cQ,length_take->cR,map_take->cT,take_add_one->cU,getElem?_eq_some_iff->cX,map_append->cY,getElem?_cons_succ->c6,length_drop->c7,mem_range->dA,mem_of_mem_drop->dC,mem_of_mem_take->dD,getElem?_map->dG,drop_of_length_le->dI,length_singleton->dM,getElem?_append_left->dN
open Nat renaming le_refl->bF,zero_le->bJ,le_trans->bN,mul_le_mul_left->cN,pow_le_pow_right->cO,le_succ->cV,lt_of_lt_of_le->cW,le_of_eq->cZ,sub_self->c8,le_of_ble_eq_true->dO
open Bool renaming eq_false_or_eq_true->b9,and_eq_true->cD,true_and->dH
open Array renaming getD_eq_getD_getElem?->cC,getElem?_eq_some_iff->cH,getElem?_setIfInBounds_ne->dB,getElem?_setIfInBounds_self_of_lt->dL
open Int renaming natAbs_dvd_natAbs->dE
open Option renaming isSome_iff_exists->dJ
namespace Go.Proofs.YtlcijejaplagbaaGreat
namespace S
variable {α:Type} {j n m k N b:Nat} {ps out:List za6} {f:za0} {t:zaf} {s:zb3} {i:Int} {y:Code} {w0 w:World} {H0 H1 H:Im} {B0:Bl} {sl:List (Nat × V)} {lc qs:List (Nat × L)} {e:E} {K:Act->World->Prop} {ops:Array Oper} {draw:Bool} {a:Act} {o:Obj} {v:Value} {P:Program} {res:V} {fn:Func} {cs:List za0}
def za0.fk (f:za0):Prop:=f.fold fun k r ks hs=>((k=4\/k=5\/ks=[])/\(k=2->cpR r=r))/\∀ h ∈ hs,h
theorem za0.fk_eq (f:za0):f.fk ↔ ((f.kind=4\/f.kind=5\/f.kids=[])/\(f.kind=2->cpR f.r=f.r))/\∀ g ∈ f.kids,g.fk:=by
 have:=za0.fold_eq (fun k r ks (hs:List Prop)=>((k=4\/k=5\/ks=[])/\(k=2->cpR r=r))/\∀ h ∈ hs,h) f
 unfold za0.fk
 rw [this]
 refine and_congr_right fun _=>⟨fun h g hg=>h _ (bK.2 ⟨g,hg,rfl⟩),fun h p hp=>?_⟩
 obtain ⟨g,hg,rfl⟩:=bK.1 hp
 exact h g hg
theorem fk_tru (b:Bool):(zbo b).fk:=by rw [za0.fk_eq];exact ⟨⟨.inr (.inr rfl),fun e=>by cases b <;> exact absurd e (by decide)⟩,fun g hg=>by cases hg⟩
theorem tight_cp (r:za6):cpR (zag r).1=(zag r).1:=by
 unfold zag
 split
 ·rfl
 ·split
  ·rfl
  ·unfold cpR
   show (⟨za1 (if _ then zhh (zby r.t) else zby r.t),r.eq⟩:za6)=_
   split
   ·show (⟨za1 (zhh (zby r.t)),r.eq⟩:za6)=_
    unfold zhh zam;rw [zbc]
   ·rw [shr_plain]
theorem fk_tight (r:za6):(zav r).fk:=by
 unfold zav;split
 ·rw [za0.fk_eq];exact ⟨⟨.inr (.inr rfl),fun _=>tight_cp r⟩,fun g hg=>by cases hg⟩
 ·exact fk_tru _
theorem zgc {k:Int} (hk:k=4\/k=5):∀ (fs out:List za0),(∀ g ∈ out,g.fk)->(∀ g ∈ fs,g.fk)->(zb7 k fs out).fk
 | [],out,h,_=>by
  unfold zb7
  match out with
  | []=>exact fk_tru _
  | [g]=>exact h g (bG ..)
  | g :: q :: l=>rw [za0.fk_eq];exact ⟨⟨by rcases hk with hk | hk;exact .inl hk;exact .inr (.inl hk),fun e=>by exfalso;change k=2 at e;omega⟩,h⟩
 | f :: fs,out,h,h2=>by
  rw [zb7]
  have hf:=h2 f (bG ..)
  have hfs:∀ g ∈ fs,g.fk:=fun g hg=>h2 g (bV _ hg)
  split
  ·exact hf
  ·split
   ·exact zgc hk fs out h hfs
   ·split
    ·exact zgc hk fs _ (fun g hg=>(b8.1 hg).elim (h g) fun hg=>((za0.fk_eq _).1 hf).2 g hg) hfs
    ·exact zgc hk fs _ (fun g hg=>(b8.1 hg).elim (h g) fun hg=>by rw [bE.1 hg];exact hf) hfs
theorem flat_fk (f:za0):∀ d,(f.flat d).fk :=
 za0.ind (P:=fun f=>∀ d,(f.flat d).fk) (fun k r ks ih d=>by
  rw [za0.flat_eq]
  show (zhi k r (ks.map za0.flat) d).fk
  unfold zhi
  split
  ·exact fk_tru _
  ·split
   ·split
    ·refine zgc (.inr rfl) _ [] (fun g hg=>by cases hg) fun g hg=>?_
     obtain ⟨q,hq,rfl⟩:=bK.1 hg
     exact fk_tight q
    ·exact fk_tight r
   ·split
    ·cases ks with
     | nil=>exact fk_tru _
     | cons g gs=>exact ih g (bG ..) (!d)
    ·split
     ·rename_i h4
      refine zgc (by cases d <;> simp <;> omega) _ [] (fun g hg=>by cases hg) fun g hg=>?_
      rw [b5] at hg
      obtain ⟨q,hq,rfl⟩:=bK.1 hg
      exact ih q hq d
     ·exact fk_tru _) f
def gathRK (k:Int) (r:za6) (gs:List (List za6->List za6)) (ps:List za6):List za6:=if k=2 then (if 0<=atR ps r then ps else ps++[r]) else gs.foldl (fun a g=>g a) ps
def za0.gathR (f:za0):List za6->List za6:=f.fold fun k r _ gs ps=>gathRK k r gs ps
theorem za0.gathR_eq (f:za0) (ps:List za6):f.gathR ps=if f.kind=2 then (if 0<=atR ps f.r then ps else ps++[f.r]) else f.kids.foldl (fun a g=>g.gathR a) ps:=by
 have:=congrFun (za0.fold_eq (fun k r _ (gs:List (List za6->List za6)) ps=>gathRK k r gs ps) f) ps
 refine this.trans ?_
 unfold gathRK
 rw [List.foldl_map];rfl
theorem gathR_gath (f:za0):f.fk->∀ ps,f.gathR ps=f.gath ps :=
 za0.ind (P:=fun f=>f.fk->∀ ps,f.gathR ps=f.gath ps) (fun k r ks ih h ps=>by
  obtain ⟨⟨h1,h2⟩,h3⟩:=(za0.fk_eq _).1 h
  change k=4\/k=5\/ks=[] at h1
  change k=2->cpR r=r at h2
  rw [za0.gathR_eq,za0.gath_eq]
  show (if k=2 then (if 0<=atR ps r then ps else ps++[r]) else ks.foldl (fun a g=>g.gathR a) ps)=if k=2/\atR ps r<0 then ps++[cpR r] else ks.foldl (fun a g=>g.gath a) ps
  by_cases e:k=2
  ·rw [if_pos e]
   have hks:ks=[]:=by rcases h1 with h1 | h1 | h1;omega;omega;exact h1
   by_cases e2:0<=atR ps r
   ·rw [if_pos e2,if_neg (fun h=>by omega),hks];rfl
   ·rw [if_neg e2,if_pos ⟨e,by omega⟩,h2 e]
  ·rw [if_neg e,if_neg (fun h=>e h.1)]
   have key:∀ (xs:List za0),(∀ g ∈ xs,g ∈ ks)->∀ qs:List za6,xs.foldl (fun a g=>g.gathR a) qs=xs.foldl (fun a g=>g.gath a) qs:=fun xs=>by
    induction xs with
    | nil=>intro _ qs;rfl
    | cons x xs ihx =>
     intro hx qs
     rw [bP,bP,ih x (hx x (bG ..)) (h3 x (hx x (bG ..))) qs]
     exact ihx (fun g hg=>hx g (bV _ hg)) _
   exact key ks (fun g hg=>hg) ps) f
theorem cmpRl_cpl (p r:za6):zbp (cpR p) r=zbp p r:=by
 unfold zbp cpR zha
 simp only [zbc];rfl
theorem idxB_map {β:Type} (F:α->β) (pr:β->Bool) (pr':α->Bool) (h:∀ x,pr (F x)=pr' x):∀ (xs:List α) (n:Nat),zd8 pr (xs.map F) n=zd8 pr' xs n
 | [],n=>rfl
 | x :: xs,n=>by
  rw [bI];unfold zd8;rw [h x,idxB_map F pr pr' h xs (n+1)]
theorem atR_cp (ps:List za6) (r:za6):atR (ps.map cpR) r=atR ps r:=by
 unfold atR;exact idxB_map cpR _ _ (fun x=>by rw [cmpRl_cpl]) ps 0
theorem gath_cp (f:za0):∀ ps,(f.gath ps).map cpR=f.gath (ps.map cpR) :=
 za0.ind (P:=fun f=>∀ ps,(f.gath ps).map cpR=f.gath (ps.map cpR)) (fun k r ks ih ps=>by
  rw [za0.gath_eq,za0.gath_eq]
  show (if k=2/\atR ps r<0 then ps++[cpR r] else ks.foldl (fun a g=>g.gath a) ps).map cpR=if k=2/\atR (ps.map cpR) r<0 then ps.map cpR++[cpR r] else ks.foldl (fun a g=>g.gath a) (ps.map cpR)
  rw [atR_cp]
  split
  ·rw [cY,bI,bW,cpR_cpR]
  ·have key:∀ (xs:List za0),(∀ g ∈ xs,g ∈ ks)->∀ qs:List za6,(xs.foldl (fun a g=>g.gath a) qs).map cpR=xs.foldl (fun a g=>g.gath a) (qs.map cpR):=fun xs=>by
    induction xs with
    | nil=>intro _ qs;rfl
    | cons x xs ihx =>
     intro hx qs
     rw [bP,bP,ihx (fun g hg=>hx g (bV _ hg)),ih x (hx x (bG ..)) qs]
   exact key ks (fun g hg=>hg) ps) f
theorem foldGR_at {ks:List za0} {g:za0} (h:ks[j]?=some g):(ks.take (j+1)).foldl (fun a g=>g.gathR a) ps=g.gathR ((ks.take j).foldl (fun a g=>g.gathR a) ps):=by
 rw [cU,h,List.foldl_append];rfl
theorem gathR_2 (h:f.kind=2) (hi:0<=atR ps f.r):f.gathR ps=ps:=by rw [za0.gathR_eq,if_pos h,if_pos hi]
theorem gathR_2n (h:f.kind=2) (hi:¬ 0<=atR ps f.r):f.gathR ps=ps++[f.r]:=by rw [za0.gathR_eq,if_pos h,if_neg hi]
theorem gathR_k (h:¬ f.kind=2):f.gathR ps=f.kids.foldl (fun a g=>g.gathR a) ps:=by rw [za0.gathR_eq,if_neg h]
theorem foldGR_len (xs:List za0) (qs:List za6) (h:∀ g ∈ xs,∀ qs:List za6,(g.gathR qs).length<=qs.length+g.nodes):(xs.foldl (fun a g=>g.gathR a) qs).length<=qs.length+(xs.map za0.nodes).sum:=by
 induction xs generalizing qs with
 | nil=>exact bF _
 | cons x xs ih =>
  rw [bP,bI,bX]
  have h1:=ih (x.gathR qs) (fun g hg=>h g (bV _ hg))
  have h2:=h x (bG ..) qs
  omega
theorem gathR_len (f:za0):∀ ps,(f.gathR ps).length<=ps.length+f.nodes :=
 za0.ind (P:=fun f=>∀ ps,(f.gathR ps).length<=ps.length+f.nodes) (fun k r ks ih ps=>by
  rw [za0.gathR_eq,za0.nodes_eq]
  show (if k=2 then (if 0<=atR ps r then ps else ps++[r]) else ks.foldl (fun a g=>g.gathR a) ps).length<=ps.length+(1+(ks.map za0.nodes).sum)
  split
  ·split
   ·omega
   ·rw [bL];show ps.length+1<=_;omega
  ·have:=foldGR_len ks ps ih;omega) f
theorem gathR_tok {L:Nat} (f:za0):f.okA n L->∀ ps:List za6,(∀ r ∈ ps,TOk n L r.t)->∀ r ∈ f.gathR ps,TOk n L r.t :=
 za0.ind (P:=fun f=>f.okA n L->∀ ps:List za6,(∀ r ∈ ps,TOk n L r.t)->∀ r ∈ f.gathR ps,TOk n L r.t) (fun k r ks ih hf ps hps=>by
  obtain ⟨h1,h2⟩:=(za0.okA_eq _ _ _).1 hf
  rw [za0.gathR_eq]
  split
  ·rename_i e
   split
   ·exact hps
   ·intro q hq
    rcases b8.1 hq with hq | hq
    ·exact hps q hq
    ·rw [bE.1 hq];exact h1 e
  ·have:∀ (xs:List za0),(∀ g ∈ xs,g ∈ ks)->∀ qs:List za6,(∀ r ∈ qs,TOk n L r.t)->∀ r ∈ xs.foldl (fun a g=>g.gathR a) qs,TOk n L r.t:=fun xs=>by
    induction xs with
    | nil=>intro _ qs h;exact h
    | cons x xs ihx =>
     intro hx qs h
     rw [bP]
     exact ihx (fun g hg=>hx g (bV _ hg)) _ (ih x (hx x (bG ..)) (h2 x (hx x (bG ..))) qs h)
   exact this ks (fun g hg=>hg) ps hps) f
theorem foldGR_tok {L:Nat} (xs:List za0) (h:∀ g ∈ xs,g.okA n L):∀ qs:List za6,(∀ r ∈ qs,TOk n L r.t)->∀ r ∈ xs.foldl (fun a g=>g.gathR a) qs,TOk n L r.t:=by
 induction xs with
 | nil=>intro qs h;exact h
 | cons x xs ih=>intro qs hq;rw [bP];exact ih (fun g hg=>h g (bV _ hg)) _ (gathR_tok x (h x (bG ..)) qs hq)
def za0.rd (ps:List za6) (bs:List Bool) (f:za0):Bool:=f.fold fun k r _ hs=>if k=0 then true else if k=2 then (bs[(atR ps r).toNat]?).getD false else if k=4 then hs.all id else if k=5 then hs.any id else false
theorem mi7_9:ElT Tryz.prog 168 30 3 56:=ElT.mk' Tryz.underlying168 _ _ rfl rfl (by kernel_rfl) (by kernel_rfl) (by kernel_rfl) (by decide) (by decide)
theorem addT_ok2 {L:Nat} {s:zaf} (hs:TOk n L s) (ht:TOk m L t) (hn:n+m<=1000000000):TOk (n+m) (L+2) (zh4 s t):=by
 have h1:TOk (n+m) (L+1) ⟨s.parts++t.parts,ZI.of (s.k.val+t.k.val)⟩:=by
  refine ⟨by rw [bL];have:=hs.len;have:=ht.len;omega,fun p hp=>?_,ZI.lb_of _,ZI.len_of ?_⟩
  ·rcases b8.1 hp with hp | hp
   ·exact ⟨(hs.ps p hp).1,bN (hs.ps p hp).2 (cV _)⟩
   ·exact ⟨(ht.ps p hp).1,bN (ht.ps p hp).2 (cV _)⟩
  ·have a:=cW (ZI.abs_lt hs.kb) (zda hs.kl);have b:=cW (ZI.abs_lt ht.kb) (zda ht.kl);have c:=Int.natAbs_add_le s.k.val t.k.val
   have e:pw (L+1)=4294967296*pw L:=zal L
   omega
 exact h1.plain hn
theorem low_tok2 {L:Nat} (h:TOk n L t) (hn:n<=1000000000) (hL:3<=L):TOk n (L+5) (lowR t).t:=by
 have h1:=zk3 h hn
 have h0:TOk 0 2 (zc4 (ZI.of 1)):=TOk.num (ZI.lb_of _) (by decide)
 have h2:TOk 0 (L+3) (zam (zc4 (ZI.of 1)) (ZI.of (-1))):=((TOk.mul h0 (ZI.lb_of _) (show (ZI.of (-1)).abs.length<=2 from by decide)).plain (by decide)).mono (bF _) (by omega)
 exact (addT_ok2 h1 h2 (by omega)).mono (by omega) (by omega)
theorem deny_tok2 {L:Nat} {r:za6} (h:TOk n L r.t) (hn:n<=1000000000) (hL:3<=L):∀ q ∈ zat r,TOk n (L+8) q.t:=fun q hq=>by
 unfold zat at hq
 split at hq
 ·rcases b6.1 hq with rfl | hq
  ·exact low_tok2 (zk3 h hn) hn (by omega)
  ·rw [bE.1 hq];exact (low_tok2 h hn hL).mono (bF _) (by omega)
 ·rw [bE.1 hq];exact (low_tok2 h hn hL).mono (bF _) (by omega)
theorem zfc {L:Nat} (hn:n<=1000000000) (hL:3<=L) (f:za0):f.okB n L->∀ d,(f.flat d).okA n (L+12) :=
 za0.ind (P:=fun f=>f.okB n L->∀ d,(f.flat d).okA n (L+12)) (fun k r ks ih hf d=>by
  obtain ⟨⟨h1,h2⟩,h3⟩:=(za0.okB_eq _ _ _).1 hf
  change k=2->_ at h1
  change ∀ g ∈ cnt k ks,_ at h3
  rw [za0.flat_eq]
  show (zhi k r (ks.map za0.flat) d).okA n (L+12)
  unfold zhi
  split
  ·exact zg4 _ _ _
  ·split
   ·rename_i e
    split
    ·refine zfb (.inr rfl) _ [] (fun g hg=>by cases hg) fun g hg=>?_
     obtain ⟨q,hq,rfl⟩:=bK.1 hg
     exact tight_okA (deny_tok2 (h1 e) hn hL q hq) hn
    ·exact za0.okA_mono (bF _) (by omega) _ (tight_okA (h1 e) hn)
   ·split
    ·rename_i e
     subst e
     cases ks with
     | nil=>exact zg4 _ _ _
     | cons g gs=>exact ih g (bG ..) (h3 g (bG ..)) (!d)
    ·split
     ·rename_i h4
      have hc:cnt k ks=ks:=by unfold cnt;rw [if_pos h4]
      rw [hc] at h3
      refine zfb (by cases d <;> simp <;> omega) _ [] (fun g hg=>by cases hg) fun g hg=>?_
      rw [b5] at hg
      obtain ⟨q,hq,rfl⟩:=bK.1 hg
      exact ih q hq (h3 q hq) d
     ·exact zg4 _ _ _) f
theorem put_ok {L:Nat} (hn:n<=33000000) {vs:List Int} {bys:List zaf} (hf:f.okB n L) (hb:∀ b ∈ bys,zil b):(f.each (zbk vs bys)).okB (30*n) (L+24):=okB_each (t:=zbk vs bys) (fun r hr=>by
 have:=putZ_tok (t:=(cpR r).t) (vs:=vs) (hr.plain (bN hn (by decide))) hn hb
 exact this) f hf
theorem preT_ok {L:Nat} (hn:n<=33000000) (hL:3<=L) (hf:f.okB n L) (hfw:f.wid<=1000000000000) (act:Int):(((f.flat false).forg (zd3 (zab s act).1 s.vars.length)).okB n (L+12)) :=
 forg_ok _ _ (zfc (bN hn (by decide)) hL f hf false) (bN (zd5 f false) hfw)
theorem LPreM (s:zb3) (f:za0) {L:Nat} (hf:f.okB n L) (hn:n<=33000000) (h30:30<=n) (hL3:3<=L) (hL:L<=1900) (hfw:f.wid<=1000000000000):Fn Tryz.prog 70 [] [vG [.d (.sl 1 (s.vars.map zew)),.d (.sl 5 (s.bounds.map zao.d)),cI s.init.kind,cPs s.init.r.t.parts,cB s.init.r.t.k.neg,.d (nsl s.init.r.t.k.abs),cB s.init.r.eq,cFs s.init.kids,.d (.sl 3 (s.procs.map zbv.d)),.d (.sl 10 (s.acts.map zbe.d))],vI (-1),vG [cI f.kind,cPs f.r.t.parts,cB f.r.t.k.neg,.d (nsl f.r.t.k.abs),cB f.r.eq,cFs f.kids]] (vG [cI (zca [f]).kind,cPs (zca [f]).r.t.parts,cB (zca [f]).r.t.k.neg,.d (nsl (zca [f]).r.t.k.abs),cB (zca [f]).r.eq,cFs (zca [f]).kids]) []:=by
 refine fB Tryz.func70 rfl 67 fun w H B a h=>Jq 0 [] [(1,vI (-1)),(3,vp 0 0),(5,vp 1 0),(6,vp 2 0)] [(0,.box [.d (.sl 1 (s.vars.map zew)),.d (.sl 5 (s.bounds.map zao.d)),cI s.init.kind,cPs s.init.r.t.parts,cB s.init.r.t.k.neg,.d (nsl s.init.r.t.k.abs),cB s.init.r.eq,cFs s.init.kids,.d (.sl 3 (s.procs.map zbv.d)),.d (.sl 10 (s.acts.map zbe.d))]),(1,.box [cI f.kind,cPs f.r.t.parts,cB f.r.t.k.neg,.d (nsl f.r.t.k.abs),cB f.r.eq,cFs f.kids]),(2,.box zF0)] h fun a w h=>qW (Je 3 [(1,.cmp (op:=.eql) (m:=(-1)) (n:=(-1)) (b:=true) .i64 rfl)] [] [(16,vb true)] h fun a w h=>cS true h (fun _=>?_) nofun)
 refine Jg 3 [(1,.g (bD 18 ([f].map za0.d) [(17,vG [cI f.kind,cPs f.r.t.parts,cB f.r.t.k.neg,.d (nsl f.r.t.k.abs),cB f.r.eq,cFs f.kids])] kb_1 (.cons (i:=0) (OV.tmp 17 _) (.nil)) (by simp only [bI,bW,cJ,cK,cF,za0.d_eq];kernel_rfl) (by simp [za0.d_len]))),(2,.call (LAll [f] (fun g hg=>by rw [bE.1 hg];exact za0.okB_mono (by omega) (by omega) _ hf) (show List.length _<=1000000000000 from by simp)))] [16] [] [] [(2,.box [cI (zca [f]).kind,cPs (zca [f]).r.t.parts,cB (zca [f]).r.t.k.neg,.d (nsl (zca [f]).r.t.k.abs),cB (zca [f]).r.eq,cFs (zca [f]).kids])] h fun a w h=>qV (za5 (rA 2 [cI (zca [f]).kind,cPs (zca [f]).r.t.parts,cB (zca [f]).r.t.k.neg,.d (nsl (zca [f]).r.t.k.abs),cB (zca [f]).r.eq,cFs (zca [f]).kids] h zc0 rfl ?_));rfl
theorem LPreS (s:zb3) (act:Int) (f:za0) (ha:act≠-1) (hs:zcg 3 s) (hw:SysW s) {L:Nat} (hf:f.okB n L) (hn:n<=33000000) (h30:30<=n) (hL3:3<=L) (hL:L<=1900) (hfw:f.wid<=1000000000000):Fn Tryz.prog 70 [] [vG [.d (.sl 1 (s.vars.map zew)),.d (.sl 5 (s.bounds.map zao.d)),cI s.init.kind,cPs s.init.r.t.parts,cB s.init.r.t.k.neg,.d (nsl s.init.r.t.k.abs),cB s.init.r.eq,cFs s.init.kids,.d (.sl 3 (s.procs.map zbv.d)),.d (.sl 10 (s.acts.map zbe.d))],vI act,vG [cI f.kind,cPs f.r.t.parts,cB f.r.t.k.neg,.d (nsl f.r.t.k.abs),cB f.r.eq,cFs f.kids]] (vG [cI (if (zab s act).2=true then zca [zek s (zab s act).1,(za0.each (zbk (zd2 (zab s act).1 s.vars.length) (zdi (zab s act).1 s.vars.length)) (za0.forg (zd3 (zab s act).1 s.vars.length) (za0.flat f false)))] else zbo false).kind,cPs (if (zab s act).2=true then zca [zek s (zab s act).1,(za0.each (zbk (zd2 (zab s act).1 s.vars.length) (zdi (zab s act).1 s.vars.length)) (za0.forg (zd3 (zab s act).1 s.vars.length) (za0.flat f false)))] else zbo false).r.t.parts,cB (if (zab s act).2=true then zca [zek s (zab s act).1,(za0.each (zbk (zd2 (zab s act).1 s.vars.length) (zdi (zab s act).1 s.vars.length)) (za0.forg (zd3 (zab s act).1 s.vars.length) (za0.flat f false)))] else zbo false).r.t.k.neg,.d (nsl (if (zab s act).2=true then zca [zek s (zab s act).1,(za0.each (zbk (zd2 (zab s act).1 s.vars.length) (zdi (zab s act).1 s.vars.length)) (za0.forg (zd3 (zab s act).1 s.vars.length) (za0.flat f false)))] else zbo false).r.t.k.abs),cB (if (zab s act).2=true then zca [zek s (zab s act).1,(za0.each (zbk (zd2 (zab s act).1 s.vars.length) (zdi (zab s act).1 s.vars.length)) (za0.forg (zd3 (zab s act).1 s.vars.length) (za0.flat f false)))] else zbo false).r.eq,cFs (if (zab s act).2=true then zca [zek s (zab s act).1,(za0.each (zbk (zd2 (zab s act).1 s.vars.length) (zdi (zab s act).1 s.vars.length)) (za0.forg (zd3 (zab s act).1 s.vars.length) (za0.flat f false)))] else zbo false).kids]) []:=by
 have lvs:=hs.vars;obtain ⟨lq1,lq2,lq3⟩:=pre_len (zab s act).1 s.vars.length;have hpt:=preT_ok (s:=s) hn hL3 hf hfw act;have hcl:(za0.forg (zd3 (zab s act).1 s.vars.length) (za0.flat f false)).cl.okB n (L+13):=okB_cl (by omega) _ hpt
 have hsl:∀ g ∈ [zek s (zab s act).1,(za0.each (zbk (zd2 (zab s act).1 s.vars.length) (zdi (zab s act).1 s.vars.length)) (za0.forg (zd3 (zab s act).1 s.vars.length) (za0.flat f false)))],g.okB (30*n) (L+60):=fun g hg=>by
  rcases b6.1 hg with rfl | hg
  ·exact za0.okB_mono (by omega) (by omega) _ (canF_ok hs (zex hs act) (zjj hw act))
  rw [bE.1 hg];exact za0.okB_mono (by omega) (by omega) _ (put_ok hn hpt (preB_ok (zex hs act) _))
 refine fB Tryz.func70 rfl 67 fun w H B a h=>Jq 5 [] [(1,vI act),(3,vp 5 0),(5,vp 6 0),(6,vp 7 0)] [(5,.box [.d (.sl 1 (s.vars.map zew)),.d (.sl 5 (s.bounds.map zao.d)),cI s.init.kind,cPs s.init.r.t.parts,cB s.init.r.t.k.neg,.d (nsl s.init.r.t.k.abs),cB s.init.r.eq,cFs s.init.kids,.d (.sl 3 (s.procs.map zbv.d)),.d (.sl 10 (s.acts.map zbe.d))]),(6,.box [cI f.kind,cPs f.r.t.parts,cB f.r.t.k.neg,.d (nsl f.r.t.k.abs),cB f.r.eq,cFs f.kids]),(7,.box zF0)] h fun a w h=>qW (Je 8 [(1,.cmp (op:=.eql) (m:=act) (n:=(-1)) (b:=false) .i64 (beq_eq_false_iff_ne.2 ha))] [] [(16,vb false)] h fun a w h=>zaw h (qU (za2 (Jg 8 [(2,.call (Lsound s act hs))] [1,16] [(7,vp 8 0),(8,vb (zab s act).2)] [] [(8,.box [cI (zab s act).1.proc,cI (zab s act).1.from_,cI (zab s act).1.to_,cI (zab s act).1.guard.kind,cPs (zab s act).1.guard.r.t.parts,cB (zab s act).1.guard.r.t.k.neg,.d (nsl (zab s act).1.guard.r.t.k.abs),cB (zab s act).1.guard.r.eq,cFs (zab s act).1.guard.kids,.d (.sl 5 ((zab s act).1.moves.map zap.d))])] h fun a w h=>qW (Je 9 [] [8] [(27,vb (!(zab s act).2))] h fun a w h=>cS (!(zab s act).2) h (fun hc1=>?_) (fun hc2=>?_))))))
 ·refine Jg 9 [(0,.call (zih false))] [27] [] [] [(7,.box [cI (zbo false).kind,cPs (zbo false).r.t.parts,cB (zbo false).r.t.k.neg,.d (nsl (zbo false).r.t.k.abs),cB (zbo false).r.eq,cFs (zbo false).kids])] h fun a w h=>qV (za5 (rA 7 [cI (zbo false).kind,cPs (zbo false).r.t.parts,cB (zbo false).r.t.k.neg,.d (nsl (zbo false).r.t.k.abs),cB (zbo false).r.eq,cFs (zbo false).kids] h zc0 rfl ?_));rw [if_neg (by rw [(show ((zab s act).2)=false from by simpa using hc1)];exact Bool.noConfusion)];try rfl
 refine qU (za2 (Je 9 [] [27] [(9,vW zai),(10,vW zai)] h fun a w h=>Je 9 [] [] [(11,vW zai)] h fun a w h=>qW (Je 9 [(2,.len (za4 1 zew s.vars))] [] [(31,vN s.vars.length),(32,vI 0)] h fun a w h=>qZ ?_)));replace h:=zep 9 0 9 1 3 (vW zai) h;replace h:=zep 10 0 10 1 3 (vW zai) h;replace h:=zep 11 0 11 3 30 (vW zai) h;replace h:=cvM [] [(9,vO 9 (zd2 (zab s act).1 0).length)] [] [(9,.row 3 1 ((zd2 (zab s act).1 0).map zb4))] (by rw [<- show ([]:List Int)=(zd2 (zab s act).1 0) from rfl];kernel_rfl) h;replace h:=cvM [] [(10,vO 10 (zd3 (zab s act).1 0).length)] [] [(10,.row 3 1 ((zd3 (zab s act).1 0).map zb4))] (by rw [<- show ([]:List Int)=(zd3 (zab s act).1 0) from rfl];kernel_rfl) h
 refine zbz (ι:=(Nat)) (fun j=>j<=s.vars.length)
   [] (fun j=>[(9,vO 9 (zd2 (zab s act).1 j).length),(10,vO 10 (zd3 (zab s act).1 j).length),(11,vO 11 (zdi (zab s act).1 j).length),(32,vN j)])
   [] (fun j=>[(9,.row 3 1 ((zd2 (zab s act).1 j).map zb4)),(10,.row 3 1 ((zd3 (zab s act).1 j).map zb4)),(11,.row 30 3 ((zdi (zab s act).1 j).map zaf.d))])
   (fun j=>s.vars.length - j) 0 ?_ h ?_
 ·exact bJ _
 clear h;rintro j a w hI h;obtain ⟨lp1,lp2,lp3⟩:=pre_len (zab s act).1 j;refine Je 12 [] [] [(33,vb (decide ((j:Int)<(s.vars.length:Int))))] h fun a w h=>qW (zae ((j:Int)<(s.vars.length:Int)) h (fun hc3 hc3'=>?_) (fun hc6 hc6'=>?_))
 ·refine qU (za2 (qW (qZ (Je 12 [] [33] [(12,vN j)] h fun a w h=>Jg 12 [(2,.call (Lvalue (zab s act).1 j (zex hs _)))] [] [(13,vp 12 0),(14,vb (zdh (zab s act).1 j).2)] [] [(12,.box [cPs (zdh (zab s act).1 j).1.parts,cB (zdh (zab s act).1 j).1.k.neg,.d (nsl (zdh (zab s act).1 j).1.k.abs)])] h fun a w h=>Je 13 [] [14] [(41,vb (zdh (zab s act).1 j).2)] h fun a w h=>cS (zdh (zab s act).1 j).2 h (fun hc4=>?_) (fun hc5=>?_)))))
  ·refine Jh 13 [(2,.g (bD 44 ([(j:Int)].map zb4) [(43,vN j)] tb_0 (.cons (i:=0) (OV.tmp 43 _) (.nil)) (by kernel_rfl) (by simp [zb4]))),(3,.g (Op.appOD (d:=45) (t:=42) (u:=44) (n:=9) (n':=13) (len:=(zd2 (zab s act).1 j).length) (len':=((zd2 (zab s act).1 j)++[(j:Int)]).length) (rows:=(zd2 (zab s act).1 j).map zb4) (rows2:=[(j:Int)].map zb4) (rows':=((zd2 (zab s act).1 j)++[(j:Int)]).map zb4) tb_2 (by first | exact (bC _).symm | simp) (by first | (rw [bL,bC];done) | (simp;done) | (simp;omega)) (by simp) (by simp [zb4]) (by first | omega | (simp at *;done) | (simp at *;omega)))),(6,.g (bD 48 ([(zdh (zab s act).1 j).1].map zaf.d) [(47,vG [cPs (zdh (zab s act).1 j).1.parts,cB (zdh (zab s act).1 j).1.k.neg,.d (nsl (zdh (zab s act).1 j).1.k.abs)])] tq_13 (.cons (i:=0) (OV.tmp 47 _) (.nil)) (by kernel_rfl) (by simp [zaf.d]))),(7,.g (Op.appOD (d:=49) (t:=46) (u:=48) (n:=11) (n':=14) (len:=(zdi (zab s act).1 j).length) (len':=((zdi (zab s act).1 j)++[(zdh (zab s act).1 j).1]).length) (rows:=(zdi (zab s act).1 j).map zaf.d) (rows2:=[(zdh (zab s act).1 j).1].map zaf.d) (rows':=((zdi (zab s act).1 j)++[(zdh (zab s act).1 j).1]).map zaf.d) mi7_9 (by first | exact (bC _).symm | simp) (by first | (rw [bL,bC];done) | (simp;done) | (simp;omega)) (by simp) (by simp [zaf.d]) (by first | omega | (simp at *;done) | (simp at *;omega))))] [12,13,41] [(9,vO 13 ((zd2 (zab s act).1 j)++[(j:Int)]).length),(11,vO 14 ((zdi (zab s act).1 j)++[(zdh (zab s act).1 j).1]).length)] [9,11,12] [(13,.row 3 1 (((zd2 (zab s act).1 j)++[(j:Int)]).map zb4)),(14,.row 30 3 (((zdi (zab s act).1 j)++[(zdh (zab s act).1 j).1]).map zaf.d))] h fun a w h=>za7 (za2 (Jf 15 [(0,.j1 j)] [] [(32,vI ((j:Int)+1))] h fun a w h=>za2 ?_));rw [show (((zd2 (zab s act).1 j)++[(j:Int)]):List Int)=(zd2 (zab s act).1 (j+1)) from (by rw [(pre_at (zab s act).1 j).1,if_pos hc4];first | done | simp)] at h;replace h:=cv (fun z_:List Int=>F.of [(3,vp 5 0),(5,vp 6 0),(6,vp 7 0),(7,vp 8 0),(9,vO 13 (zd2 (zab s act).1 (j+1)).length),(10,vO 10 z_.length),(11,vO 14 ((zdi (zab s act).1 j)++[(zdh (zab s act).1 j).1]).length),(31,vN s.vars.length),(32,vI ((j:Int)+1))] [(5,.box [.d (.sl 1 (s.vars.map zew)),.d (.sl 5 (s.bounds.map zao.d)),cI s.init.kind,cPs s.init.r.t.parts,cB s.init.r.t.k.neg,.d (nsl s.init.r.t.k.abs),cB s.init.r.eq,cFs s.init.kids,.d (.sl 3 (s.procs.map zbv.d)),.d (.sl 10 (s.acts.map zbe.d))]),(6,.box [cI f.kind,cPs f.r.t.parts,cB f.r.t.k.neg,.d (nsl f.r.t.k.abs),cB f.r.eq,cFs f.kids]),(7,.box zF0),(8,.box [cI (zab s act).1.proc,cI (zab s act).1.from_,cI (zab s act).1.to_,cI (zab s act).1.guard.kind,cPs (zab s act).1.guard.r.t.parts,cB (zab s act).1.guard.r.t.k.neg,.d (nsl (zab s act).1.guard.r.t.k.abs),cB (zab s act).1.guard.r.eq,cFs (zab s act).1.guard.kids,.d (.sl 5 ((zab s act).1.moves.map zap.d))]),(10,.row 3 1 (z_.map zb4)),(13,.row 3 1 ((zd2 (zab s act).1 (j+1)).map zb4)),(14,.row 30 3 (((zdi (zab s act).1 j)++[(zdh (zab s act).1 j).1]).map zaf.d))]) (show ((zd3 (zab s act).1 j):List Int)=(zd3 (zab s act).1 (j+1)) from (by rw [(pre_at (zab s act).1 j).2.2,if_pos hc4];first | done | simp)) (h.conv (by kernel_rfl));rw [show (((zdi (zab s act).1 j)++[(zdh (zab s act).1 j).1]):List zaf)=(zdi (zab s act).1 (j+1)) from (by rw [(pre_at (zab s act).1 j).2.1,if_pos hc4];first | done | simp)] at h;replace h:=zcr 13 9 h;replace h:=zcr 14 11 h;refine zaa (x:=j) (y:=j+1) h ?_ ?_
   ·have:=dT hc3;show j+1<=s.vars.length;omega
   show s.vars.length - (j+1)<s.vars.length - j;have:=dT hc3;omega
  refine Jh 15 [(2,.g (bD 52 ([(j:Int)].map zb4) [(51,vN j)] tb_0 (.cons (i:=0) (OV.tmp 51 _) (.nil)) (by kernel_rfl) (by simp [zb4]))),(3,.g (Op.appOD (d:=53) (t:=50) (u:=52) (n:=10) (n':=15) (len:=(zd3 (zab s act).1 j).length) (len':=((zd3 (zab s act).1 j)++[(j:Int)]).length) (rows:=(zd3 (zab s act).1 j).map zb4) (rows2:=[(j:Int)].map zb4) (rows':=((zd3 (zab s act).1 j)++[(j:Int)]).map zb4) tb_2 (by first | exact (bC _).symm | simp) (by first | (rw [bL,bC];done) | (simp;done) | (simp;omega)) (by simp) (by simp [zb4]) (by first | omega | (simp at *;done) | (simp at *;omega))))] [12,13,41] [(10,vO 15 ((zd3 (zab s act).1 j)++[(j:Int)]).length)] [10,12] [(15,.row 3 1 (((zd3 (zab s act).1 j)++[(j:Int)]).map zb4))] h fun a w h=>za7 (za2 (Jf 16 [(0,.j1 j)] [] [(32,vI ((j:Int)+1))] h fun a w h=>za2 ?_));replace h:=cvM [] [(9,vO 9 (zd2 (zab s act).1 (j+1)).length)] [] [(9,.row 3 1 ((zd2 (zab s act).1 (j+1)).map zb4))] (by rw [<- show ((zd2 (zab s act).1 j):List Int)=(zd2 (zab s act).1 (j+1)) from (by rw [(pre_at (zab s act).1 j).1,if_neg (by rw [hc5];exact Bool.noConfusion)];first | done | simp)];kernel_rfl) h;rw [show (((zd3 (zab s act).1 j)++[(j:Int)]):List Int)=(zd3 (zab s act).1 (j+1)) from (by rw [(pre_at (zab s act).1 j).2.2,if_neg (by rw [hc5];exact Bool.noConfusion)];first | done | simp)] at h;replace h:=cv (fun z_:List zaf=>F.of [(3,vp 5 0),(5,vp 6 0),(6,vp 7 0),(7,vp 8 0),(9,vO 9 (zd2 (zab s act).1 (j+1)).length),(10,vO 15 (zd3 (zab s act).1 (j+1)).length),(11,vO 11 z_.length),(31,vN s.vars.length),(32,vI ((j:Int)+1))] [(5,.box [.d (.sl 1 (s.vars.map zew)),.d (.sl 5 (s.bounds.map zao.d)),cI s.init.kind,cPs s.init.r.t.parts,cB s.init.r.t.k.neg,.d (nsl s.init.r.t.k.abs),cB s.init.r.eq,cFs s.init.kids,.d (.sl 3 (s.procs.map zbv.d)),.d (.sl 10 (s.acts.map zbe.d))]),(6,.box [cI f.kind,cPs f.r.t.parts,cB f.r.t.k.neg,.d (nsl f.r.t.k.abs),cB f.r.eq,cFs f.kids]),(7,.box zF0),(8,.box [cI (zab s act).1.proc,cI (zab s act).1.from_,cI (zab s act).1.to_,cI (zab s act).1.guard.kind,cPs (zab s act).1.guard.r.t.parts,cB (zab s act).1.guard.r.t.k.neg,.d (nsl (zab s act).1.guard.r.t.k.abs),cB (zab s act).1.guard.r.eq,cFs (zab s act).1.guard.kids,.d (.sl 5 ((zab s act).1.moves.map zap.d))]),(9,.row 3 1 ((zd2 (zab s act).1 (j+1)).map zb4)),(11,.row 30 3 (z_.map zaf.d)),(15,.row 3 1 ((zd3 (zab s act).1 (j+1)).map zb4))]) (show ((zdi (zab s act).1 j):List zaf)=(zdi (zab s act).1 (j+1)) from (by rw [(pre_at (zab s act).1 j).2.1,if_neg (by rw [hc5];exact Bool.noConfusion)];first | done | simp)) (h.conv (by kernel_rfl));replace h:=zcr 15 10 h;refine zaa (x:=j) (y:=j+1) h ?_ ?_
  ·have:=dT hc3;show j+1<=s.vars.length;omega
  show s.vars.length - (j+1)<s.vars.length - j;have:=dT hc3;omega
 refine exA ?_;replace h:=cvM [] [(9,vO 9 (zd2 (zab s act).1 s.vars.length).length)] [] [(9,.row 3 1 ((zd2 (zab s act).1 s.vars.length).map zb4))] (by rw [<- show ((zd2 (zab s act).1 j):List Int)=(zd2 (zab s act).1 s.vars.length) from (by rw [show j=s.vars.length by have:=dF hc6;omega])];kernel_rfl) h;replace h:=zh5 9 1 3 ((zd2 (zab s act).1 s.vars.length).map zb4) h [(zd2 (zab s act).1 s.vars.length).length] ⟨by first | exact (bC _).symm | (simp;done) | (simp;omega),trivial⟩;replace h:=cvM [] [(10,vO 10 (zd3 (zab s act).1 s.vars.length).length)] [] [(10,.row 3 1 ((zd3 (zab s act).1 s.vars.length).map zb4))] (by rw [<- show ((zd3 (zab s act).1 j):List Int)=(zd3 (zab s act).1 s.vars.length) from (by rw [show j=s.vars.length by have:=dF hc6;omega])];kernel_rfl) h;replace h:=zh5 10 1 3 ((zd3 (zab s act).1 s.vars.length).map zb4) h [(zd3 (zab s act).1 s.vars.length).length] ⟨by first | exact (bC _).symm | (simp;done) | (simp;omega),trivial⟩;replace h:=cvM [] [(11,vO 11 (zdi (zab s act).1 s.vars.length).length)] [] [(11,.row 30 3 ((zdi (zab s act).1 s.vars.length).map zaf.d))] (by rw [<- show ((zdi (zab s act).1 j):List zaf)=(zdi (zab s act).1 s.vars.length) from (by rw [show j=s.vars.length by have:=dF hc6;omega])];kernel_rfl) h;replace h:=zh5 11 3 30 ((zdi (zab s act).1 s.vars.length).map zaf.d) h [(zdi (zab s act).1 s.vars.length).length] ⟨by first | exact (bC _).symm | (simp;done) | (simp;omega),trivial⟩;refine Jq 16 [(2,.call (Lcan s (zab s act).1 hs (zex hs _) (zjj hw _))),(4,.call (LFlat f (za0.okB_mono (by omega) (by omega) _ hf) (by omega))),(6,.call (Lforget (zd3 (zab s act).1 s.vars.length) (by omega) (za0.flat f false) (za0.okA_mono (by omega) (by omega) _ (zfc (by omega) hL3 f hf false)) (bN (zd5 f false) (by omega)))),(9,.call (LPutAllF (za0.forg (zd3 (zab s act).1 s.vars.length) (za0.flat f false)) (zd2 (zab s act).1 s.vars.length) (zdi (zab s act).1 s.vars.length) (za0.okB_mono (by omega) (by omega) _ hpt) hcl (by omega) (by omega) (preB_ok (zex hs act) _) (by omega) (by omega))),(10,.g (Op.buildD (d:=65) (len:=2) (rows:=[(zek s (zab s act).1),(za0.each (zbk (zd2 (zab s act).1 s.vars.length) (zdi (zab s act).1 s.vars.length)) (za0.forg (zd3 (zab s act).1 s.vars.length) (za0.flat f false)))].map za0.d) (rs:=[(57,vG [cI (zek s (zab s act).1).kind,cPs (zek s (zab s act).1).r.t.parts,cB (zek s (zab s act).1).r.t.k.neg,.d (nsl (zek s (zab s act).1).r.t.k.abs),cB (zek s (zab s act).1).r.eq,cFs (zek s (zab s act).1).kids]),(64,vG [cI (za0.each (zbk (zd2 (zab s act).1 s.vars.length) (zdi (zab s act).1 s.vars.length)) (za0.forg (zd3 (zab s act).1 s.vars.length) (za0.flat f false))).kind,cPs (za0.each (zbk (zd2 (zab s act).1 s.vars.length) (zdi (zab s act).1 s.vars.length)) (za0.forg (zd3 (zab s act).1 s.vars.length) (za0.flat f false))).r.t.parts,cB (za0.each (zbk (zd2 (zab s act).1 s.vars.length) (zdi (zab s act).1 s.vars.length)) (za0.forg (zd3 (zab s act).1 s.vars.length) (za0.flat f false))).r.t.k.neg,.d (nsl (za0.each (zbk (zd2 (zab s act).1 s.vars.length) (zdi (zab s act).1 s.vars.length)) (za0.forg (zd3 (zab s act).1 s.vars.length) (za0.flat f false))).r.t.k.abs),cB (za0.each (zbk (zd2 (zab s act).1 s.vars.length) (zdi (zab s act).1 s.vars.length)) (za0.forg (zd3 (zab s act).1 s.vars.length) (za0.flat f false))).r.eq,cFs (za0.each (zbk (zd2 (zab s act).1 s.vars.length) (zdi (zab s act).1 s.vars.length)) (za0.forg (zd3 (zab s act).1 s.vars.length) (za0.flat f false))).kids])]) kb_1 (.cons (i:=0) (OV.tmp 57 _) (.cons (i:=1) (OV.tmp 64 _) (.nil))) (by simp only [bI,bW,cJ,cK,cF,za0.d_eq];kernel_rfl) rfl (by simp [za0.d_len]) (by decide) (by decide))),(11,.call (LAll [zek s (zab s act).1,(za0.each (zbk (zd2 (zab s act).1 s.vars.length) (zdi (zab s act).1 s.vars.length)) (za0.forg (zd3 (zab s act).1 s.vars.length) (za0.flat f false)))] (fun g hg=>za0.okB_mono (by omega) (by omega) _ (hsl g hg)) (show List.length _<=1000000000000 from by simp)))] [(6,vp 7 0)] [(7,.box [cI (zca [zek s (zab s act).1,(za0.each (zbk (zd2 (zab s act).1 s.vars.length) (zdi (zab s act).1 s.vars.length)) (za0.forg (zd3 (zab s act).1 s.vars.length) (za0.flat f false)))]).kind,cPs (zca [zek s (zab s act).1,(za0.each (zbk (zd2 (zab s act).1 s.vars.length) (zdi (zab s act).1 s.vars.length)) (za0.forg (zd3 (zab s act).1 s.vars.length) (za0.flat f false)))]).r.t.parts,cB (zca [zek s (zab s act).1,(za0.each (zbk (zd2 (zab s act).1 s.vars.length) (zdi (zab s act).1 s.vars.length)) (za0.forg (zd3 (zab s act).1 s.vars.length) (za0.flat f false)))]).r.t.k.neg,.d (nsl (zca [zek s (zab s act).1,(za0.each (zbk (zd2 (zab s act).1 s.vars.length) (zdi (zab s act).1 s.vars.length)) (za0.forg (zd3 (zab s act).1 s.vars.length) (za0.flat f false)))]).r.t.k.abs),cB (zca [zek s (zab s act).1,(za0.each (zbk (zd2 (zab s act).1 s.vars.length) (zdi (zab s act).1 s.vars.length)) (za0.forg (zd3 (zab s act).1 s.vars.length) (za0.flat f false)))]).r.eq,cFs (zca [zek s (zab s act).1,(za0.each (zbk (zd2 (zab s act).1 s.vars.length) (zdi (zab s act).1 s.vars.length)) (za0.forg (zd3 (zab s act).1 s.vars.length) (za0.flat f false)))]).kids])] h fun a w h=>?_;refine qV (rA 7 [cI (zca [zek s (zab s act).1,(za0.each (zbk (zd2 (zab s act).1 s.vars.length) (zdi (zab s act).1 s.vars.length)) (za0.forg (zd3 (zab s act).1 s.vars.length) (za0.flat f false)))]).kind,cPs (zca [zek s (zab s act).1,(za0.each (zbk (zd2 (zab s act).1 s.vars.length) (zdi (zab s act).1 s.vars.length)) (za0.forg (zd3 (zab s act).1 s.vars.length) (za0.flat f false)))]).r.t.parts,cB (zca [zek s (zab s act).1,(za0.each (zbk (zd2 (zab s act).1 s.vars.length) (zdi (zab s act).1 s.vars.length)) (za0.forg (zd3 (zab s act).1 s.vars.length) (za0.flat f false)))]).r.t.k.neg,.d (nsl (zca [zek s (zab s act).1,(za0.each (zbk (zd2 (zab s act).1 s.vars.length) (zdi (zab s act).1 s.vars.length)) (za0.forg (zd3 (zab s act).1 s.vars.length) (za0.flat f false)))]).r.t.k.abs),cB (zca [zek s (zab s act).1,(za0.each (zbk (zd2 (zab s act).1 s.vars.length) (zdi (zab s act).1 s.vars.length)) (za0.forg (zd3 (zab s act).1 s.vars.length) (za0.flat f false)))]).r.eq,cFs (zca [zek s (zab s act).1,(za0.each (zbk (zd2 (zab s act).1 s.vars.length) (zdi (zab s act).1 s.vars.length)) (za0.forg (zd3 (zab s act).1 s.vars.length) (za0.flat f false)))]).kids] h zc0 rfl ?_);rw [if_pos (show ((zab s act).2)=true from by simpa using hc2)];try rfl
theorem at_ok9 (h:f.okB 40 200) (s:zb3) (k:Nat):(atF s f k).okB 40 203:=okB_each (t:=zcq (offZ s k)) (fun r hr=>by
 have:=movZ_tok (hr.plain (by decide)) (by decide) (zad (offZ s k))
 exact this) f h
theorem preK_ok (hs:zcg 3 s) (hw:SysW s) (act:Int) {L:Nat} (hf:f.okB n L) (hn:n<=33000000) (h30:30<=n) (hL3:3<=L) (hL:L<=1900) (hfw:f.wid<=1000000000000):(preF s act f).okB (30*n) (L+61):=by
 unfold preF;split
 ·exact za0.okB_mono (by omega) (by omega) _ (zhl (n:=n) (L:=L) (by omega) (fun g hg=>by rw [bE.1 hg];exact hf) (show List.length _<=1000000000000 from by simp))
 ·split
  ·refine zhl (n:=30*n) (L:=L+60) (by omega) (fun g hg=>?_) (show List.length _<=1000000000000 from by simp)
   rcases b6.1 hg with rfl | hg
   ·exact za0.okB_mono (by omega) (by omega) _ (canF_ok hs (zex hs act) (zjj hw act))
   ·rw [bE.1 hg];exact za0.okB_mono (by omega) (by omega) _ (put_ok hn (preT_ok hn hL3 hf hfw act) (preB_ok (zex hs act) _))
  ·exact okB_tru _ _ _
theorem LPre (s:zb3) (act:Int) (f:za0) (hs:zcg 3 s) (hw:SysW s) {L:Nat} (hf:f.okB n L) (hn:n<=33000000) (h30:30<=n) (hL3:3<=L) (hL:L<=1900) (hfw:f.wid<=1000000000000):Fn Tryz.prog 70 [] [vG (zfu s),vi .i64 act,(vF f)] (vF (preF s act f)) []:=by
 by_cases ha:act=-1
 ·subst ha;rw [show preF s (-1) f=_ from if_pos rfl];exact LPreM s f hf hn h30 hL3 hL hfw
 ·rw [show preF s act f=_ from if_neg ha];exact LPreS s act f ha hs hw hf hn h30 hL3 hL hfw
theorem vokE (ns:List Int) (hl:ns.length<=2000) (h:∀ z ∈ ns,-9223372036854775808<=z/\z<=9223372036854775807):VOk 3 (ns.map ZI.of):=⟨by rw [bC];exact hl,fun y hy=>by
 obtain ⟨z,hz,rfl⟩:=bK.1 hy
 have:=h z hz
 exact ⟨ZI.lb_of _,bN (ZI.len_of (L:=2) (by have:=pw2;omega)) (by decide)⟩⟩
theorem sum_cnt (k:Int) (xs:List za0):((cnt k xs).map za0.nodes).sum<=(xs.map za0.nodes).sum:=by
 unfold cnt
 split
 ·exact bF _
 ·split
  ·cases xs with
   | nil=>exact bF _
   | cons x xs=>simp
  ·exact bJ _
theorem sum_mul3 (xs:List za0):(xs.map fun g=>3*g.nodes).sum=3*(xs.map za0.nodes).sum:=by
 induction xs with
 | nil=>rfl
 | cons x xs ih=>rw [bI,bI,bX,bX,ih];omega
theorem zcs (f:za0):f.wid<=3*f.nodes :=
 za0.ind (P:=fun f=>f.wid<=3*f.nodes) (fun k r ks ih=>by
  rw [za0.wid_eq,za0.nodes_eq]
  show 3+((cnt k ks).map za0.wid).sum<=3*(1+(ks.map za0.nodes).sum)
  have h1:=zg2 (xs:=cnt k ks) (F:=za0.wid) (G:=fun g=>3*g.nodes) fun g hg=>ih g (zbw hg)
  have h2:=sum_mul3 (cnt k ks)
  have h3:=sum_cnt k ks
  omega) f
theorem each_wid (t:za6->za6) (f:za0):(f.each t).nodes<=f.wid :=
 za0.ind (P:=fun f=>(f.each t).nodes<=f.wid) (fun k r ks ih=>by
  rw [za0.each_eq,za0.wid_eq]
  show (zfg t k r (ks.map (za0.each t))).nodes<=3+((cnt k ks).map za0.wid).sum
  unfold zfg
  split
  ·rw [za0.nodes_eq];show 1+0<=_;omega
  ·split
   ·rw [za0.nodes_eq];show 1+0<=_;omega
   ·split
    ·rw [za0.nodes_eq]
     show 1+((cnt k (ks.map (za0.each t))).map za0.nodes).sum<=_
     rw [zdf,b5]
     have:=zg2 (xs:=cnt k ks) (F:=za0.nodes ∘ za0.each t) (G:=za0.wid) fun g hg=>ih g (zbw hg)
     omega
    ·rw [za0.nodes_eq];show 1+0<=_;omega) f
theorem zfe (t:za6->za6) (f:za0):(f.each t).nodes<=f.nodes :=
 za0.ind (P:=fun f=>(f.each t).nodes<=f.nodes) (fun k r ks ih=>by
  rw [za0.each_eq,za0.nodes_eq ⟨k,r,ks⟩]
  show (zfg t k r (ks.map (za0.each t))).nodes<=1+(ks.map za0.nodes).sum
  unfold zfg
  split
  ·rw [za0.nodes_eq];show 1+0<=_;omega
  ·split
   ·rw [za0.nodes_eq];show 1+0<=_;omega
   ·split
    ·rw [za0.nodes_eq]
     show 1+((cnt k (ks.map (za0.each t))).map za0.nodes).sum<=_
     rw [zdf,b5]
     have h1:=zg2 (xs:=cnt k ks) (F:=za0.nodes ∘ za0.each t) (G:=za0.nodes) fun g hg=>ih g (zbw hg)
     have h2:=sum_cnt k ks
     omega
    ·rw [za0.nodes_eq];show 1+0<=_;omega) f
theorem zfj (fs:List za0):(zca fs).nodes<=1+(fs.map za0.nodes).sum:=by
 rw [za0.nodes_eq]
 show 1+((fs.map za0.cl).map za0.nodes).sum<=_
 rw [b5]
 have:=zg2 (xs:=fs) (F:=za0.nodes ∘ za0.cl) (G:=za0.nodes) fun g _=>zfe id g
 omega
theorem deny_nodes (f:za0):(zj4 f).nodes<=1+f.nodes:=by
 rw [za0.nodes_eq];show 1+(f.cl.nodes+0)<=_;have:f.cl.nodes<=f.nodes:=zfe id f;omega
theorem zfi (r:za6):(zbd r).nodes=1:=by rw [za0.nodes_eq];rfl
theorem forg_nodes (vs:List Int) (f:za0):(f.forg vs).nodes<=f.nodes :=
 za0.ind (P:=fun f=>(f.forg vs).nodes<=f.nodes) (fun k r ks ih=>by
  rw [za0.forg_eq,za0.nodes_eq ⟨k,r,ks⟩]
  show (forgK vs k r ks (ks.map (za0.forg vs))).nodes<=1+(ks.map za0.nodes).sum
  unfold forgK
  split
  ·split
   ·rw [za0.nodes_eq];show 1+0<=_;omega
   ·rw [za0.nodes_eq];exact bF _
  ·rw [za0.nodes_eq]
   show 1+((ks.map (za0.forg vs)).map za0.nodes).sum<=_
   rw [b5]
   have:=zg2 (xs:=ks) (F:=za0.nodes ∘ za0.forg vs) (G:=za0.nodes) fun g hg=>ih g hg
   omega) f
theorem sum_c {F:α->Nat} {c:Nat}:∀ {xs:List α}, (∀ x ∈ xs,F x<=c)->(xs.map F).sum<=xs.length*c
 | [],_=>bJ _
 | x :: xs,h=>by
  rw [bI,bX,bS,Nat.succ_mul]
  have:=h x (bG ..);have:=sum_c (xs:=xs) fun y hy=>h y (bV _ hy);omega
theorem canS_nodes (s:zb3) (c:zbe) (v:Nat):∀ g ∈ zfh s c v,g.nodes<=1:=fun g hg=>by
 unfold zfh bndF at hg
 split at hg
 ·split at hg
  ·rcases b6.1 hg with rfl | hg
   ·exact cZ (zfi _)
   ·rw [bE.1 hg];exact cZ (zfi _)
  ·cases hg
 ·split at hg
  ·rw [bE.1 hg];exact cZ (zfi _)
  ·cases hg
theorem canF_nodes {c:zbe} (hv:s.vars.length<=8) (hw:c.guard.wid<=100):(zek s c).nodes<=120:=by
 unfold zek
 rw [za0.nodes_eq]
 show 1+(((canL s c).map za0.cl).map za0.nodes).sum<=_
 unfold canL
 rw [b5,bI,bX]
 have h1:(za0.nodes ∘ za0.cl) c.guard<=c.guard.wid:=each_wid id _
 have h2:=sum_c (F:=za0.nodes ∘ za0.cl) (c:=1) (xs:=(List.range s.vars.length).flatMap (zfh s c)) fun g hg=>bN (zfe id g) (zfd (Q:=fun g=>g.nodes<=1) (fun v _=>canS_nodes s c v) g hg)
 have h3:=zde (zfh s c) (zkj s c) s.vars.length
 omega
theorem stkF_nodes (hs:zcg 3 s) (hw:SysW s) (locs:List Int):(stkF s locs).nodes<=2421:=by
 have h0:=zfj ((List.range s.acts.length).flatMap (zgp s locs))
 have h2:=sum_c (F:=za0.nodes) (c:=121) (xs:=(List.range s.acts.length).flatMap (zgp s locs)) fun g hg=>zfd (Q:=fun g=>g.nodes<=121) (fun v _ g hg=>by
  unfold zgp at hg
  split at hg
  ·rw [bE.1 hg];have:=deny_nodes (zek s (zhb s locs (v:Int)).1);have:=canF_nodes (s:=s) (c:=(zhb s locs (v:Int)).1) hs.vars (zjj hw _);omega
  ·cases hg) g hg
 have h3:=zde (zgp s locs) (zjz s locs) s.acts.length
 have:=hs.acts
 unfold stkF
 omega
theorem lit_nodes (r:za6) (b:Bool):(litF r b).nodes<=2:=by
 unfold litF
 split
 ·rw [zfi];omega
 ·have:=deny_nodes (zbd r);rw [zfi] at this;exact this
theorem cube_lits {bs:List Bool} {g:za0} (hg:g ∈ zdx ps bs):∃ r b,r ∈ ps/\g=litF r b:=by
 obtain ⟨j,hj,rfl⟩:=List.getElem_of_mem hg
 have hl:=zh0 ps bs
 have e:(zdx ps bs)[j]'hj=litF (ps[j]'(by omega)) (bs[j]'(by omega)):=List.getElem_zipWith ..
 exact ⟨_,_,List.getElem_mem _,e⟩
theorem cubeF_nodes (hps:zfy ps) (bs:List Bool):(zax ps bs).nodes<=2001:=by
 have h0:=zfj (zdx ps bs)
 have h1:=sum_c (F:=za0.nodes) (c:=2) (xs:=zdx ps bs) fun g hg=>by obtain ⟨r,b,_,rfl⟩:=cube_lits hg;exact lit_nodes r b
 have h2:=zh0 ps bs
 have h3:=hps.1
 unfold zax
 omega
theorem zkf (hps:zfy ps) (bs:List Bool):(zax ps bs).okB 40 100:=by
 refine za0.okB_mono (n:=20) (L:=13) (by decide) (by decide) _ (zhl (by decide) (fun g hg=>?_) ?_)
 ·obtain ⟨r,b,hr,rfl⟩:=cube_lits hg
  have h:(zbd r).okB 20 11:=zi1 ((hps.2 r hr).plain (by decide))
  unfold litF
  split
  ·exact za0.okB_mono (by decide) (by decide) _ h
  ·exact zgu (by decide) (by simp) fun g hg=>by rw [bE.1 hg];exact okB_cl (by decide) _ h
 ·have:=zh0 ps bs;have:=hps.1;omega
theorem pre_nodes (hs:zcg 3 s) (hw:SysW s) (act:Int) (f:za0):(preF s act f).nodes<=122+3*f.nodes:=by
 unfold preF
 split
 ·have:=zfj [f];simp only [bI,bW,bX,cL] at this;omega
 ·split
  ·have h1:=zfj [zek s (zab s act).1,((f.flat false).forg (zd3 (zab s act).1 s.vars.length)).each (zbk (zd2 (zab s act).1 s.vars.length) (zdi (zab s act).1 s.vars.length))]
   simp only [bI,bW,bX,cL] at h1
   have h2:=canF_nodes (s:=s) (c:=(zab s act).1) hs.vars (zjj hw act)
   have h3:=zfe (zbk (zd2 (zab s act).1 s.vars.length) (zdi (zab s act).1 s.vars.length)) ((f.flat false).forg (zd3 (zab s act).1 s.vars.length))
   have h4:=forg_nodes (zd3 (zab s act).1 s.vars.length) (f.flat false)
   have h5:=zd5 f false
   have h6:=zcs f
   omega
  ·show (zbo false).nodes<=_;rw [za0.nodes_eq];show 1+0<=_;omega
def zay (s:zb3) (locs:List Int) (act:Int) (f:za0):List za0:=if act=-1 then [atF s (stkF s locs) 0,f] else [preF s act f]
def cndF (ps:List za6) (x:zdr) (tl:List za0):za0:=zca (zax ps x.bits :: tl)
def zah (s:zb3) (ps:List za6):List zdr->List Int->List za0
  | [],_=>[]
  | [x],_=>[cndF ps x []]
  | x :: _ :: _,[]=>[cndF ps x []]
  | x :: y :: ys,c :: cs=>cndF ps x (zay s x.locs c ((zah s ps (y :: ys) cs).headD (zbo false))) :: zah s ps (y :: ys) cs
theorem zf2 (s:zb3) (ps:List za6):∀ (xs:List zdr) (cs:List Int),(zah s ps xs cs).length=min xs.length (cs.length+1)
 | [],_=>by simp [zah]
 | [x],cs=>by simp [zah]
 | x :: y :: ys,[]=>by simp [zah]
 | x :: y :: ys,c :: cs=>by
  rw [zah,bS,zf2 s ps (y :: ys) cs];simp only [bS];omega
theorem cnd_last (s:zb3) (ps:List za6):∀ (xs:List zdr) (cs:List Int) {i:Nat} {x:zdr}, xs[i]?=some x->i+1=min xs.length (cs.length+1)->(zah s ps xs cs)[i]?=some (cndF ps x [])
 | [],_,i,x,h,_=>by simp at h
 | [y],cs,i,x,h,hi=>by
  obtain rfl:i=0:=by simp only [bS,cM] at hi;omega
  simp at h;subst h;rfl
 | y :: z :: ys,[],i,x,h,hi=>by
  obtain rfl:i=0:=by simp only [bS,cM] at hi;omega
  simp at h;subst h;rfl
 | y :: z :: ys,c :: cs,i,x,h,hi=>by
  obtain ⟨k,rfl⟩:∃ k,i=k+1:=⟨i - 1,by simp only [bS] at hi;omega⟩
  rw [zah,c6]
  exact cnd_last s ps (z :: ys) cs (by simpa using h) (by simp only [bS] at hi ⊢;omega)
theorem cnd_mid (s:zb3) (ps:List za6):∀ (xs:List zdr) (cs:List Int) {i:Nat} {x:zdr} {c:Int} {g:za0}, xs[i]?=some x->cs[i]?=some c->(zah s ps xs cs)[i+1]?=some g->(zah s ps xs cs)[i]?=some (cndF ps x (zay s x.locs c g))
 | [],_,i,x,c,g,h,_,_=>by simp at h
 | [y],cs,i,x,c,g,h,_,hg=>by simp [zah] at hg
 | y :: z :: ys,[],i,x,c,g,h,hc,hg=>by simp at hc
 | y :: z :: ys,b :: cs,0,x,c,g,h,hc,hg=>by
  simp at h hc;subst h;subst hc
  rw [zah,c6] at hg
  rw [zah,List.getElem?_cons_zero]
  cases e:zah s ps (z :: ys) cs with
  | nil=>rw [e] at hg;simp at hg
  | cons q l=>rw [e] at hg;simp at hg;subst hg;rfl
 | y :: z :: ys,b :: cs,i+1,x,c,g,h,hc,hg=>by
  rw [zah,c6] at hg ⊢
  exact cnd_mid s ps (z :: ys) cs (by simpa using h) (by simpa using hc) hg
def CdOk (k:Nat) (f:za0):Prop:=f.okB (40*30 ^ k) (210+70*k)/\f.nodes<=6000*4 ^ k
theorem CdOk.mono (h:k<=m) (hf:CdOk k f):CdOk m f :=
 ⟨za0.okB_mono (cN _ (cO (by decide) h)) (by omega) _ hf.1,bN hf.2 (cN _ (cO (by decide) h))⟩
theorem cnd_one (hps:zfy ps) (x:zdr) (k:Nat):CdOk k (cndF ps x []):=by
 refine CdOk.mono (bJ k) ⟨?_,?_⟩
 ·exact za0.okB_mono (by decide) (by decide) _ (zhl (n:=40) (L:=100) (by decide) (fun g hg=>by rw [bE.1 hg];exact zkf hps _) (by show 1<=_;decide))
 ·have:=zfj [zax ps x.bits];have:=cubeF_nodes hps x.bits;simp only [bI,bW,bX,cL] at *
  show (zca [zax ps x.bits]).nodes<=_;omega
theorem ahead_ok (hs:zcg 3 s) (hw:SysW s) (hk:k<=3) (hf:CdOk k f) (locs:List Int) (act:Int):(∀ g ∈ zay s locs act f,g.okB (40*30 ^ (k+1)) (210+70*k+61))/\((zay s locs act f).map za0.nodes).sum<=2500+3*f.nodes/\(zay s locs act f).length<=2:=by
 have e:40*30 ^ (k+1)=30*(40*30 ^ k):=by rw [Nat.pow_succ];omega
 have h0:40*30 ^ k<=40*30 ^ 3:=cN _ (cO (by decide) hk)
 have h1:1<=30 ^ k:=Nat.pow_pos (by decide)
 have hwd:f.wid<=1000000000000:=by
  have:=zcs f;have:=hf.2
  have:6000*4 ^ k<=6000*4 ^ 3:=cN _ (cO (by decide) hk)
  omega
 unfold zay
 split
 ·refine ⟨fun g hg=>?_,?_,by simp⟩
  ·rcases b6.1 hg with rfl | hg
   ·exact za0.okB_mono (by omega) (by omega) _ (at_ok9 (za0.okB_mono (by decide) (by decide) _ (stkF_ok hs hw locs)) s 0)
   ·rw [bE.1 hg];exact za0.okB_mono (by omega) (by omega) _ hf.1
  ·simp only [bI,bW,bX,cL]
   have:=stkF_nodes hs hw locs
   have:(atF s (stkF s locs) 0).nodes<=(stkF s locs).nodes:=zfe _ _
   omega
 ·refine ⟨fun g hg=>?_,?_,by simp⟩
  ·rw [bE.1 hg,e]
   exact preK_ok hs hw act hf.1 (by omega) (by omega) (by omega) (by omega) hwd
  ·simp only [bI,bW,bX,cL]
   have:=pre_nodes hs hw act f;omega
theorem cnd_next (hs:zcg 3 s) (hw:SysW s) (hps:zfy ps) (x:zdr) (hk:k<=3) (hf:CdOk k f) (act:Int):CdOk (k+1) (cndF ps x (zay s x.locs act f)):=by
 obtain ⟨h1,h2,h3⟩:=ahead_ok hs hw hk hf x.locs act
 have h0:40*30 ^ (k+1)<=40*30 ^ 4:=cN _ (cO (by decide) (by omega))
 have h4:1<=30 ^ (k+1):=Nat.pow_pos (by decide)
 refine ⟨?_,?_⟩
 ·refine za0.okB_mono (bF _) (by omega) _ (zhl (n:=40*30 ^ (k+1)) (L:=210+70*k+61) (by omega) (fun g hg=>?_) (by rw [bS];omega))
  rcases b6.1 hg with rfl | hg
  ·exact za0.okB_mono (by omega) (by omega) _ (zkf hps _)
  ·exact h1 g hg
 ·have h5:=zfj (zax ps x.bits :: zay s x.locs act f)
  have h6:=cubeF_nodes hps x.bits
  have h7:=hf.2
  have h8:1<=4 ^ k:=Nat.pow_pos (by decide)
  have h9:6000*4 ^ (k+1)=4*(6000*4 ^ k):=by rw [Nat.pow_succ];omega
  rw [bI,bX] at h5
  show (zca (zax ps x.bits :: zay s x.locs act f)).nodes<=_
  omega
theorem cnd_ok (hs:zcg 3 s) (hw:SysW s) (hps:zfy ps):∀ (xs:List zdr) (cs:List Int),xs.length<=5->∀ f ∈ zah s ps xs cs,CdOk (xs.length - 1) f
 | [],_,_,f,hf=>by simp [zah] at hf
 | [x],_,_,f,hf=>by rw [zah] at hf;rw [bE.1 hf];exact cnd_one hps x _
 | x :: y :: ys,[],_,f,hf=>by rw [zah] at hf;rw [bE.1 hf];exact cnd_one hps x _
 | x :: y :: ys,c :: cs,hl,f,hf=>by
  have ih:=cnd_ok hs hw hps (y :: ys) cs (by simp only [bS] at hl ⊢;omega)
  have e:(x :: y :: ys).length - 1=((y :: ys).length - 1)+1:=by simp
  have hk:(y :: ys).length - 1<=3:=by simp only [bS] at hl ⊢;omega
  rw [zah] at hf
  rw [e]
  rcases b6.1 hf with rfl | hf
  ·refine cnd_next hs hw hps x hk ?_ c
   have hn:=zf2 s ps (y :: ys) cs
   cases e2:zah s ps (y :: ys) cs with
   | nil=>rw [e2] at hn;simp only [bS,cM] at hn;omega
   | cons q l=>exact ih q (by rw [e2];exact bG ..)
  ·exact (ih f hf).mono (by omega)
theorem zja (hs:zcg 3 s) (hw:SysW s) (hps:zfy ps) {xs:List zdr} (cs:List Int) (hl:xs.length<=5) (hf:f ∈ zah s ps xs cs):f.okB 32400000 490/\f.nodes<=1536000:=by
 have h:=(cnd_ok hs hw hps xs cs hl f hf).mono (show xs.length - 1<=4 by omega)
 exact ⟨h.1,h.2⟩
theorem nb1_4:Zero Tryz.prog 35 [.d (.raw (.int .i64 0)),.d (.sl 3 []),.d (.raw (.bool false)),.d (nsl []),.d (.raw (.bool false)),.d (.sl 6 [])]:=⟨(Value.agg #[.int .i64 0,.slice none 0 0,.bool false,.slice none 0 0,.bool false,.slice none 0 0]),[.int .i64 0,.slice none 0 0,.bool false,.slice none 0 0,.bool false,.slice none 0 0],by kernel_rfl,rfl,(fun _ _=>⟨DR.raw _ rfl,DR.nil _ _ _ (fun _=>rfl) (bJ _),DR.raw _ rfl,DR.nil _ _ _ (fun _=>rfl) (bJ _),DR.raw _ rfl,DR.nil _ _ _ (fun _=>rfl) (bJ _),trivial⟩)⟩
structure ze0 where
  states:List zdr
  acts:List Int
def ze0.d (x:ze0):List D:=[.sl 2 (x.states.map zdr.d),.sl 1 (x.acts.map zb4)]
def zFm:za0:=⟨0,zR,[]⟩
def zfz (s:zb3) (ps:List za6) (p:ze0) (i:Int):List za0:=List.replicate (i+1).toNat zFm++(zah s ps p.states p.acts).drop (i+1).toNat
variable {p:ze0}
theorem cndO_len (h:(i+1).toNat<=(zah s ps p.states p.acts).length):(zfz s ps p i).length=(zah s ps p.states p.acts).length:=by
 unfold zfz;rw [bL,cP,c7];omega
theorem cndO_start (h:(zah s ps p.states p.acts).length<=n):List.replicate n zFm=zfz s ps p ((n:Int) - 1):=by
 unfold zfz;rw [show ((n:Int) - 1+1).toNat=n by omega,dI h,cF]
theorem cndO_end (h:i<0):zfz s ps p i=zah s ps p.states p.acts:=by
 unfold zfz;rw [show (i+1).toNat=0 by omega];rfl
theorem cndO_at {g:za0} (h:(zfz s ps p (k:Int))[k+1]?=some g):(zah s ps p.states p.acts)[k+1]?=some g:=by
 unfold zfz at h
 rw [show ((k:Int)+1).toNat=k+1 by omega,List.getElem?_append_right (by rw [cP];exact bF _),cP,c8,List.getElem?_drop,Nat.add_zero] at h
 exact h
theorem cndO_set {g:za0} (h:(zah s ps p.states p.acts)[k]?=some g):(zfz s ps p (k:Int)).set k g=zfz s ps p ((k:Int) - 1):=by
 obtain ⟨hk,rfl⟩:=cX.1 h
 unfold zfz
 rw [show ((k:Int)+1).toNat=k+1 by omega,show ((k:Int) - 1+1).toNat=k by omega,List.drop_eq_getElem_cons hk,List.replicate_succ', List.append_assoc,List.set_append_right _ _ (by rw [cP];exact bF _),cP,c8]
 rfl
theorem aheadW (hs:zcg 3 s) (hw:SysW s) (hf:f.okB 32400000 490/\f.nodes<=1536000) (locs:List Int) (act:Int):(∀ g ∈ zay s locs act f,g.okB 972000000 560)/\(zay s locs act f).length<=2:=by
 have hwd:f.wid<=1000000000000:=by have:=zcs f;have:=hf.2;omega
 unfold zay
 split
 ·refine ⟨fun g hg=>?_,by simp⟩
  rcases b6.1 hg with rfl | hg
  ·exact za0.okB_mono (by decide) (by decide) _ (at_ok9 (za0.okB_mono (by decide) (by decide) _ (stkF_ok hs hw locs)) s 0)
  ·rw [bE.1 hg];exact za0.okB_mono (by decide) (by decide) _ hf.1
 ·refine ⟨fun g hg=>?_,by simp⟩
  rw [bE.1 hg]
  exact za0.okB_mono (by decide) (by decide) _ (preK_ok hs hw act hf.1 (by decide) (by decide) (by decide) (by decide) hwd)
theorem Lahead (s:zb3) (x:zdr) (act:Int) (f:za0) (hs:zcg 3 s) (hw:SysW s) (hl:x.locs.length<=9223372036854775807) {L:Nat} (hf:f.okB n L) (hn:n<=33000000) (h30:30<=n) (hL3:3<=L) (hL:L<=1900) (hfw:f.wid<=1000000000000):Fn Tryz.prog 34 [] [vG [.d (.sl 1 (s.vars.map zew)),.d (.sl 5 (s.bounds.map zao.d)),cI s.init.kind,cPs s.init.r.t.parts,cB s.init.r.t.k.neg,.d (nsl s.init.r.t.k.abs),cB s.init.r.eq,cFs s.init.kids,.d (.sl 3 (s.procs.map zbv.d)),.d (.sl 10 (s.acts.map zbe.d))],vG [cIs x.locs,.d (.sl 1 (x.bits.map zdz))],vI act,vG [cI f.kind,cPs f.r.t.parts,cB f.r.t.k.neg,.d (nsl f.r.t.k.abs),cB f.r.eq,cFs f.kids]] (vFs (zay s x.locs act f)) []:=by
 refine fB Tryz.func34 rfl 22 fun w H B a h=>Jq 5 [] [(2,vI act),(4,vp 5 0),(5,vp 6 0),(7,vp 7 0),(8,vW zai)] [(5,.box [.d (.sl 1 (s.vars.map zew)),.d (.sl 5 (s.bounds.map zao.d)),cI s.init.kind,cPs s.init.r.t.parts,cB s.init.r.t.k.neg,.d (nsl s.init.r.t.k.abs),cB s.init.r.eq,cFs s.init.kids,.d (.sl 3 (s.procs.map zbv.d)),.d (.sl 10 (s.acts.map zbe.d))]),(6,.box [cIs x.locs,.d (.sl 1 (x.bits.map zdz))]),(7,.box [cI f.kind,cPs f.r.t.parts,cB f.r.t.k.neg,.d (nsl f.r.t.k.abs),cB f.r.eq,cFs f.kids])] h fun a w h=>qW (Je 8 [] [] [(10,vb (act == (-1)))] h fun a w h=>cS (act == (-1)) h (fun hc1=>?_) (fun hc2=>?_))
 ·refine Jg 8 [(3,.call (LStuck s x.locs 0 hs hw hl (by decide))),(5,.g (Op.buildD (d:=16) (len:=2) (rows:=[(atF s (stkF s x.locs) 0),f].map za0.d) (rs:=[(14,vG [cI (atF s (stkF s x.locs) 0).kind,cPs (atF s (stkF s x.locs) 0).r.t.parts,cB (atF s (stkF s x.locs) 0).r.t.k.neg,.d (nsl (atF s (stkF s x.locs) 0).r.t.k.abs),cB (atF s (stkF s x.locs) 0).r.eq,cFs (atF s (stkF s x.locs) 0).kids]),(15,vG [cI f.kind,cPs f.r.t.parts,cB f.r.t.k.neg,.d (nsl f.r.t.k.abs),cB f.r.eq,cFs f.kids])]) kb_1 (.cons (i:=0) (OV.tmp 14 _) (.cons (i:=1) (OV.tmp 15 _) (.nil))) (by simp only [bI,bW,cJ,cK,cF,za0.d_eq];kernel_rfl) rfl (by simp [za0.d_len]) (by decide) (by decide)))] [5,10] [(8,(vFs [(atF s (stkF s x.locs) 0),f]))] [6] [] h fun a w h=>qV (za5 (rT (.c (cFs [(atF s (stkF s x.locs) 0),f])) h rfl ?_));unfold zay;rw [if_pos (by have:=hc1;simpa using this)];try rfl
 refine qU (za2 (Jq 8 [(3,.call (LPre s act f hs hw hf hn h30 hL3 hL hfw)),(4,.g (bD 21 ([(preF s act f)].map za0.d) [(20,vG [cI (preF s act f).kind,cPs (preF s act f).r.t.parts,cB (preF s act f).r.t.k.neg,.d (nsl (preF s act f).r.t.k.abs),cB (preF s act f).r.eq,cFs (preF s act f).kids])] kb_1 (.cons (i:=0) (OV.tmp 20 _) (.nil)) (by simp only [bI,bW,cJ,cK,cF,za0.d_eq];kernel_rfl) (by simp [za0.d_len])))] [(8,(vFs [(preF s act f)]))] [] h fun a w h=>qV (rT (.c (cFs [(preF s act f)])) h rfl ?_)));unfold zay;rw [if_neg (by have:=hc2;simpa using this)];try rfl
theorem zho (s:zb3) (ps:List za6) (p:ze0) (hs:zcg 3 s) (hw:SysW s) (hps:zfy ps) (hpl:p.states.length<=5) (hpa:p.acts.length<=6) (hpx:∀ x ∈ p.states,x.locs.length<=8/\x.bits.length<=30):Fn Tryz.prog 12 [] [vG [.d (.sl 1 (s.vars.map zew)),.d (.sl 5 (s.bounds.map zao.d)),cI s.init.kind,cPs s.init.r.t.parts,cB s.init.r.t.k.neg,.d (nsl s.init.r.t.k.abs),cB s.init.r.eq,cFs s.init.kids,.d (.sl 3 (s.procs.map zbv.d)),.d (.sl 10 (s.acts.map zbe.d))],(vRs ps),vG [.d (.sl 2 (p.states.map zdr.d)),cIs p.acts]] (vFs (zah s ps p.states p.acts)) []:=by
 have lps:=hps.1;refine fB Tryz.func12 rfl 63 fun w H B a h=>Jq 5 [] [(1,(vRs ps)),(3,vp 5 0),(5,vp 6 0),(6,vW zai)] [(5,.box [.d (.sl 1 (s.vars.map zew)),.d (.sl 5 (s.bounds.map zao.d)),cI s.init.kind,cPs s.init.r.t.parts,cB s.init.r.t.k.neg,.d (nsl s.init.r.t.k.abs),cB s.init.r.eq,cFs s.init.kids,.d (.sl 3 (s.procs.map zbv.d)),.d (.sl 10 (s.acts.map zbe.d))]),(6,.box [.d (.sl 2 (p.states.map zdr.d)),cIs p.acts])] h fun a w h=>?_
 obtain ⟨n9,hn9⟩:∃ z_:Nat,z_=min p.states.length (p.acts.length+1):=⟨_,rfl⟩;refine Je 7 [(2,.len (za4 2 zdr.d p.states)),(5,.len (za4 1 zb4 p.acts)),(6,.add .i64 (m:=(p.acts.length:Int)) (n:=1) i6),(7,.g (Op.min2 (d:=19) (tys:=#[3,3]) (k:=.i64) (m:=(p.states.length:Int)) (n:=((p.acts.length:Int)+1)) (r:=(n9:Int)) (OV.tmp 14 _) (OV.tmp 18 _) (by omega)))] [] [(7,vN n9)] h fun a w h=>Jg 7 [(1,.g (Op.makeO' (d:=21) (n:=7) (L:=n9) (zs:=[.raw (.int .i64 0),.sl 3 [],.raw (.bool false),nsl [],.raw (.bool false),.sl 6 []]) (rows:=(List.replicate n9 zFm).map za0.d) la_7 nb1_4 rfl (OV.tmp 20 _) (OV.tmp 20 _) (by omega) (by rw [List.map_replicate,za0.d_eq];rfl)))] [] [(8,vO 7 n9)] [] [(7,.row 35 6 ((List.replicate n9 zFm).map za0.d))] h fun a w h=>qW (Je 8 [(1,.sub .i64 (m:=(n9:Int)) (n:=1) i6)] [] [(9,vI ((n9:Int) - 1))] h fun a w h=>qZ ?_);replace h:=cvM [] [] [] [(7,.row 35 6 ((zfz s ps p ((n9:Int) - 1)).map za0.d))] (by rw [<- show ((List.replicate n9 zFm):List za0)=(zfz s ps p ((n9:Int) - 1)) from (cndO_start (by rw [zf2];omega))];kernel_rfl) h
 refine zbz (ι:=(Int)) (fun i=>-1<=i/\i<(n9:Int))
   [] (fun i=>[(9,vI i)])
   [] (fun i=>[(7,.row 35 6 ((zfz s ps p i).map za0.d))])
   (fun i=>(i+1).toNat) ((n9:Int) - 1) ?_ h ?_
 ·constructor <;> omega
 clear h;rintro i a w hI h;obtain ⟨hI1,hI2⟩:=hI;have lco:(zfz s ps p i).length=n9:=by rw [cndO_len (by rw [zf2];omega),zf2];omega
 refine qW (Je 8 [] [] [(25,vb (decide (i>=0)))] h fun a w h=>zae (i>=0) h (fun hc1 hc1'=>?_) (fun hc4 hc4'=>?_))
 ·refine qU (za2 (qW (qZ ?_)));obtain ⟨k,hkk⟩:∃ k_:Nat,i=(k_:Int):=⟨_,(Int.toNat_of_nonneg (dT hc1)).symm⟩;replace h:=cvM [] [(9,vN k)] [] [] (by rw [hkk];kernel_rfl) h;replace h:=cvM [] [] [] [(7,.row 35 6 ((zfz s ps p (k:Int)).map za0.d))] (by rw [<- show ((zfz s ps p i):List za0)=(zfz s ps p (k:Int)) from (by rw [hkk])];kernel_rfl) h;rw [hkk] at lco;obtain ⟨x1,hx1⟩:=gl p.states k;refine Jg 8 [(3,.g (xD 31 29 ln14_4 (za8 hx1 (f:=zdr.d)) (OV.tmp 30 _)))] [25] [(10,vp 8 0)] [] [(8,.box [cIs x1.locs,.d (.sl 1 (x1.bits.map zdz))])] h fun a w h=>Jg 9 [(3,.call (LCube ps x1.bits hps (by have:=(hpx x1 (lM hx1)).2;omega))),(4,.g (Op.buildO (d:=37) (n:=9) (len:=1) (rows:=[(zax ps x1.bits)].map za0.d) (rs:=[(36,vG [cI (zax ps x1.bits).kind,cPs (zax ps x1.bits).r.t.parts,cB (zax ps x1.bits).r.t.k.neg,.d (nsl (zax ps x1.bits).r.t.k.abs),cB (zax ps x1.bits).r.eq,cFs (zax ps x1.bits).kids])]) kb_1 (.cons (i:=0) (OV.tmp 36 _) (.nil)) (by simp only [bI,bW,cJ,cK,cF,za0.d_eq];kernel_rfl) rfl (by simp [za0.d_len]) (by decide) (by decide)))] [] [(11,vO 9 1)] [] [(9,.row 35 6 ([(zax ps x1.bits)].map za0.d))] h fun a w h=>qW (Je 10 [(1,.add .i64 (m:=(k:Int)) (n:=1) i6)] [] [(41,vb (decide (((k:Int)+1)<(n9:Int))))] h fun a w h=>zae (((k:Int)+1)<(n9:Int)) h (fun hc2 hc2'=>?_) (fun hc3 hc3'=>?_))
  ·obtain ⟨x3,hx3⟩:=gl p.acts k;obtain ⟨x4,hx4⟩:∃ z_:za0,(zfz s ps p (k:Int))[k+1]?=some z_:=⟨_,cG (by first | omega | (have:=dT hc2;omega))⟩;have hxc:=zja hs hw hps p.acts hpl (lM (cndO_at hx4));have lah9:=(aheadW hs hw hxc x1.locs x3).2;refine Jh 10 [(6,.g (xD 48 46 tb_1 (za8 hx3 (f:=zb4)) (OV.tmp 47 _))),(10,.add .i64 (m:=(k:Int)) (n:=1) i6),(11,.g (xO 53 50 7 n9 (k+1) zfx (OV.tmp 52 _))),(12,.g (Op.loadR_agg (d:=54) (t:=53) (n:=7) (i:=(k+1)) (fo:=0) (rty:=35) (es:=6) (xs:=[.raw (.int .i64 x4.kind),.sl 3 (x4.r.t.parts.map za3.d),.raw (.bool x4.r.t.k.neg),nsl x4.r.t.k.abs,.raw (.bool x4.r.eq),.sl 6 (x4.kids.map za0.d)]) zc0 rfl ((za8 hx4 (f:=za0.d)).trans (congrArg some (za0.d_eq x4))) rfl rfl)),(13,.call (Lahead s x1 x3 x4 hs hw (by have:=(hpx x1 (lM hx1)).1;omega) hxc.1 (by decide) (by decide) (by decide) (by decide) (by have:=zcs x4;have:=hxc.2;omega))),(14,.g (Op.appOD (d:=56) (t:=42) (u:=55) (n:=9) (n':=10) (len:=1) (len':=([(zax ps x1.bits)]++(zay s x1.locs x3 x4)).length) (rows:=[(zax ps x1.bits)].map za0.d) (rows2:=(zay s x1.locs x3 x4).map za0.d) (rows':=([(zax ps x1.bits)]++(zay s x1.locs x3 x4)).map za0.d) la_7 (by first | exact (bC _).symm | simp) (by first | (rw [bL,bC];done) | (simp;done) | (simp;omega)) (by simp) (by simp [za0.d_len]) (by first | omega | (simp at *;done) | (simp at *;omega))))] [10,41] [(11,vO 10 ([(zax ps x1.bits)]++(zay s x1.locs x3 x4)).length)] [8,9] [(10,.row 35 6 (([(zax ps x1.bits)]++(zay s x1.locs x3 x4)).map za0.d))] h fun a w h=>za2 ?_;rw [show (([(zax ps x1.bits)]++(zay s x1.locs x3 x4)):List za0)=(zax ps x1.bits :: (zay s x1.locs x3 x4)) from rfl] at h;replace h:=zh5 10 6 35 ((zax ps x1.bits :: (zay s x1.locs x3 x4)).map za0.d) h [(zax ps x1.bits :: (zay s x1.locs x3 x4)).length] ⟨by first | exact (bC _).symm | (simp;done) | (simp;omega),trivial⟩;have hall:∀ g ∈ (zax ps x1.bits :: (zay s x1.locs x3 x4)),g.okB 1000000000 700/\True:=fun g hg=>⟨(b6.1 hg).elim (fun e=>by rw [e];exact za0.okB_mono (by decide) (by decide) _ (zkf hps _)) (fun hg=>za0.okB_mono (by decide) (by decide) _ ((aheadW hs hw hxc x1.locs _).1 g hg)),trivial⟩
   have hall:=fun g hg=>(hall g hg).1
   have lah:(zax ps x1.bits :: (zay s x1.locs x3 x4)).length<=3:=by rw [bS];have:=(aheadW hs hw hxc x1.locs x3).2;omega
   obtain ⟨x7,hx7⟩:∃ z_:za0,(zfz s ps p (k:Int))[k]?=some z_:=⟨_,cG (by first | omega | (have:=dT hc2;omega))⟩;refine Jh 11 [(3,.call (LAll (zax ps x1.bits :: (zay s x1.locs x3 x4)) (fun g hg=>za0.okB_mono (by decide) (by decide) _ (hall g hg)) (by omega))),(4,.g (xO 61 57 7 n9 k zfx (OV.tmp 58 _))),(5,.g (Op.storeR (t:=61) (n:=7) (i:=k) (fo:=0) (rty:=35) (es:=6) (r:=za0.d x7) (ds:=[.raw (.int .i64 (zca (zax ps x1.bits :: (zay s x1.locs x3 x4))).kind),.sl 3 ((zca (zax ps x1.bits :: (zay s x1.locs x3 x4))).r.t.parts.map za3.d),.raw (.bool (zca (zax ps x1.bits :: (zay s x1.locs x3 x4))).r.t.k.neg),nsl (zca (zax ps x1.bits :: (zay s x1.locs x3 x4))).r.t.k.abs,.raw (.bool (zca (zax ps x1.bits :: (zay s x1.locs x3 x4))).r.eq),.sl 6 ((zca (zax ps x1.bits :: (zay s x1.locs x3 x4))).kids.map za0.d)]) (rs:=[(60,vG [cI (zca (zax ps x1.bits :: (zay s x1.locs x3 x4))).kind,cPs (zca (zax ps x1.bits :: (zay s x1.locs x3 x4))).r.t.parts,cB (zca (zax ps x1.bits :: (zay s x1.locs x3 x4))).r.t.k.neg,.d (nsl (zca (zax ps x1.bits :: (zay s x1.locs x3 x4))).r.t.k.abs),cB (zca (zax ps x1.bits :: (zay s x1.locs x3 x4))).r.eq,cFs (zca (zax ps x1.bits :: (zay s x1.locs x3 x4))).kids])]) (rows:=(zfz s ps p (k:Int)).map za0.d) (rows':=((zfz s ps p (k:Int)).set k (zca (zax ps x1.bits :: (zay s x1.locs x3 x4)))).map za0.d) zc0 (OV.tmp 60 _) rfl rfl rfl (za8 hx7 (f:=za0.d)) (by rw [za0.d_len];decide) (zc8 (xs:=(zfz s ps p (k:Int))) (F:=za0.d) k _ _ (by rw [za0.d_eq x7,za0.d_eq (zca (zax ps x1.bits :: (zay s x1.locs x3 x4)))];rfl))))] [11] [] [] [(7,.row 35 6 (((zfz s ps p (k:Int)).set k (zca (zax ps x1.bits :: (zay s x1.locs x3 x4)))).map za0.d))] h fun a w h=>za7 (za2 (Jf 11 [(1,.sub .i64 (m:=(k:Int)) (n:=1) i6)] [] [(9,vI ((k:Int) - 1))] h fun a w h=>za2 ?_));replace h:=cvM [] [] [] [(7,.row 35 6 ((zfz s ps p ((k:Int) - 1)).map za0.d))] (by rw [<- show (((zfz s ps p (k:Int)).set k (zca (zax ps x1.bits :: (zay s x1.locs x3 x4)))):List za0)=(zfz s ps p ((k:Int) - 1)) from (cndO_set (cnd_mid s ps p.states p.acts hx1 hx3 (cndO_at hx4)))];kernel_rfl) h;refine zaa (x:=i) (y:=(k:Int) - 1) h ?_ ?_
   ·constructor <;> omega
   show ((k:Int) - 1+1).toNat<(i+1).toNat;omega
  refine qU (za2 ?_);replace h:=cvM [] [] [] [(9,.row 35 6 ([zax ps x1.bits].map za0.d))] (by rw [<- show ([(zax ps x1.bits)]:List za0)=[zax ps x1.bits] from rfl];kernel_rfl) h;replace h:=zh5 9 6 35 ([zax ps x1.bits].map za0.d) h [1] ⟨by first | exact (bC _).symm | (simp;done) | (simp;omega),trivial⟩;have hall:∀ g ∈ [zax ps x1.bits],g.okB 1000000000 700:=fun g hg=>by rw [bE.1 hg];exact za0.okB_mono (by decide) (by decide) _ (zkf hps _)
  have lah:[zax ps x1.bits].length<=3:=by simp
  obtain ⟨x9,hx9⟩:∃ z_:za0,(zfz s ps p (k:Int))[k]?=some z_:=⟨_,cG (by first | omega | (have:=dT hc3;omega))⟩;refine Jh 11 [(3,.call (LAll [zax ps x1.bits] (fun g hg=>za0.okB_mono (by decide) (by decide) _ (hall g hg)) (by omega))),(4,.g (xO 61 57 7 n9 k zfx (OV.tmp 58 _))),(5,.g (Op.storeR (t:=61) (n:=7) (i:=k) (fo:=0) (rty:=35) (es:=6) (r:=za0.d x9) (ds:=[.raw (.int .i64 (zca [zax ps x1.bits]).kind),.sl 3 ((zca [zax ps x1.bits]).r.t.parts.map za3.d),.raw (.bool (zca [zax ps x1.bits]).r.t.k.neg),nsl (zca [zax ps x1.bits]).r.t.k.abs,.raw (.bool (zca [zax ps x1.bits]).r.eq),.sl 6 ((zca [zax ps x1.bits]).kids.map za0.d)]) (rs:=[(60,vG [cI (zca [zax ps x1.bits]).kind,cPs (zca [zax ps x1.bits]).r.t.parts,cB (zca [zax ps x1.bits]).r.t.k.neg,.d (nsl (zca [zax ps x1.bits]).r.t.k.abs),cB (zca [zax ps x1.bits]).r.eq,cFs (zca [zax ps x1.bits]).kids])]) (rows:=(zfz s ps p (k:Int)).map za0.d) (rows':=((zfz s ps p (k:Int)).set k (zca [zax ps x1.bits])).map za0.d) zc0 (OV.tmp 60 _) rfl rfl rfl (za8 hx9 (f:=za0.d)) (by rw [za0.d_len];decide) (zc8 (xs:=(zfz s ps p (k:Int))) (F:=za0.d) k _ _ (by rw [za0.d_eq x9,za0.d_eq (zca [zax ps x1.bits])];rfl))))] [10,11,41] [] [8] [(7,.row 35 6 (((zfz s ps p (k:Int)).set k (zca [zax ps x1.bits])).map za0.d))] h fun a w h=>za7 (za2 (Jf 11 [(1,.sub .i64 (m:=(k:Int)) (n:=1) i6)] [] [(9,vI ((k:Int) - 1))] h fun a w h=>za2 ?_));replace h:=cvM [] [] [] [(7,.row 35 6 ((zfz s ps p ((k:Int) - 1)).map za0.d))] (by rw [<- show (((zfz s ps p (k:Int)).set k (zca [zax ps x1.bits])):List za0)=(zfz s ps p ((k:Int) - 1)) from (cndO_set (cnd_last s ps p.states p.acts hx1 (by have:=dF hc3;omega)))];kernel_rfl) h;refine zaa (x:=i) (y:=(k:Int) - 1) h ?_ ?_
  ·constructor <;> omega
  show ((k:Int) - 1+1).toNat<(i+1).toNat;omega
 refine exA (Jg 11 [] [1,3,5,7,8,9,25] [(6,vO 7 n9)] [5,6] [] h fun a w h=>qV ?_);have lcl:(zah s ps p.states p.acts).length=n9:=by rw [zf2];omega
 replace h:=cv (fun z_:List za0=>F.of [(6,vO 7 n9)] [(7,.row 35 6 (z_.map za0.d))]) (show ((zfz s ps p i):List za0)=(zah s ps p.states p.acts) from (cndO_end (by have:=dF hc4;omega))) (h.conv (by kernel_rfl));replace h:=zh5 7 6 35 ((zah s ps p.states p.acts).map za0.d) h [n9] ⟨by first | exact (bC _).symm | (simp;done) | (simp;omega),trivial⟩;refine rT (.c (cFs (zah s ps p.states p.acts))) h rfl ?_;rfl
def tgtB (r:za6):Bool:=((zag r).2 == 0) && (zbp (zag r).1 r == 0)
theorem LtightB (r:za6) (hr:TOk 400000000 9000 r.t):Fn Tryz.prog 51 [] [vG [cPs r.t.parts,cB r.t.k.neg,.d (nsl r.t.k.abs),cB r.eq]] (vb (tgtB r)) []:=by
 refine fB Tryz.func51 rfl 17 fun w H B a h=>Jq 0 [] [(1,vp 0 0),(2,vb false)] [(0,.box [cPs r.t.parts,cB r.t.k.neg,.d (nsl r.t.k.abs),cB r.eq])] h fun a w h=>Jg 1 [(1,.call (LTight r hr))] [] [(3,vp 1 0),(4,vI (zag r).2)] [] [(1,.box [cPs (zag r).1.t.parts,cB (zag r).1.t.k.neg,.d (nsl (zag r).1.t.k.abs),cB (zag r).1.eq])] h fun a w h=>?_
 rcases b9 ((zag r).2 == 0) with hc1 | hc2
 ·refine Jq 2 [(1,.cmp (op:=.eql) (m:=(zag r).2) (n:=0) (b:=true) .i64 hc1),(5,.call (LSame (zag r).1 r (tight_tok hr (by decide)) (hr.mono (bF _) (by decide)) (by decide) (by decide)))] [(2,vb (zbp (zag r).1 r == 0))] [] h fun a w h=>qV (rT (.c (cB (zbp (zag r).1 r == 0))) h rfl ?_);unfold tgtB;rw [hc1];try rfl
 refine Jq 2 [(1,.cmp (op:=.eql) (m:=(zag r).2) (n:=0) (b:=false) .i64 hc2)] [(2,vb false)] [] h fun a w h=>qV (rT (.c (cB false)) h rfl ?_);unfold tgtB;rw [hc2];try rfl
def wpX (r:Option Nat) (ds:List Deferred) (P:Program) (c:Code) (Q:Exit->Act->World->Prop) (a:Act) (w:World):Prop :=
  c.wpIn { Fence.wide with round:=r } 9 P (fun ex a' w'=>a'.defers=ds/\Q ex { a' with defers:=[] } w') { a with defers:=ds } w
section
variable {r:Option Nat} {ds:List Deferred} {P:Program} {Q:Exit->Act->World->Prop} {a:Act} {w:World}
theorem zgz (h:a.defers=ds):{ { a with defers:=[] } with defers:=ds }=a:=by cases a;cases h;rfl
theorem wpX_mono {c:Code} {Q':Exit->Act->World->Prop} (h:wpX r ds P c Q a w) (hq:∀ e a w,Q e a w->Q' e a w):wpX r ds P c Q' a w :=
 wpIn_mono h fun _ _ _ ⟨h1,h2⟩=>⟨h1,hq _ _ _ h2⟩
theorem wpX_seq {x:Code} (h:wpX r ds P x (Exit.then (fun a w=>wpX r ds P y Q a w) Q) a w):wpX r ds P (.seq x y) Q a w:=by
 refine wpIn_seq (wpIn_mono h fun e a' w' hq=>?_)
 obtain ⟨h1,h2⟩:=hq
 cases e with
 | normal =>
  have h2:wpX r ds P y Q { a' with defers:=[] } w':=h2
  unfold wpX at h2
  rw [zgz h1] at h2
  exact h2
 | _=>exact ⟨h1,h2⟩
theorem wpX_block {id:Nat} {c:Code} (h:wpX r ds P c (Exit.inBlock id Q) a w):wpX r ds P (.block id c) Q a w:=by
 refine wpIn_block (wpIn_mono h fun e a' w' hq=>?_)
 obtain ⟨h1,h2⟩:=hq
 cases e with
 | exit id' =>
  simp only [Exit.inBlock] at h2 ⊢
  split
  ·rename_i he;rw [if_pos he] at h2;exact ⟨h1,h2⟩
  ·rename_i he;rw [if_neg he] at h2;exact ⟨h1,h2⟩
 | _=>exact ⟨h1,h2⟩
theorem wpX_skip (hd:a.defers=[]) (h:Q .normal a w):wpX r ds P .skip Q a w:=wpIn_skip ⟨rfl,by cases a;cases hd;exact h⟩
theorem wpX_exit {id:Nat} (hd:a.defers=[]) (h:Q (.exit id) a w):wpX r ds P (.exit id) Q a w:=wpIn_exit ⟨rfl,by cases a;cases hd;exact h⟩
theorem wpX_ret (hd:a.defers=[]) (h:Q .ret a w):wpX r ds P .ret Q a w:=wpIn_ret ⟨rfl,by cases a;cases hd;exact h⟩
theorem condX {K:List Nat} {t:Nat} {x:Code} (b:Bool) (h:St ⟨w0,H0,B0,K,N⟩ (F.of sl lc) a w) (ht:(F.of sl lc).s t=some (vb b)) (hx:b=true->wpX r ds P x Q a w) (hy:b=false->wpX r ds P y Q a w):wpX r ds P (.cond (.tmp t) x y) Q a w:=by
 obtain ⟨H,B,hok⟩:=h
 have:=(hok.slot t _ ht).rawI
 exact wpIn_cond_split (t:=b) this hx hy
theorem loopX0 {ι:Type} {c:Code} (fs:ι->F) (μ:ι->Nat) (x:ι) (h:St e (fs x) a w) (round:∀ x a w,St e (fs x) a w->wpX r ds P c (Exit.then (fun a' w'=>∃ y,μ y<μ x/\St e (fs y) a' w') Q) a w):wpX r ds P (.loop c) Q a w:=by
 have key:∀ n x a w,μ x=n->St e (fs x) a w->∀ (b:Frame) (k:List Item) (cs:List Frame),b.roundOf=({ Fence.wide with round:=r }:Fence).round->({ Fence.wide with round:=r }:Fence).fn b.fn->({ Fence.wide with round:=r }:Fence).room (cs.length+1+9) ->
   ∃ en a' w', (a'.defers=ds/\Q en { a' with defers:=[] } w')/\ArrivesIn (Machine.fenced P { Fence.wide with round:=r }) P (lone (b.atR { a with defers:=ds } (.code c :: .inLoop c :: k)) cs w) b k cs en a' w':=by
  intro n
  induction n using Nat.strongRecOn with
  | _ n ih =>
   intro x a w hn hI b k cs hro hb hr
   obtain ⟨en,a₁,w₁,⟨hd,hq⟩,harr⟩:=round x a w hI b (.inLoop c :: k) cs hro hb hr
   cases en with
   | normal =>
    obtain ⟨y,hlt,hI₁⟩:=hq
    obtain ⟨e₂,a₂,w₂,hq₂,harr₂⟩:=ih (μ y) (hn ▸ hlt) y _ w₁ rfl hI₁ b k cs hro hb hr
    rw [zgz hd] at harr₂
    exact ⟨e₂,a₂,w₂,hq₂,.of_steps (StepsIn.trans harr (.one (fenced_calm hb hr rfl) stepR_inLoop)) harr₂⟩
   | exit id=>exact ⟨_,a₁,w₁,⟨hd,hq⟩,.pass (x:=.inLoop c) rfl (fun _ _ => .inl (by simp)) harr⟩
   | goto l=>exact ⟨_,a₁,w₁,⟨hd,hq⟩,.pass (x:=.inLoop c) rfl (fun _ _ => .inl (by simp)) harr⟩
   | ret=>exact ⟨_,a₁,w₁,⟨hd,hq⟩,.pass (x:=.inLoop c) rfl (fun _ _ => .inl (by simp)) harr⟩
   | panic ch=>exact ⟨_,a₁,w₁,⟨hd,hq⟩,.pass (x:=.inLoop c) rfl (fun _ _ => .inl (by simp)) harr⟩
   | outgrown=>exact ⟨_,a₁,w₁,⟨hd,hq⟩,.pass (x:=.inLoop c) rfl (fun _ _ => .inl (by simp)) harr⟩
 intro b k cs hro hb hr
 obtain ⟨en,a', w', hq,harr⟩:=key _ x a w rfl h b k cs hro hb hr
 exact ⟨en,a', w', hq,.of_steps (.one (fenced_calm hb hr rfl) stepR_loop) harr⟩
theorem loopX {K:List Nat} {ι:Type} {c:Code} (I:ι->Prop) (sls:ι->List (Nat × V)) (lcs:ι->List (Nat × L)) (μ:ι->Nat) (x:ι) (hI:I x) (h:St ⟨w0,H0,B0,K,N⟩ (F.of sl lc) a w)
  (h1:leS (F.of sl lc) (sls x)=(sls x).map fun p=>some p.2) (h2:leN (F.of sl lc) (lcs x)=(lcs x).map fun p=>some p.2)
  (round:∀ x a w,I x->St ⟨w0,H0,B0,K,N⟩ (F.of (sls x) (lcs x)) a w->wpX r ds P c (Exit.then (fun a' w'=>∃ y,(I y/\μ y<μ x)/\St ⟨w0,H0,B0,K,N⟩ (F.of (sls y) (lcs y)) a' w') Q) a w):wpX r ds P (.loop c) Q a w:=by
 refine loopX0 (ι:={x // I x}) (fun x=>F.of (sls x.1) (lcs x.1)) (fun x=>μ x.1) ⟨x,hI⟩ (h.weaken (zi5 h1 h2)) fun x a w hst=>wpX_mono (round x.1 a w x.2 hst) fun en a w hq=>?_
 cases en with
 | normal=>obtain ⟨y,⟨hy,hlt⟩,hst⟩:=hq;exact ⟨⟨y,hy⟩,hlt,hst⟩
 | _=>exact hq
theorem op_nil {o:Oper} (hK:∀ a w,K a w->a.defers=[]) (hQ:∀ e a w,Q e a w->e = .normal) (h:o.wp P a w K Q):a.defers=[]:=by
 unfold Oper.wp at h
 have hput:∀ v w', K (a.put o.dst v) w'->a.defers=[]:=fun v w' hk=>by
  have:=hK _ _ hk
  cases hd:o.dst <;> rw [hd] at this <;> exact this
 cases hr:(execOp a.eval o).run P w with
 | ok x w' =>
  rw [hr] at h
  cases x with
  | value v=>exact hput _ _ h
  | skip=>exact hput _ _ h
  | defer d =>
   have:=hK _ _ h
   cases hd:o.dst <;> rw [hd] at this <;> simp [Act.put] at this
  | enter f args =>
   obtain ⟨e,w'', fr,he,_⟩:=(show Calls P f args w' _ from h) []
   cases e with
   | returned v=>exact hput _ _ he
   | panicked chain=>cases hQ _ _ _ he
   | outgrown=>obtain ⟨_,_,h2⟩:=he;cases hQ _ _ _ h2
  | row row args =>
   obtain ⟨v,w'', he,_⟩:=(show Rows P row args w' _ from h) default []
   exact hput _ _ he
  | _=>exact h.elim
 | halt x w' =>
  rw [hr] at h
  cases x with
  | panic v=>cases hQ _ _ _ h
  | _=>exact h.elim
theorem opI_nil {i:Nat} (hK:∀ a w,K a w->a.defers=[]) (hQ:∀ e a w,Q e a w->e = .normal) (h:wpOp P ops Q i K a w):a.defers=[]:=by
 unfold wpOp at h
 cases ho:ops[i]? with
 | none=>rw [ho] at h;exact hK _ _ h
 | some o =>
  rw [ho] at h
  dsimp only at h
  split at h
  ·exact op_nil hK hQ (h.resolve_right fun ⟨_,h2⟩=>by obtain ⟨a2,w2,h2⟩:=h2;cases hQ _ _ _ h2)
  ·have:=hK _ _ h
   cases hd:o.dst <;> rw [hd] at this <;> exact this
theorem ops_nil (hQ:∀ e a w,Q e a w->e = .normal/\a.defers=[]):∀ (l:List Nat) (a:Act) (w:World),wpOps P ops Q l a w->a.defers=[]
 | [],a,w,h=>(hQ _ _ _ h).2
 | i :: l,a,w,h=>by rw [wpOps_cons] at h;exact opI_nil (ops_nil hQ l) (fun e a w h=>(hQ e a w h).1) h
theorem any_nil {md:Region.Mode} (hQ:∀ e a w,Q e a w->e = .normal/\a.defers=[]):∀ (fuel:Nat) (listed:Array Bool) (a:Act) (w:World),wpAny P md ops Q fuel listed a w->a.defers=[]
 | 0,_,a,w,h=>(hQ _ _ _ h.2).2
 | fuel+1,listed,a,w,h=>by
  cases hr:Region.ready md ops listed with
  | nil=>exact (hQ _ _ _ (h.1 hr)).2
  | cons i l=>exact opI_nil (any_nil hQ fuel _) (fun e a w h=>(hQ e a w h).1) (h.2 i (by rw [hr];simp))
theorem opX {o:Oper} {K':Act->World->Prop} (hnd:∀ c,o.op ≠ .defer c) (ha:a.defers=[]) (hK:∀ a w,K a w->a.defers=[]) (hK':∀ a w,a.defers=ds->K { a with defers:=[] } w->K' a w) (hQ:∀ a w,¬ Q .outgrown a w) (h:o.wp P a w K Q) :
  o.wpIn { Fence.wide with round:=r } 9 P { a with defers:=ds } w K' (fun ex a' w'=>a'.defers=ds/\Q ex { a' with defers:=[] } w'):=by
 refine ⟨fun _ _=>trivial,?_⟩
 rw [Oper.semAt_eq _ _ _ hnd]
 unfold Oper.wp at h
 have he:({ a with defers:=ds }:Act).eval=a.eval:=by funext x;cases x <;> rfl
 rw [he]
 have hput:∀ v w', K (a.put o.dst v) w'->K' (({ a with defers:=ds }:Act).put o.dst v) w':=by
  intro v w' hk
  refine hK' _ _ ?_ ?_
  ·cases o.dst <;> rfl
  ·have:({ (({ a with defers:=ds }:Act).put o.dst v) with defers:=[] }:Act)=a.put o.dst v:=by
    cases a;cases ha;cases o.dst <;> rfl
   rw [this];exact hk
 generalize (execOp a.eval o).run P w=res at h
 have hbare:({ ({ a with defers:=ds }:Act) with defers:=[] }:Act)=a:=by cases a;cases ha;rfl
 cases res with
 | ok x w' =>
  cases x with
  | value v=>exact hput _ _ h
  | skip=>exact hput _ _ h
  | defer d =>
   have:=hK _ _ h
   cases hd:o.dst with
   | none=>rw [hd] at this;simp [Act.put] at this
   | some q=>rw [hd] at this;simp [Act.put] at this
  | enter f args =>
   have h:Calls P f args w' _:=h
   refine ⟨fun h=>(by cases h),?_⟩
   refine CallsIn.mono (show CallsIn { Fence.wide with round:=r } (9 - 1) P f args w' _ from callsIn_wide.2 h) ?_
   intro e w'' he
   cases e with
   | returned v=>exact hput _ _ he
   | panicked chain=>exact ⟨rfl,by rw [hbare];exact he⟩
   | outgrown=>obtain ⟨a2,w2,h2⟩:=he;exact absurd h2 (hQ _ _)
  | row row args =>
   have h:Rows P row args w' _:=h
   refine ⟨fun h=>(by cases h),fun c cs _=>?_⟩
   obtain ⟨v,w'', h1,h2⟩:=h c cs
   exact ⟨v,w'', hput _ _ h1,(stepsIn_wide (P:=P)).2 h2⟩
  | _=>exact h.elim
 | halt x w' =>
  cases x with
  | panic v=>exact ⟨rfl,by rw [hbare];exact h⟩
  | _=>exact h.elim
theorem opIX {i:Nat} {K':Act->World->Prop} (hnd:∀ o ∈ ops,∀ c,o.op ≠ .defer c) (hK:∀ a w,K a w->a.defers=[]) (hK':∀ a w,a.defers=ds->K { a with defers:=[] } w->K' a w) (hQ:∀ e a w,Q e a w->e = .normal) (h:wpOp P ops Q i K a w) :
  wpOpIn { Fence.wide with round:=r } 9 P ops (fun ex a' w'=>a'.defers=ds/\Q ex { a' with defers:=[] } w') i K' { a with defers:=ds } w:=by
 have ha:=opI_nil hK hQ h
 unfold wpOp at h
 unfold wpOpIn
 cases ho:ops[i]? with
 | none=>rw [ho] at h;exact hK' _ _ rfl (by cases a;cases ha;exact h)
 | some o =>
  rw [ho] at h
  dsimp only at h ⊢
  by_cases hw:Region.wanted o (yielded ops a.tmps)=true
  ·rw [if_pos hw] at h
   rw [if_pos hw]
   have h:=h.resolve_right fun ⟨_,h2⟩=>by obtain ⟨a2,w2,h2⟩:=h2;cases hQ _ _ _ h2
   exact opX (hnd o (Array.mem_of_getElem? ho)) ha hK hK' (fun a w hq=>by cases hQ _ _ _ hq) h
  ·rw [if_neg hw] at h
   rw [if_neg hw]
   refine ⟨fun _ _=>trivial,hK' _ _ ?_ ?_⟩
   ·cases o.dst <;> rfl
   ·have:({ (({ a with defers:=ds }:Act).put o.dst undef) with defers:=[] }:Act)=a.put o.dst undef:=by
     cases a;cases ha;cases o.dst <;> rfl
    rw [this];exact h
theorem opsX (hnd:∀ o ∈ ops,∀ c,o.op ≠ .defer c) (hQ:∀ e a w,Q e a w->e = .normal/\a.defers=[]):∀ (l:List Nat) (a:Act) (w:World),wpOps P ops Q l a w ->
  wpOpsIn { Fence.wide with round:=r } 9 P ops (fun ex a' w'=>a'.defers=ds/\Q ex { a' with defers:=[] } w') l { a with defers:=ds } w
 | [],a,w,h=>⟨rfl,by have ha:=(hQ _ _ _ h).2;cases a;cases ha;exact h⟩
 | i :: l,a,w,h=>by
  rw [wpOps_cons] at h
  rw [wpOpsIn_cons]
  exact opIX hnd (ops_nil hQ l) (fun a w hd hk=>by have:=opsX hnd hQ l _ w hk;rw [zgz hd] at this;exact this) (fun e a w h=>(hQ e a w h).1) h
theorem anyX {md:Region.Mode} (hnd:∀ o ∈ ops,∀ c,o.op ≠ .defer c) (hQ:∀ e a w,Q e a w->e = .normal/\a.defers=[]):∀ (fuel:Nat) (listed:Array Bool) (a:Act) (w:World),wpAny P md ops Q fuel listed a w ->
  wpAnyIn { Fence.wide with round:=r } 9 P md ops (fun ex a' w'=>a'.defers=ds/\Q ex { a' with defers:=[] } w') fuel listed { a with defers:=ds } w
 | 0,_,a,w,h=>⟨h.1,rfl,by have ha:=(hQ _ _ _ h.2).2;cases a;cases ha;exact h.2⟩
 | fuel+1,listed,a,w,h=>by
  refine ⟨fun h0=>⟨rfl,?_⟩,fun i hi=>?_⟩
  ·have h1:=h.1 h0
   have ha:=(hQ _ _ _ h1).2
   cases a;cases ha;exact h1
  ·exact opIX hnd (any_nil hQ fuel _) (fun a w hd hk=>by have:=anyX hnd hQ fuel _ _ w hk;rw [zgz hd] at this;exact this) (fun e a w h=>(hQ e a w h).1) (h.2 i hi)
end
def noDefer (o:Oper):Bool:=match o.op with | .defer _=>false | _=>true
section
variable {r:Option Nat} {ds:List Deferred} {P:Program} {Q:Exit->Act->World->Prop} {w0:World} {H0:Im} {B0:Bl} {K:List Nat} {N:Nat}
theorem wpX_region_S (hnd:∀ o ∈ ops,∀ c,o.op ≠ .defer c) {id:Nat} {f:F} (is:List I) (g:F) (hm:P.follows .mixedOrders=true) (hpo:pairsOk draw ops.toList is=true)
  (hdo:∀ k o,ops[k]?=some o->Does P ops o (at_ is k)) (hb:∀ k,FitsE e (at_ is k)) (hn:∀ k,∀ n ∈ (at_ is k).nw,New e.K f n)
  (hr:RunL is f (List.range ops.size) g) (h:St e f a w) (hQ:∀ a w,St e g a w->Q .normal a w):wpX r ds P (Code.region id ops draw) Q a w:=by
 have hN:∀ (ex:Exit) (a:Act) (w:World),(ex = .normal/\St e g a w)->ex = .normal/\a.defers=[]:=fun ex a w h=>⟨h.1,by obtain ⟨_,H,B,hok⟩:=h;exact hok.df⟩
 refine wpX_mono (Q:=fun ex a w=>ex = .normal/\St e g a w) ?_ (fun ex a w h=>by obtain ⟨rfl,h⟩:=h;exact hQ a w h)
 cases draw with
 | false =>
  refine wpIn_region (opsX hnd hN _ _ _ (wpOps_run hdo hb (fun a w h=>⟨rfl,h⟩) _ f a w (fun k hk=>dA.1 hk) ?_ (fun k _=>hn k) hr h))
  refine List.Pairwise.imp_of_mem ?_ List.pairwise_lt_range
  intro j k hj hk hjk
  exact ((zf9 hpo (k:=k) (by simpa using dA.1 hk)).2 j hjk).1
 | true =>
  refine wpIn_region_any hm (anyX hnd hN _ _ _ _ (wpAny_run hdo hb (fun a w h=>⟨rfl,h⟩) hpo _ _ f a _ (by simp) ?_ ?_ (fun k _=>hn k) ?_ h.drew))
  ·intro k o ho hl
   have hks:=(cH.1 ho).1
   simp [cC, hks] at hl
  ·refine bN (List.length_filter_le _ _) (by simp)
  ·have:left (Array.replicate ops.size false) ops.size=List.range ops.size:=by
    unfold left
    refine List.filter_eq_self.2 fun k hk=>?_
    have:=dA.1 hk
    simp [cC, this]
   rw [this]
   exact hr
theorem regionX (hnd:ops.toList.all noDefer=true) {id:Nat} (is:List I) (sl':List (Nat × V)) (lc':List (Nat × L)) (hm:P.follows .mixedOrders=true)
  (hdo:AllDo P ops ops.toList is) (hc:chk draw ops.toList is N K sl lc=true) (h1:runS (F.of sl lc) is=wantS is) (h2:runN (F.of sl lc) is=wantN is)
  (h3:leS (runF (F.of sl lc) is) sl'=sl'.map fun p=>some p.2) (h4:leN (runF (F.of sl lc) is) lc'=lc'.map fun p=>some p.2)
  (h:St ⟨w0,H0,B0,K,N⟩ (F.of sl lc) a w) (hQ:∀ a w,St ⟨w0,H0,B0,K,N⟩ (F.of sl' lc') a w->Q .normal a w):wpX r ds P (Code.region id ops draw) Q a w:=by
 simp only [chk,cD] at hc
 obtain ⟨⟨⟨c1,c2⟩,c3⟩,c4⟩:=hc
 have hmem:∀ k,at_ is k ∈ is\/at_ is k={}:=by
  intro k
  unfold at_
  rw [List.getD_eq_getElem?_getD]
  cases hk:is[k]? with
  | none=>exact .inr rfl
  | some x=>exact .inl (cQ hk)
 refine wpX_region_S (fun o ho c hc=>by have:=bU.1 hnd o (by simpa using ho);unfold noDefer at this;rw [hc] at this;cases this) is (F.of sl' lc') hm c1 (fun k o ho=>hdo.get k o (by simpa using ho)) ?_ ?_ ?_ h hQ
 ·intro k
  refine ⟨fun p hp=>?_,fun h0=>?_⟩
  ·rcases hmem k with hk | hk
   ·have:=bU.1 (bU.1 c2 _ hk) p hp
    simpa [Nat.blt_eq] using this
   ·rw [hk] at hp;cases hp
  ·rcases hmem k with hk | hk
   ·have:=bU.1 c4 _ hk
    rw [h0] at this
    simpa using this
   ·rw [hk] at h0;cases h0
 ·intro k n hn
  rcases hmem k with hk | hk
  ·exact zg6 (bU.1 (bU.1 c3 _ hk) n hn)
  ·rw [hk] at hn;cases hn
 ·have:=RunL.of (g:=F.of sl' lc') [] is (F.of sl lc) h1 h2 (zi5 h3 h4)
  have hl:=hdo.length
  simp only [List.nil_append,cM] at this
  rw [List.range_eq_range', <- Array.length_toList,hl]
  exact this
end
section
variable {r:Option Nat} {ds:List Deferred} {Q:Exit->Act->World->Prop} {w0:World} {H0:Im} {B0:Bl} {K:List Nat} {N:Nat}
theorem rSX {tb:Tb} (htb:zju Tryz.prog tb) {id:Nat} (nx:Nat) (cs:List (Nat × Orc Tryz.prog)) (sl':List (Nat × V)) (lc':List (Nat × L))
  (hnd:ops.toList.all noDefer=true)
  (hc:((gens ops.toList cs).map (·.1),(zez tb ops (F.of sl lc) nx 0 ops.toList cs).isSome,(zez tb ops (F.of sl lc) nx 0 ops.toList cs).map fun is=>Seen.mk (chk draw ops.toList is N K sl lc) (runS (F.of sl lc) is) (runN (F.of sl lc) is) (leS (runF (F.of sl lc) is) sl') (leN (runF (F.of sl lc) is) lc')) =
   ((gens ops.toList cs).map (·.2),true,(zez tb ops (F.of sl lc) nx 0 ops.toList cs).map fun is=>Seen.mk true (wantS is) (wantN is) (sl'.map fun p=>some p.2) (lc'.map fun p=>some p.2)))
  (h:St ⟨w0,H0,B0,K,N⟩ (F.of sl lc) a w) (hQ:∀ a w,St ⟨w0,H0,B0,K,N⟩ (F.of sl' lc') a w->Q .normal a w):wpX r ds Tryz.prog (Code.region id ops draw) Q a w:=by
 simp only [Prod.mk.injEq] at hc
 obtain ⟨hg,hs,hm⟩:=hc
 cases hi:zez tb ops (F.of sl lc) nx 0 ops.toList cs with
 | none=>rw [hi] at hs;cases hs
 | some is =>
  rw [hi] at hm
  simp only [Option.map_some,Option.some.injEq,Seen.mk.injEq] at hm
  exact regionX hnd is sl' lc' mixed (insts_ok htb hg _ _ _ _ _ rfl hi) hm.1 hm.2.1 hm.2.2.1 hm.2.2.2.1 hm.2.2.2.2 h hQ
theorem rSeqX {tb:Tb} (htb:zju Tryz.prog tb) {id:Nat} (nx:Nat) (cs:List (Nat × Orc Tryz.prog)) (sl':List (Nat × V)) (lc':List (Nat × L))
  (hnd:ops.toList.all noDefer=true)
  (hc:((gens ops.toList cs).map (·.1),(zez tb ops (F.of sl lc) nx 0 ops.toList cs).isSome,(zez tb ops (F.of sl lc) nx 0 ops.toList cs).map fun is=>Seen.mk (chk draw ops.toList is N K sl lc) (runS (F.of sl lc) is) (runN (F.of sl lc) is) (leS (runF (F.of sl lc) is) sl') (leN (runF (F.of sl lc) is) lc')) =
   ((gens ops.toList cs).map (·.2),true,(zez tb ops (F.of sl lc) nx 0 ops.toList cs).map fun is=>Seen.mk true (wantS is) (wantN is) (sl'.map fun p=>some p.2) (lc'.map fun p=>some p.2)))
  (h:St ⟨w0,H0,B0,K,N⟩ (F.of sl lc) a w) (hQ:∀ a w,St ⟨w0,H0,B0,K,N⟩ (F.of sl' lc') a w->wpX r ds Tryz.prog y Q a w):wpX r ds Tryz.prog (Code.seq (Code.region id ops draw) y) Q a w :=
 wpX_seq (rSX htb nx cs sl' lc' hnd hc h hQ)
end
def dat:Obj->Bool
  | .cells _ _ _ | .map _ _=>true
  | _=>false
theorem dat_cells (h:dat o=false):o.isCells=false:=by cases o <;> first | rfl | cases h
def LeC (H H':Im):Prop:=∀ b o,H b=some o->dat o=true->H' b=some o
section
variable {H H':Im} {B:Bl}
theorem DR.monoC (hl:LeC H H') {x:D} (h:DR H x v):DR H' x v:=by
 induction h with
 | raw v h=>exact .raw v h
 | nil es ao c h hc=>exact .nil es ao c h hc
 | sl es rows b o c arr ty fz vs hp hb hl2 hc hes hv _ ih=>exact .sl es rows b o c arr ty fz vs hp (hl _ _ hb rfl) hl2 hc hes hv ih
theorem AR.monoC (hl:LeC H H') {x:A} (h:AR H B x v):AR H' B x v:=by
 cases x with
 | d x=>exact DR.monoC hl h
 | ptr n o=>exact h
theorem CR.monoC (hl:LeC H H') {x:C} (h:CR H B x v):CR H' B x v:=by
 cases x with
 | d x=>exact DR.monoC hl h
 | ptr n o=>exact h
 | own n k=>exact h
 | el xs =>
  obtain ⟨b,o,arr,ty,fz,hb,hv,hx⟩:=h
  exact ⟨b,o,arr,ty,fz,hl _ _ hb rfl,hv,fun j hj=>let ⟨u,h1,h2⟩:=hx j hj;⟨u,h1,h2.monoC hl⟩⟩
 | fn f fs cs =>
  obtain ⟨vs,ws,hv,h1,h2⟩:=h
  exact ⟨vs,ws,hv,h1.mono fun a _ b=>AR.monoC hl,h2.mono fun a _ b=>AR.monoC hl⟩
 | sub n o len=>exact h
 | any=>exact h
 | mp n=>exact h
theorem TR.monoC (hl:LeC H H') {x:T} (h:TR H B x v):TR H' B x v:=by
 cases x with
 | c x=>exact CR.monoC hl h
 | agg cs =>
  obtain ⟨vs,hv,h1⟩:=h
  exact ⟨vs,hv,h1.mono fun a _ b=>CR.monoC hl⟩
theorem VR.monoC (hl:LeC H H') {x:V} (h:VR H B x v):VR H' B x v:=by
 cases x with
 | t x=>exact TR.monoC hl h
 | tup xs =>
  obtain ⟨vs,hv,h1⟩:=h
  exact ⟨vs,hv,h1.mono fun a _ b=>TR.monoC hl⟩
theorem LR.monoC (hl:LeC H H') {x:L} {w':World} (hw:∀ b c,B n=some (b,c)->w'.heap[b]?=w.heap[b]?) (h:LR H B w n x):LR H' B w' n x:=by
 cases x with
 | box cs =>
  obtain ⟨b,c,arr,ty,hb,hc,h1⟩:=h
  exact ⟨b,c,arr,ty,hb,(hw b c hb).trans hc,h1.mono fun a _ v=>CR.monoC hl⟩
 | row ty es rows =>
  simp only [LR] at h ⊢
  cases hb:B n with
  | none=>rw [hb] at h;exact h
  | some p =>
   obtain ⟨b,c⟩:=p
   rw [hb] at h
   obtain ⟨arr,h1,h2,h3,h4,h5,h6⟩:=h
   exact ⟨arr,(hw b c hb).trans h1,h2,h3,h4,h5,h6.mono fun a _ v=>DR.monoC hl⟩
 | rowc ty es rows =>
  simp only [LR] at h ⊢
  cases hb:B n with
  | none=>rw [hb] at h;exact h
  | some p =>
   obtain ⟨b,c⟩:=p
   rw [hb] at h
   obtain ⟨arr,h1,h2,h3,h4,h5,h6⟩:=h
   exact ⟨arr,(hw b c hb).trans h1,h2,h3,h4,h5,h6.mono fun a _ v=>CR.monoC hl⟩
 | bld ty x rest =>
  obtain ⟨b,c,v1,v2,vr,hb,hc,h1,h0,h2,h3⟩:=h
  exact ⟨b,c,v1,v2,vr,hb,(hw b c hb).trans hc,h1,h0,CR.monoC hl h2,h3.mono fun a _ v=>CR.monoC hl⟩
 | mp es =>
  obtain ⟨b,c,arr,cl,hb,hc,h1⟩:=h
  exact ⟨b,c,arr,cl,hb,(hw b c hb).trans hc,h1.mono fun a _ e h2=>⟨h2.1,h2.2.monoC hl⟩⟩
theorem LR.cells {x:L} {c:Nat} (h:LR H B w n x) (hb:B n=some (b,c)):∃ o,w.heap[b]?=some o/\dat o=true:=by
 cases x with
 | box cs=>obtain ⟨b', c', arr,ty,hb', hc,_⟩:=h;rw [hb] at hb';cases hb';exact ⟨_,hc,rfl⟩
 | row ty es rows =>
  simp only [LR] at h
  rw [hb] at h
  obtain ⟨arr,h1,_⟩:=h
  exact ⟨_,h1,rfl⟩
 | rowc ty es rows =>
  simp only [LR] at h
  rw [hb] at h
  obtain ⟨arr,h1,_⟩:=h
  exact ⟨_,h1,rfl⟩
 | bld ty x rest=>obtain ⟨b', c', v1,v2,vr,hb', hc,_⟩:=h;rw [hb] at hb';cases hb';exact ⟨_,hc,rfl⟩
 | mp es=>obtain ⟨b', c', arr,cl,hb', hc,_⟩:=h;rw [hb] at hb';cases hb';exact ⟨_,hc,rfl⟩
end
def cutH (H1 H:Im):Im:=fun b=>match H b with
  | some o=>if dat o || (H1 b).isSome then some o else none
  | none=>none
theorem cutH_some (h:cutH H1 H b=some o):H b=some o/\(dat o=true\/(H1 b).isSome=true):=by
 unfold cutH at h
 cases hb:H b with
 | none=>rw [hb] at h;cases h
 | some o' =>
  rw [hb] at h
  dsimp only at h
  split at h
  ·rename_i hc;cases h;exact ⟨rfl,by simpa using hc⟩
  ·cases h
theorem cutH_leC (H1 H:Im):LeC H (cutH H1 H):=fun b o h ho=>by unfold cutH;rw [h];dsimp only;rw [ho];rfl
theorem cutH_none (h:H b=none):cutH H1 H b=none:=by unfold cutH;rw [h]
theorem zj5 (h:H b=some o) (h1:(H1 b).isSome=true):cutH H1 H b=some o:=by unfold cutH;rw [h];dsimp only;rw [h1,Bool.or_true];rfl
theorem TabH.back {Hx:Im} (h:∀ b o,Hx b=some o->H1 b=some o\/o.isCells=false) (ht:TabH Hx):TabH H1:=by
 have _:=h;have _:=ht;exact trivial
def zef (H M:Im):Im:=fun b=>match H b with
  | some o=>some o
  | none=>M b
theorem zk7 (H M:Im):Le H (zef H M):=fun b o h=>by unfold zef;rw [h]
theorem zgx {M:Im} (h:zef H M b=some o):H b=some o\/(H b=none/\M b=some o):=by
 unfold zef at h
 cases hb:H b with
 | none=>rw [hb] at h;exact .inr ⟨rfl,h⟩
 | some o'=>rw [hb] at h;exact .inl h
def Clean (H1 H:Im):Prop:=∀ b o,H b=some o->H1 b=some o\/dat o=true
section
variable {w0:World} {Hx H1 H:Im} {B0 B:Bl} {K:List Nat} {N:Nat} {f:F} {a:Act} {w:World}
theorem Ok.cut (h:Ok ⟨w0,Hx,B0,K,N⟩ f H B a w) (h1:Le H1 Hx) (h2:∀ b o,Hx b=some o->H1 b=some o\/dat o=false):Ok ⟨w0,H1,B0,K,N⟩ f (cutH H1 H) B a w/\Clean H1 (cutH H1 H):=by
 have hc:LeC H (cutH H1 H):=cutH_leC H1 H
 refine ⟨⟨h.df,h.n,h.ext,fun b o hb=>h.sat b o (cutH_some hb).1,fun t v hv=>VR.monoC hc (h.slot t v hv),fun n l hn=>LR.monoC hc (fun _ _ _=>rfl) (h.loc n l hn),?_,h.inj,?_,?_,h.keep,TabH.back (fun b o hb=>(h2 b o hb).imp id dat_cells) h.tab⟩,?_⟩
 ·intro n l b c hn hb
  obtain ⟨p1,p2,p3⟩:=h.priv n l b c hn hb
  exact ⟨p1,cutH_none p2,p3⟩
 ·intro b hb
  have hlow:H b=Hx b:=h.low b hb
  cases hx:Hx b with
  | none =>
   rw [hx] at hlow
   rw [cutH_none hlow]
   cases h1b:H1 b with
   | none=>exact h1b.symm
   | some o=>have:=h1 b o h1b;rw [hx] at this;cases this
  | some o =>
   rw [hx] at hlow
   rcases h2 b o hx with h3 | h3
   ·rw [zj5 hlow (by rw [h3];rfl)];exact h3.symm
   ·cases h1b:H1 b with
    | none=>unfold cutH;rw [hlow];dsimp only;rw [h3,h1b];rfl
    | some o'=>rw [zj5 hlow (by rw [h1b];rfl)];have:=h1 b o' h1b;rw [hx] at this;exact this.trans h1b.symm
 ·intro b o hb
  exact zj5 (h.le b o (h1 b o hb)) (by show (H1 b).isSome=true;rw [show H1 b=some o from hb];rfl)
 ·intro b o hb
  obtain ⟨h3,h4⟩:=cutH_some hb
  rcases h4 with h4 | h4
  ·exact .inr h4
  ·obtain ⟨o', h5⟩:=dJ.1 h4
   have:=h.le b o' (h1 b o' h5)
   rw [h3] at this
   cases this
   exact .inl h5
theorem Ok.join (h:Ok ⟨w0,H1,B0,K,N⟩ f H B a w) (M:Im) (hM:∀ b o,M b=some o->w.heap[b]?=some o/\dat o=false):Ok ⟨w0,zef H1 M,B0,K,N⟩ f (zef H M) B a w:=by
 have hl:=zk7 H M
 refine ⟨h.df,h.n,h.ext,?_,fun t v hv=>VR.mono hl (fun _ _=>rfl) (h.slot t v hv),fun n l hn=>LR.mono hl rfl (fun _ _=>rfl) (fun _ _ _=>rfl) (h.loc n l hn),?_,h.inj,?_,?_,h.keep,h.tab.mono (zk7 H1 M)⟩
 ·intro b o hb
  rcases zgx hb with h1 | ⟨_,h1⟩
  ·exact h.sat b o h1
  ·exact (hM b o h1).1
 ·intro n l b c hn hb
  obtain ⟨p1,p2,p3⟩:=h.priv n l b c hn hb
  refine ⟨p1,?_,p3⟩
  unfold zef
  rw [p2]
  show M b=none
  cases hm:M b with
  | none=>rfl
  | some o =>
   obtain ⟨h1,h2⟩:=hM b o hm
   obtain ⟨o', h3,h4⟩:=(h.loc n l hn).cells hb
   rw [h1] at h3;cases h3;rw [h2] at h4;cases h4
 ·intro b hb
  have:H b=H1 b:=h.low b hb
  show zef H M b=zef H1 M b
  unfold zef;rw [this]
 ·intro b o hb
  show zef H M b=some o
  rcases zgx hb with h1 | ⟨h0,h1⟩
  ·exact hl b o (h.le b o h1)
  ·cases hx:H b with
   | none=>unfold zef;rw [hx];exact h1
   | some o'=>unfold zef;rw [hx];have:=h.sat b o' hx;rw [(hM b o h1).1] at this;exact this.symm
def StC (w0:World) (H1:Im) (B0:Bl) (K:List Nat) (N:Nat) (f:F) (a:Act) (w:World):Prop:=∃ H B,Ok ⟨w0,H1,B0,K,N⟩ f H B a w/\Clean H1 H
theorem StC.st (h:StC w0 H1 B0 K N f a w):St ⟨w0,H1,B0,K,N⟩ f a w:=let ⟨H,B,h,_⟩:=h;⟨H,B,h⟩
theorem StC.of (h:St ⟨w0,Hx,B0,K,N⟩ f a w) (h1:Le H1 Hx) (h2:∀ b o,Hx b=some o->H1 b=some o\/dat o=false):StC w0 H1 B0 K N f a w:=let ⟨_,B,h⟩:=h;⟨_,B,h.cut h1 h2⟩
theorem St.join (h:St ⟨w0,H1,B0,K,N⟩ f a w) (M:Im) (hM:∀ b o,M b=some o->w.heap[b]?=some o/\dat o=false):St ⟨w0,zef H1 M,B0,K,N⟩ f a w:=let ⟨_,B,h⟩:=h;⟨_,B,h.join M hM⟩
theorem StC.turn (h:StC w0 H1 B0 K N f a w) {w':World} {r:Nat} {z:Nat} (hos:w'.os=w.os) (htape:w'.tape=w.tape) (hout:w'.output=w.output) (hsize:w.heap.size<=w'.heap.size)
  (hblock:∀ b,b<w.heap.size->b≠r->w'.heap[b]?=w.heap[b]?) (hz:w0.heap.size<=z) (hr:z<=r) (hro:∀ o,w.heap[r]?=some o->dat o=false) (h1:∀ b o,H1 b=some o->b<z):StC w0 H1 B0 K N f a w':=by
 obtain ⟨H,B,h,hcl⟩:=h
 have hne:∀ b o,H b=some o->b≠r:=fun b o hb e=>by
  subst e
  rcases hcl b o hb with h2 | h2
  ·have:=h1 b o h2;omega
  ·have:=hro o (h.sat b o hb);rw [h2] at this;cases this
 have hown:∀ n l b c,f.l n=some l->B n=some (b,c)->w'.heap[b]?=w.heap[b]?:=fun n l b c hn hb=>by
  obtain ⟨o', h3,h4⟩:=(h.loc n l hn).cells hb
  refine hblock b (h.priv n l b c hn hb).1 fun e=>?_
  subst e
  have:=hro _ h3
  rw [h4] at this
  cases this
 refine ⟨H,B,⟨h.df,h.n,⟨hos.trans h.ext.os,htape.trans h.ext.tape,hout.trans h.ext.output,bN h.ext.size hsize,fun b hb hm=>?_⟩,?_,h.slot,?_,?_,h.inj,h.low,h.le,h.keep,h.tab⟩,hcl⟩
 ·have hb:b<w0.heap.size:=hb
  exact (hblock b (cW hb h.ext.size) (by omega)).trans (h.ext.block b hb hm)
 ·intro b o hb
  have hs:=h.sat b o hb
  exact (hblock b (cH.1 hs).1 (hne b o hb)).trans hs
 ·intro n l hn
  exact LR.mono (Le.refl _) rfl (fun _ _=>rfl) (fun b c hb=>hown n l b c hn hb) (h.loc n l hn)
 ·intro n l b c hn hb
  obtain ⟨p1,p2,p3⟩:=h.priv n l b c hn hb
  exact ⟨cW p1 hsize,p2,p3⟩
end
theorem wpIn_depth {F:Fence} {c:Code} {Q:Exit->Act->World->Prop} (hd:F.depth=none) (h:c.wpIn F n P Q a w):c.wpIn F m P Q a w :=
 fun b k cs hro hb _=>h b k cs hro hb fun d h1=>by rw [hd] at h1;cases h1
def IterOk (P:Program) (gf:Nat) (xs:D) (m:Nat) (e:Nat->V × V):Prop :=
  ∀ (H1:Im) (Bs:Nat) (sv:Value) (ty:TypeId),H1 Bs=some (.cells #[sv] ty (0,0))->DR H1 xs sv ->
    ∃ ev:Nat->Value × Value,(∀ B j,j<m->VR H1 B (e j).1 (ev j).1/\VR H1 B (e j).2 (ev j).2) /\
      ∀ (l:Nat) (J:Nat->World->Prop) (W:World),(∀ j W,J j W->∀ b o,H1 b=some o->W.heap[b]?=some o) ->
        (∀ j W1,J j W1->j<m->YieldAt Fence.wide 7 P l #[(ev j).1,(ev j).2] W1 fun en W'=>en = .returned (.bool true)/\J (j+1) W') ->
        J 0 W->CallsIn Fence.wide 8 P gf #[.func (.yield l) #[] #[],.pointer (some ⟨Bs,0,none⟩)] W fun en W'=>(∃ v,en = .returned v)/\J m W'
theorem St.fix {f:F} {xs:D} (Kn:List Nat) (h:St ⟨w0,H0,B0,[],N⟩ f a w) (hl:f.l n=some (.box [.d xs])) :
  ∃ (H1:Im) (Bx:Bl) (Bs:Nat) (sv:Value) (ty:TypeId),Le H0 H1/\(∀ b,b<w0.heap.size->H1 b=H0 b)/\H1 Bs=some (.cells #[sv] ty (0,0))/\DR H1 xs sv /\
   (∀ t gf,f.s t=some (.t (.c (.fn (.func gf) [] [.ptr n 0])))->a.tmps.getD t undef = .func (.func gf) #[] #[.pointer (some ⟨Bs,0,none⟩)]) /\
   (∀ m l b c,f.l m=some l->Bx m=some (b,c)->w0.heap.size<=b)/\(∀ t v,f.s t=some v->VR H1 Bx v (a.tmps.getD t undef)) /\
   Ok ⟨w0,H1,Bx,Kn,N⟩ ⟨f.s,fun m=>if m=n then none else f.l m⟩ H1 Bx a w:=by
 obtain ⟨H,B,h⟩:=h
 obtain ⟨Bs,c,arr,ty,hB,hc,hx⟩:=h.loc n _ hl
 match arr,hx with
 | [sv],hx =>
 obtain ⟨p1,p2,p3⟩:=h.priv n _ Bs c hl hB
 have hnm:∀ b,¬ (⟨w0,H0,B0,[],N⟩:E).may b:=fun b hb=>by obtain ⟨m,hm,_⟩:=hb;cases hm
 have p4:w0.heap.size<=Bs:=p3.resolve_left (hnm _)
 have hle:Le H (fun b=>if b=Bs then some (.cells #[sv] ty (0,0)) else H b):=fun b o hb=>by
  by_cases e:b=Bs
  ·subst e;rw [p2] at hb;cases hb
  ·simp only [if_neg e];exact hb
 refine ⟨fun b=>if b=Bs then some (.cells #[sv] ty (0,0)) else H b,B,Bs,sv,ty,h.le.trans hle,fun b hb=>?_,by simp,DR.mono hle hx.1,fun t gf ht=>?_,fun m l b c hm hb=>(h.priv m l b c hm hb).2.2.resolve_left (hnm _),fun t v hv=>VR.mono hle (fun _ _=>rfl) (h.slot t v hv),?_⟩
 ·have:b≠Bs:=by omega
  simp only [if_neg this]
  exact h.low b hb
 ·obtain ⟨vs,ws,hv,h1,h2⟩:=h.slot t _ ht
  match vs,ws,h1,h2 with
  | [],[u],_,h2 =>
  obtain ⟨b', c', hb', hu⟩:=h2.1
  rw [hB] at hb';cases hb'
  rw [hv,hu]
 ·refine ⟨h.df,h.n,⟨h.ext.os,h.ext.tape,h.ext.output,h.ext.size,fun b hb _=>h.ext.block b hb (hnm _)⟩,?_,fun t v hv=>VR.mono hle (fun _ _=>rfl) (h.slot t v hv),?_,?_,?_,fun _ _=>rfl,Le.refl _,fun _ _=>rfl,(h.tab.mono h.le).mono hle⟩
  ·intro b o hb
   by_cases e:b=Bs
   ·subst e;simp only [if_true] at hb;cases hb;exact hc
   ·simp only [if_neg e] at hb;exact h.sat b o hb
  ·intro m l hm
   by_cases e:m=n
   ·simp [e] at hm
   ·simp only [if_neg e] at hm
    exact LR.mono hle rfl (fun _ _=>rfl) (fun _ _ _=>rfl) (h.loc m l hm)
  ·intro m l b c' hm hb
   by_cases e:m=n
   ·simp [e] at hm
   ·simp only [if_neg e] at hm
    obtain ⟨q1,q2,q3⟩:=h.priv m l b c' hm hb
    refine ⟨q1,?_,.inr (q3.resolve_left (hnm _))⟩
    have:b≠Bs:=fun e2=>by subst e2;exact e (h.inj m n _ _ b _ _ hm hl hb hB)
    simp only [if_neg this]
    exact q2
  ·intro m m' l l' b c1 c2 hm hm' hb hb'
   by_cases e:m=n
   ·simp [e] at hm
   by_cases e':m'=n
   ·simp [e'] at hm'
   simp only [if_neg e] at hm
   simp only [if_neg e'] at hm'
   exact h.inj m m' l l' b c1 c2 hm hm' hb hb'
theorem RetQ.low {ps:List (Nat × L)} {en:Ending} (hle:Le H0 H1) (hlow:∀ b,b<w0.heap.size->H1 b=H0 b)
  (h:RetQ ⟨w0,H1,B0,ps.map (·.1),N⟩ ps res qs en w):RetQ ⟨w0,H0,B0,ps.map (·.1),N⟩ ps res qs en w:=by
 obtain ⟨v,H', B', he,hp⟩:=h
 exact ⟨v,H', B', he,Le.trans hle hp.le,fun b hb=>(hp.low b hb).trans (hlow b hb),hp.sat,hp.loc,hp.priv,hp.inj,hp.keep,hp.res,hp.ext⟩
def RetX (P:Program) (fn:Func) (e:E) (res:V) (qs:List (Nat × L)) (ex:Exit) (a:Act) (w:World):Prop :=
  (ex = .ret\/ex = .normal)/\∃ rs f xs,fn.results=⟨rs⟩/\St e f a w/\zb8 (RV P f) rs xs/\resOf xs=res/\(∀ q ∈ qs,f.l q.1=some q.2)/\(res.tags++qs.flatMap fun q=>q.2.tags).all (hasN (qs.map (·.1)))=true
theorem retX {K:List Nat} {rs:List ResultVar} (xs:List T) (h:St ⟨w0,H0,B0,K,N⟩ (F.of sl lc) a w) (n:Exit) (hn:n = .ret\/n = .normal) (hf:fn.results=⟨rs⟩) (hx:zb8 (RV P (F.of sl lc)) rs xs) (hres:resOf xs=res)
  (hq:leN (F.of sl lc) qs=qs.map fun p=>some p.2) (ht:(res.tags++qs.flatMap fun q=>q.2.tags).all (hasN (qs.map (·.1)))=true):RetX P fn ⟨w0,H0,B0,K,N⟩ res qs n a w :=
 ⟨hn,rs,F.of sl lc,xs,hf,h,hx,hres,fun q hq1=>zcc hq q hq1,ht⟩
def markH (Dd:Nat):Im:=fun b=>if b=Dd then some (.deferred (some [])) else none
theorem leave_mark {ps:List (Nat × L)} {Dd:Nat} (hle:Le H0 H1) (hlow:∀ b,b<w0.heap.size->H1 b=H0 b) (hD:w0.heap.size<=Dd) (hD1:∀ b o,H1 b=some o->b<Dd) {ex:Exit}
  (hd:a.defers=[{ target:=.collected Dd,args:=#[] }]) (h:RetX P fn ⟨w0,zef H1 (markH Dd),B0,ps.map (·.1),N⟩ res qs ex { a with defers:=[] } w) :
  bodyPostM Fence.wide 9 P fn (RetQ ⟨w0,H0,B0,ps.map (·.1),N⟩ ps res qs) ex a w:=by
 obtain ⟨hn,rs,f,xs,hf,hst,hx,hres,hq,ht⟩:=h
 have hH1:H1 Dd=none:=by
  cases h1:H1 Dd with
  | none=>rfl
  | some o=>have:=hD1 _ _ h1;omega
 have hJ:zef H1 (markH Dd) Dd=some (.deferred (some [])):=by unfold zef markH;rw [hH1];simp
 have hw:w.heap[Dd]?=some (.deferred (some [])):=by
  obtain ⟨H,B,hok⟩:=hst
  exact hok.sat _ _ (hok.le _ _ hJ)
 have hc:StC w0 H1 B0 (ps.map (·.1)) N f { a with defers:=[] } w:=StC.of hst (zk7 _ _) fun b o hb=>by
  rcases zgx hb with h1 | ⟨_,h1⟩
  ·exact .inl h1
  ·unfold markH at h1
   split at h1
   ·cases h1;exact .inr rfl
   ·cases h1
 have hc2:=(hc.turn (w':=w.putObj Dd (.deferred none)) (r:=Dd) (z:=Dd) rfl rfl rfl (by simp) (fun b _ hb=>World.putObj_heap_other hb) hD (bF _) (fun o ho=>by rw [hw] at ho;cases ho;rfl) hD1).st
 have hb:=St.ret (P:=P) (ps:=ps) hc2 rfl hf hx hres hq ht .ret (.inl rfl)
 obtain ⟨_,v,hv,hr⟩:=hb
 have hl:LeavesInM Fence.wide 9 P fn a.tmps (RetQ ⟨w0,H0,B0,ps.map (·.1),N⟩ ps res qs) a.defers .returning w:=by
  rw [hd]
  exact ⟨by simp,.inl ⟨_,_,rfl,run_takeDeferred hw,v,hv,hr.low hle hlow⟩⟩
 rcases hn with rfl | rfl
 ·exact hl
 ·exact hl
theorem Fn.bodyR {k:FuncId} {c:Code} {args:List V} (hf:P.funcs[k]?=some fn) (hb:fn.body=some c) (N:Nat) (hN:args.length+(fn.ntmps - args.length)=N)
  (h:∀ (w:World) (H:Im) (B:Bl) (a:Act),St ⟨w,H,B,[],N⟩ (F.of (argS 0 args) []) a w->c.wp P (bodyPostM Fence.wide 9 P fn (RetQ ⟨w,H,B,[],N⟩ [] res qs)) a w):Fn P k [] args res qs:=by
 intro w H B vals pre
 refine callsIn_wide.1 (callsIn_of_wp_marks (n:=9) hf hb trivial (wpIn_wide.2 (h w H B _ ⟨H,B,rfl,?_,⟨rfl,rfl,rfl,bF _,fun _ _ _=>rfl⟩,pre.sat,?_,?_,?_,?_,fun _ _=>rfl,Le.refl _,fun _ _=>rfl,pre.tab⟩)))
 ·have:=pre.arg.length
  simp [<- hN,<- this]
 ·intro t v hv
  have h1:=(argS_get args 0 t v hv).2
  rw [Nat.sub_zero] at h1
  obtain ⟨ht,rfl⟩:=cX.1 h1
  obtain ⟨u,h2,h3⟩:=pre.arg.get t ht
  have htv:t<vals.length:=(cX.1 h2).1
  have:(((⟨vals⟩:Array Value)++Array.replicate (fn.ntmps - (⟨vals⟩:Array Value).size) undef).getD t undef)=u:=by
   rw [cC, Array.getElem?_append_left (by simpa using htv)]
   simp [h2]
  rw [this]
  exact h3
 ·intro n l hn;cases hn
 ·intro n l b c hn;cases hn
 ·intro n m l l' b c c' h1;cases h1
def ncH (W:World):Im:=fun b=>match W.heap[b]? with
  | some o=>if dat o then none else some o
  | none=>none
theorem ncH_some {W:World} (h:ncH W b=some o):W.heap[b]?=some o/\dat o=false:=by
 unfold ncH at h
 cases hb:W.heap[b]? with
 | none=>rw [hb] at h;cases h
 | some o' =>
  rw [hb] at h
  dsimp only at h
  split at h
  ·cases h
  ·rename_i hc;cases h;exact ⟨rfl,by simpa using hc⟩
theorem ncH_of {W:World} (h:W.heap[b]?=some o) (ho:dat o=false):ncH W b=some o:=by unfold ncH;rw [h];dsimp only;rw [ho];rfl
section
variable {w0:World} {H1:Im} {B0 Bx:Bl} {K Kn:List Nat} {N:Nat} {f:F} {a:Act} {w W:World}
theorem St.nc (hs:∀ b o,H1 b=some o->W.heap[b]?=some o) (h:St ⟨w0,zef H1 (ncH W),B0,K,N⟩ f a w) (hb:W.heap[b]?=some o) (ho:dat o=false):w.heap[b]?=some o:=by
 obtain ⟨H,B,h⟩:=h
 refine h.sat b o (h.le b o ?_)
 show zef H1 (ncH W) b=some o
 unfold zef
 cases h1:H1 b with
 | none=>exact ncH_of hb ho
 | some o'=>have:=hs b o' h1;rw [hb] at this;exact this.symm
theorem St.uncut (h:St ⟨w0,zef H1 (ncH W),B0,K,N⟩ f a w):StC w0 H1 B0 K N f a w:=StC.of h (zk7 _ _) fun b o hb=>by
 rcases zgx hb with h1 | ⟨_,h1⟩
 ·exact .inl h1
 ·exact .inr (ncH_some h1).2
theorem StC.jn (h:StC w0 H1 B0 K N f a w):St ⟨w0,zef H1 (ncH w),B0,K,N⟩ f a w:=St.join h.st _ fun _ _ hb=>ncH_some hb
theorem StC.sat (h:StC w0 H1 B0 K N f a w):∀ b o,H1 b=some o->w.heap[b]?=some o:=fun b o hb=>by
 obtain ⟨H,B,h,_⟩:=h
 exact h.sat b o (h.le b o hb)
theorem StC.open (hb:∀ n ∈ Kn,∀ b c,Bx n=some (b,c)->w0.heap.size<=b) (h:StC w0 H1 Bx Kn N f a w):St ⟨w0,H1,B0,[],N⟩ f a w:=by
 obtain ⟨H,B,h,_⟩:=h
 have hm:∀ b,(⟨w0,H1,Bx,Kn,N⟩:E).may b->w0.heap.size<=b:=fun b ⟨n,hn,c,h1⟩=>hb n hn b c h1
 refine ⟨H,B,h.df,h.n,⟨h.ext.os,h.ext.tape,h.ext.output,h.ext.size,fun b h1 _=>h.ext.block b h1 fun h2=>by have:=hm b h2;have h1:b<w0.heap.size:=h1;omega⟩,h.sat,h.slot,h.loc,fun n l b c hn h1=>?_,h.inj,h.low,h.le,fun n hn=>(by cases hn),h.tab⟩
 obtain ⟨p1,p2,p3⟩:=h.priv n l b c hn h1
 exact ⟨p1,p2,.inr (p3.elim (hm b) id)⟩
theorem StC.params {p1 p2:Nat} {x1 x2:V} {v1 v2:Value} (h:StC w0 H1 Bx Kn N (F.of sl lc) a w) (hp:p1≠p2) (h1:p1<N) (h2:p2<N) (hv:∀ B,VR H1 B x1 v1/\VR H1 B x2 v2) :
  StC w0 H1 Bx Kn N (F.of ((p1,x1) :: (p2,x2) :: sl) lc) { tmps:=(#[p1,p2].zip #[v1,v2]).foldl (fun t (p,v)=>t.setIfInBounds p v) a.tmps,defers:=[] } w:=by
 obtain ⟨H,B,h,hc⟩:=h
 have hn:a.tmps.size=N:=h.n
 have ht:(#[p1,p2].zip #[v1,v2]).foldl (fun t (p,v)=>t.setIfInBounds p v) a.tmps=(a.tmps.setIfInBounds p1 v1).setIfInBounds p2 v2:=by simp
 refine ⟨H,B,⟨rfl,?_,h.ext,h.sat,fun t v hv2=>?_,h.loc,h.priv,h.inj,h.low,h.le,h.keep,h.tab⟩,hc⟩
 ·show ((#[p1,p2].zip #[v1,v2]).foldl (fun t (p,v)=>t.setIfInBounds p v) a.tmps).size=N
  rw [ht];simpa using hn
 ·show VR H B v (((#[p1,p2].zip #[v1,v2]).foldl (fun t (p,v)=>t.setIfInBounds p v) a.tmps).getD t undef)
  rw [ht]
  have hv2:((p1,x1) :: (p2,x2) :: sl).lookup t=some v:=hv2
  rw [List.lookup_cons] at hv2
  by_cases e1:t=p1
  ·subst e1
   simp only [beq_self_eq_true] at hv2
   cases hv2
   have:((a.tmps.setIfInBounds t v1).setIfInBounds p2 v2).getD t undef=v1:=by
    rw [cC, dB (by omega),dL (by omega)];rfl
   rw [this]
   exact VR.mono h.le (fun _ _=>rfl) (hv B).1
  ·rw [beq_eq_false_iff_ne.2 e1] at hv2
   dsimp only at hv2
   rw [List.lookup_cons] at hv2
   by_cases e2:t=p2
   ·subst e2
    simp only [beq_self_eq_true] at hv2
    cases hv2
    have:((a.tmps.setIfInBounds p1 v1).setIfInBounds t v2).getD t undef=v2:=by
     rw [cC, dL (by simp;omega)];rfl
    rw [this]
    exact VR.mono h.le (fun _ _=>rfl) (hv B).2
   ·rw [beq_eq_false_iff_ne.2 e2] at hv2
    dsimp only at hv2
    have:((a.tmps.setIfInBounds p1 v1).setIfInBounds p2 v2).getD t undef=a.tmps.getD t undef:=by
     rw [cC, dB (by omega),dB (by omega),<- cC]
    rw [this]
    exact h.slot t v hv2
theorem StC.again {a':Act} (h:StC w0 H1 Bx Kn N (F.of [] lc) a' w) (hd:a.defers=[]) (hn:a.tmps.size=N) (hs:∀ t v,(F.of sl lc).s t=some v->VR H1 Bx v (a.tmps.getD t undef)) (hK:(sl.all fun p=>p.2.tags.all (hasN Kn))=true):StC w0 H1 Bx Kn N (F.of sl lc) a w:=by
 obtain ⟨H,B,h,hc⟩:=h
 refine ⟨H,B,⟨hd,hn,h.ext,h.sat,fun t v hv=>VR.mono h.le (fun n hm=>h.keep n ?_) (hs t v hv),h.loc,h.priv,h.inj,h.low,h.le,h.keep,h.tab⟩,hc⟩
 exact zer.1 (bU.1 (bU.1 hK (t,v) (zaz hv)) n hm)
end
theorem rangeB {t p1 p2 id gf:Nat} {assign body rest:Code} {xs:D} {e:Nat->V × V} {Q0:Exit->Act->World->Prop}
  (Kn:List Nat) (sl':List (Nat × V)) (lcs:Nat->List (Nat × L)) (slA:Nat->List (Nat × V)) (lcA:Nat->List (Nat × L)) (h:St ⟨w0,H0,B0,[],N⟩ (F.of sl lc) a w) (it:IterOk P gf xs m e) (hk:zbj P gf)
  (hs:(F.of sl lc).s t=some (.t (.c (.fn (.func gf) [] [.ptr n 0])))) (hl:(F.of sl lc).l n=some (.box [.d xs])) (hp:p1≠p2) (hp1:p1<N) (hp2:p2<N)
  (h1:leS (F.of sl lc) sl'=sl'.map fun p=>some p.2) (h2:leN (F.of sl lc) (lcs 0)=(lcs 0).map fun p=>some p.2) (h3:((lcs 0).all fun p=>!(p.1 == n))=true) (hK:(sl'.all fun p=>p.2.tags.all (hasN Kn))=true) (hK2:(Kn.all fun k=>((F.of sl lc).l k).isSome)=true)
  (hassign:∀ (H:Im) (B:Bl) (l j:Nat) (a:Act) (w:World),j<m->St ⟨w0,H,B,Kn,N⟩ (F.of ((p1,(e j).1) :: (p2,(e j).2) :: sl') (lcs j)) a w->wpX (some l) [] P assign (fun ex a w=>ex = .normal/\St ⟨w0,H,B,Kn,N⟩ (F.of (slA j) (lcA j)) a w) a w)
  (hbody:∀ (H:Im) (B:Bl) (l j:Nat) (a:Act) (w:World),j<m->St ⟨w0,H,B,Kn,N⟩ (F.of (slA j) (lcA j)) a w->wpX (some l) [] P body (fun ex a w=>ex = .normal/\St ⟨w0,H,B,Kn,N⟩ (F.of [] (lcs (j+1))) a w) a w)
  (hrest:∀ (H:Im) (Dd:Nat) (a:Act) (w:World),St ⟨w0,H,B0,[],N⟩ (F.of sl' (lcs m)) a w->wpX none [{ target:=.collected Dd,args:=#[] }] P rest (RetX P fn ⟨w0,H,B0,[],N⟩ res qs) a w) :
  (Code.block id (.rangeFunc (.tmp t) #[p1,p2] assign body)).wp P (Exit.then (fun a w=>rest.wp P (bodyPostM Fence.wide 9 P fn (RetQ ⟨w0,H0,B0,[],N⟩ [] res qs)) a w) Q0) a w:=by
 have hdf:a.defers=[]:=by obtain ⟨_,_,h⟩:=h;exact h.df
 obtain ⟨H1,Bx,Bs,sv,ty,hle,hlow,hBs,hxs,hfn,hbx,hslot,hok⟩:=St.fix Kn h hl
 obtain ⟨ev,hev,hit⟩:=it H1 Bs sv ty hBs hxs
 have hn0:a.tmps.size=N:=hok.n
 have hH1:∀ b o,H1 b=some o->b<w.heap.size:=fun b o hb=>(cH.1 (hok.sat b o hb)).1
 have hKb:∀ k ∈ Kn,∀ b c,Bx k=some (b,c)->w0.heap.size<=b:=fun k hk b c hb=>by
  obtain ⟨l,hl⟩:=dJ.1 (bU.1 hK2 k hk)
  exact hbx k l b c hl hb
 have hsl:∀ t v,sl'.lookup t=some v->VR H1 Bx v (a.tmps.getD t undef):=fun t v hv=>hslot t v (zcc h1 (t,v) (zaz hv))
 have hws:w0.heap.size<=w.heap.size:=hok.ext.size
 have hfl:(⟨(F.of sl lc).s,fun m=>if m=n then none else (F.of sl lc).l m⟩:F).le (F.of sl' (lcs 0)):=by
  refine ⟨fun t v hv=>zcc h1 (t,v) (zaz hv),fun k l hk=>?_⟩
  have hm:=zaz hk
  have hne:k≠n:=by have:=bU.1 h3 _ hm;simpa using this
  simp only [if_neg hne]
  exact zcc h2 (k,l) hm
 have hst0:StC w0 H1 Bx Kn N (F.of sl' (lcs 0)) a w :=
  ⟨H1,Bx,⟨hok.df,hok.n,hok.ext,hok.sat,fun t v hv=>hok.slot t v (hfl.1 t v hv),fun k l hk=>hok.loc k l (hfl.2 k l hk),fun k l b c hk=>hok.priv k l b c (hfl.2 k l hk),fun k k' l l' b c c' hk hk'=>hok.inj k k' l l' b c c' (hfl.2 k l hk) (hfl.2 k' l' hk'),hok.low,hok.le,hok.keep,hok.tab⟩,fun b o hb => .inl hb⟩
 refine (wpIn_wide (n:=9)).1 (wpIn_block (wpIn_rangeFunc fun fnid _=>?_))
 obtain ⟨rec,hrec⟩:∃ rec:LoopState->Option Code->Loop,rec=fun st pe=>{ state:=st,pending:=pe,fn:=fnid,tmps:=a.tmps,params:=#[p1,p2],assign,body,defers:=w.heap.size }:=⟨_,rfl⟩
 obtain ⟨W1,hW1⟩:∃ W1,(w.alloc (.deferred (some []))).alloc (.loop (rec .ready none))=W1:=⟨_,rfl⟩
 have hL1:W1.heap[w.heap.size+1]?=some (.loop (rec .ready none)):=by
  rw [<- hW1];have:=World.alloc_heap_new (w.alloc (.deferred (some []))) (.loop (rec .ready none));rwa [World.size_alloc] at this
 have hK1:W1.heap[w.heap.size]?=some (.deferred (some [])):=by
  rw [<- hW1];exact (Below.heap_alloc _ _ _ (by simp)).trans (World.alloc_heap_new w _)
 have hbelow:Below w.heap.size w W1:=by rw [<- hW1];exact ((Below.refl _ w).alloc (bF _) _).alloc (by simp) _
 have hst1:StC w0 H1 Bx Kn N (F.of sl' (lcs 0)) a W1 :=
  hst0.turn (r:=W1.heap.size) (z:=w.heap.size) hbelow.os hbelow.tape hbelow.output hbelow.size (fun b hb _=>hbelow.block b hb) hws hbelow.size (fun o ho=>by have:=(cH.1 ho).1;have:=hbelow.size;omega) hH1
 -- a turn of the record keeps the state
 have hturn:∀ {K':List Nat} {B':Bl} {f:F} {a':Act} {W:World} (l:Nat) (o o':Obj),w.heap.size<=l->W.heap[l]?=some o->dat o=false->StC w0 H1 B' K' N f a' W->StC w0 H1 B' K' N f a' (W.putObj l o'):=fun l o o' hl ho hc hst =>
  hst.turn (r:=l) (z:=w.heap.size) rfl rfl rfl (by simp) (fun b _ hb=>World.putObj_heap_other hb) hws hl (fun o2 ho2=>by rw [ho] at ho2;cases ho2;exact hc) hH1
 have hfn1:a.eval (.tmp t) = .func (.func gf) #[] #[.pointer (some ⟨Bs,0,none⟩)]:=hfn t gf hs
 refine ⟨w.heap.size+1,[{ target:=.collected w.heap.size,args:=#[] }],W1,{ target:=.fn (.func gf) #[.pointer (some ⟨Bs,0,none⟩)],args:=#[.func (.yield (w.heap.size+1)) #[] #[]] }, W1,gf,
  #[.func (.yield (w.heap.size+1)) #[] #[]]++#[.pointer (some ⟨Bs,0,none⟩)],W1,?_,?_,fun _ _=>trivial,?_,fun h=>(by cases h),?_⟩
 ·rw [<- hW1,hrec];exact run_enterLoop_outer _ _ _ _ _
 ·simp only [resolve,hfn1]
  simp [go_sem]
 ·simp [invoke,go_sem,zit hk]
 ·refine (hit (w.heap.size+1) (fun j W=>StC w0 H1 Bx Kn N (F.of sl' (lcs j)) a W/\W.heap[w.heap.size+1]?=some (.loop (rec .ready none))/\W.heap[w.heap.size]?=some (.deferred (some []))) W1 (fun j W hJ=>hJ.1.sat) ?_ ⟨hst1,hL1,hK1⟩).mono ?_
  ·rintro j W ⟨hst,hl,hd⟩ hj
   have hy:=run_yield (P:=P) (args:=#[(ev j).1,(ev j).2]) hl (by rw [hrec];rfl)
   rw [hrec] at hy
   refine ⟨fnid,_,assign,body,hy,roundIn_of_wpIn trivial ?_⟩
   have hA:=hassign _ Bx (w.heap.size+1) j _ W hj (hst.params hp hp1 hp2 (fun B=>hev B j hj)).jn
   refine wpIn_depth (n:=9) rfl (wpIn_mono hA ?_)
   rintro ex ⟨tm,dfs⟩ w1 ⟨hd1,rfl,hS⟩
   cases hd1
   have hl1:=hS.nc hst.sat hl rfl
   have hdd1:=hS.nc hst.sat hd rfl
   refine ⟨_,run_beginRound hl1 (by rw [hrec]),?_⟩
   obtain ⟨W2,hW2⟩:∃ W2,w1.putObj (w.heap.size+1) (.loop { rec .ready none with state:=.busy })=W2:=⟨_,rfl⟩
   rw [hW2]
   have hst2:=hturn (w.heap.size+1) _ (.loop { rec .ready none with state:=.busy }) (by omega) hl1 rfl hS.uncut
   rw [hW2] at hst2
   have hl2:W2.heap[w.heap.size+1]?=some (.loop { rec .ready none with state:=.busy }):=by rw [<- hW2];exact World.putObj_heap_same (cH.1 hl1).1
   have hdd2:W2.heap[w.heap.size]?=some (.deferred (some [])):=by rw [<- hW2];exact (World.putObj_heap_other (by omega)).trans hdd1
   have hB:=hbody _ Bx (w.heap.size+1) j _ W2 hj hst2.jn
   refine wpIn_depth (n:=9) rfl (wpIn_mono hB ?_)
   rintro ex ⟨tm3,dfs3⟩ w3 ⟨hd3,rfl,hS3⟩
   cases hd3
   have hl3:=hS3.nc hst2.sat hl2 rfl
   have hdd3:=hS3.nc hst2.sat hdd2 rfl
   have hend:=run_endRound (P:=P) none hl3
   refine ⟨_,_,hend,rfl,?_,?_,?_⟩
   ·exact hturn (w.heap.size+1) _ _ (by omega) hl3 rfl (hS3.uncut.again hdf hn0 hsl hK)
   ·rw [World.putObj_heap_same (cH.1 hl3).1,hrec];rfl
   ·exact (World.putObj_heap_other (by omega)).trans hdd3
  ·rintro en W2 ⟨⟨v,rfl⟩,hst,hl,hd⟩
   have hend:=run_endLoop (P:=P) hl (by rw [hrec];simp)
   refine ⟨_,_,hend,?_⟩
   rw [hrec]
   have hstE:=hturn (w.heap.size+1) _ (.loop { rec .ready none with state:=.exhausted }) (by omega) hl rfl hst
   have hdE:(W2.putObj (w.heap.size+1) (.loop { rec .ready none with state:=.exhausted })).heap[w.heap.size]?=some (.deferred (some [])):=(World.putObj_heap_other (by omega)).trans hd
   rw [hrec] at hstE hdE
   have hR:=hrest (zef H1 (markH w.heap.size)) w.heap.size a _ (St.join (hstE.open hKb) _ fun b o hb=>by
    unfold markH at hb
    split at hb
    ·rename_i e;subst e;cases hb;exact ⟨hdE,rfl⟩
    ·cases hb)
   refine (wpIn_wide (n:=9)).1 (wpIn_mono (show rest.wpIn Fence.wide 9 P _ { a with defers:=[{ target:=.collected w.heap.size,args:=#[] }]++a.defers } _ from by rw [hdf];exact hR) ?_)
   rintro ex a' w' ⟨hd', hr⟩
   exact leave_mark (ps:=[]) hle hlow hws hH1 hd' hr
theorem dfS {f:F} (h:St e f a w):a.defers=[]:=let ⟨_,_,h⟩:=h;h.df
attribute [local go_sem] Oper.semAt_some
def zbi (zs:List za0) (j:Nat):za0:=(zs[zs.length - 1 - j]?).getD ⟨0,⟨⟨[],⟨false,[]⟩⟩,false⟩,[]⟩
theorem backF_at {zs:List za0} (hj:j<zs.length):zs[zs.length - 1 - j]?=some (zbi zs j):=by unfold zbi;rw [cG (by omega)];rfl
theorem backF_mem {zs:List za0} (hj:j<zs.length):zbi zs j ∈ zs:=cQ (backF_at hj)
theorem back_forms (zs:List za0) (hz:zs.length<=1000000):IterOk Tryz.prog 79 (.sl 6 (zs.map za0.d)) zs.length (fun j=>(vi .i64 ((zs.length - 1 - j:Nat):Int),.t (.agg [.d (.raw (.int .i64 (zbi zs j).kind)),.d (.sl 3 ((zbi zs j).r.t.parts.map za3.d)),.d (.raw (.bool (zbi zs j).r.t.k.neg)),.d (nsl (zbi zs j).r.t.k.abs),.d (.raw (.bool (zbi zs j).r.eq)),.d (.sl 6 ((zbi zs j).kids.map za0.d))]))):=by
 intro H1 Bs sv ty hBs hxs
 obtain ⟨ao,c,wv,rfl,hel,hdr⟩:∃ ao c,∃ wv:Nat->Nat->Value,sv = .slice ao zs.length c/\(∀ k,k<zs.length->∃ b o,ao=some ⟨b,o,none⟩/\∀ i,i<6->∀ W:World,(∀ b' o', H1 b'=some o'->W.heap[b']?=some o')->W.cell? ⟨b,o+k*6+i,none⟩=some (wv k i))/\∀ k,k<zs.length->∀ i,i<6->∀ d,((zs[k]?).getD ⟨0,⟨⟨[],⟨false,[]⟩⟩,false⟩,[]⟩).d[i]?=some d->DR H1 d (wv k i):=by
  cases hz0:zs with
  | nil =>
   rw [hz0] at hxs
   generalize hxd:D.sl 6 (([]:List za0).map za0.d)=xd at hxs
   cases hxs with
   | raw=>cases hxd
   | nil es ao c h hc=>exact ⟨ao,c,fun _ _=>undef,rfl,fun k hk=>absurd hk (Nat.not_lt_zero k),fun k hk=>absurd hk (Nat.not_lt_zero k)⟩
   | sl es rows b o c arr ty fz vs hp=>injection hxd with _ h2;subst h2;simp at hp
  | cons z zs' =>
   rw [<- hz0]
   generalize hxd:D.sl 6 (zs.map za0.d)=xd at hxs
   cases hxs with
   | raw=>cases hxd
   | nil es ao c h hc=>injection hxd with _ h2;rw [hz0] at h2;cases h2
   | sl es rows b o c arr ty fz vs hp hb hl hc hes hv hr =>
    injection hxd with h1 h2
    subst h1 h2
    refine ⟨some ⟨b,o,none⟩,c,vs,by simp,fun k hk=>⟨b,o,rfl,fun i hi W hW=>?_⟩,fun k hk i hi d hd=>?_⟩
    ·have hkl:k<(zs.map za0.d).length:=by simpa using hk
     have h3:=hv k hkl i hi
     exact zdo (hW _ _ hb) (by simpa using h3)
    ·have hkl:k<(zs.map za0.d).length:=by simpa using hk
     have e:(zs.map za0.d)[k]'hkl=((zs[k]?).getD ⟨0,⟨⟨[],⟨false,[]⟩⟩,false⟩,[]⟩).d:=by simp [hk]
     have hd2:((zs.map za0.d)[k]'hkl)[i]?=some d:=by rw [e];exact hd
     obtain ⟨hi2,rfl⟩:=cX.1 hd2
     exact hr k hkl i hi2
 refine ⟨fun j=>(.int .i64 ((zs.length:Int) - 1 - j),.agg #[wv (zs.length - 1 - j) 0,wv (zs.length - 1 - j) 1,wv (zs.length - 1 - j) 2,wv (zs.length - 1 - j) 3,wv (zs.length - 1 - j) 4,wv (zs.length - 1 - j) 5]),fun B j hj=>⟨?_,?_⟩,fun l J W hJs hY h0=>?_⟩
 ·show VR H1 B (vi .i64 ((zs.length - 1 - j:Nat):Int)) _
  rw [show ((zs.length - 1 - j:Nat):Int)=(zs.length:Int) - 1 - j by omega];exact .raw _ rfl
 ·have hk:zs.length - 1 - j<zs.length:=by omega
  have q:=fun i hi d=>hdr _ hk i hi d
  rw [za0.d_eq] at q
  exact ⟨[_,_,_,_,_,_],rfl,q 0 (by decide) _ rfl,q 1 (by decide) _ rfl,q 2 (by decide) _ rfl,q 3 (by decide) _ rfl,q 4 (by decide) _ rfl,q 5 (by decide) _ rfl,trivial⟩
 have hcB:∀ j W,J j W->W.cell? ⟨Bs,0,none⟩=some (.slice ao zs.length c):=fun j W hJ=>zdo (hJs j W hJ _ _ hBs) rfl
 have hc0:=hcB 0 W h0
 refine callsIn_of_wp Tryz.func79 rfl trivial ?_ rfl
 simp only [Tryz.ntmps79,List.size_toArray,bS,cM,Nat.reduceAdd,Nat.reduceSub,Array.replicate_succ,Array.replicate_zero,List.push_toArray,List.append_toArray,List.nil_append,List.cons_append]
 gi_wp2
 gi_loopw [3] (fun i wr=>∃ k:Nat,k<=zs.length/\i = .int .i64 ((zs.length:Int) - 1 - k)/\J k wr) (fun i _=>(intOf i+1).toNat)
 case atStart=>exact ⟨0,bJ _,by simp,h0⟩
 case round =>
  obtain ⟨k,hk,rfl,hJk⟩:=hrel
  have hcw:=hcB k wr hJk
  by_cases hlt:k<zs.length
  ·obtain ⟨fn,tmps,assign,body,hy,hR⟩:=hY k wr hJk hlt
   obtain ⟨b,o,rfl,hcell⟩:=hel (zs.length - 1 - k) (by omega)
   have hcx0:wr.cell? ⟨b,o+(zs.length - 1 - k)*6,none⟩=some (wv (zs.length - 1 - k) 0):=hcell 0 (by decide) wr (hJs k wr hJk)
   have hcx1:=hcell 1 (by decide) wr (hJs k wr hJk)
   have hcx2:=hcell 2 (by decide) wr (hJs k wr hJk)
   have hcx3:=hcell 3 (by decide) wr (hJs k wr hJk)
   have hcx4:=hcell 4 (by decide) wr (hJs k wr hJk)
   have hcx5:=hcell 5 (by decide) wr (hJs k wr hJk)
   have e1:((zs.length:Int) - 1 - k).toNat=zs.length - 1 - k:=by omega
   have hge:decide ((zs.length:Int) - 1 - k>=0)=true:=decide_eq_true (by omega)
   try dsimp only at hy
   gi_wp2
   refine hR.mono ?_
   rintro e W3 ⟨rfl,hJ3⟩
   gi_wp2
   go_roundw
   case rel=>exact ⟨k+1,by omega,by first | rfl | (simp;omega),hJ3⟩
   case measure=>simp [intOf];omega
  ·obtain rfl:k=zs.length:=by omega
   gi_wp2
   go_end0
   exact ⟨⟨_,rfl⟩,hJk⟩
theorem nc2_6:zbj Tryz.prog 79:=zbj.mk' (by kernel_rfl)
theorem gath_allG {P:za6->Prop} {L:Nat} (hP:∀ r,TOk n L r.t->P (cpR r)) (f:za0):f.okA n L->∀ ps,(∀ r ∈ ps,P r)->∀ r ∈ f.gath ps,P r :=
 za0.ind (P:=fun f=>f.okA n L->∀ ps,(∀ r ∈ ps,P r)->∀ r ∈ f.gath ps,P r) (fun k r ks ih hf ps hps=>by
  obtain ⟨h1,h2⟩:=(za0.okA_eq _ _ _).1 hf
  rw [za0.gath_eq]
  split
  ·rename_i e
   intro q hq
   rcases b8.1 hq with hq | hq
   ·exact hps q hq
   ·rw [bE.1 hq];exact hP r (h1 e.1)
  ·have:∀ (xs:List za0),(∀ g ∈ xs,g ∈ ks)->∀ qs:List za6,(∀ r ∈ qs,P r)->∀ r ∈ xs.foldl (fun a g=>g.gath a) qs,P r:=fun xs=>by
    induction xs with
    | nil=>intro _ qs h;exact h
    | cons x xs ihx =>
     intro hx qs h
     rw [bP]
     exact ihx (fun g hg=>hx g (bV _ hg)) _ (ih x (hx x (bG ..)) (h2 x (hx x (bG ..))) qs h)
   exact this ks (fun g hg=>hg) ps hps) f
def zbl (ps:List za6) (cs:List za0):Nat->List za6
  | 0=>ps
  | j+1=>gathT (zbl ps cs j) ((zbi cs j).flat false)
theorem newA_ge (ps:List za6) (cs:List za0) (j:Nat):ps.length<=(zbl ps cs j).length:=by
 induction j with
 | zero=>exact bF _
 | succ j ih =>
  obtain ⟨l,e⟩:=gath_pre ((zbi cs j).flat false) ((zbl ps cs j).map cpR)
  show _<=(((zbi cs j).flat false).gath ((zbl ps cs j).map cpR)).length
  rw [e,bL,bC];omega
theorem newA_ok (hs:zcg 3 s) (hw:SysW s) (hps:zfy ps) {xs:List zdr} (cs:List Int) (hl:xs.length<=5) (hj:j<=(zah s ps xs cs).length):(∀ r ∈ zbl ps (zah s ps xs cs) j,TOk 40000000 (600+j) r.t)/\(zbl ps (zah s ps xs cs) j).length<=1000+j*5000000:=by
 have hn:=zf2 s ps xs cs
 induction j with
 | zero=>exact ⟨fun r hr=>(hps.2 r hr).mono (by decide) (by decide),by have:=hps.1;show ps.length<=_;omega⟩
 | succ j ih =>
  obtain ⟨h1,h2⟩:=ih (by omega)
  obtain ⟨c1,c2⟩:=zja hs hw hps cs hl (backF_mem hj)
  have c3:=zcs (zbi (zah s ps xs cs) j)
  have c4:=zd5 (zbi (zah s ps xs cs) j) false
  refine ⟨?_,?_⟩
  ·refine gath_allG (P:=fun r=>TOk 40000000 (600+(j+1)) r.t) (n:=32400000) (L:=502) (fun r hr=>(hr.plain (by decide)).mono (by decide) (by omega)) _ (zfc (by decide) (by decide) _ c1 false) _ fun r hr=>?_
   obtain ⟨q,hq,rfl⟩:=bK.1 hr
   exact (h1 q hq).plain (by decide)
  ·have:=gath_len ((zbi (zah s ps xs cs) j).flat false) ((zbl ps (zah s ps xs cs) j).map cpR)
   rw [bC] at this
   show (((zbi (zah s ps xs cs) j).flat false).gath ((zbl ps (zah s ps xs cs) j).map cpR)).length<=_
   omega
def nwS (out:List za6) (r:za6):List za6:=if tgtB r=true then (if out.length<24 then out++[cpR r] else out) else out
theorem nwS_f {r:za6} (h:tgtB r=false):nwS out r=out:=by unfold nwS;rw [if_neg (by rw [h];exact Bool.noConfusion)]
theorem nwS_t {r:za6} (h:tgtB r=true) (k:out.length<24):nwS out r=out++[cpR r]:=by unfold nwS;rw [if_pos h,if_pos k]
theorem nwS_x {r:za6} (h:tgtB r=true) (k:¬ out.length<24):nwS out r=out:=by unfold nwS;rw [if_pos h,if_neg k]
def nwO (ps xs:List za6) (j:Nat):List za6:=(xs.take j).foldl nwS (ps.map cpR)
theorem nwO_at {xs:List za6} {r:za6} (h:xs[j]?=some r):nwO ps xs (j+1)=nwS (nwO ps xs j) r:=by
 unfold nwO;rw [cU,h,List.foldl_append];rfl
theorem nwO_len (ps xs:List za6) (j:Nat):(nwO ps xs j).length<=ps.length+24:=by
 unfold nwO
 have:∀ (l:List za6) (a:List za6),a.length<=ps.length+24->(l.foldl nwS a).length<=ps.length+24:=fun l=>by
  induction l with
  | nil=>intro a h;exact h
  | cons x l ih =>
   intro a h
   rw [bP]
   refine ih _ ?_
   unfold nwS
   split
   ·split
    ·rw [bL,dM];omega
    ·exact h
   ·exact h
 exact this _ _ (by rw [bC];omega)
def zh3 (s:zb3) (ps:List za6) (p:ze0):List za6:=nwO ps ((zbl ps (zah s ps p.states p.acts) (zah s ps p.states p.acts).length).drop ps.length) ((zbl ps (zah s ps p.states p.acts) (zah s ps p.states p.acts).length).drop ps.length).length
theorem LBackF (xs:List za0) :Fn Tryz.prog 47 [] [(vFs xs)] (.t (.c (.fn (.func 79) [] [.ptr 0 0]))) [(0,.box [cFs xs])]:=by
 refine fB Tryz.func47 rfl 4 fun w H B a h=>Jq 0 [] [(1,vp 0 0),(2,vW .nilFunc)] [(0,.box [cFs xs])] h fun a w h=>Jp 1 [(0,.g (Op.makeFs (d:=3) (fn:=.func 79) [(1,0,0)]))] [(2,.t (.c (.fn (.func 79) [] [.ptr 0 0])))] h fun a w h=>qV (rT (.c (.fn (.func 79) [] [.ptr 0 0])) h rfl ?_)
 rfl
theorem LcopiedO (ps:List za6) {L:Nat} (hps:∀ r ∈ ps,TOk n L r.t) (hn:n<=1000000000) (hL:L<=10000) (hl:ps.length<=1000000):Fn Tryz.prog 50 [] [(vRs ps)] (vO 0 (ps.map cpR).length) [(0,.row 32 4 ((ps.map cpR).map za6.d))]:=by
 refine fB Tryz.func50 rfl 23 fun w H B a h=>Jq 5 [] [(0,(vRs ps)),(2,vW zai)] [] h fun a w h=>Jg 5 [] [] [(3,vW zai)] [] [] h fun a w h=>qW (Jg 5 [(1,.len (za4 4 za6.d ps))] [0] [(6,(vRs ps)),(7,vN ps.length),(8,vI 0)] [] [] h fun a w h=>qZ ?_)
 replace h:=zep 3 0 5 4 32 (vW zai) h
 refine zbz (ι:=(Nat)) (fun j=>j<=ps.length)
   [] (fun j=>[(3,vO 5 ((ps.take j).map cpR).length),(8,vN j)])
   [] (fun j=>[(5,.row 32 4 (((ps.take j).map cpR).map za6.d))])
   (fun j=>ps.length - j) 0 ?_ h ?_
 ·exact bJ _
 clear h;rintro j a w hI h;have lmj:((ps.take j).map cpR).length<=j:=by rw [bC,cR];omega
 refine Je 6 [] [] [(9,vb (decide ((j:Int)<(ps.length:Int))))] h fun a w h=>qW (zae ((j:Int)<(ps.length:Int)) h (fun hc1 hc1'=>?_) (fun hc2 hc2'=>?_))
 ·refine qU (za2 (qW (qZ ?_)));obtain ⟨x1,hx1⟩:=gl ps j;refine Jg 6 [(0,.g (xD 10 6 kc_3 (za8 hx1 (f:=za6.d)) (OV.tmp 8 _)))] [9] [(5,vp 6 0)] [] [(6,.box [cPs x1.t.parts,cB x1.t.k.neg,.d (nsl x1.t.k.abs),cB x1.eq])] h fun a w h=>Jh 7 [(3,.call (zdj x1.t (hps x1 (lM hx1)) hn (by omega))),(7,.g (bD 19 ([(za6.mk (za1 x1.t) x1.eq)].map za6.d) [(18,vG [cPs (za1 x1.t).parts,cB (za1 x1.t).k.neg,.d (nsl (za1 x1.t).k.abs),cB x1.eq])] kc_5 (.cons (i:=0) (OV.tmp 18 _) (.nil)) (by kernel_rfl) (by simp [za6.d]))),(8,.g (Op.appOD (d:=20) (t:=12) (u:=19) (n:=5) (n':=7) (len:=((ps.take j).map cpR).length) (len':=(((ps.take j).map cpR)++[(za6.mk (za1 x1.t) x1.eq)]).length) (rows:=((ps.take j).map cpR).map za6.d) (rows2:=[(za6.mk (za1 x1.t) x1.eq)].map za6.d) (rows':=(((ps.take j).map cpR)++[(za6.mk (za1 x1.t) x1.eq)]).map za6.d) lh8_3 (by first | exact (bC _).symm | simp) (by first | (rw [bL,bC];done) | (simp;done) | (simp;omega)) (by simp) (by simp [za6.d]) (by first | omega | (simp at *;done) | (simp at *;omega))))] [5] [(3,vO 7 (((ps.take j).map cpR)++[(za6.mk (za1 x1.t) x1.eq)]).length)] [5,6] [(7,.row 32 4 ((((ps.take j).map cpR)++[(za6.mk (za1 x1.t) x1.eq)]).map za6.d))] h fun a w h=>za7 (za2 (Jf 8 [(0,.j1 j)] [] [(8,vI ((j:Int)+1))] h fun a w h=>za2 ?_));rw [show ((((ps.take j).map cpR)++[(za6.mk (za1 x1.t) x1.eq)]):List za6)=((ps.take (j+1)).map cpR) from (ze6 hx1)] at h;replace h:=zcr 7 5 h;refine zaa (x:=j) (y:=j+1) h ?_ ?_
  ·have:=zac hx1;show j+1<=ps.length;omega
  show ps.length - (j+1)<ps.length - j;have:=zac hx1;omega
 refine exA (Jp 8 [] [(2,vO 5 ((ps.take j).map cpR).length)] h fun a w h=>qV ?_);rw [show (((ps.take j).map cpR):List za6)=(ps.map cpR) from (by rw [b7 (by omega)])] at h;replace h:=zcr 5 0 h;refine rT (.c (.own 0 (ps.map cpR).length)) h rfl ?_;rfl
abbrev q1 (ps:List za6) (s:zb3) (p:ze0):V:=vI (((zbl ps (zah s ps p.states p.acts) (zah s ps p.states p.acts).length).drop ps.length).length:Int)
theorem LNew (s:zb3) (ps:List za6) (p:ze0) (hs:zcg 3 s) (hw:SysW s) (hps:zfy ps) (hpl:p.states.length<=5) (hpa:p.acts.length<=6) (hpx:∀ x ∈ p.states,x.locs.length<=8/\x.bits.length<=30):Fn Tryz.prog 21 [] [vG [.d (.sl 1 (s.vars.map zew)),.d (.sl 5 (s.bounds.map zao.d)),cI s.init.kind,cPs s.init.r.t.parts,cB s.init.r.t.k.neg,.d (nsl s.init.r.t.k.abs),cB s.init.r.eq,cFs s.init.kids,.d (.sl 3 (s.procs.map zbv.d)),.d (.sl 10 (s.acts.map zbe.d))],(vRs ps),vG [.d (.sl 2 (p.states.map zdr.d)),cIs p.acts]] (.tup [.c (cRs (zh3 s ps p)),.c (cB (decide (((zh3 s ps p).length:Int)>(ps.length:Int))))]) []:=by
 have lps:=hps.1;have lcn:(zah s ps p.states p.acts).length<=5:=by rw [zf2];omega
 refine Fn.bodyR Tryz.func21 rfl 60 rfl fun w H B a h=>Jq 5 [] [(1,(vRs ps)),(3,vp 5 0),(5,vp 6 0),(6,vW zai),(7,vb false)] [(5,.box [.d (.sl 1 (s.vars.map zew)),.d (.sl 5 (s.bounds.map zao.d)),cI s.init.kind,cPs s.init.r.t.parts,cB s.init.r.t.k.neg,.d (nsl s.init.r.t.k.abs),cB s.init.r.eq,cFs s.init.kids,.d (.sl 3 (s.procs.map zbv.d)),.d (.sl 10 (s.acts.map zbe.d))]),(6,.box [.d (.sl 2 (p.states.map zdr.d)),cIs p.acts])] h fun a w h=>Jg 7 [] [] [(8,vp 7 0)] [] [(7,.box [cRs ps])] h fun a w h=>qW (Jg 8 [(3,.call (zho s ps p hs hw hps hpl hpa hpx)),(4,.call (LBackF (zah s ps p.states p.acts)))] [3,5] [(19,.t (.c (.fn (.func 79) [] [.ptr 0 0])))] [5,6] [(0,.box [cFs (zah s ps p.states p.acts)])] h fun a w h=>?_)
 replace h:=cvM [] [] [] [(7,.box [cRs (zbl ps (zah s ps p.states p.acts) 0)])] (by kernel_rfl) h;refine rangeB (m:=(zah s ps p.states p.acts).length) (e:=fun j=>(vI (((zah s ps p.states p.acts).length - 1 - j:Nat):Int),vG [cI (zbi (zah s ps p.states p.acts) j).kind,cPs (zbi (zah s ps p.states p.acts) j).r.t.parts,cB (zbi (zah s ps p.states p.acts) j).r.t.k.neg,.d (nsl (zbi (zah s ps p.states p.acts) j).r.t.k.abs),cB (zbi (zah s ps p.states p.acts) j).r.eq,cFs (zbi (zah s ps p.states p.acts) j).kids])) [7] [(1,(vRs ps)),(6,vW zai),(7,vb false),(8,vp 7 0)] (fun j=>[(7,.box [cRs (zbl ps (zah s ps p.states p.acts) j)])]) (fun j=>[(6,vW zai),(7,vb false),(8,vp 7 0),(10,vp 8 0)]) (fun j=>[(7,.box [cRs (zbl ps (zah s ps p.states p.acts) j)]),(8,.box [cI (zbi (zah s ps p.states p.acts) j).kind,cPs (zbi (zah s ps p.states p.acts) j).r.t.parts,cB (zbi (zah s ps p.states p.acts) j).r.t.k.neg,.d (nsl (zbi (zah s ps p.states p.acts) j).r.t.k.abs),cB (zbi (zah s ps p.states p.acts) j).r.eq,cFs (zbi (zah s ps p.states p.acts) j).kids])]) h (back_forms (zah s ps p.states p.acts) (by omega)) nc2_6 rfl rfl (by decide) (by decide) (by decide) (by kernel_rfl) (by kernel_rfl) (by kernel_rfl) (by kernel_rfl) (by kernel_rfl) ?_ ?_ ?_
 ·clear h;intro H B l j a w hj h;refine rSX zcn 8 [] [(6,vW zai),(7,vb false),(8,vp 7 0),(10,vp 8 0)] [(7,.box [cRs (zbl ps (zah s ps p.states p.acts) j)]),(8,.box [cI (zbi (zah s ps p.states p.acts) j).kind,cPs (zbi (zah s ps p.states p.acts) j).r.t.parts,cB (zbi (zah s ps p.states p.acts) j).r.t.k.neg,.d (nsl (zbi (zah s ps p.states p.acts) j).r.t.k.abs),cB (zbi (zah s ps p.states p.acts) j).r.eq,cFs (zbi (zah s ps p.states p.acts) j).kids])] (by kernel_rfl) (by kernel_rfl) h fun a w h=>?_;exact ⟨rfl,atS h (by kernel_rfl) (by kernel_rfl)⟩
 ·clear h;intro H B l j a w hj h;have hcj:=zja hs hw hps p.acts hpl (backF_mem hj);have haj:=newA_ok hs hw hps p.acts hpl (Nat.le_of_lt hj);refine wpX_block (rSX zcn 9 [(2,.call (LFlat (zbi (zah s ps p.states p.acts) j) (za0.okB_mono (by decide) (by decide) _ hcj.1) (by have:=zcs (zbi (zah s ps p.states p.acts) j);have:=hcj.2;omega))),(3,.call (LGather (zbl ps (zah s ps p.states p.acts) j) (za0.flat (zbi (zah s ps p.states p.acts) j) false) (fun r hr=>(haj.1 r hr).mono (by decide) (by omega)) (za0.okA_mono (by decide) (by decide) _ (zfc (by decide) (by decide) _ hcj.1 false)) (by have:=zd5 (zbi (zah s ps p.states p.acts) j) false;have:=zcs (zbi (zah s ps p.states p.acts) j);have:=hcj.2;have:=haj.2;omega)))] [(6,vW zai),(7,vb false)] [(7,.box [cRs (gathT (zbl ps (zah s ps p.states p.acts) j) (za0.flat (zbi (zah s ps p.states p.acts) j) false))])] (by kernel_rfl) (by kernel_rfl) h fun a w h=>za7 ?_);replace h:=cvM [1,8,19] [] [0] [(7,.box [cRs (zbl ps (zah s ps p.states p.acts) (j+1))])] (by kernel_rfl) h;exact ⟨rfl,atS h (by kernel_rfl) (by kernel_rfl)⟩
 clear h;intro H Dd a w h;have hal9:=newA_ok hs hw hps p.acts hpl (bF _);have lal9:=newA_ge ps (zah s ps p.states p.acts) (zah s ps p.states p.acts).length;have ldr9:((zbl ps (zah s ps p.states p.acts) (zah s ps p.states p.acts).length).drop ps.length).length<=100000000:=by rw [c7];have:=hal9.2;omega
 refine rSeqX zcn 9 [(1,.call (LcopiedO ps (fun r hr=>hps.2 r hr) (by decide) (by decide) (by omega)))] [(1,(vRs ps)),(6,vW zai),(7,vb false),(8,vp 7 0),(11,vO 0 (ps.map cpR).length)] [(7,.box [cRs (zbl ps (zah s ps p.states p.acts) (zah s ps p.states p.acts).length)]),(0,.row 32 4 ((ps.map cpR).map za6.d))] (by kernel_rfl) (by kernel_rfl) h fun a w h=>wpX_seq (rSeqX zcn 9 [(2,.len (za4 4 za6.d ps)),(3,.g (Op.sliceD (d:=31) (t:=28) (l:=ps.length) (h:=(zbl ps (zah s ps p.states p.acts) (zah s ps p.states p.acts).length).length) (rows:=(zbl ps (zah s ps p.states p.acts) (zah s ps p.states p.acts).length).map za6.d) (rows':=((zbl ps (zah s ps p.states p.acts) (zah s ps p.states p.acts).length).drop ps.length).map za6.d) kc_3 (BO.yes (k:=.i64) (i:=ps.length) _ (OV.tmp 30 _)) (by rw [bC];exact BO.no _) (by first | omega | (simp at *;omega)) (by first | omega | (simp only [bC];omega) | (simp at *;omega)) (by first | (simp [List.map_drop];done) | (rw [b7 (by simp <;> omega)];simp [List.map_drop])))),(4,.len (za4 4 za6.d ((zbl ps (zah s ps p.states p.acts) (zah s ps p.states p.acts).length).drop ps.length)))] [(1,(vRs ps)),(6,vW zai),(7,vb false),(11,vO 0 (ps.map cpR).length),(31,(vRs ((zbl ps (zah s ps p.states p.acts) (zah s ps p.states p.acts).length).drop ps.length))),(32,q1 ps s p),(33,vI 0)] [(0,.row 32 4 ((ps.map cpR).map za6.d))] (by kernel_rfl) (by kernel_rfl) h fun a w h=>wpX_block ?_);replace h:=cv (fun z_:List za6=>F.of [(1,(vRs ps)),(6,vW zai),(7,vb false),(11,vO 0 z_.length),(31,(vRs ((zbl ps (zah s ps p.states p.acts) (zah s ps p.states p.acts).length).drop ps.length))),(32,q1 ps s p),(33,vI 0)] [(0,.row 32 4 (z_.map za6.d))]) (show ((ps.map cpR):List za6)=(nwO ps ((zbl ps (zah s ps p.states p.acts) (zah s ps p.states p.acts).length).drop ps.length) 0) from rfl) (h.conv (by kernel_rfl))
 refine loopX (ι:=(Nat)) (fun j=>j<=((zbl ps (zah s ps p.states p.acts) (zah s ps p.states p.acts).length).drop ps.length).length)
   (fun j=>[(1,(vRs ps)),(6,vW zai),(7,vb false),(11,vO 0 (nwO ps ((zbl ps (zah s ps p.states p.acts) (zah s ps p.states p.acts).length).drop ps.length) j).length),(31,(vRs ((zbl ps (zah s ps p.states p.acts) (zah s ps p.states p.acts).length).drop ps.length))),(32,q1 ps s p),(33,vN j)])
   (fun j=>[(0,.row 32 4 ((nwO ps ((zbl ps (zah s ps p.states p.acts) (zah s ps p.states p.acts).length).drop ps.length) j).map za6.d))])
   (fun j=>((zbl ps (zah s ps p.states p.acts) (zah s ps p.states p.acts).length).drop ps.length).length - j) 0 ?_ h (by kernel_rfl) (by kernel_rfl) ?_
 ·exact bJ _
 clear h;rintro j a w hI h;have lnj:=nwO_len ps ((zbl ps (zah s ps p.states p.acts) (zah s ps p.states p.acts).length).drop ps.length) j;refine rSeqX zcn 9 [] [(1,(vRs ps)),(6,vW zai),(7,vb false),(11,vO 0 (nwO ps ((zbl ps (zah s ps p.states p.acts) (zah s ps p.states p.acts).length).drop ps.length) j).length),(31,(vRs ((zbl ps (zah s ps p.states p.acts) (zah s ps p.states p.acts).length).drop ps.length))),(32,q1 ps s p),(33,vN j),(34,vb (decide ((j:Int)<(((zbl ps (zah s ps p.states p.acts) (zah s ps p.states p.acts).length).drop ps.length).length:Int))))] [(0,.row 32 4 ((nwO ps ((zbl ps (zah s ps p.states p.acts) (zah s ps p.states p.acts).length).drop ps.length) j).map za6.d))] (by kernel_rfl) (by kernel_rfl) h fun a w h=>wpX_seq (condX (decide ((j:Int)<(((zbl ps (zah s ps p.states p.acts) (zah s ps p.states p.acts).length).drop ps.length).length:Int))) h rfl (fun hc1=>?_) (fun hc6=>?_))
 ·have hc1':=dT hc1;refine wpX_skip (dfS h) (za2 (wpX_seq (wpX_block ?_)));obtain ⟨x6,hx6⟩:=gl ((zbl ps (zah s ps p.states p.acts) (zah s ps p.states p.acts).length).drop ps.length) j;refine rSeqX zcn 9 [(0,.g (xD 35 31 kc_3 (za8 hx6 (f:=za6.d)) (OV.tmp 33 _)))] [(1,(vRs ps)),(6,vW zai),(7,vb false),(11,vO 0 (nwO ps ((zbl ps (zah s ps p.states p.acts) (zah s ps p.states p.acts).length).drop ps.length) j).length),(13,vp 9 0),(31,(vRs ((zbl ps (zah s ps p.states p.acts) (zah s ps p.states p.acts).length).drop ps.length))),(32,q1 ps s p),(33,vN j)] [(0,.row 32 4 ((nwO ps ((zbl ps (zah s ps p.states p.acts) (zah s ps p.states p.acts).length).drop ps.length) j).map za6.d)),(9,.box [cPs x6.t.parts,cB x6.t.k.neg,.d (nsl x6.t.k.abs),cB x6.eq])] (by kernel_rfl) (by kernel_rfl) h fun a w h=>?_
  rcases b9 (tgtB x6) with hc2 | hc5
  ·refine rSeqX zcn 10 [(1,.call (Fn.cast (LtightB x6 ((hal9.1 x6 (dC (lM hx6))).mono (by decide) (by omega))) (congrArg vb hc2)))] [(1,(vRs ps)),(6,vW zai),(7,vb false),(11,vO 0 (nwO ps ((zbl ps (zah s ps p.states p.acts) (zah s ps p.states p.acts).length).drop ps.length) j).length),(13,vp 9 0),(31,(vRs ((zbl ps (zah s ps p.states p.acts) (zah s ps p.states p.acts).length).drop ps.length))),(32,q1 ps s p),(33,vN j),(43,vb (decide (((nwO ps ((zbl ps (zah s ps p.states p.acts) (zah s ps p.states p.acts).length).drop ps.length) j).length:Int)<24)))] [(0,.row 32 4 ((nwO ps ((zbl ps (zah s ps p.states p.acts) (zah s ps p.states p.acts).length).drop ps.length) j).map za6.d)),(9,.box [cPs x6.t.parts,cB x6.t.k.neg,.d (nsl x6.t.k.abs),cB x6.eq])] (by kernel_rfl) (by kernel_rfl) h fun a w h=>condX (decide (((nwO ps ((zbl ps (zah s ps p.states p.acts) (zah s ps p.states p.acts).length).drop ps.length) j).length:Int)<24)) h rfl (fun hc3=>?_) (fun hc4=>?_)
   ·have hc3':=dT hc3;refine rSX zcn 10 [(3,.call (zdj x6.t (hal9.1 x6 (dC (lM hx6))) (by decide) (by omega))),(7,.g (bD 51 ([(za6.mk (za1 x6.t) x6.eq)].map za6.d) [(50,vG [cPs (za1 x6.t).parts,cB (za1 x6.t).k.neg,.d (nsl (za1 x6.t).k.abs),cB x6.eq])] kc_5 (.cons (i:=0) (OV.tmp 50 _) (.nil)) (by kernel_rfl) (by simp [za6.d]))),(8,.g (Op.appOD (d:=52) (t:=44) (u:=51) (n:=0) (n':=10) (len:=(nwO ps ((zbl ps (zah s ps p.states p.acts) (zah s ps p.states p.acts).length).drop ps.length) j).length) (len':=((nwO ps ((zbl ps (zah s ps p.states p.acts) (zah s ps p.states p.acts).length).drop ps.length) j)++[(za6.mk (za1 x6.t) x6.eq)]).length) (rows:=(nwO ps ((zbl ps (zah s ps p.states p.acts) (zah s ps p.states p.acts).length).drop ps.length) j).map za6.d) (rows2:=[(za6.mk (za1 x6.t) x6.eq)].map za6.d) (rows':=((nwO ps ((zbl ps (zah s ps p.states p.acts) (zah s ps p.states p.acts).length).drop ps.length) j)++[(za6.mk (za1 x6.t) x6.eq)]).map za6.d) lh8_3 (by first | exact (bC _).symm | simp) (by first | (rw [bL,bC];done) | (simp;done) | (simp;omega)) (by simp) (by simp [za6.d]) (by first | omega | (simp at *;done) | (simp at *;omega))))] [(1,(vRs ps)),(6,vW zai),(7,vb false),(11,vO 10 ((nwO ps ((zbl ps (zah s ps p.states p.acts) (zah s ps p.states p.acts).length).drop ps.length) j)++[(za6.mk (za1 x6.t) x6.eq)]).length),(31,(vRs ((zbl ps (zah s ps p.states p.acts) (zah s ps p.states p.acts).length).drop ps.length))),(32,q1 ps s p),(33,vN j)] [(10,.row 32 4 (((nwO ps ((zbl ps (zah s ps p.states p.acts) (zah s ps p.states p.acts).length).drop ps.length) j)++[(za6.mk (za1 x6.t) x6.eq)]).map za6.d))] (by kernel_rfl) (by kernel_rfl) h fun a w h=>za7 (za2 (rSX zcn 11 [(0,.j1 j)] [(1,(vRs ps)),(6,vW zai),(7,vb false),(11,vO 10 ((nwO ps ((zbl ps (zah s ps p.states p.acts) (zah s ps p.states p.acts).length).drop ps.length) j)++[(za6.mk (za1 x6.t) x6.eq)]).length),(31,(vRs ((zbl ps (zah s ps p.states p.acts) (zah s ps p.states p.acts).length).drop ps.length))),(32,q1 ps s p),(33,vI ((j:Int)+1))] [(10,.row 32 4 (((nwO ps ((zbl ps (zah s ps p.states p.acts) (zah s ps p.states p.acts).length).drop ps.length) j)++[(za6.mk (za1 x6.t) x6.eq)]).map za6.d))] (by kernel_rfl) (by kernel_rfl) h fun a w h=>za2 ?_));rw [show (((nwO ps ((zbl ps (zah s ps p.states p.acts) (zah s ps p.states p.acts).length).drop ps.length) j)++[(za6.mk (za1 x6.t) x6.eq)]):List za6)=(nwO ps ((zbl ps (zah s ps p.states p.acts) (zah s ps p.states p.acts).length).drop ps.length) (j+1)) from ((nwO_at hx6).trans (nwS_t hc2 (by have:=dT hc3;omega))).symm] at h;replace h:=zcr 10 0 h;refine zaa (x:=j) (y:=j+1) h ?_ ?_
    ·have:=zac hx6;show j+1<=((zbl ps (zah s ps p.states p.acts) (zah s ps p.states p.acts).length).drop ps.length).length;omega
    show ((zbl ps (zah s ps p.states p.acts) (zah s ps p.states p.acts).length).drop ps.length).length - (j+1)<((zbl ps (zah s ps p.states p.acts) (zah s ps p.states p.acts).length).drop ps.length).length - j;have:=zac hx6;omega
   have hc4':=dF hc4;refine wpX_skip (dfS h) (za7 (za2 (rSX zcn 11 [(0,.j1 j)] [(1,(vRs ps)),(6,vW zai),(7,vb false),(11,vO 0 (nwO ps ((zbl ps (zah s ps p.states p.acts) (zah s ps p.states p.acts).length).drop ps.length) j).length),(31,(vRs ((zbl ps (zah s ps p.states p.acts) (zah s ps p.states p.acts).length).drop ps.length))),(32,q1 ps s p),(33,vI ((j:Int)+1))] [(0,.row 32 4 ((nwO ps ((zbl ps (zah s ps p.states p.acts) (zah s ps p.states p.acts).length).drop ps.length) j).map za6.d))] (by kernel_rfl) (by kernel_rfl) h fun a w h=>za2 ?_)));replace h:=cv (fun z_:List za6=>F.of [(1,(vRs ps)),(6,vW zai),(7,vb false),(11,vO 0 z_.length),(31,(vRs ((zbl ps (zah s ps p.states p.acts) (zah s ps p.states p.acts).length).drop ps.length))),(32,q1 ps s p),(33,vI ((j:Int)+1))] [(0,.row 32 4 (z_.map za6.d))]) (show ((nwO ps ((zbl ps (zah s ps p.states p.acts) (zah s ps p.states p.acts).length).drop ps.length) j):List za6)=(nwO ps ((zbl ps (zah s ps p.states p.acts) (zah s ps p.states p.acts).length).drop ps.length) (j+1)) from ((nwO_at hx6).trans (nwS_x hc2 (by have:=dF hc4;omega))).symm) (h.conv (by kernel_rfl));refine zaa (x:=j) (y:=j+1) h ?_ ?_
   ·have:=zac hx6;show j+1<=((zbl ps (zah s ps p.states p.acts) (zah s ps p.states p.acts).length).drop ps.length).length;omega
   show ((zbl ps (zah s ps p.states p.acts) (zah s ps p.states p.acts).length).drop ps.length).length - (j+1)<((zbl ps (zah s ps p.states p.acts) (zah s ps p.states p.acts).length).drop ps.length).length - j;have:=zac hx6;omega
  refine rSeqX zcn 11 [(1,.call (Fn.cast (LtightB x6 ((hal9.1 x6 (dC (lM hx6))).mono (by decide) (by omega))) (congrArg vb hc5)))] [(1,(vRs ps)),(6,vW zai),(7,vb false),(11,vO 0 (nwO ps ((zbl ps (zah s ps p.states p.acts) (zah s ps p.states p.acts).length).drop ps.length) j).length),(13,vp 9 0),(31,(vRs ((zbl ps (zah s ps p.states p.acts) (zah s ps p.states p.acts).length).drop ps.length))),(32,q1 ps s p),(33,vN j),(43,vb false)] [(0,.row 32 4 ((nwO ps ((zbl ps (zah s ps p.states p.acts) (zah s ps p.states p.acts).length).drop ps.length) j).map za6.d)),(9,.box [cPs x6.t.parts,cB x6.t.k.neg,.d (nsl x6.t.k.abs),cB x6.eq])] (by kernel_rfl) (by kernel_rfl) h fun a w h=>condX false h rfl nofun (fun _=>wpX_skip (dfS h) (za7 (za2 (rSX zcn 11 [(0,.j1 j)] [(1,(vRs ps)),(6,vW zai),(7,vb false),(11,vO 0 (nwO ps ((zbl ps (zah s ps p.states p.acts) (zah s ps p.states p.acts).length).drop ps.length) j).length),(31,(vRs ((zbl ps (zah s ps p.states p.acts) (zah s ps p.states p.acts).length).drop ps.length))),(32,q1 ps s p),(33,vI ((j:Int)+1))] [(0,.row 32 4 ((nwO ps ((zbl ps (zah s ps p.states p.acts) (zah s ps p.states p.acts).length).drop ps.length) j).map za6.d))] (by kernel_rfl) (by kernel_rfl) h fun a w h=>za2 ?_))))
  replace h:=cv (fun z_:List za6=>F.of [(1,(vRs ps)),(6,vW zai),(7,vb false),(11,vO 0 z_.length),(31,(vRs ((zbl ps (zah s ps p.states p.acts) (zah s ps p.states p.acts).length).drop ps.length))),(32,q1 ps s p),(33,vI ((j:Int)+1))] [(0,.row 32 4 (z_.map za6.d))]) (show ((nwO ps ((zbl ps (zah s ps p.states p.acts) (zah s ps p.states p.acts).length).drop ps.length) j):List za6)=(nwO ps ((zbl ps (zah s ps p.states p.acts) (zah s ps p.states p.acts).length).drop ps.length) (j+1)) from ((nwO_at hx6).trans (nwS_f hc5)).symm) (h.conv (by kernel_rfl));refine zaa (x:=j) (y:=j+1) h ?_ ?_
  ·have:=zac hx6;show j+1<=((zbl ps (zah s ps p.states p.acts) (zah s ps p.states p.acts).length).drop ps.length).length;omega
  show ((zbl ps (zah s ps p.states p.acts) (zah s ps p.states p.acts).length).drop ps.length).length - (j+1)<((zbl ps (zah s ps p.states p.acts) (zah s ps p.states p.acts).length).drop ps.length).length - j;have:=zac hx6;omega
 have hc6':=dF hc6;refine wpX_exit (dfS h) (zc2 (zc2 (zau (za2 ?_))));replace h:=cv (fun z_:List za6=>F.of [(1,(vRs ps)),(6,vW zai),(7,vb false),(11,vO 0 z_.length),(31,(vRs ((zbl ps (zah s ps p.states p.acts) (zah s ps p.states p.acts).length).drop ps.length))),(32,q1 ps s p),(33,vN j),(34,vb (decide ((j:Int)<(((zbl ps (zah s ps p.states p.acts) (zah s ps p.states p.acts).length).drop ps.length).length:Int))))] [(0,.row 32 4 (z_.map za6.d))]) (show ((nwO ps ((zbl ps (zah s ps p.states p.acts) (zah s ps p.states p.acts).length).drop ps.length) j):List za6)=(zh3 s ps p) from (by rw [show j=((zbl ps (zah s ps p.states p.acts) (zah s ps p.states p.acts).length).drop ps.length).length by have:=dF hc6;omega];rfl)) (h.conv (by kernel_rfl));refine rSeqX zcn 11 [(4,.len (za4 4 za6.d ps))] [(6,vO 0 (zh3 s ps p).length),(7,vb (decide (((zh3 s ps p).length:Int)>(ps.length:Int))))] [(0,.row 32 4 ((zh3 s ps p).map za6.d))] (by kernel_rfl) (by kernel_rfl) h fun a w h=>wpX_ret (dfS h) ?_;replace h:=zh5 0 4 32 ((zh3 s ps p).map za6.d) h [(zh3 s ps p).length] ⟨by first | exact (bC _).symm | (simp;done) | (simp;omega),trivial⟩;refine retX [.c (cRs (zh3 s ps p)),.c (cB (decide (((zh3 s ps p).length:Int)>(ps.length:Int))))] h Exit.ret (.inl rfl)  rfl ⟨RV.tmp _ _ rfl,RV.tmp _ _ rfl,trivial⟩ ?_ (by kernel_rfl) (by kernel_rfl);rfl
theorem Lplace (ps:List za6) (r:za6) (hps:ps.length<=1000000000000/\∀ p ∈ ps,TOk 200000000 3000 p.t) (hr:TOk 200000000 3000 r.t):Fn Tryz.prog 93 [] [(vRs ps),(vR r)] (vI (atR ps r)) []:=by
 have lps:=hps.1;refine fB Tryz.func93 rfl 20 fun w H B a h=>Jq 0 [] [(0,(vRs ps)),(3,vp 0 0),(4,vI 0)] [(0,.box (zR_ r))] h fun a w h=>qW (Je 1 [] [] [(5,vI 0)] h fun a w h=>qZ ?_)
 refine zbz (ι:=(Nat)) (fun j=>j<=ps.length/\zd8 (fun p=>zbp p r == 0) ps 0=zd8 (fun p=>zbp p r == 0) (ps.drop j) j)
   [4] (fun j=>[(5,vN j)])
   [] (fun j=>[])
   (fun j=>ps.length - j) 0 ?_ h ?_
 ·exact ⟨bJ _,rfl⟩
 clear h;rintro j a w hI h;obtain ⟨hI1,hI2⟩:=hI;refine qW (Je 1 [(2,.len (za4 4 za6.d ps))] [] [(9,vb (decide ((j:Int)<(ps.length:Int))))] h fun a w h=>zae ((j:Int)<(ps.length:Int)) h (fun hc1 hc1'=>?_) (fun hc4 hc4'=>?_))
 ·refine qU (za2 (qW (qZ ?_)));obtain ⟨x1,hx1⟩:=gl ps j;refine Je 1 [(2,.g (xD 14 12 kc_3 (za8 hx1 (f:=za6.d)) (OV.tmp 13 _))),(5,.call (LR4Cmp x1 r ((hps.2 x1 (lM hx1)).mono (by decide) (by decide)) (hr.mono (by decide) (by decide))))] [9] [(18,vb ((zbp x1 r) == 0))] h fun a w h=>cS ((zbp x1 r) == 0) h (fun hc2=>?_) (fun hc3=>?_)
  ·refine Je 1 [] [18] [(4,vN j)] h fun a w h=>qV (za9 (za5 (za5 (za9 (za5 (rT (.c (cI (j:Int))) h rfl ?_))))));have hz:atR ps r=(j:Int):=by unfold atR;rw [hI2,zf0 hx1,if_pos hc2]
   rw [hz];try rfl
  refine qU (za7 (za2 (Jf 1 [(1,.j1 j)] [18] [(5,vI ((j:Int)+1))] h fun a w h=>za2 (zaa (x:=j) (y:=j+1) h ?_ ?_))))
  ·exact ⟨by have:=zac hx1;omega,by rw [hI2,zf0 hx1,if_neg (by rw [hc3];exact Bool.noConfusion)]⟩
  show ps.length - (j+1)<ps.length - j;have:=zac hx1;omega
 refine exA (Jq 1 [] [(4,vI (-1))] [] h fun a w h=>qV (rT (.c (cI (-1))) h rfl ?_));have hz:atR ps r=-1:=by unfold atR;rw [hI2,dI (by omega)];rfl
 rw [hz];try rfl
theorem LR21Gather0 (ps:List za6) (f:za0) (ih:∀ g ∈ f.kids,∀ ps:List za6,(∀ r ∈ ps,TOk 200000000 3000 r.t)->ps.length+g.nodes<=1000000000000->Fn Tryz.prog 53 [] [.t (.c (.d (.sl 4 (ps.map za6.d)))),.t (.agg ([.d (.raw (.int .i64 g.kind)),.d (.sl 3 (g.r.t.parts.map za3.d))]++zi g.r.t.k++[.d (.raw (.bool g.r.eq)),.d (.sl 6 (g.kids.map za0.d))]))] (.t (.c (.d (.sl 4 ((za0.gathR g ps).map za6.d))))) []) (hf:f.okA 200000000 2900) (hps:ps.length<=1000000000000/\∀ p ∈ ps,TOk 200000000 3000 p.t) (hl:ps.length+f.nodes<=1000000000000):Fn Tryz.prog 53 [] [.t (.c (.d (.sl 4 (ps.map za6.d)))),.t (.agg ([.d (.raw (.int .i64 f.kind)),.d (.sl 3 (f.r.t.parts.map za3.d))]++zi f.r.t.k++[.d (.raw (.bool f.r.eq)),.d (.sl 6 (f.kids.map za0.d))]))] (.t (.c (.d (.sl 4 ((za0.gathR f ps).map za6.d))))) []:=by
 have hnf:=za0.nodes_eq f;have lkn:=zdw f.kids;have lps:=hps.1;refine fB Tryz.func53 rfl 51 fun w H B a h=>Jq 0 [] [(0,.t (.c (.d (.sl 4 (ps.map za6.d))))),(3,vp 0 0),(4,.t (.c (.d (.raw zai))))] [(0,.box ([.d (.raw (.int .i64 f.kind)),.d (.sl 3 (f.r.t.parts.map za3.d))]++zi f.r.t.k++[.d (.raw (.bool f.r.eq)),.d (.sl 6 (f.kids.map za0.d))]))] h fun a w h=>qW (Je 1 [] [] [(10,vb (f.kind == 2))] h fun a w h=>cS (f.kind == 2) h (fun hc1=>?_) (fun hc6=>?_))
 ·refine qW (Je 1 [(3,.call (Lplace ps f.r hps (rel_okA hf (by first | exact hc1 | (have:=hc1;simpa using this)))))] [10] [(15,vb (decide ((atR ps f.r)>=0)))] h fun a w h=>zae ((atR ps f.r)>=0) h (fun hc2 hc2'=>?_) (fun hc3 hc3'=>?_))
  ·refine Je 1 [] [15] [(4,.t (.c (.d (.sl 4 (ps.map za6.d)))))] h fun a w h=>qV (za5 (za5 (rT (.c (.d (.sl 4 (ps.map za6.d)))) h rfl ?_)));have hz:f.gathR ps=ps:=gathR_2 (by have:=hc1;simpa using this) (dT hc2);rw [hz];try rfl
  refine qU (za2 (Jg 1 [(0,.g (Op.buildE (d:=17) (n:=1) kc_5))] [15] [(5,.t (.c (.own 1 0)))] [] [(1,.row 32 4 ([].map za6.d))] h fun a w h=>qW (Je 2 [] [] [(6,vI 0)] h fun a w h=>qZ ?_)))
  refine zbz (ι:=(Nat)) (fun j=>j<=ps.length)
    [] (fun j=>[(5,.t (.c (.own 1 (ps.take j).length))),(6,vN j)])
    [] (fun j=>[(1,.row 32 4 ((ps.take j).map za6.d))])
    (fun j=>ps.length - j) 0 ?_ h ?_
  ·exact bJ _
  clear h;rintro j a w hI h;have lpj:(ps.take j).length<=j:=by rw [cR];omega
  refine qW (Je 2 [(2,.len (za4 4 za6.d ps))] [] [(21,vb (decide ((j:Int)<(ps.length:Int))))] h fun a w h=>zae ((j:Int)<(ps.length:Int)) h (fun hc4 hc4'=>?_) (fun hc5 hc5'=>?_))
  ·refine qU (za2 (qW (qZ ?_)));obtain ⟨x2,hx2⟩:=gl ps j;refine Jh 2 [(3,.g (xD 27 25 kc_3 (za8 hx2 (f:=za6.d)) (OV.tmp 26 _))),(5,.g (Op.buildO (d:=29) (n:=2) (len:=1) (rows:=[x2].map za6.d) (rs:=[(28,.t (.agg ([.d (.sl 3 (x2.t.parts.map za3.d))]++zi x2.t.k++[.d (.raw (.bool x2.eq))])))]) kc_5 (.cons (i:=0) (OV.tmp 28 _) (.nil)) (by kernel_rfl) rfl (by simp [za6.d]) (by decide) (by decide))),(6,.g (Op.appOO (d:=30) (t:=24) (u:=29) (n:=1) (sn:=2) (n':=3) (len:=(ps.take j).length) (len2:=1) (len':=((ps.take j)++[x2]).length) (rows:=(ps.take j).map za6.d) (rows2:=[x2].map za6.d) (rows':=((ps.take j)++[x2]).map za6.d) lh8_3 (by first | exact (bC _).symm | simp) (by first | exact (bC _).symm | simp) (by first | (rw [bL,bC];done) | simp) (by simp) (by first | omega | (simp at *;done) | (simp at *;omega))))] [21] [(5,.t (.c (.own 3 ((ps.take j)++[x2]).length)))] [1] [(3,.row 32 4 (((ps.take j)++[x2]).map za6.d))] h fun a w h=>za7 (za2 (Jf 4 [(1,.j1 j)] [] [(6,vI ((j:Int)+1))] h fun a w h=>za2 ?_));rw [show (((ps.take j)++[x2]):List za6)=(ps.take (j+1)) from (by rw [cU,hx2];rfl)] at h;replace h:=zcr 3 1 h;refine zaa (x:=j) (y:=j+1) h ?_ ?_
   ·have:=zac hx2;show j+1<=ps.length;omega
   show ps.length - (j+1)<ps.length - j;have:=zac hx2;omega
  refine exA (Jg 4 [(3,.g (Op.buildO (d:=34) (n:=4) (len:=1) (rows:=[f.r].map za6.d) (rs:=[(33,.t (.agg ([.d (.sl 3 (f.r.t.parts.map za3.d))]++zi f.r.t.k++[.d (.raw (.bool f.r.eq))])))]) kc_5 (.cons (i:=0) (OV.tmp 33 _) (.nil)) (by kernel_rfl) rfl (by simp [za6.d]) (by decide) (by decide))),(4,.g (Op.appOO (d:=35) (t:=31) (u:=34) (n:=1) (sn:=4) (n':=5) (len:=(ps.take j).length) (len2:=1) (len':=((ps.take j)++[f.r]).length) (rows:=(ps.take j).map za6.d) (rows2:=[f.r].map za6.d) (rows':=((ps.take j)++[f.r]).map za6.d) lh8_3 (by first | exact (bC _).symm | simp) (by first | exact (bC _).symm | simp) (by first | (rw [bL,bC];done) | simp) (by simp) (by first | omega | (simp at *;done) | (simp at *;omega))))] [5,6,21] [(4,.t (.c (.own 5 ((ps.take j)++[f.r]).length)))] [1] [(5,.row 32 4 (((ps.take j)++[f.r]).map za6.d))] h fun a w h=>qV (za5 ?_));replace h:=zh5 5 4 32 (((ps.take j)++[f.r]).map za6.d) h [((ps.take j)++[f.r]).length] ⟨by first | exact (bC _).symm | (simp;done) | (simp;omega),trivial⟩;refine rT (.c (.d (.sl 4 (((ps.take j)++[f.r]).map za6.d)))) h rfl ?_;have hz:f.gathR ps=((ps.take j)++[f.r]):=(gathR_2n (by have:=hc1;simpa using this) (dF hc3)).trans (by rw [b7 (by omega)]);rw [hz];try rfl
 refine qU (za2 (qW (Je 6 [] [10] [(7,vI 0)] h fun a w h=>qZ ?_)))
 refine zbz (ι:=(Nat)) (fun j=>j<=f.kids.length)
   [] (fun j=>[(0,.t (.c (.d (.sl 4 (((f.kids.take j).foldl (fun a g=>g.gathR a) ps).map za6.d))))),(7,vN j)])
   [] (fun j=>[])
   (fun j=>f.kids.length - j) 0 ?_ h ?_
 ·exact bJ _
 clear h;rintro j a w hI h;have lfj:=foldGR_len (f.kids.take j) ps (fun g _=>gathR_len g);have ltj:=take_le f.kids j;refine qW (Je 6 [(3,.len (za4 6 za0.d f.kids))] [] [(40,vb (decide ((j:Int)<(f.kids.length:Int))))] h fun a w h=>zae ((j:Int)<(f.kids.length:Int)) h (fun hc7 hc7'=>?_) (fun hc8 hc8'=>?_))
 ·refine qU (za2 (qW (qZ ?_)));obtain ⟨x3,hx3⟩:=gl f.kids j;refine Jf 6 [(4,.g (xD 47 45 zfx ((za8 hx3 (f:=za0.d)).trans (congrArg some (za0.d_eq x3))) (OV.tmp 46 _))),(6,.call (ih x3 (lM hx3) ((f.kids.take j).foldl (fun a g=>g.gathR a) ps) (foldGR_tok _ (fun q hq=>za0.okA_mono (by decide) (by decide) _ (zg9 hf (dD hq))) ps hps.2) (by have:=zgn f.kids j hx3;omega)))] [40] [(0,.t (.c (.d (.sl 4 ((za0.gathR x3 ((f.kids.take j).foldl (fun a g=>g.gathR a) ps)).map za6.d)))))] h fun a w h=>za7 (za2 (Jf 6 [(1,.j1 j)] [] [(7,vI ((j:Int)+1))] h fun a w h=>za2 ?_));rw [show ((za0.gathR x3 ((f.kids.take j).foldl (fun a g=>g.gathR a) ps)):List za6)=((f.kids.take (j+1)).foldl (fun a g=>g.gathR a) ps) from (foldGR_at hx3).symm] at h;refine zaa (x:=j) (y:=j+1) h ?_ ?_
  ·have:=zac hx3;show j+1<=f.kids.length;omega
  show f.kids.length - (j+1)<f.kids.length - j;have:=zac hx3;omega
 refine exA (Jq 6 [] [(4,.t (.c (.d (.sl 4 (((f.kids.take j).foldl (fun a g=>g.gathR a) ps).map za6.d)))))] [] h fun a w h=>qV (rT (.c (.d (.sl 4 (((f.kids.take j).foldl (fun a g=>g.gathR a) ps).map za6.d)))) h rfl ?_));have hz:f.gathR ps=((f.kids.take j).foldl (fun a g=>g.gathR a) ps):=(gathR_k (by have:=hc6;simpa using this)).trans (by rw [b7 (by omega)]);rw [hz];try rfl
theorem LR21Gather (f:za0):f.okA 200000000 2900->∀ ps:List za6,(∀ r ∈ ps,TOk 200000000 3000 r.t)->ps.length+f.nodes<=1000000000000->Fn Tryz.prog 53 [] [(vRs ps),(vF f)] (vRs (za0.gathR f ps)) [] :=
 za0.ind (P:=fun f=>f.okA 200000000 2900->∀ ps:List za6,(∀ r ∈ ps,TOk 200000000 3000 r.t)->ps.length+f.nodes<=1000000000000->Fn Tryz.prog 53 [] [(vRs ps),(vF f)] (vRs (za0.gathR f ps)) []) (fun k r ks ih hf ps hps hl=>LR21Gather0 ps ⟨k,r,ks⟩ (fun g hg=>ih g hg (zg9 hf hg)) hf ⟨by omega,hps⟩ hl) f
def fam1tb:Tb:=[(24,⟨1,false,[],[.d (.sl 3 (([]:List za3).map za3.d))],1⟩),(4,⟨1,false,[],[.d (.raw (.bool false))],3⟩),(26,⟨1,false,[],[.d (nsl [])],1⟩),(28,⟨2,true,[(0,1,false),(1,1,false)],[.d (.raw (.bool false)),.d (nsl [])],0⟩),(30,⟨3,true,[(0,1,false),(1,2,true)],[.d (.sl 3 (([]:List za3).map za3.d)),.d (.raw (.bool false)),.d (nsl [])],0⟩),(32,⟨4,true,[(0,3,true),(3,1,false)],[.d (.sl 3 (([]:List za3).map za3.d)),.d (.raw (.bool false)),.d (nsl []),.d (.raw (.bool false))],0⟩),(3,⟨1,false,[],[.d (.raw (.int .i64 0))],13⟩),(124,⟨3,true,[(0,1,false),(1,2,true)],[.d (.raw (.int .i64 0)),.d (.raw (.bool false)),.d (nsl [])],0⟩),(22,⟨1,false,[],[.d (.sl 1 (([]:List ByteArray).map zew))],1⟩),(23,⟨1,false,[],[.d (.sl 5 (([]:List zao).map zao.d))],1⟩),(33,⟨1,false,[],[.d (.sl 6 (([]:List za0).map za0.d))],1⟩),(35,⟨6,true,[(0,1,false),(1,4,true),(5,1,false)],[.d (.raw (.int .i64 0)),.d (.sl 3 (([]:List za3).map za3.d)),.d (.raw (.bool false)),.d (nsl []),.d (.raw (.bool false)),.d (.sl 6 (([]:List za0).map za0.d))],0⟩),(36,⟨1,false,[],[.d (.sl 3 (([]:List zbv).map zbv.d))],1⟩),(37,⟨1,false,[],[.d (.sl 10 (([]:List zbe).map zbe.d))],1⟩),(39,⟨10,true,[(0,1,false),(1,1,false),(2,6,true),(8,1,false),(9,1,false)],[.d (.sl 1 (([]:List ByteArray).map zew)),.d (.sl 5 (([]:List zao).map zao.d)),.d (.raw (.int .i64 0)),.d (.sl 3 (([]:List za3).map za3.d)),.d (.raw (.bool false)),.d (nsl []),.d (.raw (.bool false)),.d (.sl 6 (([]:List za0).map za0.d)),.d (.sl 3 (([]:List zbv).map zbv.d)),.d (.sl 10 (([]:List zbe).map zbe.d))],0⟩),(41,⟨1,false,[],[.d (.sl 2 (([]:List zdr).map zdr.d))],1⟩),(42,⟨1,false,[],[.d (.sl 1 (([]:List Int).map zb4))],1⟩),(44,⟨2,true,[(0,1,false),(1,1,false)],[.d (.sl 2 (([]:List zdr).map zdr.d)),.d (.sl 1 (([]:List Int).map zb4))],0⟩),(67,⟨1,false,[],[.d (.sl 1 (([]:List Bool).map zdz))],1⟩),(69,⟨2,true,[(0,1,false),(1,1,false)],[.d (.sl 1 (([]:List Int).map zb4)),.d (.sl 1 (([]:List Bool).map zdz))],0⟩),(40,⟨1,false,[],[.d (.sl 4 (([]:List za6).map za6.d))],1⟩),(71,⟨1,false,[],[.d (.sl 5 (([]:List zap).map zap.d))],1⟩),(73,⟨10,true,[(0,1,false),(1,1,false),(2,1,false),(3,6,true),(9,1,false)],[.d (.raw (.int .i64 0)),.d (.raw (.int .i64 0)),.d (.raw (.int .i64 0)),.d (.raw (.int .i64 0)),.d (.sl 3 (([]:List za3).map za3.d)),.d (.raw (.bool false)),.d (nsl []),.d (.raw (.bool false)),.d (.sl 6 (([]:List za0).map za0.d)),.d (.sl 5 (([]:List zap).map zap.d))],0⟩),(75,⟨5,true,[(0,1,false),(1,1,false),(2,3,true)],[.d (.raw (.int .i64 0)),.d (.raw (.bool false)),.d (.sl 3 (([]:List za3).map za3.d)),.d (.raw (.bool false)),.d (nsl [])],0⟩),(59,⟨1,false,[],[.d (.raw zai)],1⟩),(61,⟨2,true,[(0,1,false),(1,1,false)],[.d (.raw zai),.d (.raw zai)],0⟩),(98,⟨2,true,[(0,1,false),(1,1,false)],[.d (.raw zai),.d (.raw zai)],0⟩),(45,⟨1,false,[],[.d (.raw zai)],1⟩),(47,⟨3,true,[(0,1,false),(1,1,false),(2,1,false)],[.d (.raw zai),.d (.raw zai),.d (.raw zai)],0⟩),(9,⟨1,false,[],[.d (.raw (.string ByteArray.empty))],2⟩),(100,⟨1,false,[],[.d (.sl 10 [])],1⟩),(102,⟨3,true,[(0,1,false),(1,1,false),(2,1,false)],[.d (.raw (.string ByteArray.empty)),.d (.sl 1 (([]:List ByteArray).map zew)),.d (.sl 10 [])],0⟩)]
theorem zbf:zju Tryz.prog fam1tb:=tbB_spec (by kernel_rfl)
def sm24 (s:zb3) (ps:List za6) (p:ze0):Bool:=(zbu 1 s && (decide (s.acts.length<=6) && (zgd ps 30 1 && (decide (p.states.length<=5) && (decide (p.acts.length<=6) && p.states.all (fun x:zdr=>decide (x.locs.length<=8) && decide (x.bits.length<=30)))))))
theorem zh2 (n:Int) (hn:-1000<=n/\n<=1000):Fn Tryz.prog 28 [] [vI n] (vG [cPs (zan n).t.parts,cB (zan n).t.k.neg,.d (nsl (zan n).t.k.abs),cB (zan n).eq]) []:=by
 refine fB Tryz.func28 rfl 11 fun w H B a h=>Jq (htb:=zbf) 0 [] [(0,vI n),(2,vp 0 0)] [(0,.box [cPs ([]:List za3),cB false,.d (nsl []),cB false])] h fun a w h=>Jd (htb:=zbf) 1 [(0,.call (SROf 1 ⟨by omega,by omega⟩)),(2,.g (bD 5 ([(za3.mk 0 (ZI.of 1))].map za3.d) [(4,vG [cI 0,cB (ZI.of 1).neg,.d (nsl (ZI.of 1).abs)])] tb_9 (.cons (i:=0) (OV.tmp 4 _) (.nil)) (by kernel_rfl) (by simp [za3.d]))),(4,.sub .i64 (m:=0) (n:=n) i6),(5,.call (SROf (0 - n) ⟨by omega,by omega⟩))] [0] [] [(0,.box [cPs [(za3.mk 0 (ZI.of 1))],cB (ZI.of (0 - n)).neg,.d (nsl (ZI.of (0 - n)).abs),cB false])] h fun a w h=>qV (rA 0 [cPs [(za3.mk 0 (ZI.of 1))],cB (ZI.of (0 - n)).neg,.d (nsl (ZI.of (0 - n)).abs),cB false] h zjm rfl ?_)
 rfl
theorem Lsmall24 (s:zb3) (ps:List za6) (p:ze0) (hr:SysRd s) (hpl:ps.length<=9223372036854775807) (hsl:p.states.length<=9223372036854775807) (hal:p.acts.length<=9223372036854775807) (hxl:∀ x ∈ p.states,x.locs.length<=9223372036854775807/\x.bits.length<=9223372036854775807):Fn Tryz.prog 8 [] [vG [.d (.sl 1 (s.vars.map zew)),.d (.sl 5 (s.bounds.map zao.d)),cI s.init.kind,cPs s.init.r.t.parts,cB s.init.r.t.k.neg,.d (nsl s.init.r.t.k.abs),cB s.init.r.eq,cFs s.init.kids,.d (.sl 3 (s.procs.map zbv.d)),.d (.sl 10 (s.acts.map zbe.d))],(vRs ps),vG [.d (.sl 2 (p.states.map zdr.d)),cIs p.acts]] (vb (sm24 s ps p)) []:=by
 have lac9:=hr.len;refine fB Tryz.func8 rfl 53 fun w H B a h=>Jq (htb:=zbf) 0 [] [(1,(vRs ps)),(3,vp 0 0),(5,vp 1 0),(6,vb false)] [(0,.box [.d (.sl 1 (s.vars.map zew)),.d (.sl 5 (s.bounds.map zao.d)),cI s.init.kind,cPs s.init.r.t.parts,cB s.init.r.t.k.neg,.d (nsl s.init.r.t.k.abs),cB s.init.r.eq,cFs s.init.kids,.d (.sl 3 (s.procs.map zbv.d)),.d (.sl 10 (s.acts.map zbe.d))]),(1,.box [.d (.sl 2 (p.states.map zdr.d)),cIs p.acts])] h fun a w h=>qW ?_
 rcases b9 (zbu 1 s) with hc1 | hc16
 ·rcases b9 (decide ((s.acts.length:Int)>6)) with hc2 | hc3
  ·have hc2':=dT hc2;refine Jg (htb:=zbf) 2 [(1,.call (Fn.cast (SFewSys s 1 hr) (congrArg vb hc1))),(6,.len (za4 10 zbe.d s.acts)),(7,.cmp (op:=.gtr) (m:=(s.acts.length:Int)) (n:=6) (b:=true) .i64 hc2)] [1,3] [(34,vb true)] [0] [] h fun a w h=>cS true h (fun _=>?_) nofun
   refine Je (htb:=zbf) 2 [] [34] [] h fun a w h=>qV (za5 (rT (.c (cB false)) h rfl ?_));have hz:sm24 s ps p=(false):=by unfold sm24;rw [hc1,decide_eq_false (p:=s.acts.length<=6) (by have:=dT hc2;omega)];simp
   rw [hz];try rfl
  have hc3':=dF hc3
  rcases b9 (zgd ps 30 1) with hc4 | hc15
  ·rcases b9 (decide ((p.states.length:Int)>5)) with hc5 | hc6
   ·have hc5':=dT hc5;refine Jg (htb:=zbf) 2 [(1,.call (Fn.cast (SFewSys s 1 hr) (congrArg vb hc1))),(6,.len (za4 10 zbe.d s.acts)),(7,.cmp (op:=.gtr) (m:=(s.acts.length:Int)) (n:=6) (b:=false) .i64 hc3),(11,.call (Fn.cast (LFewRs ps 30 1 hpl) (congrArg vb hc4))),(17,.len (za4 2 zdr.d p.states)),(18,.cmp (op:=.gtr) (m:=(p.states.length:Int)) (n:=5) (b:=true) .i64 hc5)] [1,3] [(34,vb true)] [0] [] h fun a w h=>cS true h (fun _=>?_) nofun
    refine Je (htb:=zbf) 2 [] [34] [] h fun a w h=>qV (za5 (rT (.c (cB false)) h rfl ?_));have hz:sm24 s ps p=(false):=by unfold sm24;rw [hc1,decide_eq_true (p:=s.acts.length<=6) (by have:=dF hc3;omega),hc4,decide_eq_false (p:=p.states.length<=5) (by have:=dT hc5;omega)];simp
    rw [hz];try rfl
   have hc6':=dF hc6;refine Jg (htb:=zbf) 2 [(1,.call (Fn.cast (SFewSys s 1 hr) (congrArg vb hc1))),(6,.len (za4 10 zbe.d s.acts)),(7,.cmp (op:=.gtr) (m:=(s.acts.length:Int)) (n:=6) (b:=false) .i64 hc3),(11,.call (Fn.cast (LFewRs ps 30 1 hpl) (congrArg vb hc4))),(17,.len (za4 2 zdr.d p.states)),(18,.cmp (op:=.gtr) (m:=(p.states.length:Int)) (n:=5) (b:=false) .i64 hc6),(23,.len (za4 1 zb4 p.acts))] [1,3] [(34,vb (decide ((p.acts.length:Int)>6)))] [0] [] h fun a w h=>zae ((p.acts.length:Int)>6) h (fun hc7 hc7'=>?_) (fun hc8 hc8'=>?_)
   ·refine Je (htb:=zbf) 2 [] [34] [] h fun a w h=>qV (za5 (rT (.c (cB false)) h rfl ?_));have hz:sm24 s ps p=(false):=by unfold sm24;rw [hc1,decide_eq_true (p:=s.acts.length<=6) (by have:=dF hc3;omega),hc4,decide_eq_true (p:=p.states.length<=5) (by have:=dF hc6;omega),decide_eq_false (p:=p.acts.length<=6) (by have:=dT hc7;omega)];simp
    rw [hz];try rfl
   refine qU (za2 (qW (Jd (htb:=zbf) 2 [(2,.len (za4 2 zdr.d p.states))] [5,34] [(36,vS 2 (p.states.map zdr.d)),(37,vN p.states.length),(38,vI 0)] [] h fun a w h=>qZ ?_)))
   refine zbz (ι:=(Nat)) (fun j=>j<=p.states.length/\(p.states.take j).all (fun x:zdr=>decide (x.locs.length<=8) && decide (x.bits.length<=30))=true)
     [6] (fun j=>[(38,vN j)])
     [] (fun j=>[])
     (fun j=>p.states.length - j) 0 ?_ h ?_
   ·exact ⟨bJ _,rfl⟩
   clear h;rintro j a w hI h;obtain ⟨hI1,hI2⟩:=hI;refine Jg (htb:=zbf) 2 [] [] [(39,vb (decide ((j:Int)<(p.states.length:Int))))] [] [] h fun a w h=>qW (zae ((j:Int)<(p.states.length:Int)) h (fun hc9 hc9'=>?_) (fun hc14 hc14'=>?_))
   ·refine qU (za2 (qW (qZ ?_)));obtain ⟨x12,hx12⟩:=gl p.states j;obtain ⟨lx1,lx2⟩:=hxl x12 (lM hx12);refine Jg (htb:=zbf) 2 [(0,.g (xD 40 36 ln14_4 (za8 hx12 (f:=zdr.d)) (OV.tmp 38 _)))] [39] [(8,vp 2 0)] [] [(2,.box [cIs x12.locs,.d (.sl 1 (x12.bits.map zdz))])] h fun a w h=>?_
    rcases b9 (decide ((x12.locs.length:Int)>8)) with hc10 | hc11
    ·have hc10':=dT hc10;refine Jg (htb:=zbf) 3 [(2,.len (za4 1 zb4 x12.locs)),(3,.cmp (op:=.gtr) (m:=(x12.locs.length:Int)) (n:=8) (b:=true) .i64 hc10)] [8] [(51,vb true)] [2] [] h fun a w h=>cS true h (fun _=>?_) nofun
     refine Jg (htb:=zbf) 3 [] [51] [(6,vb false)] [] [] h fun a w h=>qV (za9 (za5 (za5 (za9 (za5 (rT (.c (cB false)) h rfl ?_))))));have hz:sm24 s ps p=(false):=by unfold sm24;rw [hc1,decide_eq_true (p:=s.acts.length<=6) (by have:=dF hc3;omega),hc4,decide_eq_true (p:=p.states.length<=5) (by have:=dF hc6;omega),decide_eq_true (p:=p.acts.length<=6) (by have:=dF hc8;omega)];rw [zc9 (q:=(fun x:zdr=>decide (x.locs.length<=8) && decide (x.bits.length<=30))) hx12 (by rw [decide_eq_false (by have:=dT hc10;omega)];rfl)];rfl
     rw [hz];try rfl
    have hc11':=dF hc11;refine Jg (htb:=zbf) 3 [(2,.len (za4 1 zb4 x12.locs)),(3,.cmp (op:=.gtr) (m:=(x12.locs.length:Int)) (n:=8) (b:=false) .i64 hc11),(7,.len (za4 1 zdz x12.bits))] [8] [(51,vb (decide ((x12.bits.length:Int)>30)))] [2] [] h fun a w h=>zae ((x12.bits.length:Int)>30) h (fun hc12 hc12'=>?_) (fun hc13 hc13'=>?_)
    ·refine Jg (htb:=zbf) 3 [] [51] [(6,vb false)] [] [] h fun a w h=>qV (za9 (za5 (za5 (za9 (za5 (rT (.c (cB false)) h rfl ?_))))));have hz:sm24 s ps p=(false):=by unfold sm24;rw [hc1,decide_eq_true (p:=s.acts.length<=6) (by have:=dF hc3;omega),hc4,decide_eq_true (p:=p.states.length<=5) (by have:=dF hc6;omega),decide_eq_true (p:=p.acts.length<=6) (by have:=dF hc8;omega)];rw [zc9 (q:=(fun x:zdr=>decide (x.locs.length<=8) && decide (x.bits.length<=30))) hx12 (by rw [decide_eq_false (p:=x12.bits.length<=30) (by have:=dT hc12;omega),Bool.and_false])];rfl
     rw [hz];try rfl
    refine qU (za7 (za2 (Jh (htb:=zbf) 3 [(0,.j1 j)] [51] [(38,vI ((j:Int)+1))] [] [] h fun a w h=>za2 (zaa (x:=j) (y:=j+1) h ?_ ?_))))
    ·exact ⟨by have:=zac hx12;omega,ze8 hx12 hI2 (by rw [decide_eq_true (by have:=dF hc11;omega),decide_eq_true (by have:=dF hc13;omega)];rfl)⟩
    show p.states.length - (j+1)<p.states.length - j;have:=zac hx12;omega
   refine exA (Jq (htb:=zbf) 3 [] [(6,vb true)] [] h fun a w h=>qV (rT (.c (cB true)) h rfl ?_));have hz:sm24 s ps p=(true):=by unfold sm24;rw [hc1,decide_eq_true (p:=s.acts.length<=6) (by have:=dF hc3;omega),hc4,decide_eq_true (p:=p.states.length<=5) (by have:=dF hc6;omega),decide_eq_true (p:=p.acts.length<=6) (by have:=dF hc8;omega)];rw [ze2 (q:=(fun x:zdr=>decide (x.locs.length<=8) && decide (x.bits.length<=30))) (dF hc14) hI2];rfl
   rw [hz];try rfl
  refine Jg (htb:=zbf) 3 [(1,.call (Fn.cast (SFewSys s 1 hr) (congrArg vb hc1))),(6,.len (za4 10 zbe.d s.acts)),(7,.cmp (op:=.gtr) (m:=(s.acts.length:Int)) (n:=6) (b:=false) .i64 hc3),(11,.call (Fn.cast (LFewRs ps 30 1 hpl) (congrArg vb hc15)))] [1,3] [(34,vb true)] [0] [] h fun a w h=>cS true h (fun _=>?_) nofun
  refine Je (htb:=zbf) 3 [] [34] [] h fun a w h=>qV (za5 (rT (.c (cB false)) h rfl ?_));have hz:sm24 s ps p=(false):=by unfold sm24;rw [hc1,decide_eq_true (p:=s.acts.length<=6) (by have:=dF hc3;omega),hc15];simp
  rw [hz];try rfl
 refine Jg (htb:=zbf) 3 [(1,.call (Fn.cast (SFewSys s 1 hr) (congrArg vb hc16)))] [1,3] [(34,vb true)] [0] [] h fun a w h=>cS true h (fun _=>?_) nofun
 refine Je (htb:=zbf) 3 [] [34] [] h fun a w h=>qV (za5 (rT (.c (cB false)) h rfl ?_));have hz:sm24 s ps p=(false):=by unfold sm24;rw [hc16];simp
 rw [hz];try rfl
theorem take_snoc9 {xs:List α} {x:α} (h:xs[j]?=some x):xs.take j++[x]=xs.take (j+1):=by rw [cU,h];rfl
theorem gcd_dvd {d a b:Int} (h1:d∣a) (h2:d∣b):d∣((Nat.gcd a.natAbs b.natAbs:Nat):Int) :=
 dE.1 (by rw [Int.natAbs_natCast];exact Nat.dvd_gcd (dE.2 h1) (dE.2 h2))
theorem con_great {d:Int} {ps:List za3} (h:∀ p ∈ ps,d∣p.c.val):d∣zbm ps:=by
 have key:∀ (ps:List za3) (g:Int),d∣g->(∀ p ∈ ps,d∣p.c.val)->d∣ps.foldl (fun g p=>(Nat.gcd g.natAbs p.c.val.natAbs:Int)) g:=by
  intro ps
  induction ps with
  | nil=>intro g hg _;exact hg
  | cons p ps ih =>
   intro g hg hp
   rw [bP]
   exact ih _ (gcd_dvd hg (hp p (bG ..))) fun q hq=>hp q (bV _ hq)
 exact key ps 0 (Int.dvd_zero d) h
theorem con_ge (ps:List za3):0<=zbm ps:=by
 have key:∀ (ps:List za3) (g:Int),0<=g->0<=ps.foldl (fun g p=>(Nat.gcd g.natAbs p.c.val.natAbs:Int)) g:=by
  intro ps
  induction ps with
  | nil=>intro g hg;exact hg
  | cons p ps ih=>intro g _;rw [bP];exact ih _ (Int.natCast_nonneg _)
 exact key ps 0 (Int.le_refl 0)
theorem con_one {ps:List za3} (h:zbm ps∣1):zbm ps=1:=by
 obtain ⟨c,hc⟩:=h
 have h0:=con_ge ps
 have h1:(zbm ps).natAbs*c.natAbs=1:=by rw [<- Int.natAbs_mul,<- hc];rfl
 have h2:=Nat.eq_one_of_mul_eq_one_right h1
 omega
def Tgt (r:za6):Prop:=r.t.parts.length≠0/\za1 r.t=r.t/\zbm r.t.parts=1/\(r.eq=true->zia r.t=false)
theorem shr_tgt (h:(za1 t).parts.length≠0):(zby t).parts.length≠0/\za1 (zby t)=zby t/\zbm (zby t).parts=1:=by
 have hg:=con_pos (t:=t) (by omega)
 have e:(zby t).parts=(za1 t).parts.map (zgy (zbm (za1 t).parts)):=by unfold zby;rw [if_neg (by omega)]
 refine ⟨by rw [e,bC];exact h,shr_plain t,con_one ?_⟩
 have h1:zbm (zby t).parts*zbm (za1 t).parts∣zbm (za1 t).parts:=by
  refine con_great fun p hp=>?_
  obtain ⟨c,hc⟩:=zj7 _ p hp
  have h2:zbm (zby t).parts∣(zgy (zbm (za1 t).parts) p).c.val:=zj7 _ _ (by rw [e];exact bK.2 ⟨p,hp,rfl⟩)
  have h3:(zgy (zbm (za1 t).parts) p).c.val=c:=by
   show (ZI.of (p.c.val.fdiv _)).val=c
   rw [ZI.val_of,hc,Int.mul_fdiv_cancel_left _ (by omega)]
  rw [h3] at h2
  obtain ⟨d,hd⟩:=h2
  exact ⟨d,by rw [hc,hd];ac_rfl⟩
 obtain ⟨c,hc⟩:=h1
 refine ⟨c,?_⟩
 have h4:zbm (za1 t).parts*1=zbm (za1 t).parts*(zbm (zby t).parts*c):=by rw [Int.mul_one];rw (occs:=.pos [1]) [hc];ac_rfl
 exact Int.eq_of_mul_eq_mul_left (by omega) h4
theorem neg_parts {u:zaf} (h:za1 u=u):(zhh u).parts=u.parts.map fun p=>za3.mk p.v (ZI.of (p.c.val*-1)):=by
 have hu:=zb5 u
 rw [h] at hu
 have e:zhh u=⟨u.parts.map fun p=>za3.mk p.v (ZI.of (p.c.val*-1)),ZI.of (u.k.val*-1)⟩:=by
  unfold zhh zam
  refine zi0 ?_ (fun q hq=>?_) (fun v=>?_) ?_
  ·refine List.pairwise_map.2 ?_
   exact hu.1
  ·obtain ⟨p,hp,rfl⟩:=bK.1 hq
   obtain ⟨h0,_,h2⟩:=hu.2.1 p hp
   refine ⟨h0,by show ZI.of _=ZI.of (ZI.of _).val;rw [ZI.val_of],by show (ZI.of _).val≠0;rw [ZI.val_of];omega⟩
  ·show zaj (u.parts.map fun p=>za3.mk p.v (ZI.of (p.c.val*(ZI.of (-1)).val))) v=_
   rw [ZI.val_of]
  ·show ZI.of _=ZI.of (ZI.of (u.k.val*(ZI.of (-1)).val)).val
   rw [ZI.val_of,ZI.val_of]
 rw [e]
theorem neg_tgt {u:zaf} (h0:u.parts.length≠0) (h:za1 u=u) (h1:zbm u.parts=1) (hf:zia u=true):(zhh u).parts.length≠0/\za1 (zhh u)=zhh u/\zbm (zhh u).parts=1/\zia (zhh u)=false:=by
 have e:=neg_parts h
 refine ⟨by rw [e,bC];exact h0,by unfold zhh zam;exact zbc _,con_one ?_,?_⟩
 ·rw [<- h1]
  refine con_great fun p hp=>?_
  have h2:=zj7 (zhh u).parts ⟨p.v,ZI.of (p.c.val*-1)⟩ (by rw [e];exact bK.2 ⟨p,hp,rfl⟩)
  rw [show (za3.mk p.v (ZI.of (p.c.val*-1))).c.val=p.c.val*-1 from ZI.val_of _] at h2
  have:=Int.dvd_neg.2 h2
  rw [show -(p.c.val*-1)=p.c.val by omega] at this
  exact this
 ·unfold zia at hf ⊢
  rw [e]
  cases hp:u.parts with
  | nil=>rfl
  | cons p l =>
   rw [hp] at hf
   have h3:=of_decide_eq_true hf
   show decide (sgn (ZI.of (p.c.val*-1)).val<0)=false
   rw [ZI.val_of]
   refine decide_eq_false ?_
   unfold sgn at h3 ⊢
   split at h3
   ·omega
   ·split at h3
    ·split
     ·omega
     ·split <;> omega
    ·omega
theorem tight_tgt {r:za6} (h:(zag r).2=0):Tgt (zag r).1:=by
 unfold zag at h ⊢
 by_cases h1:(za1 r.t).parts.length=0
 ·rw [if_pos h1] at h;exfalso;revert h;show (if _ then (1:Int) else -1)=0->False;split <;> decide
 ·rw [if_neg h1] at h ⊢
  by_cases h2:r.eq=true/\r.t.k.val.fmod (zbm (za1 r.t).parts)≠0
  ·rw [if_pos h2] at h;cases h
  ·rw [if_neg h2]
   obtain ⟨g1,g2,g3⟩:=shr_tgt h1
   cases hf:(r.eq && zia (zby r.t)) with
   | true =>
    have hf:=(cD _ _ ▸ hf:_/\_)
    obtain ⟨k1,k2,k3,k4⟩:=neg_tgt g1 g2 g3 hf.2
    show Tgt ⟨if true=true then zhh (zby r.t) else zby r.t,r.eq⟩
    rw [if_pos rfl]
    exact ⟨k1,k2,k3,fun _=>k4⟩
   | false =>
    show Tgt ⟨if false=true then zhh (zby r.t) else zby r.t,r.eq⟩
    rw [if_neg Bool.noConfusion]
    exact ⟨g1,g2,g3,fun he=>by have he:r.eq=true:=he;rw [he] at hf;exact hf⟩
theorem tgt_tight {r:za6} (h:Tgt r):zag r=(r,0):=by
 obtain ⟨h1,h2,h3,h4⟩:=h
 have hp:=zb5 r.t
 rw [h2] at hp
 unfold zag
 rw [h2,if_neg h1,h3,if_neg (fun e=>e.2 (Int.fmod_one _))]
 have hs:zby r.t=r.t:=by
  unfold zby
  rw [h2,h3,if_neg (by decide)]
  have e1:r.t.parts.map (zgy 1)=r.t.parts:=by
   refine (List.map_congr_left fun p hp1=>?_).trans (List.map_id _)
   show za3.mk p.v (ZI.of (p.c.val.fdiv 1))=id p
   rw [Int.fdiv_one,<- (hp.2.1 p hp1).2.1];rfl
  have e2:ZI.of (r.t.k.val.fdiv 1)=r.t.k:=by
   rw [Int.fdiv_one]
   have:(za1 r.t).k=ZI.of r.t.k.val:=rfl
   rw [h2] at this;exact this.symm
  rw [e1,e2]
 rw [hs]
 cases he:r.eq with
 | true=>rw [h4 he];cases r;cases he;rfl
 | false=>cases r;cases he;rfl
theorem cmp_self9 (r:za6):zbp r r=0:=by rw [<- cmpRl_cpl];exact cmpRl_cp r
theorem tgt_B {r:za6} (h:Tgt r):tgtB r=true:=by
 unfold tgtB;rw [tgt_tight h];show ((0:Int) == 0 && zbp r r == 0)=true;rw [cmp_self9];rfl
theorem tgt_cp {r:za6} (h:Tgt r):cpR r=r:=by unfold cpR;rw [h.2.1]
def za0.tq (f:za0):Prop:=f.fold fun k r _ hs=>(k=2->Tgt r)/\∀ h ∈ hs,h
theorem za0.tq_eq (f:za0):f.tq ↔ (f.kind=2->Tgt f.r)/\∀ g ∈ f.kids,g.tq:=by
 have:=za0.fold_eq (fun k r _ (hs:List Prop)=>(k=2->Tgt r)/\∀ h ∈ hs,h) f
 unfold za0.tq
 rw [this]
 refine and_congr_right fun _=>⟨fun h g hg=>h _ (bK.2 ⟨g,hg,rfl⟩),fun h p hp=>?_⟩
 obtain ⟨g,hg,rfl⟩:=bK.1 hp
 exact h g hg
theorem tq_tru (b:Bool):(zbo b).tq:=by rw [za0.tq_eq];exact ⟨fun e=>by cases b <;> exact absurd e (by decide),fun g hg=>by cases hg⟩
theorem tq_tight (r:za6):(zav r).tq:=by
 unfold zav;split
 ·rename_i h;rw [za0.tq_eq];exact ⟨fun _=>tight_tgt h,fun g hg=>by cases hg⟩
 ·exact tq_tru _
theorem zg0 {k:Int} (hk:k=4\/k=5):∀ (fs out:List za0),(∀ g ∈ out,g.tq)->(∀ g ∈ fs,g.tq)->(zb7 k fs out).tq
 | [],out,h,_=>by
  unfold zb7
  match out with
  | []=>exact tq_tru _
  | [g]=>exact h g (bG ..)
  | g :: q :: l=>rw [za0.tq_eq];exact ⟨fun e=>by exfalso;change k=2 at e;omega,h⟩
 | f :: fs,out,h,h2=>by
  rw [zb7]
  have hf:=h2 f (bG ..)
  have hfs:∀ g ∈ fs,g.tq:=fun g hg=>h2 g (bV _ hg)
  split
  ·exact hf
  ·split
   ·exact zg0 hk fs out h hfs
   ·split
    ·exact zg0 hk fs _ (fun g hg=>(b8.1 hg).elim (h g) fun hg=>((za0.tq_eq _).1 hf).2 g hg) hfs
    ·exact zg0 hk fs _ (fun g hg=>(b8.1 hg).elim (h g) fun hg=>by rw [bE.1 hg];exact hf) hfs
theorem flat_tq (f:za0):∀ d,(f.flat d).tq :=
 za0.ind (P:=fun f=>∀ d,(f.flat d).tq) (fun k r ks ih d=>by
  rw [za0.flat_eq]
  show (zhi k r (ks.map za0.flat) d).tq
  unfold zhi
  split
  ·exact tq_tru _
  ·split
   ·split
    ·refine zg0 (.inr rfl) _ [] (fun g hg=>by cases hg) fun g hg=>?_
     obtain ⟨q,hq,rfl⟩:=bK.1 hg
     exact tq_tight q
    ·exact tq_tight r
   ·split
    ·cases ks with
     | nil=>exact tq_tru _
     | cons g gs=>exact ih g (bG ..) (!d)
    ·split
     ·rename_i h4
      refine zg0 (by cases d <;> simp <;> omega) _ [] (fun g hg=>by cases hg) fun g hg=>?_
      rw [b5] at hg
      obtain ⟨q,hq,rfl⟩:=bK.1 hg
      exact ih q hq d
     ·exact tq_tru _) f
def Apt (n:Nat) (l:List za6):Prop:=∀ k r,n<=k->l[k]?=some r->Tgt r/\∀ i q,i<k->l[i]?=some q->zbp q r≠0
theorem apt_cp {l:List za6} (h:Apt n l):Apt n (l.map cpR):=fun k r hk hr=>by
 rw [dG] at hr
 cases e:l[k]? with
 | none=>rw [e] at hr;cases hr
 | some r0 =>
  rw [e] at hr
  have hr:cpR r0=r:=by simpa using hr
  obtain ⟨h1,h2⟩:=h k r0 hk e
  rw [tgt_cp h1] at hr;subst hr
  refine ⟨h1,fun i q hi hq=>?_⟩
  rw [dG] at hq
  cases e2:l[i]? with
  | none=>rw [e2] at hq;cases hq
  | some q0 =>
   rw [e2] at hq
   have hq:cpR q0=q:=by simpa using hq
   rw [<- hq,cmpRl_cpl];exact h2 i q0 hi e2
theorem atR_no {r:za6} (h:atR ps r<0):∀ q ∈ ps,zbp q r≠0:=fun q hq=>by
 unfold atR at h
 rcases zj1 (fun p=>zbp p r == 0) ps 0 with ⟨_,h2⟩ | ⟨k,x,h1,_⟩
 ·have:=h2 q hq;simpa using this
 ·rw [h1] at h;omega
theorem gath_apt (f:za0):f.tq->∀ ps,n<=ps.length->Apt n ps->Apt n (f.gath ps) :=
 za0.ind (P:=fun f=>f.tq->∀ ps,n<=ps.length->Apt n ps->Apt n (f.gath ps)) (fun k r ks ih hf ps hn ha=>by
  obtain ⟨h1,h2⟩:=(za0.tq_eq _).1 hf
  change k=2->Tgt r at h1
  change ∀ g ∈ ks,_ at h2
  rw [za0.gath_eq]
  show Apt n (if k=2/\atR ps r<0 then ps++[cpR r] else ks.foldl (fun a g=>g.gath a) ps)
  split
  ·rename_i e
   intro m q hm hq
   rw [List.getElem?_append] at hq
   split at hq
   ·rename_i hlt
    obtain ⟨a1,a2⟩:=ha m q hm hq
    exact ⟨a1,fun i p hi hp=>a2 i p hi (by rw [dN (by omega)] at hp;exact hp)⟩
   ·rename_i hge
    have hm2:m=ps.length:=by
     rcases Nat.lt_or_ge ps.length m with h | h
     ·rw [List.getElem?_eq_none (by simp;omega)] at hq;cases hq
     ·omega
    subst hm2
    rw [c8] at hq
    have hq:cpR r=q:=by simpa using hq
    rw [tgt_cp (h1 e.1)] at hq;subst hq
    refine ⟨h1 e.1,fun i p hi hp=>?_⟩
    rw [dN hi] at hp
    exact atR_no e.2 p (cQ hp)
  ·have key:∀ (xs:List za0),(∀ g ∈ xs,g ∈ ks)->∀ qs:List za6,n<=qs.length->Apt n qs->Apt n (xs.foldl (fun a g=>g.gath a) qs):=fun xs=>by
    induction xs with
    | nil=>intro _ qs _ h;exact h
    | cons x xs ihx =>
     intro hx qs hq h
     rw [bP]
     refine ihx (fun g hg=>hx g (bV _ hg)) _ ?_ (ih x (hx x (bG ..)) (h2 x (hx x (bG ..))) qs hq h)
     obtain ⟨l,e⟩:=gath_pre x qs
     rw [e,bL];omega
   exact key ks (fun g hg=>hg) ps hn ha) f
theorem newA_apt (ps:List za6) (cs:List za0) (j:Nat):Apt ps.length (zbl ps cs j):=by
 induction j with
 | zero=>intro k r hk hr;have:=zac hr;exact absurd this (Nat.not_lt_of_le hk)
 | succ j ih=>exact gath_apt _ (flat_tq _ false) _ (by rw [bC];exact newA_ge ps cs j) (apt_cp ih)
theorem newA_old (ps:List za6) (cs:List za0) (j:Nat):((zbl ps cs j).map cpR).take ps.length=ps.map cpR:=by
 induction j with
 | zero=>show (ps.map cpR).take _=_;rw [b7 (by rw [bC];exact bF _)]
 | succ j ih =>
  show ((((zbi cs j).flat false).gath ((zbl ps cs j).map cpR)).map cpR).take _=_
  obtain ⟨l,e⟩:=gath_pre ((zbi cs j).flat false) ((zbl ps cs j).map cpR)
  rw [e,cY,List.take_append_of_le_length (by rw [bC,bC];exact newA_ge ps cs j),b5,show (cpR ∘ cpR)=cpR from funext cpR_cpR,ih]
theorem newS_fold {xs:List za6} (h:∀ r ∈ xs,tgtB r=true):xs.foldl nwS out=out++(xs.take (24 - out.length)).map cpR:=by
 induction xs generalizing out with
 | nil=>simp
 | cons x xs ih =>
  rw [bP]
  have hx:=h x (bG ..)
  have hxs:∀ r ∈ xs,tgtB r=true:=fun r hr=>h r (bV _ hr)
  by_cases hl:out.length<24
  ·rw [nwS_t hx hl,ih hxs,bL,dM,List.append_assoc,show 24 - out.length=(24 - (out.length+1))+1 by omega,List.take_succ_cons,bI];rfl
  ·rw [nwS_x hx hl,ih hxs,show 24 - out.length=0 by omega];simp
theorem drop_tgt (ps:List za6) (cs:List za0) (j:Nat):∀ r ∈ (zbl ps cs j).drop ps.length,Tgt r:=fun r hr=>by
 obtain ⟨i,hi,rfl⟩:=List.mem_iff_getElem.1 hr
 rw [c7] at hi
 refine (newA_apt ps cs j (ps.length+i) _ (by omega) ?_).1
 rw [List.getElem_drop,cG (by omega)]
theorem newT_eq (s:zb3) (ps:List za6) (p:ze0):zh3 s ps p=(((zbl ps (zah s ps p.states p.acts) (zah s ps p.states p.acts).length).map cpR).take (max 24 ps.length)):=by
 unfold zh3 nwO
 rw [List.take_length,newS_fold (fun r hr=>tgt_B (drop_tgt _ _ _ r hr)),bC]
 have h1:=newA_old ps (zah s ps p.states p.acts) (zah s ps p.states p.acts).length
 have h2:=newA_ge ps (zah s ps p.states p.acts) (zah s ps p.states p.acts).length
 rw [<- h1,<- cT,<- cY,<- cT]
 congr 1
 have e:max 24 ps.length=ps.length+(24 - ps.length):=by omega
 rw [e,List.take_add]
def zf6 (ps:List za6) (cs:List za0):Nat->List za6
  | 0=>ps
  | j+1=>((zbi cs j).flat false).gathR (zf6 ps cs j)
theorem ref_new (ps:List za6) (cs:List za0) (j:Nat):(zf6 ps cs j).map cpR=(zbl ps cs j).map cpR:=by
 induction j with
 | zero=>rfl
 | succ j ih =>
  show (((zbi cs j).flat false).gathR (zf6 ps cs j)).map cpR=(((zbi cs j).flat false).gath ((zbl ps cs j).map cpR)).map cpR
  rw [gathR_gath _ (flat_fk _ false),gath_cp,gath_cp,ih,b5,show (cpR ∘ cpR)=cpR from funext cpR_cpR]
def refT (ps:List za6) (cs:List za0):List za6:=(zf6 ps cs cs.length).take (max 24 ps.length)
theorem newT_ref (s:zb3) (ps:List za6) (p:ze0):zh3 s ps p=(refT ps (zah s ps p.states p.acts)).map cpR:=by
 rw [newT_eq,<- ref_new];unfold refT;rw [cT]
theorem newT_len (s:zb3) (ps:List za6) (p:ze0):ps.length<=(zh3 s ps p).length/\(zh3 s ps p).length<=max 24 ps.length:=by
 have:=newA_ge ps (zah s ps p.states p.acts) (zah s ps p.states p.acts).length
 rw [newT_eq,cR,bC];omega
def zjr (ps:List za6) (cs:List za0) (i:Int):List za6:=zf6 ps cs ((cs.length:Int) - 1 - i).toNat
theorem refI_start (ps:List za6) (cs:List za0):ps=zjr ps cs ((cs.length:Int) - 1):=by unfold zjr;rw [show ((cs.length:Int) - 1 - ((cs.length:Int) - 1)).toNat=0 by omega];rfl
theorem refI_end (h:i=-1):zjr ps cs i=zf6 ps cs cs.length:=by subst h;unfold zjr;rw [show ((cs.length:Int) - 1 - -1).toNat=cs.length by omega]
theorem refI_at {x:za0} (h:cs[k]?=some x):(za0.gathR (x.flat false) (zjr ps cs (k:Int)))=zjr ps cs ((k:Int) - 1):=by
 have hk:=zac h
 unfold zjr
 rw [show ((cs.length:Int) - 1 - ((k:Int) - 1)).toNat=((cs.length:Int) - 1 - (k:Int)).toNat+1 by omega]
 show _=((zbi cs ((cs.length:Int) - 1 - (k:Int)).toNat).flat false).gathR _
 have e:zbi cs ((cs.length:Int) - 1 - (k:Int)).toNat=x:=by
  have:=backF_at (zs:=cs) (j:=((cs.length:Int) - 1 - (k:Int)).toNat) (by omega)
  rw [show cs.length - 1 - ((cs.length:Int) - 1 - (k:Int)).toNat=k by omega,h] at this
  injection this with this;exact this.symm
 rw [e]
theorem refA_ok (hps:zfy ps) (hcs:∀ f ∈ cs,f.okB 32400000 490/\f.nodes<=1536000) (hlc:cs.length<=5) (hj:j<=cs.length):(∀ r ∈ zf6 ps cs j,TOk 200000000 2900 r.t)/\(zf6 ps cs j).length<=1000+j*5000000:=by
 induction j with
 | zero=>exact ⟨fun r hr=>(hps.2 r hr).mono (by decide) (by decide),by have:=hps.1;show ps.length<=_;omega⟩
 | succ j ih =>
  obtain ⟨h1,h2⟩:=ih (by omega)
  obtain ⟨c1,c2⟩:=hcs _ (backF_mem hj)
  have c3:=zcs (zbi cs j)
  have c4:=zd5 (zbi cs j) false
  refine ⟨gathR_tok _ (za0.okA_mono (by decide) (by decide) _ (zfc (by decide) (by decide) _ c1 false)) _ h1,?_⟩
  have:=gathR_len ((zbi cs j).flat false) (zf6 ps cs j)
  show (((zbi cs j).flat false).gathR (zf6 ps cs j)).length<=_
  omega
theorem refI_ok (hps:zfy ps) (hcs:∀ f ∈ cs,f.okB 32400000 490/\f.nodes<=1536000) (hlc:cs.length<=5) (hi:-1<=i/\i<(cs.length:Int)):(∀ r ∈ zjr ps cs i,TOk 200000000 2900 r.t)/\(zjr ps cs i).length<=26000000:=by
 obtain ⟨h1,h2⟩:=refA_ok hps hcs hlc (j:=((cs.length:Int) - 1 - i).toNat) (by omega)
 exact ⟨h1,by show (zf6 ps cs _).length<=_;omega⟩
def sm9 (a b:List za6) (i:Nat):Bool:=match a[i]?, b[i]? with | some x,some y=>zbp x y == 0 | _,_=>true
def zhy (a b:List za6):Bool:=decide (a.length=b.length) && allN a.length (sm9 a b)
def zjq:zb3:=⟨[⟨#[120]⟩],[],⟨2,⟨(zan 0).t,true⟩,[]⟩,[⟨⟨#[112]⟩,[⟨#[97]⟩],.sl 10 []⟩],[⟨0,0,0,⟨0,zR,[]⟩,[⟨0,false,⟨(zan 0).t.parts,ZI.of 1⟩⟩]⟩]⟩
theorem LR24New (ps:List za6) (cs:List za0) (hps:zfy ps) (hcs:∀ f ∈ cs,f.okB 32400000 490/\f.nodes<=1536000) (hlc:cs.length<=5):Fn Tryz.prog 22 [] [(vRs ps),(vFs cs)] (vRs (refT ps cs)) []:=by
 have lps:=hps.1;refine fB Tryz.func22 rfl 51 fun w H B a h=>?_
 refine Jq 5 [] [(0,(vRs ps)),(1,(vFs cs)),(4,vW zai)] [] h fun a w h=>?_;refine Jq 5 [(0,.g (Op.buildE (d:=9) (n:=5) kc_5))] [(0,(vRs ps)),(1,(vFs cs)),(4,vW zai),(5,vO 5 0)] [(5,.row 32 4 ([].map za6.d))] h fun a w h=>?_;refine qW (Jp 6 [] [(0,(vRs ps)),(1,(vFs cs)),(4,vW zai),(5,vO 5 0),(6,vI 0)] h fun a w h=>?_);refine qZ ?_;replace h:=h.conv (f':=F.of [(0,(vRs ps)),(1,(vFs cs)),(4,vW zai),(5,vO 5 (ps.take 0).length),(6,vI 0)] [(5,.row 32 4 ((ps.take 0).map za6.d))]) (by simp)
 refine loopS (ι:=(Nat)) (fun j=>j<=ps.length)
   (fun j=>[(0,(vRs ps)),(1,(vFs cs)),(4,vW zai),(5,vO 5 (ps.take j).length),(6,vN j)])
   (fun j=>[(5,.row 32 4 ((ps.take j).map za6.d))])
   (fun j=>ps.length - j) 0 ?_ h (by kernel_rfl) (by kernel_rfl) ?_
 ·exact bJ _
 clear h;rintro j a w hI h;have ltj:(ps.take j).length<=j:=by rw [cR];omega
 refine qW (Jp 6 [(2,.len (za4 4 za6.d ps))] [(0,(vRs ps)),(1,(vFs cs)),(4,vW zai),(5,vO 5 (ps.take j).length),(6,vN j),(13,vb (decide ((j:Int)<(ps.length:Int))))] h fun a w h=>?_);refine zae ((j:Int)<(ps.length:Int)) h (fun hc1 hc1'=>?_) (fun hc2 hc2'=>?_)
 ·refine qU (za2 (qW (qZ ?_)));obtain ⟨x1,hx1⟩:=gl ps j;refine Jn 6 [(3,.g (xD 19 17 kc_3 (za8 hx1 (f:=za6.d)) (OV.tmp 18 _))),(5,.g (bD 21 ([x1].map za6.d) [(20,vG [cPs x1.t.parts,cB x1.t.k.neg,.d (nsl x1.t.k.abs),cB x1.eq])] kc_5 (.cons (i:=0) (OV.tmp 20 _) (.nil)) (by kernel_rfl) (by simp [za6.d]))),(6,.g (Op.appOD (d:=22) (t:=16) (u:=21) (n:=5) (n':=6) (len:=(ps.take j).length) (len':=((ps.take j)++[x1]).length) (rows:=(ps.take j).map za6.d) (rows2:=[x1].map za6.d) (rows':=((ps.take j)++[x1]).map za6.d) lh8_3 (by first | exact (bC _).symm | simp) (by first | (rw [bL,bC];done) | (simp;done) | (simp;omega)) (by simp) (by simp [za6.d]) (by first | omega | (simp at *;done) | (simp at *;omega))))] [(0,(vRs ps)),(1,(vFs cs)),(4,vW zai),(5,vO 6 ((ps.take j)++[x1]).length),(6,vN j)] [(6,.row 32 4 (((ps.take j)++[x1]).map za6.d))] h fun a w h=>?_;refine za7 (za2 (Jl 7 [(1,.j1 j)] [(0,(vRs ps)),(1,(vFs cs)),(4,vW zai),(5,vO 6 ((ps.take j)++[x1]).length),(6,vI ((j:Int)+1))] h fun a w h=>?_));refine za2 ?_;rw [show (((ps.take j)++[x1]):List za6)=(ps.take (j+1)) from (take_snoc9 hx1)] at h;replace h:=renS 6 5 [(0,(vRs ps)),(1,(vFs cs)),(4,vW zai),(5,vO 5 (ps.take (j+1)).length),(6,vI ((j:Int)+1))] [(5,.row 32 4 ((ps.take (j+1)).map za6.d))] h;refine zaa (x:=j) (y:=j+1) h ?_ ?_
  ·have:=zac hx1;show j+1<=ps.length;omega
  show ps.length - (j+1)<ps.length - j;have:=zac hx1;omega
 refine exA (qW ?_);replace h:=cv (fun z_:List za6=>F.of [(0,(vRs ps)),(1,(vFs cs)),(4,vW zai),(5,vO 5 z_.length),(6,vN j),(13,vb (decide ((j:Int)<(ps.length:Int))))] [(5,.row 32 4 (z_.map za6.d))]) (show ((ps.take j):List za6)=(zjr ps cs ((cs.length:Int) - 1)) from (by rw [b7 (by have:=dF hc2;omega)];exact refI_start ps cs)) h;replace h:=pubS 5 4 32 ((zjr ps cs ((cs.length:Int) - 1)).map za6.d) [(0,(vRs ps)),(1,(vFs cs)),(4,vW zai),(5,(vRs (zjr ps cs ((cs.length:Int) - 1)))),(6,vN j),(13,vb (decide ((j:Int)<(ps.length:Int))))] [] h rfl (show zem _ [(zjr ps cs ((cs.length:Int) - 1)).length] from ⟨by first | exact (bC _).symm | (simp;done) | (simp;omega),trivial⟩) trivial;refine Jq 7 [(1,.len (za4 6 za0.d cs)),(2,.sub .i64 (m:=(cs.length:Int)) (n:=1) i6)] [(0,(vRs ps)),(1,(vFs cs)),(4,vW zai),(5,(vRs (zjr ps cs ((cs.length:Int) - 1)))),(7,vI ((cs.length:Int) - 1))] [] h fun a w h=>?_;refine qZ ?_
 refine loopS (ι:=(Int)) (fun i=>-1<=i/\i<(cs.length:Int))
   (fun i=>[(0,(vRs ps)),(1,(vFs cs)),(4,vW zai),(5,(vRs (zjr ps cs i))),(7,vI i)])
   (fun i=>[])
   (fun i=>(i+1).toNat) ((cs.length:Int) - 1) ?_ h (by kernel_rfl) (by kernel_rfl) ?_
 ·constructor <;> omega
 clear h;rintro i a w hI h;obtain ⟨hI1,hI2⟩:=hI;refine qW (Jq 7 [] [(0,(vRs ps)),(1,(vFs cs)),(4,vW zai),(5,(vRs (zjr ps cs i))),(7,vI i),(27,vb (decide (i>=0)))] [] h fun a w h=>?_);refine zae (i>=0) h (fun hc3 hc3'=>?_) (fun hc4 hc4'=>?_)
 ·refine qU (za2 (qW (qZ ?_)));obtain ⟨k,hkk⟩:∃ k_:Nat,i=(k_:Int):=⟨_,(Int.toNat_of_nonneg (dT hc3)).symm⟩;replace h:=h.conv (f':=F.of [(0,(vRs ps)),(1,(vFs cs)),(4,vW zai),(5,(vRs (zjr ps cs i))),(7,vN k),(27,vb (decide (i>=0)))] []) (by rw [hkk]);replace h:=cv (fun z_:List za6=>F.of [(0,(vRs ps)),(1,(vFs cs)),(4,vW zai),(5,(vRs z_)),(7,vN k),(27,vb (decide (i>=0)))] []) (show ((zjr ps cs i):List za6)=(zjr ps cs (k:Int)) from (by rw [hkk])) h;have hrk:=refI_ok hps hcs hlc (show -1<=(k:Int)/\(k:Int)<(cs.length:Int) by omega);obtain ⟨x2,hx2⟩:=gl cs k;have hcx2:=hcs x2 (lM hx2);refine Jn 7 [(3,.g (xD 33 31 zfx ((za8 hx2 (f:=za0.d)).trans (congrArg some (za0.d_eq x2))) (OV.tmp 32 _))),(5,.call (LR5Flat x2 (za0.okB_mono (by decide) (by decide) _ hcx2.1) (by have:=zcs x2;have:=hcx2.2;omega))),(6,.call (LR21Gather (za0.flat x2 false) (za0.okA_mono (by decide) (by decide) _ (zfc (by decide) (by decide) _ hcx2.1 false)) (zjr ps cs (k:Int)) (fun r hr=>(hrk.1 r hr).mono (bF _) (by decide)) (by have:=zd5 x2 false;have:=zcs x2;have:=hcx2.2;have:=hrk.2;omega)))] [(0,(vRs ps)),(1,(vFs cs)),(4,vW zai),(5,(vRs (za0.gathR (za0.flat x2 false) (zjr ps cs (k:Int))))),(7,vN k)] [] h fun a w h=>?_;refine za7 (za2 (Jn 7 [(1,.sub .i64 (m:=(k:Int)) (n:=1) i6)] [(0,(vRs ps)),(1,(vFs cs)),(4,vW zai),(5,(vRs (za0.gathR (za0.flat x2 false) (zjr ps cs (k:Int))))),(7,vI ((k:Int) - 1))] [] h fun a w h=>?_));refine za2 ?_;replace h:=cv (fun z_:List za6=>F.of [(0,(vRs ps)),(1,(vFs cs)),(4,vW zai),(5,(vRs z_)),(7,vI ((k:Int) - 1))] []) (show ((za0.gathR (za0.flat x2 false) (zjr ps cs (k:Int))):List za6)=(zjr ps cs ((k:Int) - 1)) from (refI_at hx2)) h;refine zaa (x:=i) (y:=(k:Int) - 1) h ?_ ?_
  ·constructor <;> omega
  show ((k:Int) - 1+1).toNat<(i+1).toNat;omega
 refine exA ?_;replace h:=cv (fun z_:List za6=>F.of [(0,(vRs ps)),(1,(vFs cs)),(4,vW zai),(5,(vRs z_)),(7,vI i),(27,vb (decide (i>=0)))] []) (show ((zjr ps cs i):List za6)=(zf6 ps cs cs.length) from (refI_end (by have:=dF hc4;omega))) h;have lrl:=(refA_ok hps hcs hlc (bF _)).2;refine Jq 7 [] [(0,(vRs ps)),(4,vW zai),(5,(vRs (zf6 ps cs cs.length))),(8,vI 24)] [] h fun a w h=>?_;refine qW (Jq 7 [(1,.len (za4 4 za6.d ps))] [(0,(vRs ps)),(4,vW zai),(5,(vRs (zf6 ps cs cs.length))),(8,vI 24),(40,vb (decide ((ps.length:Int)>24)))] [] h fun a w h=>?_);refine zae ((ps.length:Int)>24) h (fun hc5 hc5'=>?_) (fun hc8 hc8'=>?_)
 ·refine Jn 7 [(1,.len (za4 4 za6.d ps))] [(4,vW zai),(5,(vRs (zf6 ps cs cs.length))),(8,vN ps.length)] [] h fun a w h=>?_;refine za2 (qW (Jq 7 [(1,.len (za4 4 za6.d (zf6 ps cs cs.length)))] [(4,vW zai),(5,(vRs (zf6 ps cs cs.length))),(8,vN ps.length),(46,vb (decide (((zf6 ps cs cs.length).length:Int)>(ps.length:Int))))] [] h fun a w h=>?_));refine zae (((zf6 ps cs cs.length).length:Int)>(ps.length:Int)) h (fun hc6 hc6'=>?_) (fun hc7 hc7'=>?_)
  ·refine Jn 7 [(2,.g (Op.sliceD (d:=49) (t:=47) (l:=0) (h:=ps.length) (rows:=(zf6 ps cs cs.length).map za6.d) (rows':=((zf6 ps cs cs.length).take ps.length).map za6.d) kc_3 (BO.no _) (BO.yes (k:=.i64) (i:=ps.length) _ (OV.tmp 48 _)) (by first | omega | (simp at *;omega)) (by first | omega | (simp only [bC];omega) | (simp at *;omega)) (by simp [cT])))] [(4,vW zai),(5,(vRs ((zf6 ps cs cs.length).take ps.length)))] [] h fun a w h=>?_;refine za2 (Jq 7 [] [(4,(vRs ((zf6 ps cs cs.length).take ps.length)))] [] h fun a w h=>?_);refine qV ?_;refine rT (.c (cRs ((zf6 ps cs cs.length).take ps.length))) h rfl ?_;have hz:refT ps cs=((zf6 ps cs cs.length).take ps.length):=by unfold refT;rw [show max 24 ps.length=ps.length by have:=dT hc5;omega]
   rw [hz];try rfl
  refine qU (za2 (Jq 7 [] [(4,(vRs (zf6 ps cs cs.length)))] [] h fun a w h=>?_));refine qV ?_;refine rT (.c (cRs (zf6 ps cs cs.length))) h rfl ?_;have hz:refT ps cs=(zf6 ps cs cs.length):=by unfold refT;rw [show max 24 ps.length=ps.length by have:=dT hc5;omega];exact b7 (by have:=dF hc7;omega)
  rw [hz];try rfl
 refine qU (za2 (qW (Jq 7 [(1,.len (za4 4 za6.d (zf6 ps cs cs.length)))] [(4,vW zai),(5,(vRs (zf6 ps cs cs.length))),(8,vI 24),(46,vb (decide (((zf6 ps cs cs.length).length:Int)>24)))] [] h fun a w h=>?_)));refine zae (((zf6 ps cs cs.length).length:Int)>24) h (fun hc9 hc9'=>?_) (fun hc10 hc10'=>?_)
 ·refine Jn 7 [(2,.g (Op.sliceD (d:=49) (t:=47) (l:=0) (h:=24) (rows:=(zf6 ps cs cs.length).map za6.d) (rows':=((zf6 ps cs cs.length).take 24).map za6.d) kc_3 (BO.no _) (BO.yes (k:=.i64) (i:=24) _ (OV.tmp 48 _)) (by first | omega | (simp at *;omega)) (by first | omega | (simp only [bC];omega) | (simp at *;omega)) (by simp [cT])))] [(4,vW zai),(5,(vRs ((zf6 ps cs cs.length).take 24)))] [] h fun a w h=>?_;refine za2 (Jq 7 [] [(4,(vRs ((zf6 ps cs cs.length).take 24)))] [] h fun a w h=>?_);refine qV ?_;refine rT (.c (cRs ((zf6 ps cs cs.length).take 24))) h rfl ?_;have hz:refT ps cs=((zf6 ps cs cs.length).take 24):=by unfold refT;rw [show max 24 ps.length=24 by have:=dF hc8;omega]
  rw [hz];try rfl
 refine qU (za2 (Jq 7 [] [(4,(vRs (zf6 ps cs cs.length)))] [] h fun a w h=>?_));refine qV ?_;refine rT (.c (cRs (zf6 ps cs cs.length))) h rfl ?_;have hz:refT ps cs=(zf6 ps cs cs.length):=by unfold refT;rw [show max 24 ps.length=24 by have:=dF hc8;omega];exact b7 (by have:=dF hc10;omega)
 rw [hz];try rfl
theorem LR24Same (la lb:List za6) (ha:∀ r ∈ la,TOk 400000000 20000 r.t) (hb:∀ r ∈ lb,TOk 400000000 20000 r.t) (hla:la.length<=100000000) (hlb:lb.length<=100000000):Fn Tryz.prog 23 [] [(vRs la),(vRs lb)] (vb (zhy la lb)) []:=by
 refine fB Tryz.func23 rfl 27 fun w H B a h=>Jq 0 [] [(0,(vRs la)),(1,(vRs lb)),(4,vb false)] [] h fun a w h=>qW (Jg 0 [(1,.len (za4 4 za6.d la)),(3,.len (za4 4 za6.d lb))] [] [(10,vb ((la.length:Int) != (lb.length:Int)))] [] [] h fun a w h=>cS ((la.length:Int) != (lb.length:Int)) h (fun hc1=>?_) (fun hc2=>?_))
 ·refine Jg 0 [] [10] [] [] [] h fun a w h=>qV (za5 (rT (.c (cB false)) h rfl ?_));have hz:zhy la lb=false:=by unfold zhy;rw [decide_eq_false (by have:=hc1;simp at this;omega)];rfl
  rw [hz];try rfl
 refine qU (za2 (qW (Jg 0 [] [10] [(5,vI 0)] [] [] h fun a w h=>qZ ?_)))
 refine zbz (ι:=(Nat)) (fun j=>j<=la.length/\allN j (sm9 la lb)=true)
   [4] (fun j=>[(5,vN j)])
   [] (fun j=>[])
   (fun j=>la.length - j) 0 ?_ h ?_
 ·exact ⟨bJ _,rfl⟩
 clear h;rintro j a w hI h;obtain ⟨hI1,hI2⟩:=hI;refine qW (Jg 0 [(2,.len (za4 4 za6.d la))] [] [(14,vb (decide ((j:Int)<(la.length:Int))))] [] [] h fun a w h=>zae ((j:Int)<(la.length:Int)) h (fun hc3 hc3'=>?_) (fun hc6 hc6'=>?_))
 ·refine qU (za2 (qW (qZ ?_)));obtain ⟨x1,hx1⟩:=gl la j;obtain ⟨x2,hx2⟩:=gl lb j;refine Jg 0 [(2,.g (xD 19 17 kc_3 (za8 hx1 (f:=za6.d)) (OV.tmp 18 _))),(6,.g (xD 23 21 kc_3 (za8 hx2 (f:=za6.d)) (OV.tmp 22 _))),(8,.call (LR4Cmp x1 x2 (ha x1 (lM hx1)) (hb x2 (lM hx2))))] [14] [(26,vb ((zbp x1 x2) != 0))] [] [] h fun a w h=>cS ((zbp x1 x2) != 0) h (fun hc4=>?_) (fun hc5=>?_)
  ·refine Jg 0 [] [26] [(4,vb false)] [] [] h fun a w h=>qV (za9 (za5 (za5 (za9 (za5 (rT (.c (cB false)) h rfl ?_))))));have hz:zhy la lb=false:=by unfold zhy;rw [decide_eq_true (by have:=hc2;simp at this;omega),dH];exact allN_fail (zac hx1) (show sm9 la lb j=false from by unfold sm9;rw [hx1,hx2];exact beq_eq_false_iff_ne.2 (by have:=hc4;simpa using this))
   rw [hz];try rfl
  refine qU (za7 (za2 (Jh 0 [(1,.j1 j)] [26] [(5,vI ((j:Int)+1))] [] [] h fun a w h=>za2 (zaa (x:=j) (y:=j+1) h ?_ ?_))))
  ·exact ⟨by have:=zac hx1;omega,allN_step hI2 (show sm9 la lb j=true from by unfold sm9;rw [hx1,hx2];exact beq_iff_eq.2 (by have:=hc5;simpa using this))⟩
  show la.length - (j+1)<la.length - j;have:=zac hx1;omega
 refine exA (Jq 0 [] [(4,vb true)] [] h fun a w h=>qV (rT (.c (cB true)) h rfl ?_));have hz:zhy la lb=true:=by unfold zhy;rw [decide_eq_true (by have:=hc2;simp at this;omega),dH];rw [show la.length=j by have:=dF hc6;omega];exact hI2
 rw [hz];try rfl
theorem LR4SameS (r:za6) {L:Nat} (hr:TOk n L r.t) (hn:n<=1000000000):Fn Tryz.prog 26 [] [vG [cPs r.t.parts,cB r.t.k.neg,.d (nsl r.t.k.abs),cB r.eq],vG [cPs r.t.parts,cB r.t.k.neg,.d (nsl r.t.k.abs),cB r.eq]] (vb true) []:=by
 refine fB Tryz.func26 rfl 17 fun w H B a h=>Jq 0 [] [(2,vp 0 0),(3,vp 1 0),(4,vb false)] [(0,.box [cPs r.t.parts,cB r.t.k.neg,.d (nsl r.t.k.abs),cB r.eq]),(1,.box [cPs r.t.parts,cB r.t.k.neg,.d (nsl r.t.k.abs),cB r.eq])] h fun a w h=>Jq 2 [(4,.cmpb .eql (m:=r.eq) (n:=r.eq) (b:=true) (.inl ⟨rfl,(beq_self_eq_true _).symm⟩)),(10,.call (SRTSame r.t hr hn))] [(4,vb true)] [] h fun a w h=>qV (rT (.c (cB true)) h rfl ?_)
 rfl
theorem LSysR :Fn Tryz.prog 27 [] [] (vG [.d (.sl 1 (zjq.vars.map zew)),.d (.sl 5 (zjq.bounds.map zao.d)),cI zjq.init.kind,cPs zjq.init.r.t.parts,cB zjq.init.r.t.k.neg,.d (nsl zjq.init.r.t.k.abs),cB zjq.init.r.eq,cFs zjq.init.kids,.d (.sl 3 (zjq.procs.map zbv.d)),.d (.sl 10 (zjq.acts.map zbe.d))]) []:=by
 refine fB Tryz.func27 rfl 23 fun w H B a h=>Jq (htb:=zbf) 0 [] [(0,vp 0 0)] [(0,.box [.d (.sl 1 (([]:List ByteArray).map zew)),.d (.sl 5 (([]:List zao).map zao.d)),cI 0,cPs ([]:List za3),cB false,.d (nsl []),cB false,cFs ([]:List za0),.d (.sl 3 (([]:List zbv).map zbv.d)),.d (.sl 10 (([]:List zbe).map zbe.d))])] h fun a w h=>Jg (htb:=zbf) 1 [(0,.call (zh2 0 (by decide)))] [] [(1,vp 1 0)] [] [(1,.box [cI 2,cPs (zan 0).t.parts,cB (zan 0).t.k.neg,.d (nsl (zan 0).t.k.abs),cB true,cFs ([]:List za0)])] h fun a w h=>Jg (htb:=zbf) 2 [(0,.call (zh2 0 (by decide))),(3,.call (SROf 1 ⟨by decide,by decide⟩))] [] [(2,vp 2 0)] [] [(2,.box [cPs (zan 0).t.parts,cB (ZI.of 1).neg,.d (nsl (ZI.of 1).abs)])] h fun a w h=>Jq (htb:=zbf) 3 [(0,.g (Op.buildD (d:=12) (len:=1) (rows:=[(⟨#[120]⟩:ByteArray)].map zew) (rs:=[]) ty_16 (.cons (i:=0) (OV.const (.string (⟨#[120]⟩:ByteArray)) rfl) (.nil)) (by kernel_rfl) rfl (by simp [zew]) (by decide) (by decide))),(2,.g (Op.buildD (d:=14) (len:=1) (rows:=[(⟨#[97]⟩:ByteArray)].map zew) (rs:=[]) ty_16 (.cons (i:=0) (OV.const (.string (⟨#[97]⟩:ByteArray)) rfl) (.nil)) (by kernel_rfl) rfl (by simp [zew]) (by decide) (by decide))),(4,.g (bD 16 ([(zbv.mk (⟨#[112]⟩:ByteArray) [(⟨#[97]⟩:ByteArray)] (.sl 10 []))].map zbv.d) [(15,vG [.d (.raw (.string (⟨#[112]⟩:ByteArray))),.d (.sl 1 ([(⟨#[97]⟩:ByteArray)].map zew)),.d (.sl 10 [])])] kw_4 (.cons (i:=0) (OV.tmp 15 _) (.nil)) (by kernel_rfl) (by simp [zbv.d]))),(7,.g (bD 19 ([(zap.mk 0 false (zaf.mk (zan 0).t.parts (ZI.of 1)))].map zap.d) [(18,vG [cI 0,cB false,cPs (zan 0).t.parts,cB (ZI.of 1).neg,.d (nsl (ZI.of 1).abs)])] kw_5 (.cons (i:=0) (OV.tmp 18 _) (.nil)) (by kernel_rfl) (by simp [zap.d]))),(9,.g (bD 21 ([(zbe.mk 0 0 0 (za0.mk 0 (za6.mk (zaf.mk ([]:List za3) (ZI.mk false [])) false) ([]:List za0)) [(zap.mk 0 false (zaf.mk (zan 0).t.parts (ZI.of 1)))])].map zbe.d) [(20,vG [cI 0,cI 0,cI 0,cI 0,cPs ([]:List za3),cB false,.d (nsl []),cB false,cFs ([]:List za0),.d (.sl 5 ([(zap.mk 0 false (zaf.mk (zan 0).t.parts (ZI.of 1)))].map zap.d))])] kw_6 (.cons (i:=0) (OV.tmp 20 _) (.nil)) (by kernel_rfl) (by simp [zbe.d])))] [(0,vp 0 0)] [(0,.box [.d (.sl 1 ([(⟨#[120]⟩:ByteArray)].map zew)),.d (.sl 5 (([]:List zao).map zao.d)),cI 2,cPs (zan 0).t.parts,cB (zan 0).t.k.neg,.d (nsl (zan 0).t.k.abs),cB true,cFs ([]:List za0),.d (.sl 3 ([(zbv.mk (⟨#[112]⟩:ByteArray) [(⟨#[97]⟩:ByteArray)] (.sl 10 []))].map zbv.d)),.d (.sl 10 ([(zbe.mk 0 0 0 (za0.mk 0 (za6.mk (zaf.mk ([]:List za3) (ZI.mk false [])) false) ([]:List za0)) [(zap.mk 0 false (zaf.mk (zan 0).t.parts (ZI.of 1)))])].map zbe.d))])] h fun a w h=>qV (rA 0 [.d (.sl 1 ([(⟨#[120]⟩:ByteArray)].map zew)),.d (.sl 5 (([]:List zao).map zao.d)),cI 2,cPs (zan 0).t.parts,cB (zan 0).t.k.neg,.d (nsl (zan 0).t.k.abs),cB true,cFs ([]:List za0),.d (.sl 3 ([(zbv.mk (⟨#[112]⟩:ByteArray) [(⟨#[97]⟩:ByteArray)] (.sl 10 []))].map zbv.d)),.d (.sl 10 ([(zbe.mk 0 0 0 (za0.mk 0 (za6.mk (zaf.mk ([]:List za3) (ZI.mk false [])) false) ([]:List za0)) [(zap.mk 0 false (zaf.mk (zan 0).t.parts (ZI.of 1)))])].map zbe.d))] h kw_7 rfl ?_)
 kernel_rfl
theorem ni6_2:ElZ Tryz.prog 41 69 2:=ElZ.mk' Tryz.underlying41 _ _ rfl rfl (by kernel_rfl) (by kernel_rfl) (by kernel_rfl) (by decide)
theorem ok_mono9 {L M:Nat} (hL:L<=M) (f:za0):f.ok L->f.ok M :=
 za0.ind (P:=fun f=>f.ok L->f.ok M) (fun k r ks ih hf=>by
  obtain ⟨h1,h2⟩:=(za0.ok_eq L _).1 hf
  exact (za0.ok_eq M _).2 ⟨fun e=>(h1 e).mono (bF _) hL,fun g hg=>ih g (zbw hg) (h2 g hg)⟩) f
theorem sys_mono9 {L M:Nat} (hL:L<=M) (h:zcg L s):zcg M s :=
 ⟨h.vars,h.bnds,h.procs,h.acts,fun b hb=>⟨⟨(h.bnd b hb).1.1,bN (h.bnd b hb).1.2 hL⟩,(h.bnd b hb).2.1,bN (h.bnd b hb).2.2 hL⟩,⟨h.init.1,ok_mono9 hL _ h.init.2⟩,fun c hc=>⟨⟨(h.act c hc).guard.1,ok_mono9 hL _ (h.act c hc).guard.2⟩,(h.act c hc).len,fun m hm=>((h.act c hc).mv m hm).mono (bF _) hL⟩⟩
theorem few_wid1 {n L:Int} (hn:0<=n) (hn2:n<=30) (h:zke f n L=true):f.wid<=100:=by
 unfold zke at h
 rw [cD] at h
 have h1:f.size n<=n:=by have:=h.1;simpa using this
 have hw:=size_wid f n hn h1
 omega
theorem few_w1 {L:Nat} (h:zbu L s=true):SysW s:=by
 unfold zbu at h
 simp only [cD,decide_eq_true_eq,bU] at h
 refine ⟨few_wid1 (by decide) (by decide) h.1.2,fun c hc=>?_⟩
 have:=h.2.2 c hc
 unfold fewA at this
 simp only [cD] at this
 exact few_wid1 (by decide) (by decide) this.1.1
theorem sm24_ok (h:sm24 s ps p=true) (hr:SysRd s) (hl:∀ r ∈ ps,TLb r.t):zcg 3 s/\SysW s/\zfy ps/\p.states.length<=5/\p.acts.length<=6/\∀ x ∈ p.states,x.locs.length<=8/\x.bits.length<=30:=by
 unfold sm24 at h
 simp only [cD,decide_eq_true_eq,bU] at h
 obtain ⟨h1,h2,h3,h4,h5,h6⟩:=h
 unfold zgd at h3
 rw [cD,decide_eq_true_eq,bU] at h3
 exact ⟨sys_mono9 (by decide) (few_sys h1 hr),few_w1 h1,⟨by omega,fun r hm=>(show TOk 20 1 r.t from fewR_ok (L:=1) (h3.2 r hm) (hl r hm)).mono (by decide) (by decide)⟩,h4,h5,h6⟩
theorem newT_ok (hs:zcg 3 s) (hw:SysW s) (hps:zfy ps) (hl:p.states.length<=5):∀ r ∈ zh3 s ps p,TOk 40000000 700 r.t:=fun r hr=>by
 rw [newT_eq] at hr
 obtain ⟨q,hq,rfl⟩:=bK.1 (dD hr)
 have hn:=zf2 s ps p.states p.acts
 exact (((newA_ok hs hw hps p.acts hl (bF _)).1 q hq).plain (by decide)).mono (bF _) (by omega)
theorem refT_ok (hps:zfy ps) (hcs:∀ f ∈ cs,f.okB 32400000 490/\f.nodes<=1536000) (hlc:cs.length<=5):(∀ r ∈ refT ps cs,TOk 200000000 2900 r.t)/\(refT ps cs).length<=100000000:=by
 obtain ⟨h1,h2⟩:=refA_ok hps hcs hlc (bF _)
 exact ⟨fun r hr=>h1 r (dD hr),by unfold refT;rw [cR];omega⟩
theorem same_new (s:zb3) (ps:List za6) (p:ze0):zhy (zh3 s ps p) (refT ps (zah s ps p.states p.acts))=true:=by
 rw [newT_ref]
 unfold zhy
 rw [decide_eq_true (bC _),dH]
 refine allN_iff.2 fun i hi=>?_
 rw [bC] at hi
 unfold sm9
 rw [dG,cG hi]
 show (zbp (cpR _) _ == 0)=true
 rw [cmpRl_cp];rfl
def paE:ze0:=⟨[⟨[0],[false]⟩,⟨[0],[false]⟩,⟨[0],[true]⟩],[0,0]⟩
def pbE:ze0:=⟨[⟨[0],[true]⟩],[]⟩
def cE:List za0:=zah zjq [zan 2] paE.states paE.acts
def nE:List za6:=zh3 zjq [zan 2] paE
def n2E:List za6:=zh3 zjq [zan 2] pbE
def c2E:za0:=cndF [zan 2] ⟨[0],[true]⟩ []
def c1E:za0:=cndF [zan 2] ⟨[0],[false]⟩ (zay zjq [0] 0 c2E)
theorem at2E:cE[2]?=some c2E:=rfl
theorem at1E:cE[1]?=some c1E:=rfl
theorem len_cE:(cE.length:Int)=3:=rfl
theorem ev_c2E_2:c2E.holds [ZI.of 2]=true:=by kernel_rfl
theorem ev_c2E_1:c2E.holds [ZI.of 1]=false:=by kernel_rfl
theorem ev_c1E_1:c1E.holds [ZI.of 1]=true:=by kernel_rfl
theorem ev_c1E_2:c1E.holds [ZI.of 2]=false:=by kernel_rfl
theorem at0E:nE[0]?=some (zan 2):=by kernel_rfl
theorem len_nE:decide ((nE.length:Int)>=3)=true:=by kernel_rfl
theorem more_paE:decide (((zh3 zjq [zan 2] paE).length:Int)>(([zan 2]:List za6).length:Int))=true:=by kernel_rfl
theorem more_pbE:decide (((zh3 zjq [zan 2] pbE).length:Int)>(([zan 2]:List za6).length:Int))=false:=by kernel_rfl
theorem vok9_1:VOk 3 [ZI.of 1]:=vokE [1] (by decide) (by decide)
theorem vok9_2:VOk 3 [ZI.of 2]:=vokE [2] (by decide) (by decide)
theorem paE_x:∀ x ∈ paE.states,x.locs.length<=8/\x.bits.length<=30:=by decide
theorem pbE_x:∀ x ∈ pbE.states,x.locs.length<=8/\x.bits.length<=30:=by decide
theorem lb1E:Lb (ZI.of 1).abs/\(ZI.of 1).abs.length<=3:=⟨ZI.lb_of _,by decide⟩
theorem sysR_ok:zcg 3 zjq:=by
 have ht:∀ n:Int,-1000<=n/\n<=1000->TOk 20 3 (zan n).t:=lea_tok
 have h0:=ht 0 (by decide)
 refine ⟨by decide,by decide,by decide,by decide,fun b hb=>(by cases hb),⟨(za0.lb_eq _).2 ⟨⟨⟨h0.kb,fun p hp=>(h0.ps p hp).1⟩,bJ _⟩,fun g hg=>(by cases hg)⟩,(za0.ok_eq 3 _).2 ⟨fun _=>h0,fun g hg=>(by cases hg)⟩⟩,fun c hc=>?_⟩
 rw [bE.1 hc]
 refine ⟨act0_ok.guard,by decide,fun m hm=>?_⟩
 rw [bE.1 hm]
 exact ⟨h0.len,h0.ps,lb1E.1,lb1E.2⟩
theorem sysR_w:SysW zjq:=⟨dO (by kernel_rfl),fun c hc=>by rw [bE.1 hc];exact dO (by kernel_rfl)⟩
theorem ok_c2E:c2E.okB 1000000000 1000:=za0.okB_mono (by decide) (by decide) _ (zja sysR_ok sysR_w psE_ok paE.acts (by decide) (cQ at2E)).1
theorem ok_c1E:c1E.okB 1000000000 1000:=za0.okB_mono (by decide) (by decide) _ (zja sysR_ok sysR_w psE_ok paE.acts (by decide) (cQ at1E)).1
theorem LAlive24 :Fn Tryz.prog 7 [] [] (vb true) []:=by
 refine fB Tryz.func7 rfl 102 fun w H B a h=>Jq (htb:=zbf) 0 [] [(0,vb false)] [] h fun a w h=>Jg (htb:=zbf) 0 [(0,.g (Op.buildD (d:=11) (len:=1) (rows:=[0].map zb4) (rs:=[]) tb_0 (.cons (i:=0) (OV.const (.int .i64 0) rfl) (.nil)) (by kernel_rfl) rfl (by simp [zb4]) (by decide) (by decide))),(1,.g (Op.buildD (d:=12) (len:=1) (rows:=[false].map zdz) (rs:=[]) le5_3 (.cons (i:=0) (OV.const (.bool false) rfl) (.nil)) (by kernel_rfl) rfl (by simp [zdz]) (by decide) (by decide))),(3,.g (Op.buildD (d:=14) (len:=1) (rows:=[0].map zb4) (rs:=[]) tb_0 (.cons (i:=0) (OV.const (.int .i64 0) rfl) (.nil)) (by kernel_rfl) rfl (by simp [zb4]) (by decide) (by decide))),(4,.g (Op.buildD (d:=15) (len:=1) (rows:=[true].map zdz) (rs:=[]) le5_3 (.cons (i:=0) (OV.const (.bool true) rfl) (.nil)) (by kernel_rfl) rfl (by simp [zdz]) (by decide) (by decide)))] [] [(1,vp 0 0),(2,vp 1 0)] [] [(0,.box [cIs [0],.d (.sl 1 ([false].map zdz))]),(1,.box [cIs [0],.d (.sl 1 ([true].map zdz))])] h fun a w h=>Jg (htb:=zbf) 2 [(3,.g (Op.buildD (d:=20) (len:=3) (rows:=[(zdr.mk [0] [false]),(zdr.mk [0] [false]),(zdr.mk [0] [true])].map zdr.d) (rs:=[(17,vG [cIs [0],.d (.sl 1 ([false].map zdz))]),(18,vG [cIs [0],.d (.sl 1 ([false].map zdz))]),(19,vG [cIs [0],.d (.sl 1 ([true].map zdz))])]) ni6_2 (.cons (i:=0) (OV.tmp 17 _) (.cons (i:=1) (OV.tmp 18 _) (.cons (i:=2) (OV.tmp 19 _) (.nil)))) (by kernel_rfl) rfl (by simp [zdr.d]) (by decide) (by decide))),(4,.g (Op.buildD (d:=21) (len:=2) (rows:=[0,0].map zb4) (rs:=[]) tb_0 (.cons (i:=0) (OV.const (.int .i64 0) rfl) (.cons (i:=1) (OV.const (.int .i64 0) rfl) (.nil))) (by kernel_rfl) rfl (by simp [zb4]) (by decide) (by decide)))] [1] [(3,vp 2 0)] [0] [(2,.box [.d (.sl 2 ([(zdr.mk [0] [false]),(zdr.mk [0] [false]),(zdr.mk [0] [true])].map zdr.d)),cIs [0,0]])] h fun a w h=>?_
 refine Je (htb:=zbf) 3 [(0,.call (LSysR)),(1,.call (zh2 2 (by decide))),(2,.g (bD 25 ([(zan 2)].map za6.d) [(24,vG [cPs (zan 2).t.parts,cB (zan 2).t.k.neg,.d (nsl (zan 2).t.k.abs),cB (zan 2).eq])] kc_5 (.cons (i:=0) (OV.tmp 24 _) (.nil)) (by kernel_rfl) (by simp [za6.d]))),(4,.call (zho zjq [zan 2] paE sysR_ok sysR_w psE_ok (by decide) (by decide) paE_x))] [] [(4,(vFs cE))] h fun a w h=>Jg (htb:=zbf) 3 [(0,.call (LSysR)),(1,.call (zh2 2 (by decide))),(2,.g (bD 31 ([(zan 2)].map za6.d) [(30,vG [cPs (zan 2).t.parts,cB (zan 2).t.k.neg,.d (nsl (zan 2).t.k.abs),cB (zan 2).eq])] kc_5 (.cons (i:=0) (OV.tmp 30 _) (.nil)) (by kernel_rfl) (by simp [za6.d]))),(4,.call (Fn.cast (LNew zjq [zan 2] paE sysR_ok sysR_w psE_ok (by decide) (by decide) paE_x) (show (.tup [.c (cRs (zh3 zjq [zan 2] paE)),.c (cB (decide (((zh3 zjq [zan 2] paE).length:Int)>(([zan 2]:List za6).length:Int))))]:V) = .tup [.c (cRs nE),.c (cB true)] from by rw [more_paE];rfl)))] [3] [(5,(vRs nE)),(6,vb true)] [2] [] h fun a w h=>Jg (htb:=zbf) 3 [(0,.call (LSysR)),(1,.call (zh2 2 (by decide))),(2,.g (bD 39 ([(zan 2)].map za6.d) [(38,vG [cPs (zan 2).t.parts,cB (zan 2).t.k.neg,.d (nsl (zan 2).t.k.abs),cB (zan 2).eq])] kc_5 (.cons (i:=0) (OV.tmp 38 _) (.nil)) (by kernel_rfl) (by simp [za6.d]))),(4,.g (bD 41 ([(zdr.mk [0] [true])].map zdr.d) [(40,vG [cIs [0],.d (.sl 1 ([true].map zdz))])] ni6_2 (.cons (i:=0) (OV.tmp 40 _) (.nil)) (by kernel_rfl) (by simp [zdr.d]))),(6,.call (Fn.cast (LNew zjq [zan 2] pbE sysR_ok sysR_w psE_ok (by decide) (by decide) pbE_x) (show (.tup [.c (cRs (zh3 zjq [zan 2] pbE)),.c (cB (decide (((zh3 zjq [zan 2] pbE).length:Int)>(([zan 2]:List za6).length:Int))))]:V) = .tup [.c (cRs n2E),.c (cB false)] from by rw [more_pbE];rfl)))] [2] [(8,vb false)] [1] [] h fun a w h=>Jg (htb:=zbf) 3 [(0,.call (SROf 1 ⟨by decide,by decide⟩)),(1,.g (bD 47 ([(ZI.of 1)].map ziD) [(46,vz (ZI.of 1))] ty_5 (.cons (i:=0) (OV.tmp 46 _) (.nil)) (by kernel_rfl) (by simp [ziD]))),(2,.call (SROf 2 ⟨by decide,by decide⟩)),(3,.g (bD 49 ([(ZI.of 2)].map ziD) [(48,vz (ZI.of 2))] ty_5 (.cons (i:=0) (OV.tmp 48 _) (.nil)) (by kernel_rfl) (by simp [ziD])))] [] [(9,(vZs [(ZI.of 1)])),(10,(vZs [(ZI.of 2)]))] [] [] h fun a w h=>Jq (htb:=zbf) 3 [(1,.len (za4 6 za0.d cE)),(2,.cmp (op:=.eql) (m:=(cE.length:Int)) (n:=3) (b:=true) .i64 (by rw [len_cE];rfl)),(5,.g (xD 55 54 zfx ((za8 at2E (f:=za0.d)).trans (congrArg some (za0.d_eq c2E))) (OV.const (.int .i64 2) rfl))),(8,.call (Fn.cast (zij [ZI.of 2] (M:=3) (by decide) vok9_2 c2E ok_c2E) (congrArg vb ev_c2E_2))),(12,.g (xD 62 61 zfx ((za8 at2E (f:=za0.d)).trans (congrArg some (za0.d_eq c2E))) (OV.const (.int .i64 2) rfl))),(15,.call (Fn.cast (zij [ZI.of 1] (M:=3) (by decide) vok9_1 c2E ok_c2E) (congrArg vb ev_c2E_1))),(20,.g (xD 70 69 zfx ((za8 at1E (f:=za0.d)).trans (congrArg some (za0.d_eq c1E))) (OV.const (.int .i64 1) rfl))),(23,.call (Fn.cast (zij [ZI.of 1] (M:=3) (by decide) vok9_1 c1E ok_c1E) (congrArg vb ev_c1E_1))),(27,.g (xD 77 76 zfx ((za8 at1E (f:=za0.d)).trans (congrArg some (za0.d_eq c1E))) (OV.const (.int .i64 1) rfl))),(30,.call (Fn.cast (zij [ZI.of 2] (M:=3) (by decide) vok9_2 c1E ok_c1E) (congrArg vb ev_c1E_2))),(38,.len (za4 4 za6.d nE)),(39,.cmp (op:=.geq) (m:=(nE.length:Int)) (n:=3) (b:=true) .i64 len_nE),(43,.g (xD 93 92 kc_3 (za8 at0E (f:=za6.d)) (OV.const (.int .i64 0) rfl))),(45,.call (zh2 2 (by decide))),(46,.call (LR4SameS (zan 2) le2 (by decide)))] [(0,vb true)] [] h fun a w h=>qV (rT (.c (cB true)) h rfl ?_);rfl
theorem LRefineNew (s:zb3) (ps:List za6) (p:ze0) (hr:SysRd s) (hpl:ps.length<=9223372036854775807) (htl:∀ r ∈ ps,TLb r.t) (hsl:p.states.length<=9223372036854775807) (hal:p.acts.length<=9223372036854775807) (hxl:∀ x ∈ p.states,x.locs.length<=9223372036854775807/\x.bits.length<=9223372036854775807):Fn Tryz.prog 5 [] [vG [.d (.sl 1 (s.vars.map zew)),.d (.sl 5 (s.bounds.map zao.d)),cI s.init.kind,cPs s.init.r.t.parts,cB s.init.r.t.k.neg,.d (nsl s.init.r.t.k.abs),cB s.init.r.eq,cFs s.init.kids,.d (.sl 3 (s.procs.map zbv.d)),.d (.sl 10 (s.acts.map zbe.d))],(vRs ps),vG [.d (.sl 2 (p.states.map zdr.d)),cIs p.acts]] (vb true) []:=by
 refine fB Tryz.func5 rfl 50 fun w H B a h=>Jq 0 [] [(1,(vRs ps)),(3,vp 0 0),(5,vp 1 0),(6,vb false)] [(0,.box [.d (.sl 1 (s.vars.map zew)),.d (.sl 5 (s.bounds.map zao.d)),cI s.init.kind,cPs s.init.r.t.parts,cB s.init.r.t.k.neg,.d (nsl s.init.r.t.k.abs),cB s.init.r.eq,cFs s.init.kids,.d (.sl 3 (s.procs.map zbv.d)),.d (.sl 10 (s.acts.map zbe.d))]),(1,.box [.d (.sl 2 (p.states.map zdr.d)),cIs p.acts])] h fun a w h=>qW (Je 2 [(0,.call (LAlive24))] [] [(11,vb false)] h fun a w h=>zaw h (qU (za2 (qW (Je 2 [(3,.call (Lsmall24 s ps p hr hpl hsl hal hxl))] [11] [(16,vb (!(sm24 s ps p)))] h fun a w h=>cS (!(sm24 s ps p)) h (fun hc1=>?_) (fun hc2=>?_))))))
 ·refine Je 2 [] [16] [(6,vb true)] h fun a w h=>qV (za5 (rT (.c (cB true)) h rfl ?_));rfl
 have hsm9:sm24 s ps p=true:=by have:=hc2;simpa using this
 obtain ⟨hs3,hw9,hps,hsl9,hal9,hpx⟩:=sm24_ok hsm9 hr htl;have hcs9:∀ f ∈ (zah s ps p.states p.acts),f.okB 32400000 490/\f.nodes<=1536000:=fun f hf=>zja hs3 hw9 hps p.acts hsl9 hf
 have hcl9:(zah s ps p.states p.acts).length<=5:=by rw [zf2];omega
 have hnl9:=newT_len s ps p;have lps9:=hps.1;have hnk9:=newT_ok hs3 hw9 hps hsl9;refine qU (za2 (Je 2 [(3,.call (LNew s ps p hs3 hw9 hps hsl9 hal9 hpx))] [16] [(7,(vRs (zh3 s ps p))),(8,vb (decide (((zh3 s ps p).length:Int)>(ps.length:Int))))] h fun a w h=>Jg 2 [(4,.call (zho s ps p hs3 hw9 hps hsl9 hal9 hpx)),(5,.call (LR24New ps (zah s ps p.states p.acts) hps hcs9 hcl9))] [3,5] [(9,(vRs (refT ps (zah s ps p.states p.acts))))] [0,1] [] h fun a w h=>Jq 2 [(2,.call (Fn.cast (LR24Same (zh3 s ps p) (refT ps (zah s ps p.states p.acts)) (fun r h=>(hnk9 r h).mono (by decide) (by decide)) (fun r h=>((refT_ok hps hcs9 hcl9).1 r h).mono (by decide) (by decide)) (by omega) (refT_ok hps hcs9 hcl9).2) (congrArg vb (same_new s ps p)))),(6,.len (za4 4 za6.d (zh3 s ps p))),(8,.len (za4 4 za6.d ps)),(10,.cmpb .eql (m:=(decide (((zh3 s ps p).length:Int)>(ps.length:Int)))) (n:=(decide (((zh3 s ps p).length:Int)>(ps.length:Int)))) (b:=true) (.inl ⟨rfl,(beq_self_eq_true _).symm⟩)),(14,.len (za4 4 za6.d (zh3 s ps p))),(16,.len (za4 4 za6.d ps)),(17,.g (Op.max2 (d:=47) (tys:=#[3,3]) (k:=.i64) (m:=24) (n:=(ps.length:Int)) (r:=((max 24 ps.length:Nat):Int)) (OV.const (.int .i64 24) rfl) (OV.tmp 46 _) (by omega))),(18,.cmp (op:=.leq) (m:=((zh3 s ps p).length:Int)) (n:=((max 24 ps.length:Nat):Int)) (b:=true) .i64 (decide_eq_true (by have:=hnl9.2;omega)))] [(6,vb true)] [] h fun a w h=>qV (rT (.c (cB true)) h rfl ?_)));rfl
section
variable {w:World} {n:Nat}
theorem rep_Abs:zet w n 69 zdr.d (fun a=>a.locs.length<=maxLen/\a.bits.length<=maxLen) :=
 ((zbq (n:=n) Tryz.underlying69 (by kernel_rfl) (.cons (k0:=1) rfl (by kernel_rfl) rep_ints (.cons (k0:=1) rfl (by kernel_rfl) rep_bools .nil))).map (fun p=>⟨p.1,p.2.1⟩) (fun _=>rfl) fun _ h=>⟨h.1.1,h.2.1.1⟩).mono (cV n)
end
section
variable {w:World} {n:Nat}
theorem rep_AbsS:zet w n 41 (slD 2 zdr.d) (fun xs=>xs.length<=maxLen/\∀ x ∈ xs,x.locs.length<=maxLen/\x.bits.length<=maxLen) :=
 zcb (k:=2) Tryz.underlying41 (by kernel_rfl) (by decide) (fun _=>rfl) rep_Abs
theorem rep_Path:zet w n 44 ze0.d (fun p=>(p.states.length<=maxLen/\∀ x ∈ p.states,x.locs.length<=maxLen/\x.bits.length<=maxLen)/\p.acts.length<=maxLen) :=
 ((zbq (n:=n) Tryz.underlying44 (by kernel_rfl) (.cons (k0:=1) rfl (by kernel_rfl) rep_AbsS (.cons (k0:=1) rfl (by kernel_rfl) rep_ints .nil))).map (fun p=>⟨p.1,p.2.1⟩) (fun _=>rfl) fun _ h=>⟨h.1,h.2.1.1⟩).mono (cV n)
end
theorem max_le9 {a:Nat} (h:a<=maxLen):a<=9223372036854775807:=bN h (by decide)
theorem SRefineNewW (s:zb3) (ps:List za6) (p:ze0) (hs:SysRd s) (hq:ps.length<=maxLen/\∀ r ∈ ps,TLb r.t) (hp:(p.states.length<=maxLen/\∀ x ∈ p.states,x.locs.length<=maxLen/\x.bits.length<=maxLen)/\p.acts.length<=maxLen):Fn Tryz.prog 5 [] [vd (zb3.d s),(vRs ps),vd (ze0.d p)] (vb true) [] :=
 LRefineNew s ps p hs (max_le9 hq.1) hq.2 (max_le9 hp.1.1) (max_le9 hp.2) fun x hx=>⟨max_le9 (hp.1.2 x hx).1,max_le9 (hp.1.2 x hx).2⟩
end S
end Go.Proofs.YtlcijejaplagbaaGreat
section
namespace Go.Proofs.YtlcijejaplagbaaGreat.refineNewDone
open Go.ChangeShapes Go.WideShapes Go.ChangeAt Go.RowKit
open Go.ChangeMaps (open_string shut_string)
open Go.Proofs.YtlcijejaplagbaaGreat.S

theorem own:ownKnob Tryz.prog.godebug=none:=by kernel_rfl
theorem laidOut:laidOutB Tryz.prog=true:=by kernel_rfl

theorem lifted (os:Os) (started:os.Started) (H:Type) (enc:TypeId × Value->H) :
  ReturnsInHanded {} Tryz.checked os 5 .any (Rows.refineNewSpec.pre6 enc Tryz.prog Tryz.f5 Rows.refineNewRow.domain false) (Rows.refineNewSpec.post enc Tryz.prog Tryz.f5 false true false false):=by
 refine returnsInHanded_of_change (C:=Tryz.checked) own started (by kernel_rfl) Tryz.func5
  (ChangeSpec.witness6 (enc:=enc) (C:=Tryz.checked) false ⟨#[],#[.agg #[.slice none 0 0,.slice none 0 0,.int .i64 0,.slice none 0 0,.bool false,.slice none 0 0,.bool false,.slice none 0 0,.slice none 0 0,.slice none 0 0],.slice none 0 0,.agg #[.slice none 0 0,.slice none 0 0]],[]⟩ 12 (by kernel_rfl) (by kernel_rfl) (by kernel_rfl) (by kernel_rfl)) ?_
 intro W base args ds gs before hval0 hW hcnd _
 have hval:∀ (j:Nat) t v,Tryz.f5.params[j]?=some t->args[j]?=some v->Value.okWide Tryz.prog W .any base t v:=hval0
 have hW':=hW
 obtain ⟨p,q,hA0,hV,rfl,hfz,hnd⟩:=hW
 have hA:DataW.TrodAll enc Tryz.prog W 0 (fun _=>true) true Tryz.f5.params.toList args.toList ds p:=hA0
 rw [Tryz.params5] at hA hval
 obtain ⟨v0,vs0,d0,ds0,p0,q0,hargs,rfl,rfl,h0,r0⟩:=trodAll_cons hA
 obtain ⟨v1,vs1,d1,ds1,p1,q1,rfl,rfl,rfl,h1,r1⟩:=trodAll_cons r0
 obtain ⟨v2,vs2,d2,ds2,p2,q2,rfl,rfl,rfl,h2,r2⟩:=trodAll_cons r1
 obtain ⟨rfl,rfl,rfl⟩:=trodAll_nil r2
 obtain rfl:args=#[v0,v1,v2]:=by cases args;simp_all
 obtain ⟨rfl,rfl⟩:=trodVars_none hV
 have k0:=h0
 have lt0:∀ x ∈ p0,x.block<W.heap.size:=by obtain ⟨m,hm⟩:=k0;exact DataW.trod_lt m _ _ _ hm
 obtain ⟨a0,cs0,g0,rfl,dr0⟩:=rep_agg Tryz.underlying39 (fun _=>rep_Sys) (hval 0 39 v0 rfl rfl) h0
 have k1:=h1
 have lt1:∀ x ∈ p1,x.block<W.heap.size:=by obtain ⟨m,hm⟩:=k1;exact DataW.trod_lt m _ _ _ hm
 obtain ⟨a1,ao1,len1,cap1,g1,rfl,dr1⟩:=rep_one Tryz.underlying40 (fun _=>rep_RelsL) (hval 1 40 v1 rfl rfl) h1
 have k2:=h2
 have lt2:∀ x ∈ p2,x.block<W.heap.size:=by obtain ⟨m,hm⟩:=k2;exact DataW.trod_lt m _ _ _ hm
 obtain ⟨a2,cs2,g2,rfl,dr2⟩:=rep_agg Tryz.underlying44 (fun _=>rep_Path) (hval 2 44 v2 rfl rfl) h2
 clear hA0 hval0
 refine ((SRefineNewW a0 a1 a2 g0 g1 g2).calls (w:=W) (vals:=[.agg ⟨cs0⟩,.slice ao1 len1 cap1,.agg ⟨cs2⟩]) fun B=>⟨dr_vd dr0 B,dr1,dr_vd dr2 B,trivial⟩).mono fun e W' ⟨he,bel⟩=>?_
 subst he
 exact ⟨_,rfl,_,_,_,[],_,[],hW', trodAll_mk1 (shut_bool Tryz.underlying4 _),(trodAll_cons_mk (Below.trod laidOut (by kernel_rfl) (of_decide_eq_true (by kernel_rfl)) k0 bel lt0) (trodAll_cons_mk (Below.trod laidOut (by kernel_rfl) (of_decide_eq_true (by kernel_rfl)) k1 bel lt1) (trodAll_cons_mk (Below.trod laidOut (by kernel_rfl) (of_decide_eq_true (by kernel_rfl)) k2 bel lt2) trodAll_mk0))),rfl,bel.below.frame _,fun h=>by cases h⟩

theorem over:Rows.refineNewRow.holds Tryz.pinned (OpenSpec.ofChange Rows.refineNewSpec) :=
 OpenClaim.holds_of_wide 5 Tryz.f5 rfl rfl rfl rfl rfl rfl rfl ⟨rfl,rfl,rfl,rfl,rfl⟩ rfl rfl rfl rfl rfl (by kernel_rfl) Tryz.func5 (by kernel_rfl)
  (of_decide_eq_true (by kernel_rfl)) (by unfold Func.isWrapper;first | (rw [if_pos (by decide +kernel)];kernel_rfl) | (rw [if_neg (by decide +kernel)];exact ⟨rfl,rfl⟩))
  (fun os started H enc _=>lifted os started H enc)

theorem proved:Rows.RefineNewSaid:=over
end Go.Proofs.YtlcijejaplagbaaGreat.refineNewDone
end
